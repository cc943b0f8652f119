import Derived.Test.YtbfnfkppkmpieaaGreatQpb
set_option linter.unusedVariables false
set_option linter.unusedSimpArgs false
set_option maxHeartbeats 25600000
set_option maxRecDepth 200000
set_option linter.defProp false
namespace Go.Proofs.YtbfnfkppkmpieaaGreat
open Go.RowKit
open Go.Proofs.Tryz
open Option renaming some->γ,none->δ
open Bool renaming true->ε,false->ζ
open Inhabited renaming default->η
open Value renaming slice->aO
open World renaming alloc->aU
open Mc
def Bb(Y L)(G:List Bool)(cs w)(hb:Blk w Y 42 cs)(Z:G.length=L)(K:L<=100)(J:∀j b,G[j]? =γ b->∃s1 A1 n1 c1 s2 A2 n2 c2 s3 A3 n3 c3,cs[j*6]? =γ (.bool s1)/\cs[j*6+1]? =γ (aO A1 n1 c1)/\cs[j*6+2]? =γ (.bool s2)/\cs[j*6+3]? =γ (aO A2 n2 c2)/\cs[j*6+4]? =γ (.bool s3)/\cs[j*6+5]? =γ (aO A3 n3 c3)/\∀w',Ext w w'->CE 95 #[gv s1 A1 n1 c1 s2 A2 n2 c2 s3 A3 n3 c3] w' (.bool b)):
  CE 51 #[aO (γ (aM Y 0)) L L] w (.bool (G.all id)):=by
 have HL:=aW Z;have HZ:=aW J;clear Z J;go_enter func51,ntmps51;go_wp2_with fail
 go_loopw [7] (fun i wr=>∃k:Nat,k<=L/\i=.int .i64 (k:Int)/\(G.take k).all id=ε/\Ext w wr) (aT L)
 case atStart=>exact⟨0,aa,rfl,ag,Ext.refl w⟩
 case round=>
  obtain⟨k,hk,rfl,U,D⟩:=hrel;have HT:=aW U;clear U;by_cases O:k<L
  .have hq:=ν (l:=G) (i:=k) (by rw[HL.o];exact O);obtain⟨b,J⟩:∃b,G[k]? =γ b:=⟨_,hq⟩;clear hq;obtain⟨s1,A1,n1,c1,s2,A2,n2,c2,s3,A3,n3,c3,r0,r1,r2,T,W,r5,hV⟩:=HZ.o k b J;have B:=(hb.ext D).cell;have Q:=(B (k*6)).trans r0;have N:=(B (k*6+1)).trans r1;have M:=(B (k*6+2)).trans r2;have S:=(B (k*6+3)).trans T;have I:=(B (k*6+4)).trans W;have H:=(B (k*6+5)).trans r5;clear B r0 r1 r2 T W r5;have V:=aW J;clear J;have HV:=aW hV;clear hV;have e1:((k:Int)*6).toNat=k*6:=aa;have R:=Blk.new wr 42 aQ3;have C:=R.cell;have k2:=R.frozen;have b1:=Blk.new wr 42 #[s1,aO A1 n1 c1,s2,aO A2 n2 c2,s3,aO A3 n3 c3];have k3:=b1.cell;clear R b1;go_wp2_with fail;clear C k2 k3 Q N M S I H;refine(HV.o _ (D.alloc _)).mono ?_;rintro e w2 ⟨rfl,P⟩;have F:=(D.alloc _).trans P;clear P;cases b
   .go_wp2;go_ret;refine⟨bE ?_,F⟩;symm;rw[acS];intro h;have:=q8.1 h ζ (wo V.o);simp at this
   .go_wp2;go_roundw
    case rel=>
     refine⟨k+1,aa,au,?_,F⟩;rw[acV,V.o,List.all_append,HT.o];rfl
    case measure=>simp[aT,intOf]<;>omega
  .obtain rfl:k=L:=aa;go_wp2;go_ret;refine⟨bE ?_,D⟩;rw[<-HT.o,χ (by rw[HL.o];exact κ _)]
def XO:(1:Int).natAbs<lim:=jy aa aa
def pM(v q n w)(L:GV w v q n)(hn:n<=12800):
  CE 95 #[v] w (.bool ε):=by
 obtain⟨a,b,d,B,j,C⟩:=L;obtain⟨l1,l2,l3⟩:=C.nK hn;have e:((gG [d,a,b]:Nat):Int)=1:=by rw[FR,j.low.2];rfl
 exact PS v a b d w B l1 l2 l3 (aW j.low.1) 1 (aW e.symm) XO (aW rfl)
def kQ(gs q0 q1 m0 m1 w){I N L B Q H K M C D O G W YC P S Y F U T YJ Z YE V}(hb:Blk w gs 42 #[.bool I,aO N L B,.bool Q,aO H K M,.bool C,aO D O G,.bool W,aO YC P S,.bool Y,aO F U T,.bool YJ,aO Z YE V])(h0:GV w (gv I N L B Q H K M C D O G) q0 m0)(l0:m0<=12800)(h1:GV w (gv W YC P S Y F U T YJ Z YE V) q1 m1)(l1:m1<=12800):
  CE 51 #[aO (γ (aM gs 0)) 2 2] w (.bool ε):=by
 refine Bb gs 2 [ε,ε] _ w hb rfl aa (fun j b R=> ?_)
 match j,R with
 |0,R=>injection R with R;subst R;exact⟨_,_,_,_,_,_,_,_,_,_,_,_,rfl,rfl,rfl,rfl,rfl,rfl,fun w' J=>pM _ q0 m0 w' (h0.ext J) l0⟩
 |1,R=>injection R with R;subst R;exact⟨_,_,_,_,_,_,_,_,_,_,_,_,rfl,rfl,rfl,rfl,rfl,rfl,fun w' J=>pM _ q1 m1 w' (h1.ext J) l1⟩
def Kr(gs q0 q1 q2 m0 m1 m2 w){I N L B Q H K M C D O G W YC P S Y F U T YJ YO YE YK Zy ZE Zw Zz Zc Zi YQ Za Yu R V Z}(hb:Blk w gs 42 #[.bool I,aO N L B,.bool Q,aO H K M,.bool C,aO D O G,.bool W,aO YC P S,.bool Y,aO F U T,.bool YJ,aO YO YE YK,.bool Zy,aO ZE Zw Zz,.bool Zc,aO Zi YQ Za,.bool Yu,aO R V Z])(h0:GV w (gv I N L B Q H K M C D O G) q0 m0)(l0:m0<=12800)(h1:GV w (gv W YC P S Y F U T YJ YO YE YK) q1 m1)(l1:m1<=12800)(h2:GV w (gv Zy ZE Zw Zz Zc Zi YQ Za Yu R V Z) q2 m2)(l2:m2<=12800):
  CE 51 #[aO (γ (aM gs 0)) 3 3] w (.bool ε):=by
 refine Bb gs 3 [ε,ε,ε] _ w hb rfl aa (fun j b hj=> ?_)
 match j,hj with
 |0,hj=>injection hj with hj;subst hj;exact⟨_,_,_,_,_,_,_,_,_,_,_,_,rfl,rfl,rfl,rfl,rfl,rfl,fun w' J=>pM _ q0 m0 w' (h0.ext J) l0⟩
 |1,hj=>injection hj with hj;subst hj;exact⟨_,_,_,_,_,_,_,_,_,_,_,_,rfl,rfl,rfl,rfl,rfl,rfl,fun w' J=>pM _ q1 m1 w' (h1.ext J) l1⟩
 |2,hj=>injection hj with hj;subst hj;exact⟨_,_,_,_,_,_,_,_,_,_,_,_,rfl,rfl,rfl,rfl,rfl,rfl,fun w' J=>pM _ q2 m2 w' (h2.ext J) l2⟩
def aeW (j:Int) (x:GQ) (k:Int) (y:GQ) (m:Int):GQ:=⟨((j:Rat)*x.re+(k:Rat)*y.re)/(m:Rat),((j:Rat)*x.im+(k:Rat)*y.im)/(m:Rat)⟩
def Is.Iu{x y a b d a' b' d' u v t j k m}(J:Is x a b d)(R:Is y a' b' d')(B:m≠0)(h:Is (aeW j x k y m) u v t):(u,v,t)=nf (j*a*d'+k*a'*d) (j*b*d'+k*b'*d) (d*d'*m):=by
 have D:=gL J.dne;have C:=gL R.dne;have F:=gL B;refine(h.EC (nk (nk J.dne R.dne) B) ?_ ?_).symm
 .show((j:Rat)*x.re+(k:Rat)*y.re)/(m:Rat)=_;rw[J.re,R.re];exact AaF
 .show((j:Rat)*x.im+(k:Rat)*y.im)/(m:Rat)=_;rw[J.im,R.im];exact AaF
def ae7{x y n1 n2 j k m}(J:Bd x n1)(R:Bd y n2)(D:m≠0)(B: -9223372036854775808<=j)(G:j<=9223372036854775807)(C: -9223372036854775808<=k)(H:k<=9223372036854775807)(m1: -9223372036854775808<=m)(m2:m<=9223372036854775807):Bd (aeW j x k y m) (n1+n2+65):=by
 obtain⟨a,b,d,J,sx⟩:=J;obtain⟨a',b',d',R,sy⟩:=R;obtain⟨u,v,t,h⟩:=gI (aeW j x k y m);have Y:=DF B G;have F:=DF C H;have Z:=DF m1 m2;have E:=J.Iu R D h;refine⟨u,v,t,h,jF (nk (nk J.dne R.dne) D) E ?_ ?_ ?_⟩
 .exact iV (m:=n1+n2+64) (jl (bR (bR Y sx.a) sy.d) aa) (jl (bR (bR F sy.a) sx.d) aa)
 .exact iV (m:=n1+n2+64) (jl (bR (bR Y sx.b) sy.d) aa) (jl (bR (bR F sy.b) sx.d) aa)
 .exact jl (bR (bR sx.d sy.d) Z) aa
def jW(F v1 D x y j k m n1 n2 w)(hc:Calm w F)(L:GV w v1 x n1)(M:GV w D y n2)(hn:2*max n1 n2+65<=12800)(H:m≠0)(B: -9223372036854775808<=j)(G:j<=9223372036854775807)(C: -9223372036854775808<=k)(I:k<=9223372036854775807)(m1: -9223372036854775808<=m)(m2:m<=9223372036854775807):
  CV 128 #[aN F 0,v1,.int .i64 j,D,.int .i64 k,.int .i64 m] w fun v w'=>GV w' v (aeW j x k y m) (n1+n2+65):=by
 obtain⟨a,b,d,N,i1,s1⟩:=L;obtain⟨a',b',d',K,Q,s2⟩:=M;obtain⟨u,v,t,h⟩:=gI (aeW j x k y m);have sz:=(ae7 (m:=m) ⟨_,_,_,i1,s1⟩ ⟨_,_,_,Q,s2⟩ H B G C I m1 m2).sz h;exact(O3 F v1 D a b d j a' b' d' k m u v t (max n1 n2) w hc N K (s1.mono aa) (s2.mono aa) aa i1.dne Q.dne H B G C I m1 m2 (i1.Iu Q H h)).mono fun e w' ⟨z,O,P,J⟩=>⟨z,O,⟨u,v,t,P,h,sz⟩,J⟩
def Lh(B v1 j x y n1 n2 w)(hc:Calm w B)(L:GV w v1 x n1)(M:GV w j y n2)(hn:2*max n1 n2+1<=12800):
  CV 142 #[aN B 0,v1,j] w fun v w'=>GV w' v (x*y) (n1+n2+1):=by
 obtain⟨a,b,d,D,i1,s1⟩:=L;obtain⟨a',b',d',C,Q,s2⟩:=M;obtain⟨u,v,t,h⟩:=gI (x*y);have K:=afJ i1 s1 Q s2 h aa;exact(Ah B v1 j a b d a' b' d' u v t (max n1 n2) w hc D C (s1.mono aa) (s2.mono aa) aa i1.dne Q.dne K.E).mono fun e w' ⟨z,O,F,J⟩=>⟨z,O,⟨u,v,t,F,h,K.size⟩,J⟩
def Is.Lt{x y a b d a' b' d' u v t}(J:Is x a b d)(R:Is y a' b' d')(j:a'≠0\/b'≠0)(h:Is (x/y) u v t):(u,v,t)=nf ((a*a'+b*b')*d') ((b*a'-a*b')*d') (d*(a'*a'+b'*b')):=by
 have C:=gL J.dne;have D:=gL R.dne;have B:=gL (qI j);simp only[aan,aa7] at B;refine(h.EC (nk J.dne (qI j)) ?_ ?_).symm
 .rw[GQ.Cm,GQ.nrm,J.re,R.re,J.im,R.im];exact AaF
 .rw[GQ.wR,GQ.nrm,J.re,R.re,J.im,R.im];simp only[aan,aa7,abU];grind
def Is.ne0{y a b d}(h:Is y a b d)(R:y≠GQ.i 0 0):a≠0\/b≠0:=by
 by_cases ha:a=0
 .by_cases hb:b=0
  .exfalso;apply R;ext
   .rw[h.re,ha];simp only[GQ.dH];grind
   .rw[h.im,hb];simp only[GQ.dC];grind
  .exact .inr hb
 .exact .inl ha
def Js(D v1 j x y n1 n2 w)(hc:Calm w D)(L:GV w v1 x n1)(M:GV w j y n2)(hn:4*max n1 n2+3<=12800)(R:y≠GQ.i 0 0):
  CV 173 #[aN D 0,v1,j] w fun v w'=>GV w' v (x/y) (n1+(n2+n2+1)):=by
 obtain⟨a,b,d,H,i1,s1⟩:=L;obtain⟨a',b',d',F,Q,s2⟩:=M;obtain⟨u,v,t,h⟩:=gI (x/y);have B:=Q.ne0 R;have E:=i1.Lt Q B h;have C:=bR (iV (bR s1.a s2.a) (bR s1.b s2.b)) s2.d;have I:=bR (sK (bR s1.b s2.a) (bR s1.a s2.b)) s2.d;have G:=bR s1.d (iV (bR s2.a s2.a) (bR s2.b s2.b));have sz:=jF (n:=n1+(n2+n2+1)) (nk i1.dne (qI B)) E (jl C aa) (jl I aa) G;exact(G5 D v1 j a b d a' b' d' u v t (max n1 n2) w hc H F (s1.mono aa) (s2.mono aa) hn i1.dne Q.dne B E).mono fun e w' ⟨z,O,K,J⟩=>⟨z,O,⟨u,v,t,K,h,sz⟩,J⟩
def ae6{q n}(h:Bd q n):∀K,Bd (q*aeY K) n
 |0=>by rw[show aeY 0=GQ.i 1 0 from rfl,af7];exact h
 |K+1=>by
  obtain⟨a,b,d,B,j⟩:=ae6 h K;exact⟨_,_,_,B.turn,j.turn⟩
def iN(j:Nat)(v1 q1)(n1 K:Nat)(k:Int)(w)(B:k=(K:Int))(hc:Calm w j)(D:GV w v1 q1 n1)(hn:n1<=12800)(I:K<=100):
  CV 130 #[aN j 0,v1,k] w fun v w'=>GV w' v (q1*aeY K) n1:=by
 subst B;exact Lg j v1 q1 n1 K w hc D hn I
def pQ(U v1 T R S w)(hc:Calm w U)(D:RG w v1 T R S):
  CV 138 #[aN U 0,v1] w fun v w'=>(∃u,v=.tuple #[u,aJ]/\RG w' u T R S):=by
 have hS:=aeZ w;obtain⟨I,C,F,H,L,K,G,j,Q,O,J,V,rfl,M,N,P⟩:=D;replace hS:=hS.bI M;clear M;replace hS:=hS.bI N;clear N;replace hS:=hS.bI P;clear P;replace hS:=hS.yC hc trivial;clear hc;have o3:Own w w.heap.size:=aeX hS.ext ag;have o4:Own w (w.heap.size+1):=aeX hS.ext ag;have B:=(St.al (St.al hS 42 #[I,aO C F H,L,aO K G j,Q,aO O J V] (g:=w.heap.size) ag) 42 aQ3 (g:=(w.heap.size+1)) ag);have YN:=(B.aH 2).cell;have Y:=(B.aH 1).cell;have W:=(B.aH 0).cell;have Z:=(B.aH 0).frozen;go_enter func138,ntmps138;go_wp2;replace hS:=(St.al (St.al hS 42 #[I,aO C F H,L,aO K G j,Q,aO O J V] (g:=w.heap.size) ag) 42 #[I,aO C F H,L,aO K G j,Q,aO O J V] (g:=(w.heap.size+1)) ag);exact nI rfl rfl rfl (hS.aH 0) ⟨_,rfl,⟨_,rfl,RG.mk (hS.aF 2) (hS.aF 1) (hS.aF 0)⟩,hS.ext⟩
def zl(gc v1 YQ YP YO v2 Zy ZA Zz w)(hc:Calm w gc)(D:RG w v1 YQ YP YO)(YV:RG w v2 Zy ZA Zz):
  CV 141 #[aN gc 0,v1,v2] w fun v w'=>(∃u,v=.tuple #[u,aJ]/\RP w' u YQ YP YO Zy ZA Zz):=by
 have hS:=aeZ w;obtain⟨Z,I,P,T,YD,YE,S,G,Q,O,J,V,rfl,YG,YH,YF⟩:=D;replace hS:=hS.bI YG;clear YG;replace hS:=hS.bI YH;clear YH;replace hS:=hS.bI YF;clear YF;obtain⟨R,H,M,N,L,C,W,F,U,Y,K,j,rfl,ZH,ZI,ZG⟩:=YV;replace hS:=hS.bI ZH;clear ZH;replace hS:=hS.bI ZI;clear ZI;replace hS:=hS.bI ZG;clear ZG;replace hS:=hS.yC hc trivial;clear hc;have o4:Own w w.heap.size:=aeX hS.ext ag;have o5:Own w (w.heap.size+1):=aeX hS.ext ag;have o6:Own w (w.heap.size+2):=aeX hS.ext ag;have B:=(St.al (St.al (St.al hS 42 #[Z,aO I P T,YD,aO YE S G,Q,aO O J V] (g:=w.heap.size) ag) 42 #[R,aO H M N,L,aO C W F,U,aO Y K j] (g:=(w.heap.size+1)) ag) 44 aQ6 (g:=(w.heap.size+2)) ag);have YN:=(B.aH 3).cell;have YM:=(B.aH 2).cell;have YR:=(B.aH 1).cell;have YS:=(B.aH 0).cell;have Zh:=(B.aH 0).frozen;go_enter func141,ntmps141;go_wp2;replace hS:=(St.al (St.al (St.al hS 42 #[Z,aO I P T,YD,aO YE S G,Q,aO O J V] (g:=w.heap.size) ag) 42 #[R,aO H M N,L,aO C W F,U,aO Y K j] (g:=(w.heap.size+1)) ag) 44 #[Z,aO I P T,YD,aO YE S G,Q,aO O J V,R,aO H M N,L,aO C W F,U,aO Y K j] (g:=(w.heap.size+2)) ag);exact tH rfl rfl rfl (hS.aH 0) ⟨_,rfl,⟨_,rfl,RP.mk (hS.aF 5) (hS.aF 4) (hS.aF 3) (hS.aF 2) (hS.aF 1) (hS.aF 0)⟩,hS.ext⟩
def KO(w):
  CV 129 #[] w fun v w'=>RG w' v 0 0 1:=by
 have hS:=aeZ w;go_enter func129,ntmps129;go_wp2_with fail;refine gA1 hS 42 aQ3 ?_;clear hS;intro w1 G o0 hS;refine(CO (1) _ aa aa).mono ?_;rintro e w2 ⟨H,rfl,M,F⟩;replace hS:=hS.mv F;clear F;obtain⟨s1,B,n1,c1,rfl,j⟩:=RI.opn M;clear M;replace hS:=hS.bI j;clear j;have D:=(hS.aH 0).cell;have C:=(hS.aH 0).frozen;go_wp2;replace hS:=hS.pt 0 0 [.bool ζ,.slice δ 0 0,.bool ζ,.slice δ 0 0,.bool s1,.slice B n1 c1] o0;exact dG rfl rfl rfl (hS.aH 0) ⟨_,rfl,RG.mk (RI.zero _) (RI.zero _) (hS.aF 0),hS.ext⟩
def V3(v0 q0 n0 v1 q1 n1 w)(Yw:GV w v0 q0 n0)(D:GV w v1 q1 n1)(hn:2*max n0 n1+65<=12800):
  CV 194 #[v0,v1] w fun v w'=>(∃u,v=.tuple #[u,aJ]/\GV w' u (aeW 1 q0 1 q1 1) (n0+n1+65)):=by
 have hS:=aeZ w;obtain⟨Zj,Zi,Zg,Yw,I0,S0⟩:=Yw;obtain⟨Yv,Yu,L,G,W,T,P,Y,U,S,H,Z,rfl,YJ,YL,YK⟩:=Yw;replace hS:=hS.bI YJ;clear YJ;replace hS:=hS.bI YL;clear YL;replace hS:=hS.bI YK;clear YK;obtain⟨YQ,YP,YO,D,I1,S1⟩:=D;obtain⟨YC,Yz,Yy,YB,YD,YE,YA,Yx,Q,O,J,V,rfl,YG,YH,YF⟩:=D;replace hS:=hS.bI YG;clear YG;replace hS:=hS.bI YH;clear YH;replace hS:=hS.bI YF;clear YF;have B:=(St.al (St.al (St.al hS 42 #[Yv,aO Yu L G,W,aO T P Y,U,aO S H Z] (g:=w.heap.size) ag) 42 #[YC,aO Yz Yy YB,YD,aO YE YA Yx,Q,aO O J V] (g:=(w.heap.size+1)) ag) 42 aQ3 (g:=(w.heap.size+2)) ag);have YN:=(B.aH 2).cell;have YM:=(B.aH 1).cell;go_enter func194,ntmps194;go_wp2_with fail;clear YN YM;clear B;refine gA4 hS 42 #[Yv,aO Yu L G,W,aO T P Y,U,aO S H Z] 42 #[YC,aO Yz Yy YB,YD,aO YE YA Yx,Q,aO O J V] 42 aQ3 42 #[Yv,aO Yu L G,W,aO T P Y,U,aO S H Z,YC,aO Yz Yy YB,YD,aO YE YA Yx,Q,aO O J V] ?_;clear hS;intro w1 g2 o2 g3 o3 g4 o4 g9 o9 hS;refine(kQ g9 q0 q1 n0 n1 _ (hS.aH 0) ⟨_,_,_,RG.mk (hS.aF 5) (hS.aF 4) (hS.aF 3),I0,S0⟩ aa ⟨_,_,_,RG.mk (hS.aF 2) (hS.aF 1) (hS.aF 0),I1,S1⟩ aa).mono ?_;rintro e w2 ⟨rfl,F⟩;replace hS:=hS.mv F;clear F;have YI:=(St.al hS 197 #[aJ] (g:=w2.heap.size) ag);have YR:=(YI.aH 4).cell;have YS:=(YI.aH 3).cell;go_wp2_with fail;clear YR YS;clear YI;refine gA1 hS 197 #[aJ] ?_;clear hS;intro w3 g6 o6 hS;obtain⟨YT,YU,YV,YX⟩:=gI (aeW (1) q0 (1) q1 (1));have Zp:Sz (n0+n1+65) YT YU YV:=(ae7 (m:=1) ⟨_,_,_,I0,S0⟩ ⟨_,_,_,I1,S1⟩ aa aa aa aa aa aa aa).sz YX;refine(mX (jW g6 _ _ q0 q1 (1) (1) (1) _ _ _ (hS.aH 0) ⟨_,_,_,RG.mk (hS.aF 5) (hS.aF 4) (hS.aF 3),I0,S0⟩ ⟨_,_,_,RG.mk (hS.aF 2) (hS.aF 1) (hS.aF 0),I1,S1⟩ aa aa aa aa aa aa aa aa) YX).mono ?_;exact Aak
def We(v0 q0 n0 v1 q1 n1 w)(Yw:GV w v0 q0 n0)(D:GV w v1 q1 n1)(hn:2*max n0 n1+65<=12800):
  CV 135 #[v0,v1] w fun v w'=>(∃u,v=.tuple #[u,aJ]/\GV w' u (aeW 1 q0 (-1) q1 1) (n0+n1+65)):=by
 have hS:=aeZ w;obtain⟨Zj,Zi,Zg,Yw,I0,S0⟩:=Yw;obtain⟨Yv,Yu,L,G,W,T,P,Y,U,S,H,Z,rfl,YJ,YL,YK⟩:=Yw;replace hS:=hS.bI YJ;clear YJ;replace hS:=hS.bI YL;clear YL;replace hS:=hS.bI YK;clear YK;obtain⟨YQ,YP,YO,D,I1,S1⟩:=D;obtain⟨YC,Yz,Yy,YB,YD,YE,YA,Yx,Q,O,J,V,rfl,YG,YH,YF⟩:=D;replace hS:=hS.bI YG;clear YG;replace hS:=hS.bI YH;clear YH;replace hS:=hS.bI YF;clear YF;have B:=(St.al (St.al (St.al hS 42 #[Yv,aO Yu L G,W,aO T P Y,U,aO S H Z] (g:=w.heap.size) ag) 42 #[YC,aO Yz Yy YB,YD,aO YE YA Yx,Q,aO O J V] (g:=(w.heap.size+1)) ag) 42 aQ3 (g:=(w.heap.size+2)) ag);have YN:=(B.aH 2).cell;have YM:=(B.aH 1).cell;go_enter func135,ntmps135;go_wp2_with fail;clear YN YM;clear B;refine gA4 hS 42 #[Yv,aO Yu L G,W,aO T P Y,U,aO S H Z] 42 #[YC,aO Yz Yy YB,YD,aO YE YA Yx,Q,aO O J V] 42 aQ3 42 #[Yv,aO Yu L G,W,aO T P Y,U,aO S H Z,YC,aO Yz Yy YB,YD,aO YE YA Yx,Q,aO O J V] ?_;clear hS;intro w1 g2 o2 g3 o3 g4 o4 g9 o9 hS;refine(kQ g9 q0 q1 n0 n1 _ (hS.aH 0) ⟨_,_,_,RG.mk (hS.aF 5) (hS.aF 4) (hS.aF 3),I0,S0⟩ aa ⟨_,_,_,RG.mk (hS.aF 2) (hS.aF 1) (hS.aF 0),I1,S1⟩ aa).mono ?_;rintro e w2 ⟨rfl,F⟩;replace hS:=hS.mv F;clear F;have YI:=(St.al hS 197 #[aJ] (g:=w2.heap.size) ag);have YR:=(YI.aH 4).cell;have YS:=(YI.aH 3).cell;go_wp2_with fail;clear YR YS;clear YI;refine gA1 hS 197 #[aJ] ?_;clear hS;intro w3 g6 o6 hS;obtain⟨YT,YU,YV,YX⟩:=gI (aeW (1) q0 (-1) q1 (1));have Zp:Sz (n0+n1+65) YT YU YV:=(ae7 (m:=1) ⟨_,_,_,I0,S0⟩ ⟨_,_,_,I1,S1⟩ aa aa aa aa aa aa aa).sz YX;refine(mX (jW g6 _ _ q0 q1 (1) (-1) (1) _ _ _ (hS.aH 0) ⟨_,_,_,RG.mk (hS.aF 5) (hS.aF 4) (hS.aF 3),I0,S0⟩ ⟨_,_,_,RG.mk (hS.aF 2) (hS.aF 1) (hS.aF 0),I1,S1⟩ aa aa aa aa aa aa aa aa) YX).mono ?_;exact Aak
def RO(v0 q0 n0 v1 q1 n1 w)(Yw:GV w v0 q0 n0)(D:GV w v1 q1 n1)(hn:2*max n0 n1+1<=12800):
  CV 164 #[v0,v1] w fun v w'=>(∃u,v=.tuple #[u,aJ]/\GV w' u (q0*q1) (n0+n1+1)):=by
 have hS:=aeZ w;obtain⟨Zj,Zi,Zg,Yw,I0,S0⟩:=Yw;obtain⟨Yv,Yu,L,G,W,T,P,Y,U,S,H,Z,rfl,YJ,YL,YK⟩:=Yw;replace hS:=hS.bI YJ;clear YJ;replace hS:=hS.bI YL;clear YL;replace hS:=hS.bI YK;clear YK;obtain⟨YQ,YP,YO,D,I1,S1⟩:=D;obtain⟨YC,Yz,Yy,YB,YD,YE,YA,Yx,Q,O,J,V,rfl,YG,YH,YF⟩:=D;replace hS:=hS.bI YG;clear YG;replace hS:=hS.bI YH;clear YH;replace hS:=hS.bI YF;clear YF;have B:=(St.al (St.al (St.al hS 42 #[Yv,aO Yu L G,W,aO T P Y,U,aO S H Z] (g:=w.heap.size) ag) 42 #[YC,aO Yz Yy YB,YD,aO YE YA Yx,Q,aO O J V] (g:=(w.heap.size+1)) ag) 42 aQ3 (g:=(w.heap.size+2)) ag);have YN:=(B.aH 2).cell;have YM:=(B.aH 1).cell;go_enter func164,ntmps164;go_wp2_with fail;clear YN YM;clear B;refine gA4 hS 42 #[Yv,aO Yu L G,W,aO T P Y,U,aO S H Z] 42 #[YC,aO Yz Yy YB,YD,aO YE YA Yx,Q,aO O J V] 42 aQ3 42 #[Yv,aO Yu L G,W,aO T P Y,U,aO S H Z,YC,aO Yz Yy YB,YD,aO YE YA Yx,Q,aO O J V] ?_;clear hS;intro w1 g2 o2 g3 o3 g4 o4 g9 o9 hS;refine(kQ g9 q0 q1 n0 n1 _ (hS.aH 0) ⟨_,_,_,RG.mk (hS.aF 5) (hS.aF 4) (hS.aF 3),I0,S0⟩ aa ⟨_,_,_,RG.mk (hS.aF 2) (hS.aF 1) (hS.aF 0),I1,S1⟩ aa).mono ?_;rintro e w2 ⟨rfl,F⟩;replace hS:=hS.mv F;clear F;have YI:=(St.al hS 197 #[aJ] (g:=w2.heap.size) ag);have YR:=(YI.aH 4).cell;have YS:=(YI.aH 3).cell;go_wp2_with fail;clear YR YS;clear YI;refine gA1 hS 197 #[aJ] ?_;clear hS;intro w3 g6 o6 hS;obtain⟨YT,YU,YV,YX⟩:=gI (q0*q1);have Zp:Sz (n0+n1+1) YT YU YV:=(Bd.mul ⟨_,_,_,I0,S0⟩ ⟨_,_,_,I1,S1⟩).sz YX;refine(mX (Lh g6 _ _ q0 q1 _ _ _ (hS.aH 0) ⟨_,_,_,RG.mk (hS.aF 5) (hS.aF 4) (hS.aF 3),I0,S0⟩ ⟨_,_,_,RG.mk (hS.aF 2) (hS.aF 1) (hS.aF 0),I1,S1⟩ aa) YX).mono ?_;exact Aak
def RI.le{w s A n c k z}(h:RI w (iv s A n c) z)(j:z.natAbs<2^(32*k)):n<=k:=by
 obtain⟨A',n',c',e,D⟩:=h;simp[iv] at e;obtain⟨_,_,rfl,_⟩:=e;rw[<-D.len];exact eQ (by rw[show(4294967296:Nat)=2^32 from rfl,<-Nat.pow_mul];exact j)
def VB (w:World) (v:Value) (b:Bool):Prop:=∀w',Ext w w'->(CE 95 #[v] w' (.bool b))/\True
def VB.ext{w w' v b}(h:VB w v b)(x:Ext w w'):VB w' v b:=fun w'' x'=>h w'' (x.trans x')
def VB.e{w v b}(h:VB w v b):CE 95 #[v] w (.bool b):=(h w (Ext.refl w)).1
def GV.vb{w v q n}(h:GV w v q n)(hn:n<=12800):VB w v ε:=fun w' x=>⟨pM v q n w' (h.ext x) hn,trivial⟩
def agx{w s A n c z}(h:RI w (iv s A n c) z)(j:z≠0):((n:Int)==0)=ζ:=by
 obtain⟨A',n',c',e,D⟩:=h;simp[iv] at e;obtain⟨_,_,rfl,_⟩:=e;have:=(mi D.len).2 aa;simp;omega
def agG{w s A n c z}(h:RI w (iv s A n c) z)(j:z=0):((n:Int)==0)=ε:=by
 obtain⟨A',n',c',e,D⟩:=h;simp[iv] at e;obtain⟨_,_,rfl,_⟩:=e;have:=(mi D.len);simp;omega
def RZ (a d b e r n:Int):Prop:=Le3 ((2*n-1)*r*(d*e)-2*(a*e)) (2*(b*d))
def OB(s1 A1 n1 c1 s2 A2 n2 c2 s3 A3 n3 c3 w):
  CE 136 #[gv s1 A1 n1 c1 s2 A2 n2 c2 s3 A3 n3 c3] w (.bool (decide (n1=0)&&decide (n2=0))):=by
 have G:=Blk.new w 42 #[s1,aO A1 n1 c1,s2,aO A2 n2 c2,s3,aO A3 n3 c3];have k0:=G.cell;by_cases B:n1=0
 .have H:((n1:Int)==0)=ε:=ae;have C:=aW B;clear B;by_cases j:n2=0
  .have F:((n2:Int)==0)=ε:=ae;have D:=aW j;clear j;go_enter aec,adC;go_wp2;go_ret;exact⟨bE (by simp[C.o,D.o]),Ext.new _ _⟩
  .have F:((n2:Int)==0)=ζ:=ae;have D:=aW j;clear j;go_enter aec,adC;go_wp2;go_ret;exact⟨bE (by simp[D.o]),Ext.new _ _⟩
 .have H:((n1:Int)==0)=ζ:=ae;have C:=aW B;clear B;go_enter aec,adC;go_wp2;go_ret;exact⟨bE (by simp[C.o]),Ext.new _ _⟩
def Dc(s1 A1 n1 c1 s2 A2 n2 c2 s3 A3 n3 c3 r w)(h:(decide (n1=0)&&decide (n2=0))=r):
  CE 136 #[gv s1 A1 n1 c1 s2 A2 n2 c2 s3 A3 n3 c3] w (.bool r):=by
 have:=OB s1 A1 n1 c1 s2 A2 n2 c2 s3 A3 n3 c3 w;rwa[h] at this
def af4{w s A n c z}(h:RI w (iv s A n c) z):decide (n=0)=decide (z=0):=by
 by_cases j:z=0
 .have:=agG h j;simp at this;simp[this,j]
 .have:=agx h j;simp at this;simp[this,j]
def Is.QB{q a b d}(h:Is q a b d):q=GQ.i 0 0↔a=0/\b=0:=by
 have hd:=gL h.dne;constructor
 .intro e;have e1:=h.re;have j:=h.im;rw[e] at e1 j;simp only[GQ.dH,GQ.dC] at e1 j;have C:(a:Rat)=0:=ak;have B:(b:Rat)=0:=ak;exact⟨by exact_mod_cast C,by exact_mod_cast B⟩
 .rintro⟨rfl,rfl⟩;ext
  .rw[h.re];simp only[GQ.dH];grind
  .rw[h.im];simp only[GQ.dC];grind
def GV.zero{w q n n1 c1 n2 c2 n3 c3 s1 s2 s3 A1 A2 A3}(h:GV w (gv s1 A1 n1 c1 s2 A2 n2 c2 s3 A3 n3 c3) q n):(decide (n1=0)&&decide (n2=0))=ε↔q=GQ.i 0 0:=by
 obtain⟨a,b,d,B,j,_⟩:=h;obtain⟨r1,r2,C⟩:=RG.inj B;rw[af4 r1,af4 r2,j.QB];simp
def GV.opn{w v q n}(h:GV w v q n):∃s1 A1 n1 c1 s2 A2 n2 c2 s3 A3 n3 c3,v=gv s1 A1 n1 c1 s2 A2 n2 c2 s3 A3 n3 c3:=by
 obtain⟨a,b,d,⟨s1,A1,n1,c1,s2,A2,n2,c2,s3,A3,n3,c3,e,_⟩,_⟩:=h;exact⟨s1,A1,n1,c1,s2,A2,n2,c2,s3,A3,n3,c3,e⟩
def IQ(v q n w)(L:GV w v q n)(h:q≠GQ.i 0 0):
  CE 136 #[v] w (.bool ζ):=by
 obtain⟨s1,A1,n1,c1,s2,A2,n2,c2,s3,A3,n3,c3,rfl⟩:=L.opn;exact Dc _ _ _ _ _ _ _ _ _ _ _ _ _ w AbG
def agw{x y n1 n2}(J:Bd x n1)(R:Bd y n2)(h:y≠GQ.i 0 0):Bd (x/y) (n1+(n2+n2+1)):=by
 obtain⟨a,b,d,i1,s1⟩:=J;obtain⟨a',b',d',Q,s2⟩:=R;obtain⟨u,v,t,B⟩:=gI (x/y);have j:=Q.ne0 h;have E:=i1.Lt Q j B;have C:=bR (iV (bR s1.a s2.a) (bR s1.b s2.b)) s2.d;have F:=bR (sK (bR s1.b s2.a) (bR s1.a s2.b)) s2.d;have D:=bR s1.d (iV (bR s2.a s2.a) (bR s2.b s2.b));exact⟨u,v,t,B,jF (n:=n1+(n2+n2+1)) (nk i1.dne (qI j)) E (jl C aa) (jl F aa) D⟩
def TV(N J C G O K j D L M H I S w)(P:VB w (gv N J C G O K j D L M H I) S)(T:Hid ((decide (C=0)&&decide (j=0))=ε)):
  CE 90 #[gv N J C G O K j D L M H I] w (.bool S):=by
 have hS:=aeZ w;have B:=(St.al hS 42 #[N,aO J C G,O,aO K j D,L,aO M H I] (g:=w.heap.size) ag);have R:=(B.aH 0).cell;go_enter func90,ntmps90;go_wp2_with fail;clear R;clear B;refine gA1 hS 42 #[N,aO J C G,O,aO K j D,L,aO M H I] ?_;clear hS;intro w1 g1 o1 hS;refine(Dc N J C G O K j D L M H I ε _ T.o).mono ?_;rintro e w2 ⟨rfl,F⟩;replace hS:=hS.mv F;clear F;have Q:=(hS.aH 0).cell;go_wp2_with fail;clear Q;refine(VB.e (P.ext hS.ext)).mono ?_;rintro e U ⟨rfl,F⟩;exact AaK
def Uz(N J C G O K j D L M H I S w)(P:VB w (gv N J C G O K j D L M H I) S)(R:Hid ((decide (C=0)&&decide (j=0))=ζ)):
  CE 90 #[gv N J C G O K j D L M H I] w (.bool ζ):=by
 have hS:=aeZ w;have B:=(St.al hS 42 #[N,aO J C G,O,aO K j D,L,aO M H I] (g:=w.heap.size) ag);have Q:=(B.aH 0).cell;go_enter func90,ntmps90;go_wp2_with fail;clear Q;clear B;refine gA1 hS 42 #[N,aO J C G,O,aO K j D,L,aO M H I] ?_;clear hS;intro w1 g1 o1 hS;refine(Dc N J C G O K j D L M H I ζ _ R.o).mono ?_;rintro e w2 ⟨rfl,F⟩;exact AaK
def yK(v q n w)(L:GV w v q n)(hn:n<=12800)(h:q=GQ.i 0 0):
  CE 90 #[v] w (.bool ε):=by
 obtain⟨s1,A1,n1,c1,s2,A2,n2,c2,s3,A3,n3,c3,rfl⟩:=L.opn;exact TV _ _ _ _ _ _ _ _ _ _ _ _ _ w (L.vb hn) (aW (L.zero.2 h))
def Bi(v q n w)(L:GV w v q n)(hn:n<=12800)(h:q≠GQ.i 0 0):
  CE 90 #[v] w (.bool ζ):=by
 obtain⟨s1,A1,n1,c1,s2,A2,n2,c2,s3,A3,n3,c3,rfl⟩:=L.opn;exact Uz _ _ _ _ _ _ _ _ _ _ _ _ _ w (L.vb hn) (aW AbG)
def Xd(v0 q0 n0 v1 q1 n1 w)(Yw:GV w v0 q0 n0)(D:GV w v1 q1 n1)(H0:Hid (q1≠GQ.i 0 0))(hn:4*max n0 n1+3<=12800):
  CV 137 #[v0,v1] w fun v w'=>(∃u,v=.tuple #[u,aJ]/\GV w' u (q0/q1) (n0+(n1+n1+1))):=by
 have hS:=aeZ w;obtain⟨Zj,Zi,Zg,Yw,I0,S0⟩:=Yw;obtain⟨Yv,Yu,L,G,W,T,P,Y,U,S,H,Z,rfl,YJ,YL,YK⟩:=Yw;replace hS:=hS.bI YJ;clear YJ;replace hS:=hS.bI YL;clear YL;replace hS:=hS.bI YK;clear YK;obtain⟨YQ,YP,YO,D,I1,S1⟩:=D;obtain⟨YC,Yz,Yy,YB,YD,YE,YA,Yx,Q,O,J,V,rfl,YG,YH,YF⟩:=D;replace hS:=hS.bI YG;clear YG;replace hS:=hS.bI YH;clear YH;replace hS:=hS.bI YF;clear YF;have B:=(St.al (St.al (St.al hS 42 #[Yv,aO Yu L G,W,aO T P Y,U,aO S H Z] (g:=w.heap.size) ag) 42 #[YC,aO Yz Yy YB,YD,aO YE YA Yx,Q,aO O J V] (g:=(w.heap.size+1)) ag) 42 aQ3 (g:=(w.heap.size+2)) ag);have YN:=(B.aH 2).cell;have YM:=(B.aH 1).cell;go_enter func137,ntmps137;go_wp2_with fail;clear YN YM;clear B;refine gA4 hS 42 #[Yv,aO Yu L G,W,aO T P Y,U,aO S H Z] 42 #[YC,aO Yz Yy YB,YD,aO YE YA Yx,Q,aO O J V] 42 aQ3 42 #[Yv,aO Yu L G,W,aO T P Y,U,aO S H Z,YC,aO Yz Yy YB,YD,aO YE YA Yx,Q,aO O J V] ?_;clear hS;intro w1 g2 o2 g3 o3 g4 o4 g9 o9 hS;refine(kQ g9 q0 q1 n0 n1 _ (hS.aH 0) ⟨_,_,_,RG.mk (hS.aF 5) (hS.aF 4) (hS.aF 3),I0,S0⟩ aa ⟨_,_,_,RG.mk (hS.aF 2) (hS.aF 1) (hS.aF 0),I1,S1⟩ aa).mono ?_;rintro e w2 ⟨rfl,F⟩;replace hS:=hS.mv F;clear F;have YR:=(hS.aH 2).cell;go_wp2_with fail;clear YR;refine(IQ _ q1 (n1) _ ⟨_,_,_,RG.mk (hS.aF 2) (hS.aF 1) (hS.aF 0),I1,S1⟩ H0.o).mono ?_;rintro e w3 ⟨rfl,F⟩;replace hS:=hS.mv F;clear F;have YI:=(St.al hS 197 #[aJ] (g:=w3.heap.size) ag);have YS:=(YI.aH 4).cell;have Zh:=(YI.aH 3).cell;go_wp2_with fail;clear YS Zh;clear YI;refine gA1 hS 197 #[aJ] ?_;clear hS;intro w4 g6 o6 hS;obtain⟨YV,YT,YU,YW⟩:=gI (q0/q1);have Ze:Sz (n0+(n1+n1+1)) YV YT YU:=(agw ⟨_,_,_,I0,S0⟩ ⟨_,_,_,I1,S1⟩ H0.o).sz YW;refine(mX (Js g6 _ _ q0 q1 _ _ _ (hS.aH 0) ⟨_,_,_,RG.mk (hS.aF 5) (hS.aF 4) (hS.aF 3),I0,S0⟩ ⟨_,_,_,RG.mk (hS.aF 2) (hS.aF 1) (hS.aF 0),I1,S1⟩ aa H0.o) YW).mono ?_;exact Aaq
structure Mod (S:Nat->Prop) (w w':World):Prop where
 os:w'.os=w.os
 tape:w'.tape=w.tape
 output:w'.output=w.output
 size:w.heap.size<=w'.heap.size
 block:∀k,k<w.heap.size->¬S k->w'.heap[k]? =w.heap[k]?
section
variable {S T:Nat->Prop} {w w' w'':World}
def Mod.refl(S w):Mod S w w:=⟨rfl,rfl,rfl,κ _,fun _ _ _=>rfl⟩
def Mod.trans(h:Mod S w w')(k:Mod S w' w''):Mod S w w'':=
 ⟨k.os.trans h.os,k.tape.trans h.tape,k.output.trans h.output,Θ h.size k.size,fun i hi hs=>(k.block i (ο hi h.size) hs).trans (h.block i hi hs)⟩
def ae0(h:Ext w w'):Mod S w w':=⟨h.os,h.tape,h.output,h.size,fun k j _=>h.block k j⟩
def Mod.mono(h:Mod S w w')(hs:∀k,S k->T k):Mod T w w':=⟨h.os,h.tape,h.output,h.size,fun k j hn=>h.block k j (fun e=>hn (hs k e))⟩
def Mod.only{g}(h:Only g w w')(j:S g):Mod S w w':=
 ⟨h.os,h.tape,h.output,h.size,fun k B hn=>h.block k B (fun e=>hn (by first|(injection e with e;exact e ▸ j)|exact e ▸ j))⟩
def Blk.mod{g t cs}(h:Blk w g t cs)(m:Mod S w w')(j:¬S g):Blk w' g t cs:=(m.block g h.lt j).trans h
def Far (S:Nat->Prop) (w:World):Prop:=∀g,S g->g<w.heap.size->∃t cs,Blk w g t cs/\lS cs=ε
def RM.mod{A n c l}(h:RM w A n c l)(m:Mod S w w')(hS:Far S w):RM w' A n c l:=by
 refine⟨⟨h.rd.1,fun hn=> ?_⟩,h.dg,h.nc,h.cm⟩;obtain⟨b,o,rfl,B,hc⟩:=h.rd.plain hn;obtain⟨I,x,e,_,J,_,_⟩:=h.at_ hn;have C:¬S b:=by
  intro hs;obtain⟨t,cs,hb,D⟩:=hS b hs B;have:=hc 0 _ (pY J);rw[hb.cell] at this;exact uj D _ _ _ this
 exact Aa1
def RI.mod{v z}(h:RI w v z)(m:Mod S w w')(hS:Far S w):RI w' v z:=by
 obtain⟨A,n,c,e,h⟩:=h;exact⟨A,n,c,e,h.mod m hS⟩
def GV.mod{v q n}(h:GV w v q n)(m:Mod S w w')(hS:Far S w):GV w' v q n:=by
 obtain⟨a,b,d,⟨s1,A1,n1,c1,s2,A2,n2,c2,s3,A3,n3,c3,e,B,j,C⟩,I,Z⟩:=h;exact⟨a,b,d,⟨s1,A1,n1,c1,s2,A2,n2,c2,s3,A3,n3,c3,e,B.mod m hS,j.mod m hS,C.mod m hS⟩,I,Z⟩
end
def GV.to{w v q m n}(h:GV w v q m)(hb:Bd q n):GV w v q n:=by
 obtain⟨a,b,d,j,I,Z⟩:=h;exact⟨a,b,d,j,I,hb.sz I⟩
def GV.up{w v q m n}(h:GV w v q m)(hn:m<=n):GV w v q n:=by
 obtain⟨a,b,d,j,I,Z⟩:=h;exact⟨a,b,d,j,I,Z.mono hn⟩
structure En where
 s1:Bool
 A1:Option Addr
 n1:Nat
 c1:Nat
 s2:Bool
 A2:Option Addr
 n2:Nat
 c2:Nat
 s3:Bool
 A3:Option Addr
 n3:Nat
 c3:Nat
def En.v (e:En):Value:=gv e.s1 e.A1 e.n1 e.c1 e.s2 e.A2 e.n2 e.c2 e.s3 e.A3 e.n3 e.c3
def En.cells (e:En):List Value:=[.bool e.s1,.slice e.A1 e.n1 e.c1,.bool e.s2,.slice e.A2 e.n2 e.c2,.bool e.s3,.slice e.A3 e.n3 e.c3]
def GV.en{w v q n}(h:GV w v q n):∃e:En,v=e.v:=by
 obtain⟨s1,A1,n1,c1,s2,A2,n2,c2,s3,A3,n3,c3,e⟩:=h.opn;exact⟨⟨s1,A1,n1,c1,s2,A2,n2,c2,s3,A3,n3,c3⟩,e⟩
def bz (n:Nat) (f:Nat->En):List Value:=(List.range n).flatMap fun j=>(f j).cells
theorem jr(n f):bz (n+1) f=bz n f++(f n).cells:=by
 unfold bz;exact Abv
def bM:∀(n:Nat) (f:Nat->En),(bz n f).length=n*6
 |0,_=>rfl
 |n+1,f=>by
  rw[jr,pz,bM n f];simp[En.cells];omega
def dY{f j t}(B:t<6):∀{n:Nat},j<n->(bz n f)[j*6+t]? =(f j).cells[t]?
 |0,h=>aa
 |n+1,h=>by
  rw[jr];by_cases e:j=n
  .subst e;rw[nG Ab5,bM];congr 1;omega
  .rw[Ω Ab5];exact dY B aa
theorem BL{n f f'}(h:∀j,j<n->f j=f' j):bz n f=bz n f':=by
 unfold bz;have:∀(L:List Nat),(∀j∈L,f j=f' j)->L.flatMap (fun j=>(f j).cells)=L.flatMap (fun j=>(f' j).cells):=by
  intro L
  induction L with
  |nil=>intro _;rfl
  |cons a L ih=>
   intro h;simp only[List.flatMap_cons];rw[h a (qa),ih (fun j B=>h j (nC _ B))]
 exact this _ (fun j B=>h j (aau.1 B))
def upd {α:Type} (f:Nat->α) (j:Nat) (e:α):Nat->α:=fun i=>if i=j then e else f i
theorem upd_same{α:Type}(f:Nat->α)(j)(e:α):upd f j e j=e:=by unfold upd;rw[ι rfl]
theorem upd_ne{α:Type}{f:Nat->α}{i j}{e:α}(h:i≠j):upd f j e i=f i:=by unfold upd;rw[θ h]
def jR:∀(B:List Value) (l:List Value) (k:Nat),gJ l.toArray k B=((l.take k)++(B.take (l.length-k))++l.drop (k+B.length)).toArray
 |[],l,k=>by simp[gJ]
 |v::B,l,k=>by
  show gJ (l.toArray.setIfInBounds k v) (k+1) B=_;rw[aQ,jR B];congr 1;by_cases h:k<l.length
  .rw[aa9,List.take_set,List.drop_set_of_lt aa];have e1:((l.take (k+1)).set k v)=l.take k++[v]:=by
    rw[aaN h,abJ _ _ ae];simp[aam (aah h)]
   rw[e1];have j:(v::B).take (l.length-k)=v::B.take (l.length-(k+1)):=by
    rw[show l.length-k=(l.length-(k+1))+1 by omega,aay]
   rw[j];simp only[nV,I5,abN,aa8];rw[show k+1+B.length=k+(B.length+1) by omega]
  .rw[List.set_eq_of_length_le aa];rw[χ (i:=k+1) aa,χ (i:=k) aa,show l.length-k=0 by omega,show l.length-(k+1)=0 by omega];simp only[abm,Z6];rw[aak aa,aak (by simp only[nV];omega)]
def oo{f j n}(e)(F:j<n):gJ (bz n f).toArray (j*6) e.cells=(bz n (upd f j e)).toArray:=by
 rw[jR];congr 1;apply aal;intro t;have Y:e.cells.length=6:=rfl;rw[bM,Y,χ (l:=e.cells) (by rw[Y];omega)];have S:((bz n f).take (j*6)).length=j*6:=by rw[Bn,bM];omega
 by_cases C:t<j*6
 .rw[I5,Ω (by rw[S];exact C),PI C];have B:t=(t/6)*6+t%6:=aa;rw[B,dY (pu _ aa) aa,dY (pu _ aa) aa,upd_ne aa]
 .by_cases B:t<j*6+6
  .rw[I5,nG (by rw[S];omega),S,Ω (by rw[Y];omega)];have D:t=j*6+(t-j*6):=aa
   conv=>rhs;rw[D]
   rw[dY aa F,upd_same]
  .rw[nG (by rw[pz,S,Y];omega),pz,S,Y,Zb];rw[show j*6+6+(t-(j*6+6))=t by omega];by_cases D:t<n*6
   .have G:t=(t/6)*6+t%6:=aa;rw[G,dY (pu _ aa) aa,dY (pu _ aa) aa,upd_ne aa]
   .rw[qb Ab5,qb Ab5]
theorem dD(n f):lS (bz n f).toArray=ε:=by
 unfold lS;simp only[q8];intro v hv;unfold bz at hv;obtain⟨j,_,hv⟩:=ac8.1 hv;unfold En.cells at hv;simp only[kC,Ha,aaH] at hv;rcases hv with rfl|rfl|rfl|rfl|rfl|rfl<;>rfl
def dQ (w:World) (g n:Nat) (x:Nat->GQ):Prop:=∃f:Nat->En,Blk w g 42 (bz n f).toArray/\∀j,j<n->GV w (f j).v (x j) 12800
def dQ.ext{w w' g n x}(h:dQ w g n x)(e:Ext w w'):dQ w' g n x:=by
 obtain⟨f,D,B⟩:=h;exact⟨f,D.ext e,fun j C=>(B j C).ext e⟩
def dQ.mod{S w w' g n x}(h:dQ w g n x)(m:Mod S w w')(hS:Far S w)(F:¬S g):dQ w' g n x:=by
 obtain⟨f,D,B⟩:=h;exact⟨f,D.mod m F,fun j C=>(B j C).mod m hS⟩
def dQ.congr{w g n x y}(h:dQ w g n x)(e:∀j,j<n->x j=y j):dQ w g n y:=by
 obtain⟨f,D,C⟩:=h;exact⟨f,D,fun j B=>e j B ▸ C j B⟩
def dQ.put{w g n j f x}{e:En}{q}(hb:Blk w g 42 (bz n f).toArray)(J:∀j,j<n->GV w (f j).v (x j) 12800)(D:j<n)(O:GV w e.v q 12800):
  dQ (puts w g (j*6) e.cells) g n (upd x j q)/\Mod (fun k=>k=g) w (puts w g (j*6) e.cells):=by
 have B:Mod (fun k=>k=g) w (puts w g (j*6) e.cells):=Mod.only (gV _ _ _ _) rfl;have hS:Far (fun k=>k=g) w:=fun k C _=>by subst C;exact⟨_,_,hb,dD _ _⟩
 refine⟨⟨upd f j e,?_,fun i hi=> ?_⟩,B⟩
 .rw[<-oo e D];exact dm _ _ hb
 .by_cases h:i=j
  .subst h;rw[upd_same,upd_same];exact O.mod B hS
  .rw[upd_ne h,upd_ne h];exact(J i hi).mod B hS
def Nam (w:World) (M n:Nat) (l:List ByteArray):Prop:=
 ∃D:DataW Unit,w.ownsMap prog 9 (plainElem prog 4) M n D/\Maps.IsMap D/\∀s:ByteArray,s.size<=maxLen->D.atKey (.string s.data.toList) (.lit (.bool ζ))=.lit (.bool (vN s l))
def BV:Maps.Keyed prog 9:=Maps.string_keyed ac9
def Tg{s}(hs:s.size<=maxLen):keyOf prog 9 (.string s)=γ (.string s.data.toList):=WideMaps.keyOf_string_mk ac9 hs
def ET(s x):∀l:List ByteArray,vN s (l++[x])=(vN s l||decide (x=s))
 |[]=>by simp[vN]
 |y::l=>by
  show(decide (y=s)||vN s (l++[x]))=(decide (y=s)||vN s l||decide (x=s));rw[ET s x l,Bool.or_assoc]
theorem wV{H:Type}{P e}(O:P.underlying e=γ .bool){v}{z:DataW H×List MemPlace}(h:plainElem P e v=γ z):∃x,v=.bool x/\z=(.lit (.bool x),[]):=by
 unfold plainElem at h;rw[O] at h;cases v<;>simp at h
 exact⟨_,rfl,h.symm⟩
section
variable {w w':World} {M n:Nat} {l:List ByteArray}
def Q6(w:World):Nam (w.alloc (.map #[] 0)) w.heap.size 0 []:=
 ⟨_,World.ownsMap_made w _ _ _,⟨_,rfl⟩,fun s _=>rfl⟩
def Nam.ext(h:Nam w M n l)(x:Ext w w'):Nam w' M n l:=by
 obtain⟨D,B,C,F⟩:=h;have Z:=B.lt;obtain⟨G,j,hb,r⟩:=B;exact⟨D,⟨G,j,(x.block M Z).trans hb,r⟩,C,F⟩
def Nam.lt(h:Nam w M n l):M<w.heap.size:=by obtain⟨D,j,_⟩:=h;exact j.lt
def Nam.look(h:Nam w M n l)(s)(hs:s.size<=maxLen):(Instr.lookup 183 (.map (γ M)) (.string s) ζ).run prog w=.ok (.bool (vN s l)) w:=by
 obtain⟨D,C,_,F⟩:=h;obtain⟨v,ps,B,hv⟩:=C.lookup BV abz (by kernel_rfl:(zeroValue 4).run prog w=.ok (.bool ζ) w) (ab4 aaP ζ) (Tg hs);rw[B];rw[F s hs] at hv;obtain⟨x,rfl,j⟩:=wV aaP hv;simp only[Prod.mk.injEq,DataW.lit.injEq,Lit.bool.injEq] at j;rw[j.1]
def Nam.put{D:DataW Unit}(F:w.ownsMap prog 9 (plainElem prog 4) M n D)(j:Maps.IsMap D)(C:∀s:ByteArray,s.size<=maxLen->D.atKey (.string s.data.toList) (.lit (.bool ζ))=.lit (.bool (vN s l))){x}(B:w'.ownsMap prog 9 (plainElem prog 4) M (n+1) (D.put (.string x.data.toList) (.lit (.bool ε)))):Nam w' M (n+1) (l++[x]):=by
 refine⟨_,B,?_,fun s hs=> ?_⟩
 .obtain⟨G,rfl⟩:=j;exact⟨_,rfl⟩
 .rw[ET];by_cases e:x=s
  .subst e;rw[Maps.atKey_put_same j (by first|exact True.intro|simp[WideAt.IsKeyLit])];simp
  .rw[Maps.atKey_put_other (fun T=>e (by
    injection T with T;cases s with|mk a=>cases x with|mk b=>exact congrArg ByteArray.mk (Array.toList_inj.1 T.symm))),C s hs]
   simp[e]
end
def mJ{S w w' base e size n v xs}(h:w.ownsRow base e size v n xs)(m:Mod S w w')(hs:∀g,v.ownBlock=γ g->¬S g):w'.ownsRow base e size v n xs:=by
 refine⟨h.1,?_⟩;rcases h.2 with hn|⟨g,N,cur,hv,hb,B,j⟩
 .exact .inl hn
 .subst hv;exact .inr ⟨g,N,cur,rfl,hb,(m.block g (abb.1 B).1 (hs g rfl)).trans B,j⟩
def Mod.grown{S w w' row}(h:w.grownBy w' row)(hs:∀g,row=γ g->S g):Mod S w w':=
 ⟨h.os,h.tape,h.output,h.size,fun k j hn=>h.block k j (fun e=>hn (hs k e.symm))⟩
def Mod.below{S w w' B}(h:Mod S w w')(hs:∀k,S k->B<=k)(C:B<=w.heap.size):Below B w w':=
 ⟨h.os,h.tape,h.output,h.size,fun k j=>h.block k (ο j C) (fun e=>by have:=hs k e;omega)⟩
def Nam.mod{S w w' M n}{l:List ByteArray}(h:Nam w M n l)(m:Mod S w w')(hs:¬S M):Nam w' M n l:=by
 have Z:=h.lt;obtain⟨D,⟨G,j,hb,r⟩,B,C⟩:=h;exact⟨D,⟨G,j,(m.block M Z hs).trans hb,r⟩,B,C⟩
structure BSt (w:World) (M B:Nat) (l:List ByteArray) (m0 m1 m2:Nat) (bs:List (iA×Hd)):Prop where
 ord:M<B
 nm:Nam w M l.length l
 rows:∃v0 v1 v2 v3,Blk w B 185 #[ByteArray.empty,v0,v1,v2,v3,.map (γ M)]/\(∃xs,w.ownsRow (B+1) 9 1 v0 m0 xs)/\(∃xs,w.ownsRow (B+1) 63 5 v1 m1 xs)/\
  (∃xs,w.ownsRow (B+1) 83 6 v2 m2 xs)/\w.ownsRow (B+1) 57 12 v3 bs.length (bs.flatMap fun x=>ji x.1 x.2)
section
variable {w w':World} {M B m0 m1 m2:Nat} {l:List ByteArray} {bs:List (iA×Hd)}
def BSt.ext(h:BSt w M B l m0 m1 m2 bs)(x:Ext w w'):BSt w' M B l m0 m1 m2 bs:=by
 obtain⟨J,G,v0,v1,H,F,hb,⟨j,C⟩,⟨K,L⟩,⟨N,D⟩,I⟩:=h;exact⟨J,G.ext x,v0,v1,H,F,hb.ext x,⟨j,eY C x⟩,⟨K,eY L x⟩,⟨N,eY D x⟩,eY I x⟩
end
def Bo(w):Calls prog 71 #[] w fun e w'=>e=.returned (.pointer (γ (aM (w.heap.size+1) 0)))/\BSt w' w.heap.size (w.heap.size+1) [] 0 0 0 []/\Ext w w':=by
 have j:= @run_makeMap prog;go_enter func71,ntmps71;go_wp2;go_ret;refine⟨rfl,⟨abr _,(Q6 w).ext (Ext.new _ _),_,_,_,_,aeV _ _ ag,⟨_,RS _ _ _ _⟩,⟨_,RS _ _ _ _⟩,⟨_,RS _ _ _ _⟩,RS _ _ _ _⟩,(Ext.new _ _).trans (Ext.new _ _)⟩
theorem jw{w M B m0 m1 m2}{l:List ByteArray}{bs:List (iA×Hd)}(h:BSt w M B l m0 m1 m2 bs)(s):
  Calls prog 114 #[aN B 0,.string s] w fun e w'=>e=.returned (.int .i64 (eH l s))/\w=w':=by
 have F:∀w:World,Calls prog 70 #[s] w fun e w'=>e=.returned (.bool (ik s))/\w=w':=fun w=>(JK s w).mono (fun e w' C=>⟨C.1,C.2.symm⟩);cases hn:ik s
 .have Q:Hid (eH l s=7):=aW (by simp[eH,hn]);go_enter func114,ntmps114;(go_wp2_with (first|(go_at_call 70;refine(F _).mono ?_;rintro e w1 ⟨rfl,rfl⟩)));go_ret;exact⟨aZ Q.symm,rfl⟩
 .have j:s.size<=maxLen:=by
   have:=hn;simp only[ik,υ,Δ] at this;unfold maxLen;omega
  obtain⟨_,D,v0,v1,J,I,hb,_⟩:=h;have G:=D.look s j;have kB:=hb.cell;have Q:Hid (eH l s=if vN s l=ε then 8 else 0):=aW (by simp only[eH,hn];rfl);clear D j;cases hi:vN s l
  all_goals
   rw[hi] at G;have H:=aW hi;clear hi;go_enter func114,ntmps114;(go_wp2_with (first|(go_at_call 70;refine(F _).mono ?_;rintro e w1 ⟨rfl,rfl⟩)));go_ret;exact⟨aZ (by rw[Q.o,H.o];rfl),rfl⟩
def oJ{w w' M B e T size j n n' v G xs C}(R:w.ownsRow (B+1) e size v n xs)(S:w.ownsRow (B+1) T j G n' C)(F:e≠T)(I:M<B)(m:Mod (fun k=>k=M\/k=B\/G.ownBlock=γ k\/w.heap.size<=k) w w'):w'.ownsRow (B+1) e size v n xs:=by
 refine mJ R m fun g H=> ?_;have J:=R.lt g H;rintro(h|h|h|h)
 .omega
 .omega
 .rcases uJ R S F with D|D
  .rw[H] at D;cases D
  .exact D (H.trans h.symm)
 .omega
def step_mod{w w2 j:World}{M B}{o:Obj}{v:Value}{i u}(G:w.grownBy w2 (γ M))(L:(w2.alloc o).grownBy j v.ownBlock):
  Mod (fun k=>k=M\/k=B\/v.ownBlock=γ k\/w.heap.size<=k) w (j.setCell ⟨B,i,δ⟩ u):=
 ((((Mod.grown G (fun g e=> .inl (by injection e with e;exact e.symm))).trans (ae0 (Ext.new _ _))).trans (Mod.grown L (fun g e=> .inr (.inr (.inl e))))).trans (Mod.only (Only.set _ _ _ _) (.inr (.inl rfl))))
def sI{w w' M B v e size n xs}(R:w.ownsRow (B+1) e size v n xs)(j:M<B)(C:B<w.heap.size)(m:Mod (fun k=>k=M\/k=B\/v.ownBlock=γ k\/w.heap.size<=k) w w'):Below M w w':=
 m.below (fun k h=>by
  rcases h with h|h|h|h
  .omega
  .omega
  .have:=(R.lt k h).1;omega
  .omega) aa
def yz{w2 j M B n}{o:Obj}{v i u}{l:List ByteArray}{e size k xs}(h:Nam w2 M n l)(R:w2.ownsRow (B+1) e size v k xs)(C:M<B)(L:(w2.alloc o).grownBy j v.ownBlock):
  Nam (j.setCell ⟨B,i,δ⟩ u) M n l:=
 h.mod (S:=fun k=>k=B\/v.ownBlock=γ k) (((ae0 (Ext.new _ _)).trans (Mod.grown L (fun g e=> .inr e))).trans (Mod.only (Only.set _ _ _ _) (.inl rfl))) (by
  rintro(h|h)
  .omega
  .have:=(R.lt M h).1;omega)
theorem tV{s}(h:ik s=ε):s.size<=maxLen:=by
 simp only[ik,υ,Δ] at h;unfold maxLen;omega
theorem xV{l:List ByteArray}{s}(h:eH l s=0):ik s=ε:=by
 unfold eH at h;split at h
 .assumption
 .cases h
def TS{w M B m0 m1 m2}{l:List ByteArray}{bs:List (iA×Hd)}(h:BSt w M B l m0 m1 m2 bs)(s)(Z:l.length<=1000)(K:m0<=1000):
  Calls prog 73 #[aN B 0,.string s] w fun e w'=>e=.returned (.int .i64 (eH l s))/\Below M w w'/\(eH l s=0->BSt w' M B (l++[s]) (m0+1) m1 m2 bs):=by
 have HB:=aW h;generalize O:eH l s=en;have HE:=aW O;by_cases T:en=0
 rotate_left
 .have q0:((en:Int) !=0)=ε:=by simp;exact T
  have HN:=aW T;clear h O T;go_enter func73,ntmps73;go_wp2_with fail;refine(jw HB.o s).mono ?_;rintro e w1 ⟨rfl,rfl⟩;rw[HE.o];go_wp2;go_ret;exact⟨rfl,acl _ _,fun e=>absurd e HN.o⟩
 .subst T;have V:=tV (xV O);obtain⟨C,hN,v0,v1,v2,v3,hb,⟨x0,r0⟩,⟨x1,r1⟩,⟨x2,r2⟩,r3⟩:=h;obtain⟨D,d1,d2,d3⟩:=hN;have kB:=hb.cell;have j:=hb.frozen;have Zl:=aW hb;have I:=aW r0;have R1:=aW r1;have R2:=aW r2;have R3:=aW r3;have D1:=aW d1;have D2:=aW d2;have D3:=aW d3;have J:=hb.lt;clear O hb r0 r1 r2 r3 d1 d2 d3;go_enter func73,ntmps73;go_wp2_with fail;refine(jw HB.o s).mono ?_;rintro e w1 ⟨rfl,rfl⟩;rw[HE.o];(go_wp2_with (first|(at_mapUpdate;refine abQ _ rfl _ _ _ 183 rfl 9 4 BV abz (plainElem prog 4) M l.length D rfl D1.o AdC _ _ (.string s.data.toList) rfl rfl (Tg V) (.lit (.bool ε)) [] (ab4 aaP ε) ?_)));intro w2 P G;have F:=gQ G Zl.o AbS;have r2:w2.ownsRow (B+1) 9 1 v0 m0 x0:=I.kept G (.inr (fun e=>by have:=(I.lt M e).1;omega));have ZU:=G.size;have RR:=aW r2;have G2:=aW G;have Zf:=aW P;have k2:=F.cell;have f2:=F.frozen;have U:=aW F;clear F r2 G P kB j;have YD:B<w2.heap.size:=aa;(go_wp2_with (at_builtin;refine fu uy rfl (.tmp 22) (.tmp 24) rfl (B+1) _ m0 _ rf (RR.alloc _) w2.heap.size 1 1 [.string s] rf (Blk.new _ _ _) rfl AaC aa aa aa AdA ?_));intro g N w3 Q L H W;have Y:=gQ L (U.alloc _) (kK RR.o (abr _));have k3:=Y.cell;have f3:=Y.frozen;have Zd:=Y.lt;have Yy:=aW Y;have G3:=aW L;have R:=aW Q;clear Y L Q H W k2 f2;go_wp2;go_ret;have K:=step_mod (B:=B) (i:=1) (u:=.slice (γ (aM g 0)) (m0+1) N) G2.o G3.o;refine⟨rfl,sI I.o C J K,fun _=>⟨C,?_,_,_,_,_,Yy.qG 1 _,⟨_,mJ R.o (Mod.only (S:=fun k=>k=B) (Only.set _ _ _ _) rfl) (fun g' YH=>by have:=(R.lt g' YH).1;omega)⟩,⟨_,oJ R1.o I.o aj C K⟩,⟨_,oJ R2.o I.o aj C K⟩,oJ R3.o I.o aj C K⟩⟩;have hn:=yz (B:=B) (i:=1) (u:=.slice (γ (aM g 0)) (m0+1) N) (Nam.put D1.o D2.o D3.o Zf.o) RR.o C G3.o;simpa using hn
structure oG (w:World) (bs:List Nat) where
 val:World
 kept:∀b∈bs,val.heap[b]? =w.heap[b]?
instance (w:World) (bs:List Nat):Nonempty (oG w bs):=⟨⟨w,fun _ _=>rfl⟩⟩
def oG.blk{w bs g t cs}(h:Blk w g t cs)(j:g∈bs)(x:oG w bs)(i):x.val.cell? (aM g i)=cs[i]? :=
 (show Blk x.val g t cs from (x.kept g j).trans h).cell i
def oH{P:Program}{Q J a}{w:World}{l:List Oper}(n f S)(G post:List (Bool×Nat))(T:P.follows .mixedOrders=ε)(O:(Region.noSelect l.toArray&&Region.sinkB .any l.toArray n&&Region.chainB .any l.toArray n&&decide (n<l.length)&&decide (G.length+(post.length+1)=n)&&uk l.toArray n f post G (Array.replicate l.length ζ))=ε)(hS:S w.drew)(h:lU P l.toArray S (fun a' w'=>wpList P l.toArray Q (l.drop n) a' w') f post G a w.drew):(Code.region J l.toArray ε).wp P Q a w:=by
 simp only[υ,Δ] at O;obtain⟨⟨⟨⟨⟨C,hs⟩,hc⟩,hn⟩,Y⟩,F⟩:=O;have K:n<l.toArray.size:=by simpa using hn
 have D:HeadInv .any l.toArray n (Array.replicate l.length ζ):=
  ⟨ag,fun j M _ Z=>AaY,fun t _ R=>aen (by simpa using R) (aaU _ _)⟩
 have H:=mF (P:=P) C hs hc K G _ a w.drew D F hS h;have I:(l.drop n).length=l.toArray.size-n:=ag;have L:=nS (P:=P) (Q:=Q) (n:=n) (g:=l.toArray.size-n) (fun B a' w' N=>by
  have:=aco (P:=P) (ops:=l.toArray) (md:=.any) (Q':=Q) (l.drop n) n B a' w' (fun j=>ag) (by rw[I];exact N.1) N.2;rwa[I] at this) _ _ _ _ H
 exact Ab8
def VQ (l:vV):Value:=.agg #[l.name,l.z1.r,l.z1.x,l.z0.r,l.z0.x]
def Pj:Elem prog 23 63 5 48:=afa underlying23 (z:=.agg #[ByteArray.empty,aJ,aJ,aJ,aJ]) ah rfl aa
def Sl:Elem prog 24 83 6 56:=afa underlying24 (z:=.agg #[ByteArray.empty,aJ,aJ,aJ,aJ,aJ]) ah rfl aa
theorem SV{w M B m0 m1 m2}{l:List ByteArray}{bs:List (iA×Hd)}(h:BSt w M B l m0 m1 m2 bs)(x)(Z:l.length<=1000)(hm:m1<=1000):
  Calls prog 75 #[aN B 0,VQ x] w fun e w'=>e=.returned (.int .i64 (if eH l x.name=0 then (if (okZ x.z1&&okZ x.z0)=ε then 0 else 2) else eH l x.name))/\Below M w w'/\((if eH l x.name=0 then (if (okZ x.z1&&okZ x.z0)=ε then 0 else 2) else eH l x.name)=0->BSt w' M B (l++[x.name]) m0 (m1+1) m2 bs):=by
 have HB:=aW (h.ext (Ext.new w (.cells #[x.name,x.z1.r,x.z1.x,x.z0.r,x.z0.x] 63)));generalize hr:(if eH l x.name=0 then (if (okZ x.z1&&okZ x.z0)=ε then 0 else 2) else eH l x.name)=en;have HE:=aW hr;clear hr;generalize O:eH l x.name=ne at HE;have YX:=aW O;have F:=h.ord;have ZB:B<w.heap.size:=by obtain⟨_,_,_,_,_,_,hb,_⟩:=h;exact hb.lt
 have Zr:Hid (Below M w (aL w #[x.name,x.z1.r,x.z1.x,x.z0.r,x.z0.x] 63)):=aW ((Ext.new _ _).mono aa);obtain⟨-,YW⟩:=an1 w 63 #[x.name,x.z1.r,x.z1.x,x.z0.r,x.z0.x];have YB:=aW YW;clear YW;unfold VQ;by_cases h0:ne=0
 rotate_left
 .have q0:((ne:Int) !=0)=ε:=by simp;exact h0
  have V:Hid (en=ne):=aW AdS;have HN:=aW h0;clear h O h0;go_enter adj,ada;go_wp2_with fail;refine(jw HB.o x.name).mono ?_;rintro e w1 ⟨rfl,rfl⟩;rw[YX.o];exact Adj
 subst h0;have YR:=tV (xV O);have V:Hid (en=if (okZ x.z1&&okZ x.z0)=ε then 0 else 2):=aW AdF;clear O HE;cases H:okZ x.z1
 .have C:=aW H;clear H;have HV:Hid (en=2):=aW (by rw[V.o,C.o];rfl);clear h;go_enter adj,ada;go_wp2_with fail;refine(jw HB.o x.name).mono ?_;rintro e w1 ⟨rfl,rfl⟩;rw[YX.o];go_wp2_with fail;refine(cZ x.z1 _).mono ?_;rintro e w1 ⟨rfl,rfl⟩;rw[C.o];exact AdD
 cases T:okZ x.z0
 .have C:=aW H;have Q:=aW T;clear H T;have HV:Hid (en=2):=aW (by rw[V.o,C.o,Q.o];rfl);clear h;go_enter adj,ada;go_wp2_with fail;refine(jw HB.o x.name).mono ?_;rintro e w1 ⟨rfl,rfl⟩;rw[YX.o];go_wp2_with fail;refine(cZ x.z1 _).mono ?_;rintro e w1 ⟨rfl,rfl⟩;rw[C.o];go_wp2_with fail;refine(cZ x.z0 _).mono ?_;rintro e w1 ⟨rfl,rfl⟩;rw[Q.o];exact Ac6
 have C:=aW H;have Q:=aW T;clear H T;have HV:Hid (en=0):=aW (by rw[V.o,C.o,Q.o];rfl);have j:Ext w (aL (aL (aL w #[x.name,x.z1.r,x.z1.x,x.z0.r,x.z0.x] 63) #[x.z1.r,x.z1.x] 54) #[x.z0.r,x.z0.x] 54):=(Ext.new _ _).trans (show Ext (aL w #[x.name,x.z1.r,x.z1.x,x.z0.r,x.z0.x] 63) (aL (aL (aL w #[x.name,x.z1.r,x.z1.x,x.z0.r,x.z0.x] 63) #[x.z1.r,x.z1.x] 54) #[x.z0.r,x.z0.x] 54) from ((Ext.new _ _).alloc _));have Zh:Hid (Below M w (aL (aL (aL w #[x.name,x.z1.r,x.z1.x,x.z0.r,x.z0.x] 63) #[x.z1.r,x.z1.x] 54) #[x.z0.r,x.z0.x] 54)):=aW (j.mono aa);have Zg:=aW (YB.ext (show Ext (aL w #[x.name,x.z1.r,x.z1.x,x.z0.r,x.z0.x] 63) (aL (aL (aL w #[x.name,x.z1.r,x.z1.x,x.z0.r,x.z0.x] 63) #[x.z1.r,x.z1.x] 54) #[x.z0.r,x.z0.x] 54) from ((Ext.new _ _).alloc _)));obtain⟨_,hN,v0,v1,v2,v3,hb,⟨x0,r0⟩,⟨x1,r1⟩,⟨x2,r2⟩,r3⟩:=h;have Zp:Hid (∀g,v1.ownBlock=γ g->g<w.heap.size):=aW (fun g e=>(r1.lt g e).2);replace hN:=hN.ext j;replace hb:=hb.ext j;replace r0:=eY r0 j;replace r1:=eY r1 j;replace r2:=eY r2 j;replace r3:=eY r3 j;obtain⟨D,d1,d2,d3⟩:=hN;have Zl:=aW hb;have R0:=aW r0;have R1:=aW r1;have R2:=aW r2;have R3:=aW r3;have D1:=aW d1;have D2:=aW d2;have D3:=aW d3;have Zj:=hb.lt;have Y1:=aX.blk hb;have Y2:=aX.blk Zg.o;clear hb r0 r1 r2 r3 d1 d2 d3;go_enter adj,ada;go_wp2_with fail;refine(jw HB.o x.name).mono ?_;rintro e w1 ⟨rfl,rfl⟩;rw[YX.o];go_wp2_with fail;refine(cZ x.z1 _).mono ?_;rintro e w1 ⟨rfl,rfl⟩;rw[C.o];go_wp2_with fail;refine(cZ x.z0 _).mono ?_;rintro e w1 ⟨rfl,rfl⟩;rw[Q.o];go_wp2_with fail;refine bO 6 [(ε,0),(ε,4),(ε,5),(ζ,1),(ε,2),(ε,3)] ah ah ?_;refine bD [0,4,5] [(ζ,1),(ε,2),(ε,3)] _ ah ?_;refine Gq ?_;refine bC 1 [(ε,2),(ε,3)] ah ?_;intro K I;simp only[bJ];go_wp2_with fail;refine I _ _ ⟨⟨_,(Ext.refl _).drew⟩,rfl⟩ ?_;clear I K;refine bD [2,3] [] _ ah ?_;refine Gq ?_;simp only[dh,ξ,τ];clear Y1 Y2;(go_wp2_with (first|(at_mapUpdate;refine abQ _ rfl _ _ _ 183 rfl 9 4 BV abz (plainElem prog 4) M l.length D rfl D1.drew AdC _ _ (.string x.name.data.toList) rfl rfl (Tg YR) (.lit (.bool ε)) [] (ab4 aaP ε) ?_)));intro w2 YG G;have YF:=gQ G (Zl.drew) AbS;have P:=gQ G (Zg.drew) AbS;have G2:Hid ((((w.alloc (.cells #[x.name,x.z1.r,x.z1.x,x.z0.r,x.z0.x] 63)).alloc (.cells #[x.z1.r,x.z1.x] 54)).alloc (.cells #[x.z0.r,x.z0.x] 54)).grownBy w2 (γ M)):=aW ⟨G.os,G.tape,G.output,G.size,G.block⟩;have r2:w2.ownsRow (B+1) 63 5 v1 m1 x1:=R1.kept G2.o (.inr (fun e=>by have:=(R1.lt M e).1;omega));have RR:=aW r2;have Zf:=aW YG;have R:=YF.lt;have J:=P.lt;have Y1:=fun(x:oG w2 [B,w.heap.size])=>x.blk YF ag;have Y2:=fun(x:oG w2 [B,w.heap.size])=>x.blk P ag;have U:=aW YF;have W:=aW P;clear YF P r2 YG G;go_wp2_with fail;refine oH 9 7 (fun w'=>∃x:oG w2 [B,w.heap.size],w'=x.val) [(ε,0),(ε,1),(ε,6),(ζ,2),(ε,3),(ε,4),(ε,5)] [(ζ,8)] ah ah ⟨⟨w2.drew,fun _ _=>rfl⟩,rfl⟩ ?_;refine gK [0,1,6] [(ζ,2),(ε,3),(ε,4),(ε,5)] _ ah ?_;refine Gq ?_;refine nJ 2 [(ε,3),(ε,4),(ε,5)] ah ah ?pA ?pB
 case' pA=>
  intro K I;simp only[bJ];go_wp2_with fail;refine I _ _ ⟨⟨w2.drew,fun _ _=>rfl⟩,rfl⟩ ?_;clear I K;refine gK [3,4,5] [] _ ah ?_;refine Gq ?_;refine qp ah ?_;intro K I;simp only[bJ];go_wp2_with fail;refine I _ _ ⟨⟨w2.drew.alloc (.cells #[x.name,x.z1.r,x.z1.x,x.z0.r,x.z0.x] 63),fun b hb=>aar _ _ b AcB⟩,rfl⟩ ?_;clear I K
 case' pB=>
  intro K I;simp only[bJ];go_wp2_with fail;refine I _ _ ⟨⟨w2.drew.alloc (.cells #[x.name,x.z1.r,x.z1.x,x.z0.r,x.z0.x] 63),fun b hb=>aar _ _ b AcB⟩,rfl⟩ ?_;clear I K;show dh _ _ _ _ [(ζ,2),(ε,3),(ε,4),(ε,5),(ζ,8)] _ _;refine bC 2 [(ε,3),(ε,4),(ε,5),(ζ,8)] ah ?_;intro K I;simp only[bJ];go_wp2_with fail;refine I _ _ ⟨⟨w2.drew.alloc (.cells #[x.name,x.z1.r,x.z1.x,x.z0.r,x.z0.x] 63),fun b hb=>aar _ _ b AcB⟩,rfl⟩ ?_;clear I K;refine bD [3,4,5] [(ζ,8)] _ ah ?_;refine Gq ?_
 all_goals
  refine bC 8 [] ah ?_;intro K I;simp only[bJ];(go_wp2_with (at_builtin;refine fu Pj rfl (.tmp 34) (.tmp 36) rfl (B+1) _ m1 _ rf (acB (w:=w2.drew) RR.o _) w2.heap.size 1 1 [.string x.name,.int .i64 x.z1.r,.int .i64 x.z1.x,.int .i64 x.z0.r,.int .i64 x.z0.x] rf (Blk.new w2.drew _ _) rfl AaC aa aa aa AdA ?_));intro g N w3 YI L Zc Yu;have Y:=gQ L ((U.drew).alloc _) (kK RR.o (abr _));have Yv:=gQ L ((W.drew).alloc _) (fun e=>by have:=Zp.o _ e;omega);have k3:=Y.cell;have f3:=Y.frozen;have Zd:=Y.lt;have Yy:=aW Y;have YA:=aW Yv;have G3:Hid ((w2.alloc (.cells #[x.name,x.z1.r,x.z1.x,x.z0.r,x.z0.x] 63)).grownBy w3 v1.ownBlock):=aW ⟨L.os,L.tape,L.output,L.size,L.block⟩;have Za:=aW YI;clear Y Yv L YI Zc Yu;go_wp2_with fail;refine I _ _ ⟨⟨w3,fun b hb=>by
   simp at hb;rcases hb with rfl|rfl
   .exact(Yy.o).trans U.symm
   .exact(YA.o).trans W.symm⟩,rfl⟩ ?_
  clear I K Y1 Y2;simp only[dh,ξ,τ];go_wp2;go_ret;have hm:=step_mod (B:=B) (i:=2) (u:=.slice (γ (aM g 0)) (m1+1) N) G2.o G3.o;refine⟨aZ HV.symm,Zh.trans (sI R1.o F Zj hm),fun _=>⟨F,?_,_,_,_,_,Yy.qG 2 _,⟨_,oJ R0.o R1.o aj F hm⟩,⟨_,mJ Za.o (Mod.only (S:=fun k=>k=B) (Only.set _ _ _ _) rfl) (fun g' YH=>by have:=(Za.lt g' YH).1;omega)⟩,⟨_,oJ R2.o R1.o aj F hm⟩,oJ R3.o R1.o aj F hm⟩⟩;have hn:=yz (B:=B) (i:=2) (u:=.slice (γ (aM g 0)) (m1+1) N) (Nam.put D1.o D2.o D3.o Zf.o) RR.o F G3.o;simpa using hn
theorem KN{w M B m0 m1 m2}{l:List ByteArray}{bs:List (iA×Hd)}(h:BSt w M B l m0 m1 m2 bs)(x)(Z:l.length<=1000)(hm:m2<=1000):
  Calls prog 77 #[aN B 0,Un x] w fun e w'=>e=.returned (.int .i64 (if eH l x.name=0 then (if ky x=ε then 0 else 2) else eH l x.name))/\Below M w w'/\((if eH l x.name=0 then (if ky x=ε then 0 else 2) else eH l x.name)=0->BSt w' M B (l++[x.name]) m0 m1 (m2+1) bs):=by
 have HB:=aW (h.ext (Ext.new w (.cells #[x.name,x.emf,x.z1.r,x.z1.x,x.z0.r,x.z0.x] 83)));generalize hr:(if eH l x.name=0 then (if ky x=ε then 0 else 2) else eH l x.name)=en;have HE:=aW hr;clear hr;generalize O:eH l x.name=ne at HE;have T:=aW O;have J:=h.ord;have ZB:B<w.heap.size:=by obtain⟨_,_,_,_,_,_,hb,_⟩:=h;exact hb.lt
 have Zr:Hid (Below M w (aL w #[x.name,x.emf,x.z1.r,x.z1.x,x.z0.r,x.z0.x] 83)):=aW ((Ext.new _ _).mono aa);obtain⟨-,YW⟩:=an1 w 83 #[x.name,x.emf,x.z1.r,x.z1.x,x.z0.r,x.z0.x];have YB:=aW YW;clear YW;unfold Un;by_cases h0:ne=0
 rotate_left
 .have q0:((ne:Int) !=0)=ε:=by simp;exact h0
  have V:Hid (en=ne):=aW AdS;have HN:=aW h0;clear h O h0;go_enter acH,acv;go_wp2_with fail;refine(jw HB.o x.name).mono ?_;rintro e w1 ⟨rfl,rfl⟩;rw[T.o];exact Adj
 subst h0;have YR:=tV (xV O);have V:Hid (en=if ky x=ε then 0 else 2):=aW AdF;clear O HE;cases H:btw x.emf 1 1000000
 .have C:=aW H;clear H;have HV:Hid (en=2):=aW (by rw[V.o];unfold ky;rw[C.o];rfl);clear h;go_enter acH,acv;go_wp2_with fail;refine(jw HB.o x.name).mono ?_;rintro e w1 ⟨rfl,rfl⟩;rw[T.o];go_wp2_with fail;refine(dP _ _ _ _).mono ?_;rintro e w1 ⟨rfl,rfl⟩;rw[C.o];exact Adv
 cases Q:okZ x.z1
 .have C:=aW H;have F:=aW Q;clear H Q;have HV:Hid (en=2):=aW (by rw[V.o];unfold ky;rw[C.o,F.o];rfl);clear h;go_enter acH,acv;go_wp2_with fail;refine(jw HB.o x.name).mono ?_;rintro e w1 ⟨rfl,rfl⟩;rw[T.o];go_wp2_with fail;refine(dP _ _ _ _).mono ?_;rintro e w1 ⟨rfl,rfl⟩;rw[C.o];go_wp2_with fail;refine(cZ x.z1 _).mono ?_;rintro e w1 ⟨rfl,rfl⟩;rw[F.o];exact AdD
 cases YP:okZ x.z0
 .have C:=aW H;have F:=aW Q;have YS:=aW YP;clear H Q YP;have HV:Hid (en=2):=aW (by rw[V.o];unfold ky;rw[C.o,F.o,YS.o];rfl);clear h;go_enter acH,acv;go_wp2_with fail;refine(jw HB.o x.name).mono ?_;rintro e w1 ⟨rfl,rfl⟩;rw[T.o];go_wp2_with fail;refine(dP _ _ _ _).mono ?_;rintro e w1 ⟨rfl,rfl⟩;rw[C.o];go_wp2_with fail;refine(cZ x.z1 _).mono ?_;rintro e w1 ⟨rfl,rfl⟩;rw[F.o];go_wp2_with fail;refine(cZ x.z0 _).mono ?_;rintro e w1 ⟨rfl,rfl⟩;rw[YS.o];exact Ac6
 have C:=aW H;have F:=aW Q;have YS:=aW YP;clear H Q YP;have HV:Hid (en=0):=aW (by rw[V.o];unfold ky;rw[C.o,F.o,YS.o];rfl);have j:Ext w (aL (aL (aL w #[x.name,x.emf,x.z1.r,x.z1.x,x.z0.r,x.z0.x] 83) #[x.z1.r,x.z1.x] 54) #[x.z0.r,x.z0.x] 54):=(Ext.new _ _).trans (show Ext (aL w #[x.name,x.emf,x.z1.r,x.z1.x,x.z0.r,x.z0.x] 83) (aL (aL (aL w #[x.name,x.emf,x.z1.r,x.z1.x,x.z0.r,x.z0.x] 83) #[x.z1.r,x.z1.x] 54) #[x.z0.r,x.z0.x] 54) from ((Ext.new _ _).alloc _));have Zh:Hid (Below M w (aL (aL (aL w #[x.name,x.emf,x.z1.r,x.z1.x,x.z0.r,x.z0.x] 83) #[x.z1.r,x.z1.x] 54) #[x.z0.r,x.z0.x] 54)):=aW (j.mono aa);have Zg:=aW (YB.ext (show Ext (aL w #[x.name,x.emf,x.z1.r,x.z1.x,x.z0.r,x.z0.x] 83) (aL (aL (aL w #[x.name,x.emf,x.z1.r,x.z1.x,x.z0.r,x.z0.x] 83) #[x.z1.r,x.z1.x] 54) #[x.z0.r,x.z0.x] 54) from ((Ext.new _ _).alloc _)));obtain⟨_,hN,v0,v1,v2,v3,hb,⟨x0,r0⟩,⟨x1,r1⟩,⟨x2,r2⟩,r3⟩:=h;have Zp:Hid (∀g,v2.ownBlock=γ g->g<w.heap.size):=aW (fun g e=>(r2.lt g e).2);replace hN:=hN.ext j;replace hb:=hb.ext j;replace r0:=eY r0 j;replace r1:=eY r1 j;replace r2:=eY r2 j;replace r3:=eY r3 j;obtain⟨D,d1,d2,d3⟩:=hN;have Zl:=aW hb;have R0:=aW r0;have R1:=aW r1;have R2:=aW r2;have R3:=aW r3;have D1:=aW d1;have D2:=aW d2;have D3:=aW d3;have Zj:=hb.lt;have Y1:=aX.blk hb;have Y2:=aX.blk Zg.o;clear hb r0 r1 r2 r3 d1 d2 d3;go_enter acH,acv;go_wp2_with fail;refine(jw HB.o x.name).mono ?_;rintro e w1 ⟨rfl,rfl⟩;rw[T.o];go_wp2_with fail;refine(dP _ _ _ _).mono ?_;rintro e w1 ⟨rfl,rfl⟩;rw[C.o];go_wp2_with fail;refine(cZ x.z1 _).mono ?_;rintro e w1 ⟨rfl,rfl⟩;rw[F.o];go_wp2_with fail;refine(cZ x.z0 _).mono ?_;rintro e w1 ⟨rfl,rfl⟩;rw[YS.o];go_wp2_with fail;refine bO 6 [(ε,0),(ε,4),(ε,5),(ζ,1),(ε,2),(ε,3)] ah ah ?_;refine bD [0,4,5] [(ζ,1),(ε,2),(ε,3)] _ ah ?_;refine Gq ?_;refine bC 1 [(ε,2),(ε,3)] ah ?_;intro K I;simp only[bJ];go_wp2_with fail;refine I _ _ ⟨⟨_,(Ext.refl _).drew⟩,rfl⟩ ?_;clear I K;refine bD [2,3] [] _ ah ?_;refine Gq ?_;simp only[dh,ξ,τ];clear Y1 Y2;(go_wp2_with (first|(at_mapUpdate;refine abQ _ rfl _ _ _ 183 rfl 9 4 BV abz (plainElem prog 4) M l.length D rfl D1.drew AdC _ _ (.string x.name.data.toList) rfl rfl (Tg YR) (.lit (.bool ε)) [] (ab4 aaP ε) ?_)));intro w2 YG G;have YF:=gQ G (Zl.drew) AbS;have P:=gQ G (Zg.drew) AbS;have G2:Hid ((((w.alloc (.cells #[x.name,x.emf,x.z1.r,x.z1.x,x.z0.r,x.z0.x] 83)).alloc (.cells #[x.z1.r,x.z1.x] 54)).alloc (.cells #[x.z0.r,x.z0.x] 54)).grownBy w2 (γ M)):=aW ⟨G.os,G.tape,G.output,G.size,G.block⟩;have r2:w2.ownsRow (B+1) 83 6 v2 m2 x2:=R2.kept G2.o (.inr (fun e=>by have:=(R2.lt M e).1;omega));have RR:=aW r2;have Zf:=aW YG;have YD:=YF.lt;have R:=P.lt;have Y1:=fun(x:oG w2 [B,w.heap.size])=>x.blk YF ag;have Y2:=fun(x:oG w2 [B,w.heap.size])=>x.blk P ag;have U:=aW YF;have W:=aW P;clear YF P r2 YG G;go_wp2_with fail;refine oH 9 7 (fun w'=>∃x:oG w2 [B,w.heap.size],w'=x.val) [(ε,0),(ε,1),(ε,6),(ζ,2),(ε,3),(ε,4),(ε,5)] [(ζ,8)] ah ah ⟨⟨w2.drew,fun _ _=>rfl⟩,rfl⟩ ?_;refine gK [0,1,6] [(ζ,2),(ε,3),(ε,4),(ε,5)] _ ah ?_;refine Gq ?_;refine nJ 2 [(ε,3),(ε,4),(ε,5)] ah ah ?pA ?pB
 case' pA=>
  intro K I;simp only[bJ];go_wp2_with fail;refine I _ _ ⟨⟨w2.drew,fun _ _=>rfl⟩,rfl⟩ ?_;clear I K;refine gK [3,4,5] [] _ ah ?_;refine Gq ?_;refine qp ah ?_;intro K I;simp only[bJ];go_wp2_with fail;refine I _ _ ⟨⟨w2.drew.alloc (.cells #[x.name,x.emf,x.z1.r,x.z1.x,x.z0.r,x.z0.x] 83),fun b hb=>aar _ _ b AcA⟩,rfl⟩ ?_;clear I K
 case' pB=>
  intro K I;simp only[bJ];go_wp2_with fail;refine I _ _ ⟨⟨w2.drew.alloc (.cells #[x.name,x.emf,x.z1.r,x.z1.x,x.z0.r,x.z0.x] 83),fun b hb=>aar _ _ b AcA⟩,rfl⟩ ?_;clear I K;show dh _ _ _ _ [(ζ,2),(ε,3),(ε,4),(ε,5),(ζ,8)] _ _;refine bC 2 [(ε,3),(ε,4),(ε,5),(ζ,8)] ah ?_;intro K I;simp only[bJ];go_wp2_with fail;refine I _ _ ⟨⟨w2.drew.alloc (.cells #[x.name,x.emf,x.z1.r,x.z1.x,x.z0.r,x.z0.x] 83),fun b hb=>aar _ _ b AcA⟩,rfl⟩ ?_;clear I K;refine bD [3,4,5] [(ζ,8)] _ ah ?_;refine Gq ?_
 all_goals
  refine bC 8 [] ah ?_;intro K I;simp only[bJ];(go_wp2_with (at_builtin;refine fu Sl rfl (.tmp 40) (.tmp 42) rfl (B+1) _ m2 _ rf (acB (w:=w2.drew) RR.o _) w2.heap.size 1 1 [.string x.name,.int .i64 x.emf,.int .i64 x.z1.r,.int .i64 x.z1.x,.int .i64 x.z0.r,.int .i64 x.z0.x] rf (Blk.new w2.drew _ _) rfl AaC aa aa aa AdA ?_));intro g N w3 YI L Zc Yu;have Y:=gQ L ((U.drew).alloc _) (kK RR.o (abr _));have Yv:=gQ L ((W.drew).alloc _) (fun e=>by have:=Zp.o _ e;omega);have k3:=Y.cell;have f3:=Y.frozen;have Zd:=Y.lt;have Yy:=aW Y;have YA:=aW Yv;have G3:Hid ((w2.alloc (.cells #[x.name,x.emf,x.z1.r,x.z1.x,x.z0.r,x.z0.x] 83)).grownBy w3 v2.ownBlock):=aW ⟨L.os,L.tape,L.output,L.size,L.block⟩;have Za:=aW YI;clear Y Yv L YI Zc Yu;go_wp2_with fail;refine I _ _ ⟨⟨w3,fun b hb=>by
   simp at hb;rcases hb with rfl|rfl
   .exact(Yy.o).trans U.symm
   .exact(YA.o).trans W.symm⟩,rfl⟩ ?_
  clear I K Y1 Y2;simp only[dh,ξ,τ];go_wp2;go_ret;have hm:=step_mod (B:=B) (i:=3) (u:=.slice (γ (aM g 0)) (m2+1) N) G2.o G3.o;refine⟨aZ HV.symm,Zh.trans (sI R2.o J Zj hm),fun _=>⟨J,?_,_,_,_,_,Yy.qG 3 _,⟨_,oJ R0.o R2.o aj J hm⟩,⟨_,oJ R1.o R2.o aj J hm⟩,⟨_,mJ Za.o (Mod.only (S:=fun k=>k=B) (Only.set _ _ _ _) rfl) (fun g' YH=>by have:=(Za.lt g' YH).1;omega)⟩,oJ R3.o R2.o aj J hm⟩⟩;have hn:=yz (B:=B) (i:=3) (u:=.slice (γ (aM g 0)) (m2+1) N) (Nam.put D1.o D2.o D3.o Zf.o) RR.o J G3.o;simpa using hn
theorem JX{w M B m0 m1 m2}{l:List ByteArray}{bs:List (iA×Hd)}(h:BSt w M B l m0 m1 m2 bs)(b A n c)(hL:Lks w A n b.links)(hm:m0<=1000):
    CE 118 #[aN B 0,Al b A n c] w (.int .i64 (iM m0 b)):=by
  have Z:=hL.1;have HL:=aW hL;clear hL;have H:=aW Z;clear Z;obtain⟨_,_,v0,v1,v2,v3,hb,⟨x0,r0⟩,_⟩:=h;obtain⟨A0,c0,rfl,_,_,_⟩:=jH r0;have Zj:=hb.lt;have Zl:=aW hb;clear r0 hb;unfold Al;by_cases h1:n<1
  · have d1:decide ((n:Int)<1)=ε:=ae;have V:Hid (iM m0 b=3):=aW (rW (Or.inl AdB));exact Acy
  have d1:decide ((n:Int)<1)=ζ:=ae;by_cases h2:2<n
  · have d2:decide ((2:Int)<n)=ε:=ae;have V:Hid (iM m0 b=3):=aW (rW (Or.inr (Or.inl AdB)));exact Acy
  have d2:decide ((2:Int)<n)=ζ:=ae;by_cases h3:b.kind=3/\n≠2
  · obtain⟨hk,Zp⟩:=h3;have d3:((b.kind:Int)==3)=ε:=by simp[hk]
    have d4:((n:Int) !=2)=ε:=ae;have V:Hid (iM m0 b=3):=aW (rW (Or.inr (Or.inr ⟨hk,by have:=H.o;omega⟩)));clear Zp hk;exact Acy
  have V:Hid (iM m0 b=dX (iX m0 b) n):=aW (by
    have hh:=H.o;have e:=EX (nb:=m0) (x:=b) aa aa (fun hk=>by
      by_cases e:n=2
      · omega
      · exact absurd (And.intro hk e) h3)
    rw[hh] at e;exact e)
  have H3:=aW h3;clear h3;have hd:(∃k3:Bool,((b.kind:Int)==3)=k3/\(k3=ε->((n:Int) !=2)=ζ)):=⟨_,rfl,fun h=>by
    have hk:b.kind=3:=by simpa using h
    have:=H3.o;simp;omega⟩
  obtain⟨k3,d3,d4⟩:=hd;cases k3
  (all_goals (first|(replace d4:=d4 rfl)|clear d4));all_goals
    obtain⟨E0,B3⟩:=an1 w 57 #[b.name,b.kind,b.obj,b.en,b.z.r,b.z.x,aO A n c,b.closed,b.ct,b.vt,b.sat,b.travel];have U:=aW (Zl.ext E0);have Yy:=aW B3;have D:=aW E0;clear B3 E0;go_enter func118,ntmps118;go_wp2_with fail
    go_loopw [29] (fun i wr=>∃k:Nat,k<=n/\i=.int .i64 (k:Int)/\(∀j,j<k->iX m0 b j=0)/\Ext (aL w #[b.name,b.kind,b.obj,b.en,b.z.r,b.z.x,aO A n c,b.closed,b.ct,b.vt,b.sat,b.travel] 57) wr) (aT n)
    case atStart=>exact⟨0,aa,rfl,by intros;omega,Ext.refl _⟩
    case round=>
      obtain⟨k,hk,rfl,hz,J⟩:=hrel;have HZ:=aW hz;have HX:=aW J;have YF:=U.ext J;have Y:=Yy.ext J;have k2:=YF.cell;have k3:=Y.cell;have YA:B<wr.heap.size:=YF.lt;have YY:w.heap.size<wr.heap.size:=Y.lt;clear hz J YF Y;by_cases Yu:k<n
      · have hd:decide ((k:Int)<n)=ε:=ae;obtain⟨lb,lo,hA,hb,hc⟩:=(HL.ext (D.trans HX.o)).2.at_ Yu;subst hA;have e0:wr.cell? (aM lb (lo+k*2))=γ (.int .i64 (b.links.getD k η).bus):=hc 0 _ rfl;have e1:=hc 1 _ rfl;clear hc;have C:Hid (iX m0 b k=if btw (b.links.getD k η).bus 0 ((m0:Int)-1)=ε then
    (if (b.links.getD k η).pos≠1/\((b.links.getD k η).pos≠0\/b.kind=3) then 16
     else if 0<k/\(b.links.getD (k-1) η).bus=(b.links.getD k η).bus then 12 else 0)
  else 9):=aW rfl
        generalize b.links.getD k η=lk at e0 e1 C;obtain⟨bus,pos⟩:=lk;dsimp only at e0 e1 C;have F:IntKind.i64.wrap ((m0:Int)-1)=(m0:Int)-1:=aa3 _ aa;by_cases YM:btw bus 0 ((m0:Int)-1)=ε
        rotate_left
        · have O:btw bus 0 ((m0:Int)-1)=ζ:=by simpa using YM
          have P:=aW O;clear O;have W:Hid (iX m0 b k=9):=aW (by rw[C.o,θ YM]);clear YM;have HW:=aW (fun w:World=>(dP bus 0 ((m0:Int)-1) w).mono (fun e w1 hh=>And.intro hh.1 hh.2.symm));rw[P.o] at HW;exact Aan
        have HW:=aW (fun w:World=>(dP bus 0 ((m0:Int)-1) w).mono (fun e w1 hh=>And.intro hh.1 hh.2.symm));rw[YM] at HW;have G:Hid (¬(pos≠1/\(pos≠0\/b.kind=3))->iX m0 b k=if 0<k/\(b.links.getD (k-1) η).bus=bus then 12 else 0):=aW (fun h=>by
          rw[C.o,ι YM,θ h])
        have L:Hid ((pos≠1/\(pos≠0\/b.kind=3))->iX m0 b k=16):=aW (fun h=>by
          rw[C.o,ι YM,ι h])
        clear C YM;by_cases hp:pos=1
        · subst hp;by_cases Yv:k=0
          · subst Yv;rw[aaV,I6] at e0 e1;have W:Hid (iX m0 b 0=0):=aW (by rw[G.o ag,θ aa]);go_wp2_with fail;go_quiet ((go_at_call 116;exact aa0 (HW.o _)));clear F;go_wp2_with fail;go_quiet (fail);go_wp2;go_roundw
            case rel=>exact⟨1,aa,rfl,gX HZ.o W.o,(HX.alloc _).drewN _⟩
            case measure=>exact aV
          · obtain rfl:k=1:=aa;obtain⟨K,N,hA,YT,hc⟩:=(HL.ext (D.trans HX.o)).2.at_ (show 0<n by omega);simp only[aax,acg,ac3] at hA;obtain⟨rfl,rfl⟩:=hA;have f0:wr.cell? (aM lb lo)=γ (.int .i64 (b.links.getD 0 η).bus):=by
              exact Adl
            clear hc;rw[show lo+1*2=lo+2 from rfl] at e0 e1;by_cases S:(b.links.getD 0 η).bus=bus
            · have W:Hid (iX m0 b 1=12):=aW (by rw[G.o ag,ι ⟨aa,S⟩]);exact AbR
            · have W:Hid (iX m0 b 1=0):=aW (by rw[G.o ag,θ (fun h=>S h.2)]);generalize (b.links.getD 0 η).bus=b0 at f0 S;have q5:((b0:Int)==bus)=ζ:=ae;clear S;go_wp2_with fail;go_quiet ((go_at_call 116;exact aa0 (HW.o _)));clear F;go_wp2_with fail;go_quiet (fail);go_wp2;go_roundw
              case rel=>exact⟨2,aa,rfl,gX HZ.o W.o,(HX.alloc _).drewN _⟩
              case measure=>exact aV
        by_cases I:pos=0
        · subst I;by_cases YQ:b.kind=3
          · first
            |(exfalso;simp[YQ] at d3;done)
            |
              skip;have W:Hid (iX m0 b k=16):=aW (L.o ⟨aj,Or.inr YQ⟩);exact Aan
          · first
            |(exfalso;simp at d3;exact YQ d3)
            |
              skip;by_cases Yv:k=0
              · subst Yv;rw[aaV,I6] at e0 e1;have W:Hid (iX m0 b 0=0):=aW (by rw[G.o (by simp;exact YQ),θ aa]);go_wp2_with fail;go_quiet ((go_at_call 116;exact aa0 (HW.o _)));clear F;go_wp2_with fail;go_quiet (fail);go_wp2;go_roundw
                case rel=>exact⟨1,aa,rfl,gX HZ.o W.o,(HX.alloc _).drewN _⟩
                case measure=>exact aV
              · obtain rfl:k=1:=aa;obtain⟨K,N,hA,YT,hc⟩:=(HL.ext (D.trans HX.o)).2.at_ (show 0<n by omega);simp only[aax,acg,ac3] at hA;obtain⟨rfl,rfl⟩:=hA;have f0:wr.cell? (aM lb lo)=γ (.int .i64 (b.links.getD 0 η).bus):=by
                  exact Adl
                clear hc;rw[show lo+1*2=lo+2 from rfl] at e0 e1;by_cases S:(b.links.getD 0 η).bus=bus
                · have W:Hid (iX m0 b 1=12):=aW (by rw[G.o (by simp;exact YQ),ι ⟨aa,S⟩]);exact AbR
                · have W:Hid (iX m0 b 1=0):=aW (by rw[G.o (by simp;exact YQ),θ (fun h=>S h.2)]);generalize (b.links.getD 0 η).bus=b0 at f0 S;have q5:((b0:Int)==bus)=ζ:=ae;clear S;go_wp2_with fail;go_quiet ((go_at_call 116;exact aa0 (HW.o _)));clear F;go_wp2_with fail;go_quiet (fail);go_wp2;go_roundw
                  case rel=>exact⟨2,aa,rfl,gX HZ.o W.o,(HX.alloc _).drewN _⟩
                  case measure=>exact aV
        · have q6:((pos:Int)==1)=ζ:=by simp;exact hp
          have T:((pos:Int) !=1)=ε:=by simp;exact hp
          have R:((pos:Int)==0)=ζ:=by simp;exact I
          have Q:((pos:Int) !=0)=ε:=by simp;exact I
          have W:Hid (iX m0 b k=16):=aW (L.o ⟨hp,Or.inl I⟩);clear hp I;exact Aan
      · obtain rfl:k=n:=aa;go_wp2;go_ret;exact⟨aZ (by rw[V.o];exact(dI HZ.o).symm),D.trans HX.o⟩
def Q4:Elem prog 25 57 12 120:=afa underlying25 (z:=.agg #[ByteArray.empty,aJ,aJ,aJ,aJ,aJ,(),ζ,aJ,aJ,aJ,aJ]) ah rfl aa
def Fb (l:List ByteArray) (m0 m1 m2:Nat) (bs:List (iA×Hd)) (b:iA):Int:=
 if eH l b.name=0 then (if jK m1 m2 b=0 then (if dA b=ε then (if oM (bs.map Prod.fst) b=ε then 12 else iM m0 b) else 2) else jK m1 m2 b) else eH l b.name
def Uc(bs:List (iA×Hd)){k t}(j:k<bs.length)(B:t<12):(bs.flatMap fun x=>ji x.1 x.2)[k*12+t]? =(ji (bs[k]).1 (bs[k]).2)[t]? :=by
 induction bs generalizing k with
 |nil=>simp at j
 |cons x bs ih=>
  rw[List.flatMap_cons];have Z:(ji x.1 x.2).length=12:=rfl;cases k with
  |zero=>
   rw[Ω (by rw[Z];omega)];simp
  |succ k=>
   rw[nG (by rw[Z];omega),Z,show(k+1)*12+t-12=k*12+t by omega];rw[ih (by simpa using j)];rfl
theorem Vt{w:World}{B n}{v:Value}{bs:List (iA×Hd)}(h:w.ownsRow B 57 12 v n (bs.flatMap fun x=>ji x.1 x.2))(hn:n=bs.length){k}(D:k<bs.length):
  ∃g,v.ownBlock=γ g/\g<w.heap.size/\(∃c,v=.slice (γ (aM g 0)) n c)/\∀t u,t<12->(ji (bs[k]).1 (bs[k]).2)[t]? =γ u->w.cell? (aM g (k*12+t))=γ u:=by
 subst hn;rcases h.2 with ⟨_,G⟩|⟨g,N,cur,rfl,hb,C,_⟩
 .omega
 .refine⟨g,rfl,(abb.1 C).1,⟨N,rfl⟩,fun t u j F=> ?_⟩;have:=h.cells (g:=g) rfl (k*12+t) u ((Uc bs D j).trans F);rwa[show(Addr.add ⟨g,0,δ⟩ (k*12+t))=⟨g,k*12+t,δ⟩ by unfold Addr.add;split<;>simp_all] at this
theorem Vb{bs:List (iA×Hd)}{b}(h:∀j (B:j<bs.length),mQ b (bs[j]).1=ζ):oM (bs.map Prod.fst) b=ζ:=by
 unfold oM;have:(bs.map Prod.fst).any (mQ b)=ζ:=by
  rw[List.any_eq_false];intro x J;obtain⟨y,R,rfl⟩:=aab.1 J;obtain⟨j,B,rfl⟩:=acC R;rw[h j B];decide
 rw[this,Bool.and_false]
theorem QC{bs:List (iA×Hd)}{b}(C:b.kind≠3){j}(B:j<bs.length)(h:mQ b (bs[j]).1=ε):oM (bs.map Prod.fst) b=ε:=by
 unfold oM;have:(bs.map Prod.fst).any (mQ b)=ε:=by
  rw[List.any_eq_true];exact⟨(bs[j]).1,aaK (abt B),h⟩
 rw[this,Bool.and_true,Λ C]
theorem U1{w M B m0 m1 m2}{l:List ByteArray}{bs:List (iA×Hd)}(h:BSt w M B l m0 m1 m2 bs)(b hd)(hL:Lks w hd.A hd.n b.links)(Z:l.length<=1000)(hm:m0<=1000/\m1<=1000/\m2<=1000/\bs.length<=1000):
    Calls prog 79 #[aN B 0,Al b hd.A hd.n hd.c] w fun e w'=>e=.returned (.int .i64 (Fb l m0 m1 m2 bs b))/\Below M w w'/\(Fb l m0 m1 m2 bs b=0->BSt w' M B (l++[b.name]) m0 m1 m2 (bs++[(b,hd)])):=by
  obtain⟨Zm,Zk,YT,ZU⟩:=hm;have HL:=aW hL;clear hL;have H:=aW h;have HB:=aW (h.ext (Ext.new w (.cells #[b.name,b.kind,b.obj,b.en,b.z.r,b.z.x,aO hd.A hd.n hd.c,b.closed,b.ct,b.vt,b.sat,b.travel] 57)));generalize hr:Fb l m0 m1 m2 bs b=en;unfold Fb at hr;have HE:=aW hr;clear hr;generalize O:eH l b.name=ne at HE;have YX:=aW O;have Yz:=h.ord;obtain⟨_,_,v0,v1,v2,v3,hb,⟨x0,r0⟩,⟨x1,r1⟩,⟨x2,r2⟩,r3⟩:=h;obtain⟨A1,c1,rfl,_,_,_⟩:=jH r1;obtain⟨A2,c2,rfl,_,_,_⟩:=jH r2;have ZB:B<w.heap.size:=hb.lt;have YJ:=hb.ext (Ext.new w (.cells #[b.name,b.kind,b.obj,b.en,b.z.r,b.z.x,aO hd.A hd.n hd.c,b.closed,b.ct,b.vt,b.sat,b.travel] 57));have kB:=YJ.cell;have Zl:=aW YJ;have R3:=aW r3;have Zr:Hid (Below M w (aL w #[b.name,b.kind,b.obj,b.en,b.z.r,b.z.x,aO hd.A hd.n hd.c,b.closed,b.ct,b.vt,b.sat,b.travel] 57)):=aW ((Ext.new _ _).mono aa);have YC:Hid (Ext w (aL w #[b.name,b.kind,b.obj,b.en,b.z.r,b.z.x,aO hd.A hd.n hd.c,b.closed,b.ct,b.vt,b.sat,b.travel] 57)):=aW (Ext.new _ _);obtain⟨-,YW⟩:=an1 w 57 #[b.name,b.kind,b.obj,b.en,b.z.r,b.z.x,aO hd.A hd.n hd.c,b.closed,b.ct,b.vt,b.sat,b.travel];have YB:=aW YW;clear YW hb YJ r0 r1 r2 r3;unfold Al;have NM:=aW (jw HB.o b.name);rw[YX.o] at NM;by_cases h0:ne=0
  rotate_left
  · have q0:((ne:Int) !=0)=ε:=by simp;exact h0
    have V:Hid (en=ne):=aW AdS;have HN:=aW h0;clear O h0;go_enter acI,acw;go_wp2_with fail;refine NM.mono ?_;rintro e w1 ⟨rfl,rfl⟩;exact Adj
  subst h0;have YR:=tV (xV O);have V:Hid (en=(if jK m1 m2 b=0 then (if dA b=ε then (if oM (bs.map Prod.fst) b=ε then 12 else iM m0 b) else 2) else jK m1 m2 b)):=aW AdF;clear O HE;by_cases h1:b.kind=1\/b.kind=2\/b.kind=3
  rotate_left
  · have q1:((b.kind:Int)==1)=ζ:=ae;have q2:((b.kind:Int)==2)=ζ:=ae;have q3:((b.kind:Int)==3)=ζ:=ae;have ho:jK m1 m2 b=10:=by unfold jK;rw[θ aa,θ aa,θ aa]
    have HV:Hid (en=10):=aW (by rw[V.o,ho];rfl);clear ho h1;go_enter acI,acw;go_wp2_with fail;refine NM.mono ?_;rintro e w1 ⟨rfl,rfl⟩;exact Adv
  have ZE:∃(cnt:Nat) (C k2 k3:Bool),cnt<=1000/\((b.kind:Int)==1)=C/\((b.kind:Int)==2)=k2/\((b.kind:Int)==3)=k3/\((b.kind:Int) !=3)= !k3/\jK m1 m2 b=(if btw b.obj 0 ((cnt:Int)-1)=ε then 0 else 9)/\(k3=decide (b.kind=3))/\
      ((C=ε/\k3=ζ/\cnt=m1)\/(C=ζ/\k2=ε/\k3=ζ/\cnt=m2)\/(C=ζ/\k2=ζ/\k3=ε/\cnt=1)):=by
    rcases h1 with h1|h1|h1
    · exact⟨m1,ε,ζ,ζ,Zk,by simp[h1],by simp[h1],by simp[h1],by simp[h1],by unfold jK;rw[ι h1],by simp[h1],.inl ⟨rfl,rfl,rfl⟩⟩
    · exact⟨m2,ζ,ε,ζ,YT,by simp[h1],by simp[h1],by simp[h1],by simp[h1],by unfold jK;rw[θ aa,ι h1],by simp[h1],.inr (.inl ⟨rfl,rfl,rfl,rfl⟩)⟩
    · exact⟨1,ζ,ζ,ε,aa,by simp[h1],by simp[h1],by simp[h1],by simp[h1],by
        unfold jK;rw[θ aa,θ aa,ι h1];by_cases h0:b.obj=0
        · rw[ι h0,ι Acx]
        · rw[θ h0,θ Acx],by simp[h1],.inr (.inr ⟨rfl,rfl,rfl,rfl⟩)⟩
  obtain⟨cnt,C,k2,k3,ZC,q1,q2,q3,q4,ho,YQ,YV⟩:=ZE;clear h1;have T:=aW ho;clear ho;have HW:=aW (fun w:World=>dP b.obj 0 ((cnt:Int)-1) w);have Q:=aW (fun w:World=>J7 b hd.A hd.n hd.c w);generalize YN:btw b.obj 0 ((cnt:Int)-1)=bo at T HW;have ZA:=aW YQ;clear YQ YN;generalize Zi:dA b=rg at V Q;clear Zi;rcases YV with ⟨rfl,rfl,rfl⟩|⟨rfl,rfl,rfl,rfl⟩|⟨rfl,rfl,rfl,rfl⟩
  all_goals
    cases bo
    · have HV:Hid (en=9):=aW (by rw[V.o,T.o];rfl);go_enter acI,acw;go_wp2_with fail;refine NM.mono ?_;rintro e w1 ⟨rfl,rfl⟩;go_wp2_with fail;refine(HW.o _).mono ?_;rintro e w1 ⟨rfl,rfl⟩;exact Adv
    cases rg
    · have HV:Hid (en=2):=aW (by rw[V.o,T.o];rfl);go_enter acI,acw;go_wp2_with fail;refine NM.mono ?_;rintro e w1 ⟨rfl,rfl⟩;go_wp2_with fail;refine(HW.o _).mono ?_;rintro e w1 ⟨rfl,rfl⟩;go_wp2_with fail;refine(Q.o _).mono ?_;rintro e w2 ⟨rfl,J⟩;have HX:=aW J;clear J;go_wp2;go_ret;exact⟨aZ HV.symm,Zr.trans (HX.mono ae),fun e=>absurd (HV.symm.trans e) aj⟩
    have HV:Hid (en=if oM (bs.map Prod.fst) b=ε then 12 else iM m0 b):=aW (by rw[V.o,T.o];rfl);go_enter acI,acw;go_wp2_with fail;refine NM.mono ?_;rintro e w1 ⟨rfl,rfl⟩;go_wp2_with fail;refine(HW.o _).mono ?_;rintro e w1 ⟨rfl,rfl⟩;go_wp2_with fail;refine(Q.o _).mono ?_;rintro e w2 ⟨rfl,J⟩;have HX:=aW J;have ZG:=(Zl.ext J).cell;clear kB J V T HW Q NM YX;obtain⟨A3,c3,Zy,_,_,_⟩:=jH R3.o;have Zx:=aW Zy;rw[Zy] at ZG;clear Zy;go_wp2_with fail;clear ZG;go_loopw [52] (fun i wr=>∃k:Nat,k<=bs.length/\i=.int .i64 (k:Int)/\(b.kind≠3->∀j (hj:j<bs.length),j<k->mQ b (bs[j]).1=ζ)/\Ext (aL w #[b.name,b.kind,b.obj,b.en,b.z.r,b.z.x,aO hd.A hd.n hd.c,b.closed,b.ct,b.vt,b.sat,b.travel] 57) wr) (aT bs.length)
    case atStart=>exact⟨0,aa,rfl,by intros;omega,HX.o⟩
    case round=>
      clear HX;obtain⟨k,hk,rfl,hz,J⟩:=hrel;have HZ:=aW hz;have HX:=aW J;have Zv:=YB.ext J;have kX:=Zv.cell;have YY:w.heap.size<wr.heap.size:=Zv.lt;clear hz J Zv;by_cases Yu:k<bs.length
      · have Ze:decide (k<bs.length)=ε:=ae;obtain⟨g,YO,G,⟨cc,L⟩,hc⟩:=Vt (eY R3.o (YC.trans HX.o)) rfl Yu;rw[Zx.o] at L;injection L with Z7 _ _;subst Z7;have e0:wr.cell? (aM g (k*12))=γ (.string (bs[k]).1.name):=hc 0 _ aa rfl;have e1:wr.cell? (aM g (k*12+1))=γ (.int .i64 (bs[k]).1.kind):=hc 1 _ aa rfl;have e2:wr.cell? (aM g (k*12+2))=γ (.int .i64 (bs[k]).1.obj):=hc 2 _ aa rfl;have e3:wr.cell? (aM g (k*12+3))=γ (.int .i64 (bs[k]).1.en):=hc 3 _ aa rfl;have e4:wr.cell? (aM g (k*12+4))=γ (.int .i64 (bs[k]).1.z.r):=hc 4 _ aa rfl;have e5:wr.cell? (aM g (k*12+5))=γ (.int .i64 (bs[k]).1.z.x):=hc 5 _ aa rfl;have e6:wr.cell? (aM g (k*12+6))=γ (.slice (bs[k]).2.A (bs[k]).2.n (bs[k]).2.c):=hc 6 _ aa rfl;have e7:wr.cell? (aM g (k*12+7))=γ (.bool (bs[k]).1.closed):=hc 7 _ aa rfl;have e8:wr.cell? (aM g (k*12+8))=γ (.int .i64 (bs[k]).1.ct):=hc 8 _ aa rfl;have e9:wr.cell? (aM g (k*12+9))=γ (.int .i64 (bs[k]).1.vt):=hc 9 _ aa rfl;have Yx:wr.cell? (aM g (k*12+10))=γ (.int .i64 (bs[k]).1.sat):=hc 10 _ aa rfl;have YE:wr.cell? (aM g (k*12+11))=γ (.int .i64 (bs[k]).1.travel):=hc 11 _ aa rfl;have ZH:=aW (rfl:(bs[k]).1=(bs[k]).1);clear hc YO;generalize R:(bs[k]).1=y at e0 e1 e2 e3 e4 e5 e7 e8 e9 Yx YE;generalize (bs[k]).2=ZJ at e6;have HY:=aW R;clear R ZH;by_cases g1:b.kind=y.kind
        rotate_left
        · have t1:((b.kind:Int)==y.kind)=ζ:=by simp;exact g1
          have HN:Hid (mQ b (bs[k]).1=ζ):=aW (by rw[HY.o];exact rO (.inl g1));clear g1
          first
          |
            have YQ:b.kind≠3:=by simpa using q3
            skip;(
             have YU:=aW YQ;clear YQ;go_wp2_with fail
             go_roundw
             case rel=>exact⟨k+1,aa,au,fun h j hj YM=>by
               by_cases e:j=k
               · subst e;exact HN.o
               · exact HZ.o h j hj aa,HX.alloc _⟩
             case measure=>simp[aT,intOf];omega)
          |(have YQ:b.kind=3:=AdE;have YU:=aW YQ;clear YQ;go_wp2_with fail;go_roundw;(case rel=>exact⟨k+1,aa,au,fun h=>absurd YU.o h,HX.alloc _⟩);(case measure=>simp[aT,intOf];omega))
        have t1:((b.kind:Int)==y.kind)=ε:=by simp;exact g1
        by_cases g2:b.obj=y.obj
        rotate_left
        · have t2:((b.obj:Int)==y.obj)=ζ:=by simp;exact g2
          have HN:Hid (mQ b (bs[k]).1=ζ):=aW (by rw[HY.o];exact rO (.inr (.inl g2)));clear g1 g2
          first
          |
            have YQ:b.kind≠3:=by simpa using q3
            skip;(
             have YU:=aW YQ;clear YQ;go_wp2_with fail
             go_roundw
             case rel=>exact⟨k+1,aa,au,fun h j hj YM=>by
               by_cases e:j=k
               · subst e;exact HN.o
               · exact HZ.o h j hj aa,HX.alloc _⟩
             case measure=>simp[aT,intOf];omega)
          |(have YQ:b.kind=3:=AdE;have YU:=aW YQ;clear YQ;go_wp2_with fail;go_roundw;(case rel=>exact⟨k+1,aa,au,fun h=>absurd YU.o h,HX.alloc _⟩);(case measure=>simp[aT,intOf];omega))
        have t2:((b.obj:Int)==y.obj)=ε:=by simp;exact g2
        by_cases g3:b.en=y.en
        rotate_left
        · have t3:((b.en:Int)==y.en)=ζ:=by simp;exact g3
          have HN:Hid (mQ b (bs[k]).1=ζ):=aW (by rw[HY.o];exact rO (.inr (.inr g3)));clear g1 g2 g3
          first
          |
            have YQ:b.kind≠3:=by simpa using q3
            skip;(
             have YU:=aW YQ;clear YQ;go_wp2_with fail
             go_roundw
             case rel=>exact⟨k+1,aa,au,fun h j hj YM=>by
               by_cases e:j=k
               · subst e;exact HN.o
               · exact HZ.o h j hj aa,HX.alloc _⟩
             case measure=>simp[aT,intOf];omega)
          |(have YQ:b.kind=3:=AdE;have YU:=aW YQ;clear YQ;go_wp2_with fail;go_roundw;(case rel=>exact⟨k+1,aa,au,fun h=>absurd YU.o h,HX.alloc _⟩);(case measure=>simp[aT,intOf];omega))
        have t3:((b.en:Int)==y.en)=ε:=by simp;exact g3
        have HN:Hid (mQ b (bs[k]).1=ε):=aW (by rw[HY.o];exact Et g1 g2 g3);clear g1 g2 g3
        first
        |(have YQ:b.kind≠3:=AdE;have HC:Hid (en=12):=aW (by rw[HV.o,ι (QC YQ Yu HN.o)]);clear YQ;go_wp2_with fail;go_ret;exact⟨aZ HC.symm,Zr.trans ((HX.alloc _).mono ae),fun e=>absurd (HC.symm.trans e) aj⟩)
        |(have YQ:b.kind=3:=AdE;have YU:=aW YQ;clear YQ;go_wp2_with fail;go_roundw;(case rel=>exact⟨k+1,aa,au,fun h=>absurd YU.o h,HX.alloc _⟩);(case measure=>simp[aT,intOf];omega))
      · obtain rfl:bs.length=k:=aa;have HC:Hid (en=iM m0 b):=aW (by
          rw[HV.o,θ];by_cases YQ:b.kind=3
          · unfold oM;rw[ρ (fun h=>h YQ)];simp
          · rw[Vb (fun j hj=>HZ.o YQ j hj hj)];decide)
        clear Yu HV;go_wp2_with fail;refine(JX (HB.ext HX.o) b hd.A hd.n hd.c (HL.ext (YC.trans HX.o)) Zm).mono ?_;rintro e w4 ⟨rfl,J⟩;rw[<-HC.o];have YS:=YC.trans (HX.trans J);have YZ:=aW (HX.trans J);clear J;by_cases Zw:en=0
        rotate_left
        · have q0:((en:Int) !=0)=ε:=by simp;exact Zw
          have HN:=aW Zw;clear Zw;have YP:=aW YS;clear YS;go_wp2_with fail;go_ret;exact⟨rfl,YP.mono aa,fun e=>absurd e HN.o⟩
        · subst Zw;clear kX;obtain⟨_,hN,Zt,Zq,ZI,Zz,YK,⟨y0,r0⟩,⟨y1,r1⟩,⟨y2,r2⟩,r3⟩:=H.o;have Zp:Hid (∀g,Zz.ownBlock=γ g->g<w.heap.size):=aW (fun g e=>(r3.lt g e).2);replace hN:=hN.ext YS;replace YK:=YK.ext YS;replace r0:=eY r0 YS;replace r1:=eY r1 YS;replace r2:=eY r2 YS;replace r3:=eY r3 YS;obtain⟨D,d1,d2,d3⟩:=hN;have Yw:=YB.ext YZ.o;have Zh:Hid (Below M w w4):=aW (YS.mono aa);have Zg:=aW Yw;have ZF:=aW YK;have R0:=aW r0;have R1:=aW r1;have R2:=aW r2;have Zo:=aW r3;have D1:=aW d1;have D2:=aW d2;have D3:=aW d3;have Zj:=YK.lt;have Y1:=aX.blk YK;have Y2:=aX.blk Yw;clear YK Yw r0 r1 r2 r3 d1 d2 d3 YS;go_wp2_with fail;refine bO 6 [(ε,0),(ε,4),(ε,5),(ζ,1),(ε,2),(ε,3)] ah ah ?_;refine bD [0,4,5] [(ζ,1),(ε,2),(ε,3)] _ ah ?_;refine Gq ?_;refine bC 1 [(ε,2),(ε,3)] ah ?_;intro K I;simp only[bJ];go_wp2_with fail;refine I _ _ ⟨⟨_,(Ext.refl _).drew⟩,rfl⟩ ?_;clear I K;refine bD [2,3] [] _ ah ?_;refine Gq ?_;simp only[dh,ξ,τ];clear Y1 Y2;(go_wp2_with (first|(at_mapUpdate;refine abQ _ rfl _ _ _ 183 rfl 9 4 BV abz (plainElem prog 4) M l.length D rfl D1.drew AdC _ _ (.string b.name.data.toList) rfl rfl (Tg YR) (.lit (.bool ε)) [] (ab4 aaP ε) ?_)));intro w2 YG G;have YF:=gQ G (ZF.drew) AbS;have P:=gQ G (Zg.drew) AbS;have G2:Hid (w4.grownBy w2 (γ M)):=aW ⟨G.os,G.tape,G.output,G.size,G.block⟩;have r2:w2.ownsRow (B+1) 57 12 Zz bs.length (bs.flatMap fun x=>ji x.1 x.2):=Zo.kept G2.o (.inr (fun e=>by have:=(Zo.lt M e).1;omega));have RR:=aW r2;have Zf:=aW YG;have YD:=YF.lt;have YL:=P.lt;have Y1:=fun(x:oG w2 [B,w.heap.size])=>x.blk YF ag;have Y2:=fun(x:oG w2 [B,w.heap.size])=>x.blk P ag;have U:=aW YF;have W:=aW P;clear YF P r2 YG G;go_wp2_with fail;refine oH 9 7 (fun w'=>∃x:oG w2 [B,w.heap.size],w'=x.val) [(ε,0),(ε,1),(ε,6),(ζ,2),(ε,3),(ε,4),(ε,5)] [(ζ,8)] ah ah ⟨⟨w2.drew,fun _ _=>rfl⟩,rfl⟩ ?_;refine gK [0,1,6] [(ζ,2),(ε,3),(ε,4),(ε,5)] _ ah ?_;refine Gq ?_;refine nJ 2 [(ε,3),(ε,4),(ε,5)] ah ah ?_ ?_;all_goals
            first
            |
              intro K I;simp only[bJ];go_wp2_with fail;refine I _ _ ⟨⟨w2.drew,fun _ _=>rfl⟩,rfl⟩ ?_;clear I K;refine gK [3,4,5] [] _ ah ?_;refine Gq ?_;refine qp ah ?_;intro K I;simp only[bJ];go_wp2_with fail;refine I _ _ ⟨⟨w2.drew.alloc (.cells #[b.name,b.kind,b.obj,b.en,b.z.r,b.z.x,aO hd.A hd.n hd.c,b.closed,b.ct,b.vt,b.sat,b.travel] 57),fun b hb=>aar _ _ b Ac2⟩,rfl⟩ ?_;clear I K
            |
              intro K I;simp only[bJ];go_wp2_with fail;refine I _ _ ⟨⟨w2.drew.alloc (.cells #[b.name,b.kind,b.obj,b.en,b.z.r,b.z.x,aO hd.A hd.n hd.c,b.closed,b.ct,b.vt,b.sat,b.travel] 57),fun b hb=>aar _ _ b Ac2⟩,rfl⟩ ?_;clear I K;show dh _ _ _ _ [(ζ,2),(ε,3),(ε,4),(ε,5),(ζ,8)] _ _;refine bC 2 [(ε,3),(ε,4),(ε,5),(ζ,8)] ah ?_;intro K I;simp only[bJ];go_wp2_with fail;refine I _ _ ⟨⟨w2.drew.alloc (.cells #[b.name,b.kind,b.obj,b.en,b.z.r,b.z.x,aO hd.A hd.n hd.c,b.closed,b.ct,b.vt,b.sat,b.travel] 57),fun b hb=>aar _ _ b Ac2⟩,rfl⟩ ?_;clear I K;refine bD [3,4,5] [(ζ,8)] _ ah ?_;refine Gq ?_
            refine bC 8 [] ah ?_;intro K I;simp only[bJ];(go_wp2_with (at_builtin;refine fu Q4 rfl (.tmp 98) (.tmp 100) rfl (B+1) _ bs.length _ rf (acB (w:=w2.drew) RR.o _) w2.heap.size 1 1 [.string b.name,.int .i64 b.kind,.int .i64 b.obj,.int .i64 b.en,.int .i64 b.z.r,.int .i64 b.z.x,.slice hd.A hd.n hd.c,.bool b.closed,.int .i64 b.ct,.int .i64 b.vt,.int .i64 b.sat,.int .i64 b.travel] rf (Blk.new w2.drew _ _) rfl AaC aa aa aa AdA ?_));intro g N w3 YI L Zc Yu;have Y:=gQ L ((U.drew).alloc _) (kK RR.o (abr _));have Yv:=gQ L ((W.drew).alloc _) (fun e=>by have:=Zp.o _ e;omega);have k3:=Y.cell;have f3:=Y.frozen;have Zd:=Y.lt;have Yy:=aW Y;have YA:=aW Yv;have G3:Hid ((w2.alloc (.cells #[b.name,b.kind,b.obj,b.en,b.z.r,b.z.x,aO hd.A hd.n hd.c,b.closed,b.ct,b.vt,b.sat,b.travel] 57)).grownBy w3 Zz.ownBlock):=aW ⟨L.os,L.tape,L.output,L.size,L.block⟩;have Za:=aW YI;clear Y Yv L YI Zc Yu;go_wp2_with fail;refine I _ _ ⟨⟨w3,fun b hb=>by
              simp at hb;rcases hb with rfl|rfl
              · exact(Yy.o).trans U.symm
              · exact(YA.o).trans W.symm⟩,rfl⟩ ?_
            clear I K Y1 Y2;simp only[dh,ξ,τ];go_wp2;go_ret;have Zn:=step_mod (B:=B) (i:=4) (u:=.slice (γ (aM g 0)) (bs.length+1) N) G2.o G3.o;have F:=mJ Za.o (Mod.only (S:=fun k=>k=B) (Only.set _ B 4 (.slice (γ (aM g 0)) (bs.length+1) N)) rfl) (fun g' YH=>by have:=(Za.lt g' YH).1;omega);refine⟨rfl,Zh.trans (sI Zo.o Yz Zj Zn),⟨Yz,?_,_,_,_,_,Yy.qG 4 _,⟨_,oJ R0.o Zo.o aj Yz Zn⟩,⟨_,oJ R1.o Zo.o aj Yz Zn⟩,⟨_,oJ R2.o Zo.o aj Yz Zn⟩,?_⟩⟩
            · have hn:=yz (B:=B) (i:=4) (u:=.slice (γ (aM g 0)) (bs.length+1) N) (Nam.put D1.o D2.o D3.o Zf.o) RR.o Yz G3.o;simpa using hn
            · rw[adH,pz];exact F
def mZ (s:StD) (L:Nat->Hd) (k:Nat):List (iA×Hd):=(List.range k).map fun i=>(s.bays.getD i η,L i)
theorem zZ(s L k):mZ s L (k+1)=mZ s L k++[(s.bays.getD k η,L k)]:=by
 unfold mZ;rw[abV,aaq];rfl
theorem JU(s L k):(mZ s L k).length=k:=by unfold mZ;simp
def Dl{s L}:∀{k:Nat},k<=s.bays.length->(mZ s L k).map Prod.fst=s.bays.take k
 |0,_=>by simp[mZ]
 |k+1,h=>by
  rw[zZ,aaq,Dl aa,kY aa];rfl
def Lc{w0 w M B A0 n0 c0 A1 n1 c1 A2 n2 c2 A3 n3 c3 L s}(hs:lI w0 A0 n0 c0 A1 n1 c1 A2 n2 c2 A3 n3 c3 L s)(N:Below M w0 w)(hM:w0.heap.size<=M)(g0:n0<=4)(g1:n1<=6)(g2:n2<=4)(g3:n3<=16)(V:BSt w M B (nms s 0 0 0 0) 0 0 0 []):
  Calls prog 72 #[aO A0 n0 c0,.func (Fn.func 73) #[aN B 0] #[]] w fun e w'=>e=.returned (.int .i64 (dX (wG s) n0))/\Below M w w'/\(dX (wG s) n0=0->BSt w' M B (nms s n0 0 0 0) n0 0 0 []):=by
 have G:s.buses.length=n0:=hs.buses.len;have S:=hs.l1;have YW:=hs.l2;have YH:=hs.l3;have YR:=hs.mx;have HS:=aW hs;have HB:=aW V;have H:=aW N;have YJ:=aW G;have T:=aW S;have Yy:=aW YW;have Z:=aW YH;obtain⟨m0,m1,m2,m3⟩:=YR;have K:M<w.heap.size:=V.nm.lt;clear hs V N G S YW YH;go_enter func72,ntmps72;go_wp2_with fail
 go_loopw [10] (fun i wr=>∃k:Nat,k<=n0/\i=.int .i64 (k:Int)/\(∀j,j<k->wG s j=0)/\BSt wr M B (nms s k 0 0 0) k 0 0 []/\Below M w wr) (aT n0)
 case atStart=>exact⟨0,aa,rfl,by intros;omega,HB.o,acl _ _⟩
 case round=>
  clear HB;obtain⟨k,hk,rfl,hz,V,J⟩:=hrel;have HZ:=aW hz;have HB:=aW V;have HX:=aW J;have Q:M<wr.heap.size:=V.nm.lt;have Zl:B<wr.heap.size:=by obtain⟨_,_,_,_,_,_,hb,_⟩:=V;exact hb.lt
  have R:=aW (HS.ext (w':=wr) ((H.trans J).mono hM));clear hz V J;by_cases Yu:k<n0
  .have hd:decide (k<n0)=ε:=ae;obtain⟨ad,hA,hb,e0⟩:=R.buses.getD Yu;have HN:Hid (nms s (k+1) 0 0 0=nms s k 0 0 0++[s.buses.getD k η]):=aW (by
    rw[Qu,Qu];exact kY Ac9)
   have C:Hid (wG s k=eH (nms s k 0 0 0) (s.buses.getD k η)):=aW rfl;generalize s.buses.getD k η=x at e0 C HN;subst hA;go_wp2_with fail;refine(TS HB.o x (by rw[Au Ac9 (q9 _) (q9 _) (q9 _)];omega) aa).mono ?_;rintro e w2 ⟨rfl,P,YG⟩;rw[<-C.o];rw[<-C.o,<-HN.o] at YG;have W:=aW (HX.trans P);have U:=aW YG;clear P YG;generalize D:wG s k=I at C U;have F:=aW D;clear D C;by_cases O:I=0
   rotate_left
   .have q0:((I:Int) !=0)=ε:=by simp;exact O
    have HE:=aW O;clear O;have Y:Hid (I=dX (wG s) n0):=aW (dO HZ.o F.o HE.o Yu);exact AaO
   .subst O;have YF:=U.o rfl;have Zc:=aW YF;clear YF U;go_wp2_with fail
    go_roundw
    case rel=>exact⟨k+1,aa,au,gX HZ.o F.o,Zc.o,W.o⟩
    case measure=>exact aV
  .obtain rfl:n0=k:=aa;exact AbU
def Ko{w0 w M B A0 n0 c0 A1 n1 c1 A2 n2 c2 A3 n3 c3 L s}(hs:lI w0 A0 n0 c0 A1 n1 c1 A2 n2 c2 A3 n3 c3 L s)(N:Below M w0 w)(hM:w0.heap.size<=M)(g0:n0<=4)(g1:n1<=6)(g2:n2<=4)(g3:n3<=16)(V:BSt w M B (nms s n0 0 0 0) n0 0 0 []):
  Calls prog 74 #[aO A1 n1 c1,.func (Fn.func 75) #[aN B 0] #[]] w fun e w'=>e=.returned (.int .i64 (dX (mP s) n1))/\Below M w w'/\(dX (mP s) n1=0->BSt w' M B (nms s n0 n1 0 0) n0 n1 0 []):=by
 have G:s.buses.length=n0:=hs.buses.len;have S:=hs.l1;have YW:=hs.l2;have YH:=hs.l3;have YR:=hs.mx;have HS:=aW hs;have HB:=aW V;have H:=aW N;have YJ:=aW G;have T:=aW S;have Yy:=aW YW;have Z:=aW YH;obtain⟨m0,m1,m2,m3⟩:=YR;have K:M<w.heap.size:=V.nm.lt;clear hs V N G S YW YH;go_enter func74,ntmps74;go_wp2_with fail
 go_loopw [10] (fun i wr=>∃k:Nat,k<=n1/\i=.int .i64 (k:Int)/\(∀j,j<k->mP s j=0)/\BSt wr M B (nms s n0 k 0 0) n0 k 0 []/\Below M w wr) (aT n1)
 case atStart=>exact⟨0,aa,rfl,by intros;omega,HB.o,acl _ _⟩
 case round=>
  clear HB;obtain⟨k,hk,rfl,hz,V,J⟩:=hrel;have HZ:=aW hz;have HB:=aW V;have HX:=aW J;have Q:M<wr.heap.size:=V.nm.lt;have Zl:B<wr.heap.size:=by obtain⟨_,_,_,_,_,_,hb,_⟩:=V;exact hb.lt
  have R:=aW (HS.ext (w':=wr) ((H.trans J).mono hM));clear hz V J;by_cases Yu:k<n1
  .have hd:decide (k<n1)=ε:=ae;obtain⟨lb,lo,hA,hb,hc⟩:=R.lines.at_ Yu;have e0:wr.cell? (aM lb (lo+k*5))=γ (.string (s.lines.getD k η).name):=hc 0 _ rfl;have e1:=hc 1 _ rfl;have e2:=hc 2 _ rfl;have e3:=hc 3 _ rfl;have e4:=hc 4 _ rfl;clear hc;have HN:Hid (nms s n0 (k+1) 0 0=nms s n0 k 0 0++[(s.lines.getD k η).name]):=aW (VA Ads);have C:Hid (mP s k=if eH (nms s n0 k 0 0) (s.lines.getD k η).name=0 then (if (okZ (s.lines.getD k η).z1&&okZ (s.lines.getD k η).z0)=ε then 0 else 2) else eH (nms s n0 k 0 0) (s.lines.getD k η).name):=aW (by rw[<-YJ.o];rfl);generalize s.lines.getD k η=x at e0 e1 e2 e3 e4 C HN;subst hA;go_wp2_with fail;refine(SV (HB.ext (Ext.new _ _)) x (by rw[Au Ac9 Ads (q9 _) (q9 _)];omega) aa).mono ?_;rintro e w2 ⟨rfl,P,YG⟩;rw[<-C.o];rw[<-C.o,<-HN.o] at YG;have W:=aW ((HX.trans ((Ext.new wr _).mono aa)).trans P);have U:=aW YG;clear P YG;generalize D:mP s k=I at C U;have F:=aW D;clear D C;by_cases O:I=0
   rotate_left
   .have q0:((I:Int) !=0)=ε:=by simp;exact O
    have HE:=aW O;clear O;have Y:Hid (I=dX (mP s) n1):=aW (dO HZ.o F.o HE.o Yu);exact AaO
   .subst O;have YF:=U.o rfl;have Zc:=aW YF;clear YF U;go_wp2_with fail
    go_roundw
    case rel=>exact⟨k+1,aa,au,gX HZ.o F.o,Zc.o,W.o⟩
    case measure=>exact aV
  .obtain rfl:n1=k:=aa;exact AbU
def LP{w0 w M B A0 n0 c0 A1 n1 c1 A2 n2 c2 A3 n3 c3 L s}(hs:lI w0 A0 n0 c0 A1 n1 c1 A2 n2 c2 A3 n3 c3 L s)(N:Below M w0 w)(hM:w0.heap.size<=M)(g0:n0<=4)(g1:n1<=6)(g2:n2<=4)(g3:n3<=16)(V:BSt w M B (nms s n0 n1 0 0) n0 n1 0 []):
  Calls prog 76 #[aO A2 n2 c2,.func (Fn.func 77) #[aN B 0] #[]] w fun e w'=>e=.returned (.int .i64 (dX (uO s) n2))/\Below M w w'/\(dX (uO s) n2=0->BSt w' M B (nms s n0 n1 n2 0) n0 n1 n2 []):=by
 have G:s.buses.length=n0:=hs.buses.len;have S:=hs.l1;have YW:=hs.l2;have YH:=hs.l3;have YR:=hs.mx;have HS:=aW hs;have HB:=aW V;have H:=aW N;have YJ:=aW G;have T:=aW S;have Yy:=aW YW;have Z:=aW YH;obtain⟨m0,m1,m2,m3⟩:=YR;have K:M<w.heap.size:=V.nm.lt;clear hs V N G S YW YH;go_enter func76,ntmps76;go_wp2_with fail
 go_loopw [10] (fun i wr=>∃k:Nat,k<=n2/\i=.int .i64 (k:Int)/\(∀j,j<k->uO s j=0)/\BSt wr M B (nms s n0 n1 k 0) n0 n1 k []/\Below M w wr) (aT n2)
 case atStart=>exact⟨0,aa,rfl,by intros;omega,HB.o,acl _ _⟩
 case round=>
  clear HB;obtain⟨k,hk,rfl,hz,V,J⟩:=hrel;have HZ:=aW hz;have HB:=aW V;have HX:=aW J;have Q:M<wr.heap.size:=V.nm.lt;have Zl:B<wr.heap.size:=by obtain⟨_,_,_,_,_,_,hb,_⟩:=V;exact hb.lt
  have R:=aW (HS.ext (w':=wr) ((H.trans J).mono hM));clear hz V J;by_cases Yu:k<n2
  .have hd:decide (k<n2)=ε:=ae;obtain⟨lb,lo,hA,hb,hc⟩:=R.srcs.at_ Yu;have e0:wr.cell? (aM lb (lo+k*6))=γ (.string (s.srcs.getD k η).name):=hc 0 _ rfl;have e1:=hc 1 _ rfl;have e2:=hc 2 _ rfl;have e3:=hc 3 _ rfl;have e4:=hc 4 _ rfl;have e5:=hc 5 _ rfl;clear hc;have HN:Hid (nms s n0 n1 (k+1) 0=nms s n0 n1 k 0++[(s.srcs.getD k η).name]):=aW (VE (by have:=Yy.o;omega));have C:Hid (uO s k=if eH (nms s n0 n1 k 0) (s.srcs.getD k η).name=0 then (if ky (s.srcs.getD k η)=ε then 0 else 2) else eH (nms s n0 n1 k 0) (s.srcs.getD k η).name):=aW (by rw[<-YJ.o,<-T.o];rfl);generalize s.srcs.getD k η=x at e0 e1 e2 e3 e4 e5 C HN;subst hA;go_wp2_with fail;refine(KN (HB.ext (Ext.new _ _)) x (by rw[Au Ac9 Ads (by have:=Yy.o;omega) (q9 _)];omega) aa).mono ?_;rintro e w2 ⟨rfl,P,YG⟩;rw[<-C.o];rw[<-C.o,<-HN.o] at YG;have W:=aW ((HX.trans ((Ext.new wr _).mono aa)).trans P);have U:=aW YG;clear P YG;generalize D:uO s k=I at C U;have F:=aW D;clear D C;by_cases O:I=0
   rotate_left
   .have q0:((I:Int) !=0)=ε:=by simp;exact O
    have HE:=aW O;clear O;have Y:Hid (I=dX (uO s) n2):=aW (dO HZ.o F.o HE.o Yu);exact AaO
   .subst O;have YF:=U.o rfl;have Zc:=aW YF;clear YF U;go_wp2_with fail
    go_roundw
    case rel=>exact⟨k+1,aa,au,gX HZ.o F.o,Zc.o,W.o⟩
    case measure=>exact aV
  .obtain rfl:n2=k:=aa;exact AbU
theorem KT{w0 w M B A0 n0 c0 A1 n1 c1 A2 n2 c2 A3 n3 c3 L s}(hs:lI w0 A0 n0 c0 A1 n1 c1 A2 n2 c2 A3 n3 c3 L s)(N:Below M w0 w)(hM:w0.heap.size<=M)(g0:n0<=4)(g1:n1<=6)(g2:n2<=4)(g3:n3<=16)(hB:BSt w M B (nms s n0 n1 n2 0) n0 n1 n2 (mZ s L 0)):
  Calls prog 78 #[aO A3 n3 c3,.func (Fn.func 79) #[aN B 0] #[]] w fun e w'=>e=.returned (.int .i64 (dX (wP s) n3))/\Below M w w'/\(dX (wP s) n3=0->BSt w' M B (nms s n0 n1 n2 n3) n0 n1 n2 (mZ s L n3)):=by
 have G:s.buses.length=n0:=hs.buses.len;have S:=hs.l1;have YW:=hs.l2;have YH:=hs.l3;have YR:=hs.mx;have HS:=aW hs;have HB:=aW hB;have H:=aW N;have YJ:=aW G;have T:=aW S;have Yy:=aW YW;have Z:=aW YH;obtain⟨m0,m1,m2,m3⟩:=YR;have K:M<w.heap.size:=hB.nm.lt;clear hs hB N G S YW YH;go_enter func78,ntmps78;go_wp2_with fail
 go_loopw [10] (fun i wr=>∃k:Nat,k<=n3/\i=.int .i64 (k:Int)/\(∀j,j<k->wP s j=0)/\BSt wr M B (nms s n0 n1 n2 k) n0 n1 n2 (mZ s L k)/\Below M w wr) (aT n3)
 case atStart=>exact⟨0,aa,rfl,by intros;omega,HB.o,acl _ _⟩
 case round=>
  clear HB;obtain⟨k,hk,rfl,hz,hB,J⟩:=hrel;have HZ:=aW hz;have HB:=aW hB;have HX:=aW J;have Q:M<wr.heap.size:=hB.nm.lt;have Zl:B<wr.heap.size:=by obtain⟨_,_,_,_,_,_,hb,_⟩:=hB;exact hb.lt
  have R:=aW (HS.ext (w':=wr) ((H.trans J).mono hM));clear hz hB J;by_cases Yu:k<n3
  .have hd:decide (k<n3)=ε:=ae;obtain⟨lb,lo,hA,hb,e0,e1,e2,e3,e4,e5,e6,e7,e8,e9,Yx,YE⟩:=R.bays.bay Yu;have YP:=aW (R.links k Yu);have HN:Hid (nms s n0 n1 n2 (k+1)=nms s n0 n1 n2 k++[(s.bays.getD k η).name]):=aW (VU AcD);have V:Hid (wP s k=Fb (nms s n0 n1 n2 k) n0 n1 n2 (mZ s L k) (s.bays.getD k η)):=aW (by
    have h3:=Z.o;unfold Fb;rw[Dl aa,<-YJ.o,<-T.o,<-Yy.o];rfl)
   have C:Hid (mZ s L (k+1)=mZ s L k++[(s.bays.getD k η,L k)]):=aW (zZ s L k);generalize s.bays.getD k η=x at e0 e1 e2 e3 e4 e5 e6 e7 e8 e9 Yx YE V HN YP C;generalize L k=hh at e0 e1 e2 e3 e4 e5 e6 e7 e8 e9 Yx YE YP C;subst hA;go_wp2_with fail;refine(U1 (HB.ext (Ext.new _ _)) x hh (YP.ext (Ext.new _ _)) (by rw[Au Ac9 Ads (by have:=Yy.o;omega) AcD];omega) ⟨aa,aa,aa,by rw[JU];omega⟩).mono ?_;rintro e w2 ⟨rfl,P,YG⟩;rw[<-V.o];rw[<-V.o,<-HN.o,<-C.o] at YG;have W:=aW ((HX.trans ((Ext.new wr _).mono aa)).trans P);have U:=aW YG;clear P YG;generalize D:wP s k=I at V U;have F:=aW D;clear D V;by_cases O:I=0
   rotate_left
   .have q0:((I:Int) !=0)=ε:=by simp;exact O
    have HE:=aW O;clear O;have Y:Hid (I=dX (wP s) n3):=aW (dO HZ.o F.o HE.o Yu);exact AaO
   .subst O;have YF:=U.o rfl;have Zc:=aW YF;clear YF U;go_wp2_with fail
    go_roundw
    case rel=>exact⟨k+1,aa,au,gX HZ.o F.o,Zc.o,W.o⟩
    case measure=>exact aV
  .obtain rfl:n3=k:=aa;exact AbU
def WZ(w):Calls prog 71 #[] w fun e w'=>∃M,w.heap.size=M/\e=.returned (.pointer (γ (aM (M+1) 0)))/\BSt w' M (M+1) [] 0 0 0 []/\Ext w w':=
 (Bo w).mono fun e w' ⟨B,j,C⟩=>⟨_,rfl,B,j,C⟩
theorem zX{A0 n0 c0 A1 n1 c1 A2 n2 c2 A3 n3 c3 L s}(w)(hs:lI w A0 n0 c0 A1 n1 c1 A2 n2 c2 A3 n3 c3 L s):
  CE 40 #[stV s.name A0 n0 c0 A1 n1 c1 A2 n2 c2 A3 n3 c3] w (.int .i64 (chk s)):=by
 have Q:∀(fn:Fn) (first N:Array Value) (w:World),(Instr.makeFunc fn first N).run prog w=.ok (.func fn first N) w:=fun _ _ _ _=>rfl;have F:∀w:World,Calls prog 70 #[s.name] w fun e w'=>e=.returned (.bool (ik s.name))/\w=w':=fun w=>(JK s.name w).mono (fun e w' hh=>⟨hh.1,hh.2.symm⟩);have NM:=aW F;clear F;have G:s.buses.length=n0:=hs.buses.len;have S:=hs.l1;have YW:=hs.l2;have YH:=hs.l3;have HS:=aW (hs.ext (Ext.new w (.cells #[s.name,aO A0 n0 c0,aO A1 n1 c1,aO A2 n2 c2,aO A3 n3 c3] 27)));clear hs;unfold stV;have D:Hid (Ext w (aL w #[s.name,aO A0 n0 c0,aO A1 n1 c1,aO A2 n2 c2,aO A3 n3 c3] 27)):=aW (Ext.new _ _);cases hn:ik s.name
 .have V:Hid (chk s=7):=aW (VM hn);rw[hn] at NM;clear G S YW YH;exact Aat
 rw[hn] at NM;cases hc:tX s
 .have V:Hid (chk s=3):=aW (VJ hn hc);have Za:¬(1<=n0/\n0<=4/\n1<=6/\n2<=4/\n3<=16):=by
   exact Ada
  clear G S YW YH hc;have HC:=aW Za;clear Za;by_cases U:n0=0
  .have d0:((n0:Int)==0)=ε:=ae;clear U;exact Aat
  have d0:((n0:Int)==0)=ζ:=ae;by_cases t1:4<n0
  .have d1:decide ((4:Int)<n0)=ε:=ae;clear t1;exact Aat
  have d1:decide ((4:Int)<n0)=ζ:=ae;by_cases t2:6<n1
  .have d2:decide ((6:Int)<n1)=ε:=ae;clear t2;exact Aat
  have d2:decide ((6:Int)<n1)=ζ:=ae;by_cases t3:4<n2
  .have d3:decide ((4:Int)<n2)=ε:=ae;clear t3;exact Aat
  have d3:decide ((4:Int)<n2)=ζ:=ae;by_cases t4:16<n3
  .have d4:decide ((16:Int)<n3)=ε:=ae;clear t4;exact Aat
  exact Ado
 have V:=aW (RF hn hc);have YV:1<=n0/\n0<=4/\n1<=6/\n2<=4/\n3<=16:=by
  unfold tX at hc;rw[G,S,YW,YH] at hc;simp at hc;omega
 obtain⟨g0,O,g1,g2,g3⟩:=YV;clear hc;rw[G,S,YW,YH] at V;clear G S YW YH;have d0:((n0:Int)==0)=ζ:=ae;have d1:decide ((4:Int)<n0)=ζ:=ae;have d2:decide ((6:Int)<n1)=ζ:=ae;have d3:decide ((4:Int)<n2)=ζ:=ae;have d4:decide ((16:Int)<n3)=ζ:=ae;obtain⟨-,Yw⟩:=ah1 w 27 #[s.name,aO A0 n0 c0,aO A1 n1 c1,aO A2 n2 c2,aO A3 n3 c3];go_enter func40,ntmps40;go_wp2_with fail;refine(NM.o _).mono ?_;rintro e w1 ⟨rfl,rfl⟩;go_wp2_with fail;refine(WZ _).mono ?_;rintro e w1 ⟨M,hM,rfl,W,J⟩;have HM:=aW hM;have R:Hid (Below M (aL w #[s.name,aO A0 n0 c0,aO A1 n1 c1,aO A2 n2 c2,aO A3 n3 c3] 27) w1):=aW (hM ▸ J);have T:=aW W;have K:w.heap.size<M:=by rw[<-hM];simp
 have C:=(Yw.ext J).cell;clear hM J W d0 d1 d2 d3 d4;go_wp2_with fail;refine(Lc HS.o R.o AcH O g1 g2 g3 T.o).mono ?_;rintro e w2 ⟨rfl,J,W⟩;generalize Y:dX (wG s) n0=en at W;have H:=aW Y;clear Y;have j:=aW (R.trans J);have B:=aW W;clear J W R C;have R:=j;clear j;have C:=(show Blk w2 w.heap.size 27 #[s.name,aO A0 n0 c0,aO A1 n1 c1,aO A2 n2 c2,aO A3 n3 c3] from Yw.below R.o K).cell;by_cases h0:en=0
 rotate_left
 .have q0:((en:Int)==0)=ζ:=by simp;exact h0
  have HV:Hid (chk s=en):=aW (by
   rw[V.o];rw[θ (by rw[H.o];exact h0),H.o])
  exact AbV
 subst h0;have Z:=B.o rfl;clear T B;have T:=aW Z;clear Z;go_wp2_with fail;refine(Ko HS.o R.o AcH O g1 g2 g3 T.o).mono ?_;rintro e w2 ⟨rfl,J,W⟩;generalize Y:dX (mP s) n1=en at W;have I:=aW Y;clear Y;have j:=aW (R.trans J);have B:=aW W;clear J W R C;have R:=j;clear j;have C:=(show Blk w2 w.heap.size 27 #[s.name,aO A0 n0 c0,aO A1 n1 c1,aO A2 n2 c2,aO A3 n3 c3] from Yw.below R.o K).cell;by_cases h0:en=0
 rotate_left
 .have q0:((en:Int)==0)=ζ:=by simp;exact h0
  have HV:Hid (chk s=en):=aW (by
   rw[V.o];rw[ι H.o];rw[θ (by rw[I.o];exact h0),I.o])
  exact AbV
 subst h0;have Z:=B.o rfl;clear T B;have T:=aW Z;clear Z;go_wp2_with fail;refine(LP HS.o R.o AcH O g1 g2 g3 T.o).mono ?_;rintro e w2 ⟨rfl,J,W⟩;generalize Y:dX (uO s) n2=en at W;have P:=aW Y;clear Y;have j:=aW (R.trans J);have B:=aW W;clear J W R C;have R:=j;clear j;have C:=(show Blk w2 w.heap.size 27 #[s.name,aO A0 n0 c0,aO A1 n1 c1,aO A2 n2 c2,aO A3 n3 c3] from Yw.below R.o K).cell;by_cases h0:en=0
 rotate_left
 .have q0:((en:Int)==0)=ζ:=by simp;exact h0
  have HV:Hid (chk s=en):=aW (by
   rw[V.o];rw[ι H.o];rw[ι I.o];rw[θ (by rw[P.o];exact h0),P.o])
  exact AbV
 subst h0;have Z:=B.o rfl;clear T B;have T:=aW Z;clear Z;go_wp2_with fail;refine(KT HS.o R.o AcH O g1 g2 g3 T.o).mono ?_;rintro e w2 ⟨rfl,J,W⟩;generalize Y:dX (wP s) n3=en at W;have F3:=aW Y;clear Y;have j:=aW (R.trans J);have B:=aW W;clear J W R C;have R:=j;clear j;have C:=(show Blk w2 w.heap.size 27 #[s.name,aO A0 n0 c0,aO A1 n1 c1,aO A2 n2 c2,aO A3 n3 c3] from Yw.below R.o K).cell;go_wp2;go_ret;exact⟨aZ (by rw[V.o,ι H.o,ι I.o,ι P.o,F3.o]),D.trans (R.mono (by rw[<-HM.o];exact κ _))⟩
def nU (f:eD):Value:=.agg #[f.kind,f.line,f.obj,f.num,f.den,f.r]
section
variable {nb nl:Nat} {f:eD}
theorem Ru(h:f.kind=0/\f.line=ζ/\f.obj=0/\f.num=0/\f.den=0/\f.r=0):fD nb nl f=0:=by
 have:f=⟨0,ζ,0,0,0,0⟩:=by obtain⟨a,b,c,d,e,g⟩:=f;simp at h⊢;exact h
 unfold fD;rw[ι this]
theorem mo(j:¬(f.kind=0/\f.line=ζ/\f.obj=0/\f.num=0/\f.den=0/\f.r=0))(h:¬(1<=f.kind/\f.kind<=10)):fD nb nl f=10:=by
 unfold fD;rw[θ (fun e=>j (by rw[e];simp)),θ (by rw[fJ];exact h)]
theorem Am(j:1<=f.kind/\f.kind<=10):fD nb nl f=(if btw f.obj 0 ((if f.line=ε then (nl:Int) else (nb:Int))-1)=ε then
   if f.line=ε/\(f.den<2\/16<f.den\/f.num<1\/f.den-1<f.num) then 2
   else if f.line=ζ/\(f.num≠0\/f.den≠0) then 2
   else if btw f.r 0 1000=ε then 0 else 2
  else 9):=by
 have B:f≠⟨0,ζ,0,0,0,0⟩:=fun e=>by rw[e] at j;simp at j
 unfold fD;rw[θ B,ι (by rw[fJ];exact j)]
def uP(j:1<=f.kind/\f.kind<=10)(cnt:Nat)(hc:(if f.line=ε then (nl:Int) else (nb:Int))=(cnt:Int))(h:f.obj<0\/(cnt:Int)<=f.obj):fD nb nl f=9:=by
 rw[Am j,hc,θ Acx]
def uN(j:1<=f.kind/\f.kind<=10)(Z:f.line=ε)(B:¬(f.obj<0\/(nl:Int)<=f.obj))(h:f.den<2\/16<f.den\/f.num<1\/f.den-1<f.num):fD nb nl f=2:=by
 rw[Am j,ι (by rw[ι Z,fJ];omega),ι ⟨Z,h⟩]
def FY(j:1<=f.kind/\f.kind<=10)(Z:f.line=ζ)(B:¬(f.obj<0\/(nb:Int)<=f.obj))(h:f.num≠0\/f.den≠0):fD nb nl f=2:=by
 rw[Am j,ι (by rw[θ (by rw[Z];decide),fJ];omega),θ (fun e=>by rw[Z] at e;cases e.1),ι ⟨Z,h⟩]
def Gy(j:1<=f.kind/\f.kind<=10)(cnt:Nat)(hc:(if f.line=ε then (nl:Int) else (nb:Int))=(cnt:Int))(D:¬(f.obj<0\/(cnt:Int)<=f.obj))(C:f.line=ε->¬(f.den<2\/16<f.den\/f.num<1\/f.den-1<f.num))(B:f.line=ζ->¬(f.num≠0\/f.den≠0)):
  fD nb nl f=if f.r<0\/1000<f.r then 2 else 0:=by
 rw[Am j,hc,ι Acx,θ (fun e=>C e.1 e.2),θ (fun e=>B e.1 e.2)];by_cases h:f.r<0\/1000<f.r
 .rw[ι h,θ Acx]
 .rw[θ h,ι Acx]
end
theorem CB(nm){A0 n0 c0 A1 n1 c1 A2 n2 c2 A3 n3 c3}(f w):
  CE 41 #[stV nm A0 n0 c0 A1 n1 c1 A2 n2 c2 A3 n3 c3,nU f] w (.int .i64 (fD n0 n1 f)):=by
 unfold stV nU;by_cases z1:f.kind=0
 .have q1:((f.kind:Int)==0)=ε:=by simp[z1]
  have B:decide (f.kind<1)=ε:=ae;have S:=aW z1;clear z1;cases W:f.line
  rotate_left
  .have D:¬(f.kind=0/\f.line=ζ/\f.obj=0/\f.num=0/\f.den=0/\f.r=0):=fun e=>by rw[W] at e;cases e.2.1
   clear W;exact Acu
  have Z2:=aW W;clear W;by_cases U:f.obj=0
  rotate_left
  .have q3:((f.obj:Int)==0)=ζ:=by simp;exact U
   have D:¬(f.kind=0/\f.line=ζ/\f.obj=0/\f.num=0/\f.den=0/\f.r=0):=fun e=>U aa;clear U;exact Acu
  have q3:((f.obj:Int)==0)=ε:=by simp[U]
  have Z3:=aW U;clear U;by_cases O:f.num=0
  rotate_left
  .have q4:((f.num:Int)==0)=ζ:=by simp;exact O
   have D:¬(f.kind=0/\f.line=ζ/\f.obj=0/\f.num=0/\f.den=0/\f.r=0):=fun e=>O aa;clear O;exact Acu
  have q4:((f.num:Int)==0)=ε:=by simp[O]
  have I:=aW O;clear O;by_cases H:f.den=0
  rotate_left
  .have q5:((f.den:Int)==0)=ζ:=by simp;exact H
   have D:¬(f.kind=0/\f.line=ζ/\f.obj=0/\f.num=0/\f.den=0/\f.r=0):=fun e=>H aa;clear H;exact Acu
  have q5:((f.den:Int)==0)=ε:=by simp[H]
  have K:=aW H;clear H;by_cases R:f.r=0
  rotate_left
  .have q6:((f.r:Int)==0)=ζ:=by simp;exact R
   have D:¬(f.kind=0/\f.line=ζ/\f.obj=0/\f.num=0/\f.den=0/\f.r=0):=fun e=>R aa;clear R;exact Acu
  have q6:((f.r:Int)==0)=ε:=by simp[R]
  have P:=aW R;clear R;have C:Hid (fD n0 n1 f=0):=aW (Ru ⟨S.o,Z2.o,Z3.o,I.o,K.o,P.o⟩);exact Aag
 have q1:((f.kind:Int)==0)=ζ:=by simp;exact z1
 have D:¬(f.kind=0/\f.line=ζ/\f.obj=0/\f.num=0/\f.den=0/\f.r=0):=fun e=>z1 e.1;by_cases a1:f.kind<1
 .have d1:decide (f.kind<1)=ε:=ae;have C:Hid (fD n0 n1 f=10):=aW (mo D aa);exact Aag
 have d1:decide (f.kind<1)=ζ:=ae;by_cases a2:10<f.kind
 .have d2:decide (10<f.kind)=ε:=ae;have C:Hid (fD n0 n1 f=10):=aW (mo D aa);exact Aag
 have d2:decide (10<f.kind)=ζ:=ae;have hk:1<=f.kind/\f.kind<=10:=⟨aa,aa⟩;have j:=aW hk;clear hk D;cases Z:f.line
 rotate_left
 .have G:Hid (f.line=ε):=aW Z;have L:Hid ((if f.line=ε then (n1:Int) else (n0:Int))=(n1:Nat)):=aW (by rw[Z];rfl);clear Z;by_cases b1:f.obj<0
  .have d3:decide (f.obj<0)=ε:=ae;have C:Hid (fD n0 n1 f=9):=aW (uP j.o n1 L.o (.inl b1));exact Aag
  have d3:decide (f.obj<0)=ζ:=ae;by_cases b2:(n1:Int)<=f.obj
  .have d4:decide ((n1:Int)<=f.obj)=ε:=ae;have C:Hid (fD n0 n1 f=9):=aW (uP j.o n1 L.o (.inr b2));exact Aag
  have d4:decide ((n1:Int)<=f.obj)=ζ:=ae;have V:¬(f.obj<0\/(n1:Int)<=f.obj):=aa;have T:=aW V;clear V;by_cases e1:f.den<2
  .have Y:decide (f.den<2)=ε:=ae;have C:Hid (fD n0 n1 f=2):=aW (uN j.o G.o T.o (.inl e1));exact Aag
  have Y:decide (f.den<2)=ζ:=ae;by_cases J:16<f.den
  .have d6:decide (16<f.den)=ε:=ae;have C:Hid (fD n0 n1 f=2):=aW (uN j.o G.o T.o (.inr (.inl J)));exact Aag
  have d6:decide (16<f.den)=ζ:=ae;by_cases e3:f.num<1
  .have d7:decide (f.num<1)=ε:=ae;have C:Hid (fD n0 n1 f=2):=aW (uN j.o G.o T.o (.inr (.inr (.inl e3))));exact Aag
  have d7:decide (f.num<1)=ζ:=ae;by_cases e4:f.den-1<f.num
  .have d8:decide (f.den-1<f.num)=ε:=ae;have d9:decide (f.den<=f.num)=ε:=ae;have C:Hid (fD n0 n1 f=2):=aW (uN j.o G.o T.o (.inr (.inr (.inr e4))));exact Aag
  have d8:decide (f.den-1<f.num)=ζ:=ae;have d9:decide (f.den<=f.num)=ζ:=ae;have Q:=aW (Gy j.o n1 L.o T.o (fun _=>aa) (fun e=>by rw[G.o] at e;cases e));exact AbP
 .have G:Hid (f.line=ζ):=aW Z;have L:Hid ((if f.line=ε then (n1:Int) else (n0:Int))=(n0:Nat)):=aW (by rw[Z];rfl);clear Z;by_cases b1:f.obj<0
  .have d3:decide (f.obj<0)=ε:=ae;have C:Hid (fD n0 n1 f=9):=aW (uP j.o n0 L.o (.inl b1));exact Aag
  have d3:decide (f.obj<0)=ζ:=ae;by_cases b2:(n0:Int)<=f.obj
  .have d4:decide ((n0:Int)<=f.obj)=ε:=ae;have C:Hid (fD n0 n1 f=9):=aW (uP j.o n0 L.o (.inr b2));exact Aag
  have d4:decide ((n0:Int)<=f.obj)=ζ:=ae;have V:¬(f.obj<0\/(n0:Int)<=f.obj):=aa;have T:=aW V;clear V;by_cases e1:f.num=0
  rotate_left
  .have Y:((f.num:Int) !=0)=ε:=by simp;exact e1
   have HE:=aW e1;clear e1;have C:Hid (fD n0 n1 f=2):=aW (FY j.o G.o T.o (.inl HE.o));exact Aag
  have Y:((f.num:Int) !=0)=ζ:=by simp[e1]
  have N:=aW e1;clear e1;by_cases J:f.den=0
  rotate_left
  .have d6:((f.den:Int) !=0)=ε:=by simp;exact J
   have HE:=aW J;clear J;have C:Hid (fD n0 n1 f=2):=aW (FY j.o G.o T.o (.inr HE.o));exact Aag
  have d6:((f.den:Int) !=0)=ζ:=by simp[J]
  have E2:=aW J;clear J;have Q:=aW (Gy j.o n0 L.o T.o (fun e=>by rw[G.o] at e;cases e) (fun _=>by have:=N.o;have:=E2.o;omega));exact AbP
theorem Ji{A0 n0 c0 A1 n1 c1 A2 n2 c2 A3 n3 c3 L s}(w)(hs:lI w A0 n0 c0 A1 n1 c1 A2 n2 c2 A3 n3 c3 L s)(f):
  CE 10 #[stV s.name A0 n0 c0 A1 n1 c1 A2 n2 c2 A3 n3 c3,nU f] w (.int .i64 (xL s f)):=by
 have G:s.buses.length=n0:=hs.buses.len;have S:=hs.l1;have D:Hid (Ext w (aL (aL w #[s.name,aO A0 n0 c0,aO A1 n1 c1,aO A2 n2 c2,aO A3 n3 c3] 27) #[f.kind,f.line,f.obj,f.num,f.den,f.r] 33)):=aW ((Ext.new _ _).trans (Ext.new _ _));have I:=aW (hs.ext D.o);clear hs;obtain⟨-,B,U⟩:=ah2 w 27 #[s.name,aO A0 n0 c0,aO A1 n1 c1,aO A2 n2 c2,aO A3 n3 c3] 33 #[f.kind,f.line,f.obj,f.num,f.den,f.r];have V:Hid (xL s f=if chk s=0 then fD n0 n1 f else chk s):=aW (by rw[<-G,<-S];rfl);clear G S;unfold stV nU;go_enter func10,ntmps10;go_wp2_with fail;refine(zX _ I.o).mono ?_;rintro e w1 ⟨rfl,J⟩;generalize chk s=en at V;have C:=(B.ext J).cell;have K:=(U.ext J).cell;have H:=aW J;clear J;by_cases j:en=0
 .subst j;have F:Hid (xL s f=fD n0 n1 f):=aW (by rw[V.o,ι rfl]);go_wp2_with fail;refine(CB s.name f _).mono ?_;rintro e w2 ⟨rfl,J⟩;go_wp2;go_ret;exact⟨aZ F.symm,(D.trans H.o).trans J⟩
 .have q0:((en:Int) !=0)=ε:=by simp;exact j
  have F:Hid (xL s f=en):=aW (by rw[V.o,θ j]);clear j;go_wp2;go_ret;exact⟨aZ F.symm,D.trans H.o⟩
theorem G9{A0 n0 c0 A1 n1 c1 A2 n2 c2 A3 n3 c3 L s}(w)(hs:lI w A0 n0 c0 A1 n1 c1 A2 n2 c2 A3 n3 c3 L s)(f):
  CE 16 #[stV s.name A0 n0 c0 A1 n1 c1 A2 n2 c2 A3 n3 c3,nU f] w (.int .i64 (xL s f)):=by
 have G:s.buses.length=n0:=hs.buses.len;have S:=hs.l1;have D:Hid (Ext w (aL (aL w #[s.name,aO A0 n0 c0,aO A1 n1 c1,aO A2 n2 c2,aO A3 n3 c3] 27) #[f.kind,f.line,f.obj,f.num,f.den,f.r] 33)):=aW ((Ext.new _ _).trans (Ext.new _ _));have HS:=aW (hs.ext D.o);clear hs;obtain⟨-,Y,U⟩:=ah2 w 27 #[s.name,aO A0 n0 c0,aO A1 n1 c1,aO A2 n2 c2,aO A3 n3 c3] 33 #[f.kind,f.line,f.obj,f.num,f.den,f.r];have V:Hid (xL s f=if chk s=0 then fD n0 n1 f else chk s):=aW (by rw[<-G,<-S];rfl);have W:=aW (zM _ HS.o);clear G S;unfold stV nU;generalize chk s=en at V W;by_cases h0:en=0
 rotate_left
 .have q0:((en:Int) !=0)=ε:=by simp;exact h0
  have HV:Hid (xL s f=en):=aW (by rw[V.o,θ h0]);clear h0;go_enter func16,ntmps16;go_wp2_with fail;refine W.mono ?_;rintro e w1 ⟨rfl,J⟩;have C:=(Y.ext J).cell;have k2:=(U.ext J).cell;have HX:=aW J;clear J;go_wp2;go_ret;exact⟨aZ HV.symm,D.trans HX.o⟩
 subst h0;have Yx:Hid (xL s f=fD n0 n1 f):=aW (by rw[V.o,ι rfl]);clear V;by_cases z1:f.kind=0
 .have q1:((f.kind:Int)==0)=ε:=by simp[z1]
  have B:decide (f.kind<1)=ε:=ae;have Z1:=aW z1;clear z1;cases z2:f.line
  rotate_left
  .rw[z2] at Y U W D;have hz:¬(f.kind=0/\f.line=ζ/\f.obj=0/\f.num=0/\f.den=0/\f.r=0):=fun e=>by rw[z2] at e;cases e.2.1
   clear z2;exact Acs
  rw[z2] at Y U W D;have Z2:=aW z2;clear z2;by_cases z3:f.obj=0
  rotate_left
  .have q3:((f.obj:Int)==0)=ζ:=by simp;exact z3
   have hz:¬(f.kind=0/\f.line=ζ/\f.obj=0/\f.num=0/\f.den=0/\f.r=0):=fun e=>z3 aa;clear z3;exact Acs
  have q3:((f.obj:Int)==0)=ε:=by simp[z3]
  have Z3:=aW z3;clear z3;by_cases O:f.num=0
  rotate_left
  .have q4:((f.num:Int)==0)=ζ:=by simp;exact O
   have hz:¬(f.kind=0/\f.line=ζ/\f.obj=0/\f.num=0/\f.den=0/\f.r=0):=fun e=>O aa;clear O;exact Acs
  have q4:((f.num:Int)==0)=ε:=by simp[O]
  have I:=aW O;clear O;by_cases H:f.den=0
  rotate_left
  .have q5:((f.den:Int)==0)=ζ:=by simp;exact H
   have hz:¬(f.kind=0/\f.line=ζ/\f.obj=0/\f.num=0/\f.den=0/\f.r=0):=fun e=>H aa;clear H;exact Acs
  have q5:((f.den:Int)==0)=ε:=by simp[H]
  have K:=aW H;clear H;by_cases R:f.r=0
  rotate_left
  .have q6:((f.r:Int)==0)=ζ:=by simp;exact R
   have hz:¬(f.kind=0/\f.line=ζ/\f.obj=0/\f.num=0/\f.den=0/\f.r=0):=fun e=>R aa;clear R;exact Acs
  have q6:((f.r:Int)==0)=ε:=by simp[R]
  have P:=aW R;clear R;have HV:Hid (fD n0 n1 f=0):=aW (Ru ⟨Z1.o,Z2.o,Z3.o,I.o,K.o,P.o⟩);exact Aac
 have q1:((f.kind:Int)==0)=ζ:=by simp;exact z1
 have hz:¬(f.kind=0/\f.line=ζ/\f.obj=0/\f.num=0/\f.den=0/\f.r=0):=fun e=>z1 e.1;by_cases a1:f.kind<1
 .have d1:decide (f.kind<1)=ε:=ae;have HV:Hid (fD n0 n1 f=10):=aW (mo hz aa);exact Aac
 have d1:decide (f.kind<1)=ζ:=ae;by_cases a2:10<f.kind
 .have d2:decide (10<f.kind)=ε:=ae;have HV:Hid (fD n0 n1 f=10):=aW (mo hz aa);exact Aac
 have d2:decide (10<f.kind)=ζ:=ae;have hk:1<=f.kind/\f.kind<=10:=⟨aa,aa⟩;have j:=aW hk;clear hk hz;cases Z:f.line
 rotate_left
 .rw[Z] at Y U W D;have HL:Hid (f.line=ε):=aW Z;have HC:Hid ((if f.line=ε then (n1:Int) else (n0:Int))=(n1:Nat)):=aW (by rw[Z];rfl);clear Z;by_cases b1:f.obj<0
  .have d3:decide (f.obj<0)=ε:=ae;have HV:Hid (fD n0 n1 f=9):=aW (uP j.o n1 HC.o (.inl b1));exact Aac
  have d3:decide (f.obj<0)=ζ:=ae;by_cases b2:(n1:Int)<=f.obj
  .have d4:decide ((n1:Int)<=f.obj)=ε:=ae;have HV:Hid (fD n0 n1 f=9):=aW (uP j.o n1 HC.o (.inr b2));exact Aac
  have d4:decide ((n1:Int)<=f.obj)=ζ:=ae;have ho:¬(f.obj<0\/(n1:Int)<=f.obj):=aa;have T:=aW ho;clear ho;by_cases e1:f.den<2
  .have d5:decide (f.den<2)=ε:=ae;have HV:Hid (fD n0 n1 f=2):=aW (uN j.o HL.o T.o (.inl e1));exact Aac
  have d5:decide (f.den<2)=ζ:=ae;by_cases e2:16<f.den
  .have d6:decide (16<f.den)=ε:=ae;have HV:Hid (fD n0 n1 f=2):=aW (uN j.o HL.o T.o (.inr (.inl e2)));exact Aac
  have d6:decide (16<f.den)=ζ:=ae;by_cases e3:f.num<1
  .have d7:decide (f.num<1)=ε:=ae;have HV:Hid (fD n0 n1 f=2):=aW (uN j.o HL.o T.o (.inr (.inr (.inl e3))));exact Aac
  have d7:decide (f.num<1)=ζ:=ae;by_cases e4:f.den-1<f.num
  .have d8:decide (f.den-1<f.num)=ε:=ae;have d9:decide (f.den<=f.num)=ε:=ae;have HV:Hid (fD n0 n1 f=2):=aW (uN j.o HL.o T.o (.inr (.inr (.inr e4))));exact Aac
  have d8:decide (f.den-1<f.num)=ζ:=ae;have d9:decide (f.den<=f.num)=ζ:=ae;have Q:=aW (Gy j.o n1 HC.o T.o (fun _=>aa) (fun e=>by rw[HL.o] at e;cases e));exact AbO
 .rw[Z] at Y U W D;have HL:Hid (f.line=ζ):=aW Z;have HC:Hid ((if f.line=ε then (n1:Int) else (n0:Int))=(n0:Nat)):=aW (by rw[Z];rfl);clear Z;by_cases b1:f.obj<0
  .have d3:decide (f.obj<0)=ε:=ae;have HV:Hid (fD n0 n1 f=9):=aW (uP j.o n0 HC.o (.inl b1));exact Aac
  have d3:decide (f.obj<0)=ζ:=ae;by_cases b2:(n0:Int)<=f.obj
  .have d4:decide ((n0:Int)<=f.obj)=ε:=ae;have HV:Hid (fD n0 n1 f=9):=aW (uP j.o n0 HC.o (.inr b2));exact Aac
  have d4:decide ((n0:Int)<=f.obj)=ζ:=ae;have ho:¬(f.obj<0\/(n0:Int)<=f.obj):=aa;have T:=aW ho;clear ho;by_cases e1:f.num=0
  rotate_left
  .have d5:((f.num:Int) !=0)=ε:=by simp;exact e1
   have HE:=aW e1;clear e1;have HV:Hid (fD n0 n1 f=2):=aW (FY j.o HL.o T.o (.inl HE.o));exact Aac
  have d5:((f.num:Int) !=0)=ζ:=by simp[e1]
  have N:=aW e1;clear e1;by_cases e2:f.den=0
  rotate_left
  .have d6:((f.den:Int) !=0)=ε:=by simp;exact e2
   have HE:=aW e2;clear e2;have HV:Hid (fD n0 n1 f=2):=aW (FY j.o HL.o T.o (.inr HE.o));exact Aac
  have d6:((f.den:Int) !=0)=ζ:=by simp[e2]
  have E2:=aW e2;clear e2;have Q:=aW (Gy j.o n0 HC.o T.o (fun e=>by rw[HL.o] at e;cases e) (fun _=>by have:=N.o;have:=E2.o;omega));exact AbO
def lK (PA:Option Addr) (j B:Nat) (PB:Option Addr) (V qc:Nat):Value:=.agg #[aO PA j B,aO PB V qc]
structure iR (w:World) (PA:Option Addr) (pn:Nat) (PB:Option Addr) (qn:Nat) (K:Nat->Hd) (p:dM):Prop where
 lc:p.closed.length=pn
 closed:Arr w PA pn 1 (fun i=>[.bool (p.closed.getD i ζ)])
 ll:p.links.length=qn
 rows:Arr w PB qn 1 (fun i=>[(K i).v])
 lens:∀i,i<qn->(p.links.getD i []).length=(K i).n
 ints:∀i,i<qn->Arr w (K i).A (K i).n 1 (fun k=>[.int .i64 ((p.links.getD i []).getD k 0)])
 mx:pn<=9223372036854775807/\qn<=9223372036854775807/\∀i,i<qn->(K i).n<=9223372036854775807
def iR.ext{w w' PA j PB V K p}(h:iR w PA j PB V K p)(x:Ext w w'):iR w' PA j PB V K p:=
 ⟨h.lc,h.closed.ext x,h.ll,h.rows.ext x,h.lens,fun i hi=>(h.ints i hi).ext x,h.mx⟩
def Arr.one{w:World}{A:Option Addr}{n i:Nat}{f:Nat->Value}(h:Arr w A n 1 (fun i=>[f i]))(hi:i<n):∃b o,A=γ ⟨b,o,δ⟩/\b<w.heap.size/\w.cell? (aM b (o+i))=γ (f i):=by
 obtain⟨b,o,e,hb,hc⟩:=h.at_ hi;have:=hc 0 _ rfl;rw[aap,I6] at this;exact⟨b,o,e,hb,this⟩
section
variable {s:StD} {p:dM} {n:Nat}
theorem xW(hn:s.bays.length=n)(h:p.closed.length≠n\/p.links.length≠n):jG s p=3:=by
 unfold jG;rw[θ (by rw[hn];omega)]
theorem Iq(hn:s.bays.length=n)(B:p.closed.length=n)(j:p.links.length=n){i}(hi:i<n)(h:(p.links.getD i []).length≠(s.bays.getD i η).links.length):jG s p=3:=by
 unfold jG;rw[ι (by rw[hn];exact⟨B,j⟩),θ];intro e;have:=q8.1 e i (aau.2 aa);exact h (aaZ this)
theorem Mv(hn:s.bays.length=n)(B:p.closed.length=n)(j:p.links.length=n)(h:∀i,i<n->(p.links.getD i []).length=(s.bays.getD i η).links.length):
  jG s p=if (List.range n).all (fun i=>(p.links.getD i []).all (lW s i))=ε then 0 else 16:=by
 unfold jG;rw[ι (by rw[hn];exact⟨B,j⟩),ι (by
  rw[q8];intro i hi;exact Λ (h i (by have:=aau.1 hi;omega))),hn]
def uL(hn:s.bays.length=n)(C:p.closed.length=n)(B:p.links.length=n)(h:∀i,i<n->(p.links.getD i []).length=(s.bays.getD i η).links.length){i k}(hi:i<n)(j:k<(p.links.getD i []).length)(hv:lW s i ((p.links.getD i []).getD k 0)=ζ):jG s p=16:=by
 rw[Mv hn C B h,θ];intro e;have:=q8.1 (q8.1 e i (aau.2 hi)) ((p.links.getD i []).getD k 0) (by
  generalize p.links.getD i []=l at j⊢;rw[π,ν j];exact abt j)
 rw[hv] at this;cases this
def Mq(hn:s.bays.length=n)(C:p.closed.length=n)(B:p.links.length=n)(h:∀i,i<n->(p.links.getD i []).length=(s.bays.getD i η).links.length)(hv:∀i,i<n->∀k,k<(p.links.getD i []).length->lW s i ((p.links.getD i []).getD k 0)=ε):jG s p=0:=by
 rw[Mv hn C B h,ι];rw[q8];intro i hi;rw[q8];intro x J;obtain⟨k,j,rfl⟩:=acC J;have:=hv i (aau.1 hi) k j;rwa[π,ν j] at this
theorem GY{i x}(h:x=1):lW s i x=ε:=by unfold lW;simp[h]
theorem Fj{i x}(j:(s.bays.getD i η).kind≠3)(h:x=0\/x=2):lW s i x=ε:=by
 unfold lW;rw[Λ j];rcases h with h|h<;>simp[h]
theorem uz{i x}(j:x≠1)(h:(s.bays.getD i η).kind=3\/(x≠0/\x≠2)):lW s i x=ζ:=by
 unfold lW;rw[ρ j];rcases h with h|⟨h,D⟩
 .rw[ρ (fun e=>e h)];simp
 .rw[ρ h,ρ D];simp
end
theorem Ae(nm){A0 n0 c0 A1 n1 c1 A2 n2 c2 A3 n3 c3 L s PA pn pc PB V qc K p}(w)(hs:lI w A0 n0 c0 A1 n1 c1 A2 n2 c2 A3 n3 c3 L s)(hp:iR w PA pn PB V K p):
  CE 80 #[stV nm A0 n0 c0 A1 n1 c1 A2 n2 c2 A3 n3 c3,lK PA pn pc PB V qc] w (.int .i64 (jG s p)):=by
 have YH:=hs.l3;have ZX:=hp.lc;have ZN:=hp.ll;have YR:=hs.mx;have F:=hp.mx;obtain⟨m0,m1,m2,m3⟩:=YR;obtain⟨x0,x1,x2⟩:=F;have W:=aW x2;clear x2;have D:Hid (Ext w (aL (aL w #[nm,aO A0 n0 c0,aO A1 n1 c1,aO A2 n2 c2,aO A3 n3 c3] 27) #[aO PA pn pc,aO PB V qc] 31)):=aW ((Ext.new _ _).trans (Ext.new _ _));have HS:=aW (hs.ext D.o);have HP:=aW (hp.ext D.o);clear hs hp;obtain⟨-,Yw,U⟩:=ah2 w 27 #[nm,aO A0 n0 c0,aO A1 n1 c1,aO A2 n2 c2,aO A3 n3 c3] 31 #[aO PA pn pc,aO PB V qc];have H3:=aW YH;have HC:=aW ZX;have HL:=aW ZN;unfold stV lK;by_cases t1:pn=n3
 rotate_left
 .have d1:((pn:Int) !=n3)=ε:=ae;have HV:Hid (jG s p=3):=aW (xW YH (.inl aa));clear YH ZX ZN t1;exact AbD
 have d1:((pn:Int) !=n3)=ζ:=ae;by_cases t2:V=n3
 rotate_left
 .have d2:((V:Int) !=n3)=ε:=ae;have HV:Hid (jG s p=3):=aW (xW YH (.inr aa));clear YH ZX ZN t1 t2;exact AbD
 have d2:((V:Int) !=n3)=ζ:=ae;have YD:Hid (p.closed.length=n3):=aW aa;have YG:Hid (p.links.length=n3):=aW aa;have B:=aW t2;clear YH ZX ZN t1 t2;go_enter func80,ntmps80;go_wp2_with fail;clear d1 d2;go_loopw [30] (fun i wr=>∃k:Nat,k<=n3/\i=.int .i64 (k:Int)/\(∀j,j<k->(p.links.getD j []).length=(s.bays.getD j η).links.length)/\Ext (aL (aL w #[nm,aO A0 n0 c0,aO A1 n1 c1,aO A2 n2 c2,aO A3 n3 c3] 27) #[aO PA pn pc,aO PB V qc] 31) wr) (aT n3)
 case atStart=>exact⟨0,aa,rfl,by intros;omega,Ext.refl _⟩
 case round=>
  obtain⟨k,hk,rfl,hz,J⟩:=hrel;have HZ:=aW hz;have HX:=aW J;have YJ:=Yw.ext J;have YF:=U.ext J;have C:=YJ.cell;have k2:=YF.cell;have YY:w.heap.size<wr.heap.size:=YJ.lt;have YA:w.heap.size+1<wr.heap.size:=YF.lt;clear hz J YJ YF;by_cases Yu:k<n3
  .have hd:decide (k<n3)=ε:=ae;obtain⟨lb,lo,hA,hb,e0,e1,e2,e3,e4,e5,e6,e7,e8,e9,Yx,YE⟩:=(HS.ext HX.o).bays.bay Yu;obtain⟨pb,Yy,S,YV,f0⟩:=(HP.ext HX.o).rows.one (show k<V by have:=B.o;omega);have G:k<V:=by have:=B.o;omega
   have YQ:Hid ((p.links.getD k []).length=(K k).n):=aW (HP.lens k (by have:=B.o;omega));have Za:Hid ((s.bays.getD k η).links.length=(L k).n):=aW (HS.links k Yu).1;unfold Hd.v at f0;generalize K k=kh at f0 YQ;generalize L k=M at e6 Za;have Zc:=aW (rfl:s.bays.getD k η=s.bays.getD k η);generalize YI:s.bays.getD k η=b at e0 e1 e2 e3 e4 e5 e6 e7 e8 e9 Yx YE Za;have Ze:=aW YI;clear YI Zc;subst hA S;by_cases O:kh.n=M.n
   .have q1:((kh.n:Int) !=(M.n:Int))=ζ:=ae;have HE:=aW O;clear O;go_wp2_with fail;go_quiet (fail);go_wp2_with fail
    go_roundw
    case rel=>exact⟨k+1,aa,au,(fun j hj=>by
     by_cases e:j=k
     .rw[e,YQ.o,Ze.o,Za.o,HE.o]
     .exact HZ.o j aa),(HX.alloc _).drewN _⟩
    case measure=>exact aV
   .have q1:((kh.n:Int) !=(M.n:Int))=ε:=ae;have HV:Hid (jG s p=3):=aW (Iq H3.o YD.o YG.o Yu (by rw[YQ.o,Ze.o,Za.o];exact O));clear O;go_wp2_with fail;go_quiet (fail);go_wp2_with fail;go_ret;exact⟨aZ HV.symm,((D.trans HX.o).alloc _).drewN _⟩
  .obtain rfl:n3=k:=aa;clear Yu;go_wp2_with fail;clear C k2;go_loopw [49] (fun i wr=>∃k:Nat,k<=n3/\i=.int .i64 (k:Int)/\(∀j,j<k->∀t,t<(p.links.getD j []).length->lW s j ((p.links.getD j []).getD t 0)=ε)/\Ext (aL (aL w #[nm,aO A0 n0 c0,aO A1 n1 c1,aO A2 n2 c2,aO A3 n3 c3] 27) #[aO PA pn pc,aO PB V qc] 31) wr) (aT n3)
   case atStart=>exact⟨0,aa,rfl,by intros;omega,HX.o⟩
   case round=>
    clear HX YY YA;obtain⟨k,hk,rfl,hz,J⟩:=hrel;have Zi:=aW hz;have HX:=aW J;have YJ:=Yw.ext J;have YF:=U.ext J;have C:=YJ.cell;have k2:=YF.cell;have YY:w.heap.size<wr.heap.size:=YJ.lt;have YA:w.heap.size+1<wr.heap.size:=YF.lt;clear hz J YJ YF;by_cases Yu:k<n3
    .have hd:decide (k<n3)=ε:=ae;obtain⟨lb,lo,hA,hb,e0,e1,e2,e3,e4,e5,e6,e7,e8,e9,Yx,YE⟩:=(HS.ext HX.o).bays.bay Yu;have G:k<V:=by have:=B.o;omega
     obtain⟨pb,Yy,S,YV,f0⟩:=(HP.ext HX.o).rows.one G;have YQ:Hid ((p.links.getD k []).length=(K k).n):=aW (HP.lens k G);have Y:=aW ((HP.ext HX.o).ints k G);have Z:=W.o k G;unfold Hd.v at f0;generalize K k=kh at f0 YQ Y Z;generalize L k=M at e6;generalize YI:s.bays.getD k η=b at e0 e1 e2 e3 e4 e5 e6 e7 e8 e9 Yx YE;have Ze:=aW YI;clear YI;subst hA S;obtain⟨-,YW⟩:=an1 wr 57 #[b.name,b.kind,b.obj,b.en,b.z.r,b.z.x,aO M.A M.n M.c,b.closed,b.ct,b.vt,b.sat,b.travel];have YB:=aW YW;clear YW;have H:=aW (Y.ext (Ext.new wr (.cells #[b.name,b.kind,b.obj,b.en,b.z.r,b.z.x,aO M.A M.n M.c,b.closed,b.ct,b.vt,b.sat,b.travel] 57)));have YC:=aW (HX.alloc (.cells #[b.name,b.kind,b.obj,b.en,b.z.r,b.z.x,aO M.A M.n M.c,b.closed,b.ct,b.vt,b.sat,b.travel] 57));go_wp2_with fail;clear C k2 e0 e1 e2 e3 e4 e5 e6 e7 e8 e9 Yx YE f0;generalize wr.alloc (.cells #[b.name,b.kind,b.obj,b.en,b.z.r,b.z.x,aO M.A M.n M.c,b.closed,b.ct,b.vt,b.sat,b.travel] 57)=w5 at YB H YC⊢;generalize wr.heap.size=g5 at YB YY YA hb YV⊢;have kb:=YB.cell;go_loop [60] (fun i=>∃t:Nat,t<=kh.n/\i=.int .i64 (t:Int)/\(∀u,u<t->lW s k ((p.links.getD k []).getD u 0)=ε)) (fun i=>kh.n-(intOf i).toNat)
     case atStart=>exact⟨0,aa,rfl,by intros;omega⟩
     case round=>
      obtain⟨t,ht,rfl,hz⟩:=hrel;have Zd:=aW hz;clear hz;by_cases I:t<kh.n
      .have ac:decide (t<kh.n)=ε:=ae;obtain⟨Q,R,hI,P,g0⟩:=H.one I;rw[hI];generalize N:(p.links.getD k []).getD t 0=x at g0;have Yz:=aW N;clear N;by_cases h1:x=1
       .have q1:((x:Int)==1)=ε:=by simp[h1]
        have T:Hid (lW s k x=ε):=aW (GY h1);clear h1;go_wp2;go_round
        case rel=>exact⟨t+1,aa,au,fun u hu=>by
         by_cases e:u=t
         .rw[e,Yz.o];exact T.o
         .exact Zd.o u aa⟩
        case measure=>exact aV
       have q1:((x:Int)==1)=ζ:=by simp;exact h1
       by_cases h3:b.kind=3
       .have q2:((b.kind:Int) !=3)=ζ:=by simp[h3]
        have HV:Hid (jG s p=16):=aW (uL H3.o YD.o YG.o HZ.o Yu AdM (by rw[Yz.o];exact uz h1 (.inl AcM)));clear h1 h3;go_wp2;go_ret;exact⟨aZ HV.symm,D.trans YC.o⟩
       have q2:((b.kind:Int) !=3)=ε:=by simp;exact h3
       by_cases h0:x=0
       .have q3:((x:Int)==0)=ε:=by simp[h0]
        have T:Hid (lW s k x=ε):=aW (Fj AcM (.inl h0));clear h0 h1 h3;go_wp2;go_round
        case rel=>exact⟨t+1,aa,au,fun u hu=>by
         by_cases e:u=t
         .rw[e,Yz.o];exact T.o
         .exact Zd.o u aa⟩
        case measure=>exact aV
       have q3:((x:Int)==0)=ζ:=by simp;exact h0
       by_cases h2:x=2
       .have q4:((x:Int)==2)=ε:=by simp[h2]
        have T:Hid (lW s k x=ε):=aW (Fj AcM (.inr h2));clear h0 h1 h2 h3;go_wp2;go_round
        case rel=>exact⟨t+1,aa,au,fun u hu=>by
         by_cases e:u=t
         .rw[e,Yz.o];exact T.o
         .exact Zd.o u aa⟩
        case measure=>exact aV
       have q4:((x:Int)==2)=ζ:=by simp;exact h2
       have HV:Hid (jG s p=16):=aW (uL H3.o YD.o YG.o HZ.o Yu AdM (by rw[Yz.o];exact uz h1 (.inr ⟨h0,h2⟩)));clear h0 h1 h2 h3;go_wp2;go_ret;exact⟨aZ HV.symm,D.trans YC.o⟩
      .obtain rfl:kh.n=t:=aa;clear I kb;go_wp2_with fail
       go_roundw
       case rel=>exact⟨k+1,aa,au,(fun j hj=>by
        by_cases e:j=k
        .subst e;intro u hu;exact Zd.o u (by rw[<-YQ.o];exact hu)
        .exact Zi.o j aa),YC.o⟩
       case measure=>exact aV
    .exact Ab4
theorem Hg(nm){A0 n0 c0 A1 n1 c1 A2 n2 c2 A3 n3 c3 L s PA pn pc PB V qc K p}(w)(hs:lI w A0 n0 c0 A1 n1 c1 A2 n2 c2 A3 n3 c3 L s)(hp:iR w PA pn PB V K p):
  CE 39 #[stV nm A0 n0 c0 A1 n1 c1 A2 n2 c2 A3 n3 c3,lK PA pn pc PB V qc] w (.int .i64 (jG s p)):=by
 have YH:=hs.l3;have ZX:=hp.lc;have ZN:=hp.ll;have YR:=hs.mx;have F:=hp.mx;obtain⟨m0,m1,m2,m3⟩:=YR;obtain⟨x0,x1,x2⟩:=F;have W:=aW x2;clear x2;have D:Hid (Ext w (aL (aL w #[nm,aO A0 n0 c0,aO A1 n1 c1,aO A2 n2 c2,aO A3 n3 c3] 27) #[aO PA pn pc,aO PB V qc] 31)):=aW ((Ext.new _ _).trans (Ext.new _ _));have HS:=aW (hs.ext D.o);have HP:=aW (hp.ext D.o);clear hs hp;obtain⟨-,Yw,U⟩:=ah2 w 27 #[nm,aO A0 n0 c0,aO A1 n1 c1,aO A2 n2 c2,aO A3 n3 c3] 31 #[aO PA pn pc,aO PB V qc];have H3:=aW YH;have HC:=aW ZX;have HL:=aW ZN;unfold stV lK;by_cases t1:pn=n3
 rotate_left
 .have d1:((pn:Int) !=n3)=ε:=ae;have HV:Hid (jG s p=3):=aW (xW YH (.inl aa));clear YH ZX ZN t1;exact Adi
 have d1:((pn:Int) !=n3)=ζ:=ae;by_cases t2:V=n3
 rotate_left
 .have d2:((V:Int) !=n3)=ε:=ae;have HV:Hid (jG s p=3):=aW (xW YH (.inr aa));clear YH ZX ZN t1 t2;exact Adi
 have d2:((V:Int) !=n3)=ζ:=ae;have YD:Hid (p.closed.length=n3):=aW aa;have YG:Hid (p.links.length=n3):=aW aa;have B:=aW t2;clear YH ZX ZN t1 t2;go_enter func39,ntmps39;go_wp2_with fail;clear d1 d2;go_loopw [5] (fun i wr=>∃k:Nat,k<=n3/\i=.int .i64 (k:Int)/\(∀j,j<k->(p.links.getD j []).length=(s.bays.getD j η).links.length)/\Ext (aL (aL w #[nm,aO A0 n0 c0,aO A1 n1 c1,aO A2 n2 c2,aO A3 n3 c3] 27) #[aO PA pn pc,aO PB V qc] 31) wr) (aT n3)
 case atStart=>exact⟨0,aa,rfl,by intros;omega,Ext.refl _⟩
 case round=>
  obtain⟨k,hk,rfl,hz,J⟩:=hrel;have HZ:=aW hz;have HX:=aW J;have YJ:=Yw.ext J;have YF:=U.ext J;have C:=YJ.cell;have k2:=YF.cell;clear hz J YJ YF;by_cases H:k<n3
  .have hd:decide (k<n3)=ε:=ae;obtain⟨lb,lo,hA,hb,e0,e1,e2,e3,e4,e5,e6,e7,e8,e9,Yx,YE⟩:=(HS.ext HX.o).bays.bay H;obtain⟨pb,Yy,S,YV,f0⟩:=(HP.ext HX.o).rows.one (show k<V by have:=B.o;omega);have G:k<V:=by have:=B.o;omega
   have YQ:Hid ((p.links.getD k []).length=(K k).n):=aW (HP.lens k (by have:=B.o;omega));have Za:Hid ((s.bays.getD k η).links.length=(L k).n):=aW (HS.links k H).1;unfold Hd.v at f0;clear e0 e1 e2 e3 e4 e5 e7 e8 e9 Yx YE;generalize K k=kh at f0 YQ;generalize L k=M at e6 Za;subst hA S;by_cases O:kh.n=M.n
   .have q1:((kh.n:Int) !=(M.n:Int))=ζ:=ae;have HE:=aW O;clear O;go_wp2_with fail;go_quiet (fail);go_wp2_with fail
    go_roundw
    case rel=>exact⟨k+1,aa,au,(fun j hj=>by
     by_cases e:j=k
     .rw[e,YQ.o,Za.o,HE.o]
     .exact HZ.o j aa),HX.drewN _⟩
    case measure=>exact aV
   .have q1:((kh.n:Int) !=(M.n:Int))=ε:=ae;have HV:Hid (jG s p=3):=aW (Iq H3.o YD.o YG.o H (by rw[YQ.o,Za.o];exact O));clear O;go_wp2_with fail;go_quiet (fail);go_wp2_with fail;go_ret;exact⟨aZ HV.symm,(D.trans HX.o).drewN _⟩
  .obtain rfl:n3=k:=aa;clear H;go_wp2_with fail;clear C k2;go_loop [6] (fun i=>∃k:Nat,k<=n3/\i=.int .i64 (k:Int)/\(∀j,j<k->∀t,t<(p.links.getD j []).length->lW s j ((p.links.getD j []).getD t 0)=ε)) (fun i=>n3-(intOf i).toNat)
   case atStart=>exact⟨0,aa,rfl,by intros;omega⟩
   case round=>
    obtain⟨k,hk,rfl,hz⟩:=hrel;have Zi:=aW hz;have C:=(Yw.ext HX.o).cell;have k2:=(U.ext HX.o).cell;clear hz;by_cases H:k<n3
    .have hd:decide (k<n3)=ε:=ae;obtain⟨lb,lo,hA,hb,e0,e1,e2,e3,e4,e5,e6,e7,e8,e9,Yx,YE⟩:=(HS.ext HX.o).bays.bay H;clear e0 e2 e3 e4 e5 e6 e7 e8 e9 Yx YE;have G:k<V:=by have:=B.o;omega
     obtain⟨pb,Yy,S,YV,f0⟩:=(HP.ext HX.o).rows.one G;have YQ:Hid ((p.links.getD k []).length=(K k).n):=aW (HP.lens k G);have Y:=aW ((HP.ext HX.o).ints k G);have Z:=W.o k G;unfold Hd.v at f0;generalize K k=kh at f0 YQ Y Z;generalize YI:s.bays.getD k η=b at e1;have Ze:=aW YI;clear YI;subst hA S;go_wp2_with fail
     go_loop [7] (fun i=>∃t:Nat,t<=kh.n/\i=.int .i64 (t:Int)/\(∀u,u<t->lW s k ((p.links.getD k []).getD u 0)=ε)) (fun i=>kh.n-(intOf i).toNat)
     case atStart=>exact⟨0,aa,rfl,by intros;omega⟩
     case round=>
      obtain⟨t,ht,rfl,hz⟩:=hrel;have Zd:=aW hz;clear hz;by_cases I:t<kh.n
      .have ac:decide (t<kh.n)=ε:=ae;obtain⟨Q,R,hI,P,g0⟩:=Y.one I;rw[hI] at f0;generalize N:(p.links.getD k []).getD t 0=x at g0;have Yz:=aW N;clear N;by_cases h0:x<0
       .have q1:decide (x<0)=ε:=ae;exact AaZ
       have q1:decide (x<0)=ζ:=ae;by_cases h2:2<x
       .have q2:decide (2<x)=ε:=ae;exact AaZ
       have q2:decide (2<x)=ζ:=ae;by_cases h3:b.kind=3
       .have q3:((b.kind:Int)==3)=ε:=by simp[h3]
        by_cases h1:x=1
        .have q4:((x:Int) !=1)=ζ:=by simp[h1]
         have T:Hid (lW s k x=ε):=aW (GY h1);clear h1 h3;go_wp2;go_round
         case rel=>exact⟨t+1,aa,au,fun u hu=>by
          by_cases e:u=t
          .rw[e,Yz.o];exact T.o
          .exact Zd.o u aa⟩
         case measure=>exact aV
        .have q4:((x:Int) !=1)=ε:=by simp;exact h1
         have HV:Hid (jG s p=16):=aW (uL H3.o YD.o YG.o HZ.o H AdM (by rw[Yz.o];exact uz h1 (.inl AcM)));clear h1 h3;go_wp2;go_ret;exact⟨aZ HV.symm,D.trans HX.o⟩
       have q3:((b.kind:Int)==3)=ζ:=by simp;exact h3
       have T:Hid (lW s k x=ε):=aW (by
        by_cases h1:x=1
        .exact GY h1
        .exact Fj AcM aa)
       clear h3;go_wp2;go_round
       case rel=>exact⟨t+1,aa,au,fun u hu=>by
        by_cases e:u=t
        .rw[e,Yz.o];exact T.o
        .exact Zd.o u aa⟩
       case measure=>exact aV
      .obtain rfl:kh.n=t:=aa;clear I;go_wp2_with fail
       go_round
       case rel=>exact⟨k+1,aa,au,(fun j hj=>by
        by_cases e:j=k
        .subst e;intro u hu;exact Zd.o u (by rw[<-YQ.o];exact hu)
        .exact Zi.o j aa)⟩
       case measure=>exact aV
    .exact Ab4
def Only.setRow(w g cs):Only g w (w.setRow g cs):=⟨rfl,rfl,rfl,ag,fun i _ j=>setRow_other w g i cs (fun e=>j (by rw[e]))⟩
def xM{P}{fn:Func}{R:Ending->World->Prop}{a:Act}{w}{t u:Nat}(B:fn.results= #[.tmp t,.tmp u])(hd:a.defers=[])(j:R (.returned (.tuple #[a.tmps.getD t undef,a.tmps.getD u undef])) w):bodyPost P fn R .ret a w:=
 aai (v:=.tuple #[a.tmps.getD t undef,a.tmps.getD u undef]) (by simp[results,B]) hd j
def nP{P:Program}{fn:Func}{R:Ending->World->Prop}{a:Act}{w:World}{t g:Nat}{T:TypeId}{cs:Array Value}{d:TypeDesc}(C:fn.results= #[.cell t T])(hd:a.defers=[])(hp:a.tmps[t]?.getD undef=.pointer (γ (aM g 0)))(hb:Blk w g T cs)(D:P.underlying T=γ d)(j:(match d with| .struct _| .array _ _=>ε|_=>ζ)=ε)(hi:(P.info? T).map (·.size)=γ cs.size)(B:R (.returned (.agg cs)) w):bodyPost P fn R .ret a w:=
 aai (v:=.agg cs) (by simp[results,C,hp,asAddr,adg w g T T cs (0,0) d hb D j hi]) hd B
def G6{P:Program}{fn:Func}{R:Ending->World->Prop}{a:Act}{w:World}{t u g:Nat}{T:TypeId}{cs:Array Value}{d:TypeDesc}(B:fn.results= #[.cell t T,.tmp u])(hd:a.defers=[])(hp:a.tmps[t]?.getD undef=.pointer (γ (aM g 0)))(hb:Blk w g T cs)(C:P.underlying T=γ d)(j:(match d with| .struct _| .array _ _=>ε|_=>ζ)=ε)(hi:(P.info? T).map (·.size)=γ cs.size)(D:R (.returned (.tuple #[.agg cs,a.tmps.getD u undef])) w):bodyPost P fn R .ret a w:=
 aai (v:=.tuple #[.agg cs,a.tmps.getD u undef]) (by simp[results,B,hp,asAddr,adg w g T T cs (0,0) d hb C j hi]) hd D
def Da:Elem prog 92 3 1 8:=afa aca (z:=.int .i64 0) ah rfl aa
def Ep:Elem prog 28 4 1 1:=afa acb (z:=.bool ζ) ah rfl aa
def D7:Elem prog 29 92 1 24:=afa underlying29 (z:=.slice δ 0 0) ah rfl aa
def JB{α:Type}(f:α->Value)(l:List α)(d:α){i}(hi:i<l.length):(l.map f)[i]? =γ (f (l.getD i d)):=by
 rw[Aa,ν hi,π,ν hi];rfl
theorem Arr.reads{α:Type}{w A n}{f:α->Value}{l:List α}{d:α}(h:Arr w A n 1 (fun i=>[f (l.getD i d)]))(Z:l.length=n):Reads w w.heap.size 1 A n (l.map f):=by
 refine⟨by simp[Z],fun hn=> ?_⟩;obtain⟨b,o,e,hb,hc⟩:=h hn;refine⟨_,e,hb,fun j u B=> ?_⟩;have D:j<l.length:=by
  have:=(μ.1 B).1;simpa using this
 rw[JB f l d D] at B;injection B with B;have:=hc j aa 0 u (by show γ (f (l.getD j d))=γ u;rw[B]);rw[aap,I6] at this;rw[<-this];unfold Addr.add;by_cases C:j=0
 .subst C;simp
 .rw[θ C]
theorem afk{α:Type}{w B e n}{f:α->Value}{l:List α}{v}(d:α)(h:w.ownsRow B e 1 v n (l.map f)):∃A c,v=.slice A n c/\n<=c/\l.length=n/\Arr w A n 1 (fun i=>[f (l.getD i d)]):=by
 have Z:l.length=n:=by have:=h.1;simpa using this
 obtain⟨A,c,e,hc,_,I⟩:=jH h;refine⟨A,c,e,hc,Z,fun hn=> ?_⟩;rcases h.2 with ⟨hv,j⟩|⟨g,N,cur,hv,hb,G,_⟩
 .omega
 .rw[e] at hv;injection hv with H _ _;subst H;refine⟨g,0,rfl,(abb.1 G).1,fun i hi t u D=> ?_⟩;cases t with
  |succ t=>simp at D
  |zero=>
   obtain⟨J,F,_,C⟩:=I.2 hn;injection F with F;subst F;have:=C i _ (JB f l d aa);simp only[ade,aax] at D;rw[<-D,aap,I6,<-this];unfold Addr.add;by_cases j:i=0
   .subst j;simp
   .rw[θ j]
def fH{w base g e t size n v xs cs}(h:w.ownsRow base e size v n xs)(hb:Blk w g t cs)(B:t≠e):v.ownBlock≠γ g:=by
 intro hv;rcases h.2 with ⟨rfl,_⟩|⟨g',N,cur,rfl,_,j,_⟩
 .cases hv
 .simp only[Value.ownBlock,aax] at hv;subst hv;rw[hb] at j;injection j with j;injection j with _ C;exact B C
def Ry(l:List Int):∀u∈l.map (Value.int .i64),u.oneCell'=ε:=by
 exact Abl
def Oa(l:List Bool):∀u∈l.map Value.bool,u.oneCell'=ε:=by
 exact Abl
def KM(A n c)(l:List Bool)(w:World)(h:Arr w A n 1 (fun i=>[.bool (l.getD i ζ)]))(Z:l.length=n)(hn:n<=1000000):
  CV 123 #[aO A n c] w fun v w'=>w'.ownsRow w.heap.size 4 1 v n (l.map (Value.bool)):=by
 have B:=Arr.reads (f:=Value.bool) h Z;have Q:=aW B;clear B;cases A with
 |none=>
  have j:n=0:=by
   exact Adg
  subst j;obtain rfl:l=[]:=KP Z;clear h Z Q;have W:=aaS (P:=prog) (t:=28) (a:=δ) (n:=0) (c:=c) (n':=0) (c':=0) (h:=acb);go_enter func123,ntmps123;go_wp2;all_goals
   exact Abd
 |some ad=>
  clear h;have F:=aW Z;clear Z;have W:=aaS (P:=prog) (t:=28) (a:=γ ad) (n:=n) (c:=c) (n':=0) (c':=0) (h:=acb);go_enter func123,ntmps123;(go_wp2_with (at_builtin;refine jL Ep rfl (.tmp 5) (.tmp 6) rfl w.heap.size _ 0 [] rf (abe _ _ _ aa aa ag) _ n _ (l.map (Value.bool)) rf (Q.ext (Ext.new w _)) (Oa l) aa aa ag ?_));exact AcR
def KS(A n c)(l:List Int)(w:World)(h:Arr w A n 1 (fun i=>[.int .i64 (l.getD i 0)]))(Z:l.length=n)(hn:n<=1000000):
  CV 124 #[aO A n c] w fun v w'=>w'.ownsRow w.heap.size 3 1 v n (l.map (Value.int .i64)):=by
 have B:=Arr.reads (f:=Value.int .i64) h Z;have Q:=aW B;clear B;cases A with
 |none=>
  have j:n=0:=by
   exact Adg
  subst j;obtain rfl:l=[]:=KP Z;clear h Z Q;have W:=aaS (P:=prog) (t:=92) (a:=δ) (n:=0) (c:=c) (n':=0) (c':=0) (h:=aca);go_enter func124,ntmps124;go_wp2;all_goals
   exact Abd
 |some ad=>
  clear h;have F:=aW Z;clear Z;have W:=aaS (P:=prog) (t:=92) (a:=γ ad) (n:=n) (c:=c) (n':=0) (c':=0) (h:=aca);go_enter func124,ntmps124;(go_wp2_with (at_builtin;refine jL Da rfl (.tmp 5) (.tmp 6) rfl w.heap.size _ 0 [] rf (abe _ _ _ aa aa ag) _ n _ (l.map (Value.int .i64)) rf (Q.ext (Ext.new w _)) (Ry l) aa aa ag ?_));exact AcR
def mv (c x:Int):Int:=if x=2 then c else x
def vY(c p i):(resolve c p).links.getD i []=(p.links.getD i []).map (mv c):=by
 show(p.links.map (List.map (mv c))).getD i []=_;rw[π,π,Aa];cases p.links[i]? <;>rfl
def wJ (f:Int->Int) (l:List Int) (t:Nat):List Int:=(l.take t).map f++l.drop t
def SQ(f l):wJ f l 0=l:=by simp[wJ]
def RD(f l t):(wJ f l t).length=l.length:=by simp[wJ];omega
def Jr{f l t}(h:l.length=t):wJ f l t=l.map f:=by subst h;simp[wJ]
theorem FZ{f l t}(h:t<l.length):(wJ f l t)[t]? =γ (l.getD t 0):=by
 unfold wJ;rw[nG ae];simp only[aaB,Bn];rw[aam aa,aaW,Zb,I6,ν h,π,ν h];rfl
theorem CY{f l t}(h:t<l.length):(wJ f l t).set t (f (l.getD t 0))=wJ f l (t+1):=by
 unfold wJ;rw[abJ _ _ ae];simp only[aaB,Bn];rw[aam aa,aaW,kY h];have e:l.drop t=l[t]::l.drop (t+1):=aaA h;rw[e,Ej,aaq,I5];rfl
def EB{f l t}(h:t<l.length)(hv:f (l.getD t 0)=l.getD t 0):wJ f l (t+1)=wJ f l t:=by
 rw[<-CY h,hv];apply aal;intro j;by_cases e:j=t
 .subst e;rw[abD (by rw[RD];exact h),FZ h]
 .rw[aaj (fun h=>e h.symm)]
def Mf{w base g n N e xs}(h:w.ownsRow base e 1 (.slice (γ (aM g 0)) n N) n xs)(j u):
  (w.setCell ⟨g,j,δ⟩ u).ownsRow base e 1 (.slice (γ (aM g 0)) n N) n (xs.set j u)/\Mod (fun k=>k=g) w (w.setCell ⟨g,j,δ⟩ u):=
 ⟨(h.stored j u).1,Mod.grown (h.stored j u).2 (fun k B=>by injection B with B;exact B.symm)⟩
def Ext.mod{S w0 w w'}(h:Ext w0 w)(m:Mod S w w')(hs:∀k,S k->w0.heap.size<=k):Ext w0 w':=
 ⟨m.os.trans h.os,m.tape.trans h.tape,m.output.trans h.output,Θ h.size m.size,fun k j=>(m.block k (ο j h.size) (fun e=>by have:=hs k e;omega)).trans (h.block k j)⟩
def FP{w:World}{base g n N e}{f:Int->Value}{l:List Int}(h:w.ownsRow base e 1 (.slice (γ (aM g 0)) n N) n (l.map f)){j x}(B:j<n)(J:l[j]? =γ x):
  w.cell? (aM g j)=γ (f x)/\w.frozen? ⟨g,j,δ⟩=ζ:=by
 refine⟨?_,h.frozenAt j⟩;rw[h.cellAt j aa,Aa,J];rfl
def xq (w:World) (B k:Nat) (R:Nat->Hd) (f:Nat->List Int):Prop:=∀i,i<k->w.ownsRow B 3 1 (R i).v (R i).n ((f i).map (.int .i64))
def xq.ext{w w' B k R}{f:Nat->List Int}(h:xq w B k R f)(x:Ext w w'):xq w' B k R f:=fun i hi=>eY (h i hi) x
def zk (R:Nat->Hd) (k:Nat):List Value:=(List.range k).map fun i=>(R i).v
theorem EJ(R k):zk R (k+1)=zk R k++[(R k).v]:=by unfold zk;rw[abV,aaq];rfl
theorem Ch{R U k}(h:∀i,i<k->R i=U i):zk R k=zk U k:=by
 unfold zk;exact acz fun i hi=>by rw[h i (aau.1 hi)]
theorem iR.made{w B C V v1 D R p}(K:w.ownsRow B 4 1 v1 C (p.closed.map Value.bool))(I:w.ownsRow B 92 1 D V (zk R V))(Z:p.links.length=V)(H:xq w B V R (fun i=>p.links.getD i []))(hp:C<=1000000)(hq:V<=1000000)(J:∀i,i<V->(R i).n<=1000000):∃PA G PB qc,v1=.slice PA C G/\D=.slice PB V qc/\iR w PA C PB V R p:=by
 obtain⟨PA,G,e1,_,S,O⟩:=afk ζ K;have j:w.ownsRow B 92 1 D V ((List.range V).map fun i=>(R i).v):=I;obtain⟨PB,qc,N,_,_,P⟩:=afk 0 j;refine⟨PA,G,PB,qc,e1,N,S,O,Z,P.congr fun i hi=> ?_,fun i hi=> ?_,fun i hi=> ?_,aa,aa,fun i hi=>by have:=J i hi;omega⟩
 .rw[π,aaz hi];rfl
 .obtain⟨_,_,_,_,F,_⟩:=afk 0 (H i hi);exact F
 .obtain⟨A,c,e,_,_,L⟩:=afk 0 (H i hi);unfold Hd.v at e;injection e with M _ _;rw[M];exact L
open Go.RowKit Go.ChangeShapes Go.WideShapes Go.ChangeAt Go.Joins Go.Deep
def Tryz.own:ownKnob prog.godebug=δ:=ah
def afA:laidOutB prog=ε:=ah
section
variable {H:Type} {enc:TypeId×Value->H} {P:Program}
def xX(Z:laidOutB P=ε){W W'}(hb:Ext W W'){sp}:∀{j:List TypeId} {B:List Value} {F:List (DataW H)} {ps:List MemPlace},
  (∀t∈j,P.readableRec t=ε/\t<P.types.size)->(∀p∈ps,p.block<W.heap.size)->(∀p∈ps,sp p.block=ε)->
  DataW.TrodAll enc P W 0 (fun _=>ε) ε j B F ps->DataW.TrodAll enc P W' 0 sp ε j B F ps
 |[],_,_,_,_,_,_,h=>by
  obtain⟨rfl,rfl,rfl⟩:=trodAll_nil h;exact trodAll_mk0
 |t::j,_,_,_,ht,hlt,hsp,h=>by
  obtain⟨v,B,d,F,p,ps,rfl,rfl,rfl,D,C⟩:=trodAll_cons h;refine trodAll_cons_mk ?_ (xX Z hb (fun t h=>ht t (nC _ h)) (fun x J=>hlt x (by simp[J])) (fun x J=>hsp x (by simp[J])) C);exact WideElems.Trod_stays Z (ht t ag).1 (ht t ag).2 D (fun x J=>hb.same (hlt x (by simp[J]))) (fun x J=>hsp x (by simp[J]))
def Qj{f}{s:ChangeSpec}{apart O C N W W' args}{F:List (DataW H)}{B:List MemPlace}(Z:laidOutB P=ε)(hv:s.vars=[])(Q:f.resultTypes= #[4])(U:P.underlying 4=γ .bool)(V:∀t∈f.params.toList,P.readableRec t=ε/\t<P.types.size)(S:DataW.Whole enc P f.params.toList s.vars apart W args.toList F [] B)(Y:DataW.TrodAll enc P W 0 (fun _=>ε) ε f.params.toList args.toList F B)(e1:(s.fn H (F++[])).results=[.lit (.bool ε)])(e2:(s.fn H (F++[])).args=F)(e3:(s.fn H (F++[])).vars=[])(hb:Ext W W'):s.post enc P f apart O C N W args (.bool ε) W':=by
 have R:∀p∈B,p.block<W.heap.size:=fun p hp=>S.lt p hp;have M:∀(b:Nat) (sp:Nat->Bool) (hd:Bool),DataW.TrodAll enc P W' b sp hd f.resultTypes.toList ((Value.bool ε).resultList f.resultTypes.size) (s.fn H (F++[])).results []:=by
  intro b sp hd;rw[e1,Q];exact trodAll_mk1 (shut_bool U _)
 have G:∀sp:Nat->Bool,(∀p∈B,sp p.block=ε)->DataW.TrodAll enc P W' 0 sp ε f.params.toList args.toList (s.fn H (F++[])).args B:=by
  intro sp K;rw[e2];exact xX Z hb V R K Y
 have J:∀sp:Nat->Bool,(∀p∈B,sp p.block=ε)->DataW.TrodVars enc P W' sp s.vars (s.fn H (F++[])).vars []:=by
  intro sp _;rw[e3,hv];rfl
 have T:∀(j:Nat) (t:TypeId) (r:Value),f.resultTypes[j]? =γ t->((Value.bool ε).resultList f.resultTypes.size)[j]? =γ r->Value.okWide P W' .any 0 t r:=by
  exact ok_one Q rfl (okWide_bool_mk U _)
 have L:∀p∈B,(fun b=>decide (b<W.heap.size)) p.block=ε:=fun p hp=>by simpa using R p hp
 refine⟨F,[],B,[],B,[],S,M _ _ _,G _ L,J _ L,World.keptBut_mono (fun p hp=>⟨hp,?_⟩) (hb.frame (·∈B)),fun _=> ?_⟩
 .exact Or.inr (by simpa using hp)
 .obtain⟨_,_,_,_,_,hz,hn⟩:=S;refine⟨T,_,_,([]++B)++[],⟨[]++B,[],trodAll_append (G _ (fun _ _=>rfl)) (M _ _ _),J _ (fun _ _=>rfl),rfl,?_,?_⟩,?_⟩
  .intro b D hp;have I:MemPlace.cell b D∈B:=by simpa using hp
   rw[hb.frozen (R _ I)];exact hz b D I
  .intro ha;simpa using hn ha
  .intro p hp _;simpa using hp
end
structure yu (w:World) (A0:Option Addr) (n0 c0:Nat) (A1:Option Addr) (n1 c1:Nat) (A2:Option Addr) (n2 c2:Nat) (A3:Option Addr) (n3 c3:Nat) (L:Nat->Hd) (s:StD):Prop where
 buses:Strs w A0 n0 s.buses
 nc:n0<=c0
 mx:n0<=9223372036854775807/\n1<=9223372036854775807/\n2<=9223372036854775807/\n3<=9223372036854775807
 l1:s.lines.length=n1
 lines:Arr w A1 n1 5 (fun i=>mr (s.lines.getD i η))
 l2:s.srcs.length=n2
 srcs:Arr w A2 n2 6 (fun i=>yn (s.srcs.getD i η))
 l3:s.bays.length=n3
 bays:Arr w A3 n3 12 (fun i=>ji (s.bays.getD i η) (L i))
 links:∀i,i<n3->Lks w (L i).A (L i).n (s.bays.getD i η).links
section
variable {w:World} {A0:Option Addr} {n0 c0:Nat} {A1:Option Addr} {n1 c1:Nat} {A2:Option Addr} {n2 c2:Nat} {A3:Option Addr} {n3 c3:Nat} {L:Nat->Hd} {s:StD}
def yu.is_(h:yu w A0 n0 c0 A1 n1 c1 A2 n2 c2 A3 n3 c3 L s)(j:n0<=1000000/\n1<=1000000/\n2<=1000000/\n3<=1000000):lI w A0 n0 c0 A1 n1 c1 A2 n2 c2 A3 n3 c3 L s:=
 ⟨h.buses,h.nc,j,h.l1,h.lines,h.l2,h.srcs,h.l3,h.bays,h.links⟩
def yu.ext{w'}(h:yu w A0 n0 c0 A1 n1 c1 A2 n2 c2 A3 n3 c3 L s)(x:Ext w w'):yu w' A0 n0 c0 A1 n1 c1 A2 n2 c2 A3 n3 c3 L s:=
 ⟨h.buses.ext x,h.nc,h.mx,h.l1,h.lines.ext x,h.l2,h.srcs.ext x,h.l3,h.bays.ext x,fun i hi=>(h.links i hi).ext x⟩
end
theorem UN{w:World}{j v}(h:w.cell? j=γ v):∃b o,j=⟨b,o,δ⟩:=by
 have hs:j.spot=δ:=by
  unfold World.cell? at h;split at h
  .split at h
   .cases h
   .rename_i K;simpa using K
  .cases h
 obtain⟨b,o,sp⟩:=j;simp only at hs;subst hs;exact⟨b,o,rfl⟩
theorem VY(j:Addr):j.add 0=j:=by
 unfold Addr.add;split<;>simp_all
section
variable {H:Type} {enc:TypeId×Value->H} {P:Program} {w:World} {base:Nat} {spare:Nat->Bool} {held:Bool}
theorem open_arr{α:Type}[Inhabited α]{t e k}(C:α->List Value)(Q:α->Prop)(O:P.underlying t=γ (.slice e))(hk:P.cellsOf e=k)(W:0<k)(T:∀d,(C d).length=k)(ho:∀j cs x,cs.length=k->DataW.trod enc P w base spare held j e cs=γ x->∃d,cs=C d/\Q d){j v}{x:DataW H×List MemPlace}(h:DataW.trod enc P w base spare held j t [v]=γ x):
  ∃(A:Option Addr) (n c:Nat) (l:List α),v=.slice A n c/\l.length=n/\Arr w A n k (fun i=>C (l.getD i η))/\(∀i,i<n->Q (l.getD i η))/\n<=c/\n<=9223372036854775807:=by
 rcases open_slice O h with ⟨I,_⟩|⟨a,len,N,m,nf,D,G,I,_,Z,hm,M,_,hi⟩
 .injection I with I;exact⟨δ,0,0,[],I,rfl,fun h=>absurd h aa,fun i hi=>absurd hi aa,κ _,aa⟩
 .injection I with I;have F:len<=m:=by rw[M];split<;>omega
  unfold maxLen at hm;rw[hk] at hi;obtain⟨d,hd⟩:=choose_lt (α:=α) (n:=len) (p:=fun i d=>(∀t u,(C d)[t]? =γ u->w.cell? ((a.add (i*k)).add t)=γ u)/\Q d) (fun i U=>by
   obtain⟨cs',h1,V⟩:=hi i aa;obtain⟨_,Y,hc⟩:=World.cells?_some h1;obtain⟨d,rfl,hr⟩:=ho _ _ _ Y V;refine⟨d,fun t u L=> ?_,hr⟩;have O:t<k:=by have:=(μ.1 L).1;rw[T] at this;exact this
   rw[hc t O];exact L)
  have S:∀i,i<len->((List.range len).map d).getD i η=d i:=fun i hi=>by
   rw[π,Aa,aaz hi];rfl
  refine⟨γ a,len,N,(List.range len).map d,I,ag,fun hn=> ?_,fun i K=>by rw[S i K];exact(hd i K).2,Z,aa⟩;obtain⟨u0,R⟩:∃u,(C (d 0))[0]? =γ u:=⟨_,ν (by rw[T];exact W)⟩;have B:=(hd 0 hn).1 0 u0 R;rw[aaV,VY,VY] at B;obtain⟨b,o,rfl⟩:=UN B;refine⟨b,o,rfl,lt_of_cell B,fun i K t u L=> ?_⟩;have J:(C (((List.range len).map d).getD i η))[t]? =γ u:=L;rw[S i K] at J;have:=(hd i K).1 t u J;rw[add_plain,add_plain] at this;exact this
end
section
variable {H:Type} {enc:TypeId×Value->H} {w:World} {base:Nat} {spare:Nat->Bool} {held:Bool}
def ae4:prog.cellsOf 3=1:=ah
def afs:prog.cellsOf 4=1:=ah
def afd:prog.cellsOf 9=1:=ah
def afh:prog.cellsOf 54=2:=ah
def agn:prog.cellsOf 63=5:=ah
def agm:prog.cellsOf 83=6:=ah
def agr:prog.cellsOf 57=12:=ah
def aga:prog.cellsOf 137=2:=ah
def agk:prog.cellsOf 55=1:=ah
def agi:prog.cellsOf 23=1:=ah
def agj:prog.cellsOf 24=1:=ah
def agd:prog.cellsOf 25=1:=ah
def age:prog.cellsOf 22=1:=ah
def agl:prog.cellsOf 28=1:=ah
def agp:prog.cellsOf 92=1:=ah
def agf:prog.cellsOf 29=1:=ah
def agq:prog.cellsOf 27=5:=ah
def agt:prog.cellsOf 31=2:=ah
def agb:prog.cellsOf 33=6:=ah
def j4{j c}{x:DataW H×List MemPlace}(h:DataW.trod enc prog w base spare held j 3 [c]=γ x):∃z:Int,c=.int .i64 z:=by
 obtain⟨z,e,_,_⟩:=DataW.trod_int underlying3 h;exact⟨z,by simpa using e⟩
def KW{j c}{x:DataW H×List MemPlace}(h:DataW.trod enc prog w base spare held j 4 [c]=γ x):∃z:Bool,c=.bool z:=by
 obtain⟨z,e,_⟩:=DataW.trod_bool aaP h;exact⟨z,by simpa using e⟩
def Ba{j c}{x:DataW H×List MemPlace}(h:DataW.trod enc prog w base spare held j 9 [c]=γ x):∃z:ByteArray,c=.string z:=by
 obtain⟨z,e,_,_⟩:=DataW.trod_string ac9 h;exact⟨z,by simpa using e⟩
def ui{j c0 c1}{x:DataW H×List MemPlace}(h:DataW.trod enc prog w base spare held j 54 [c0,c1]=γ x):∃z:Imp,c0=.int .i64 z.r/\c1=.int .i64 z.x:=by
 obtain⟨xs,n,_,J,_,Y,B⟩:=aaI underlying54 h
 match xs,Y with
 |[y0,y1],_=>
  have C:DataW.trod enc prog w base spare held n 3 [c0]=γ y0:=by simpa[ae4] using B 0 _ rfl
  have g1:DataW.trod enc prog w base spare held n 3 [c1]=γ y1:=by simpa[ae4] using B 1 _ rfl
  obtain⟨a,rfl⟩:=j4 C;obtain⟨b,rfl⟩:=j4 g1;exact⟨⟨a,b⟩,rfl,rfl⟩
def OZ{j cs}{x:DataW H×List MemPlace}(Z:cs.length=5)(h:DataW.trod enc prog w base spare held j 63 cs=γ x):∃d:vV,cs=mr d:=by
 obtain⟨xs,n,_,J,_,Y,B⟩:=aaI acX h
 match cs,Z,xs,Y with
 |[c0,c1,c2,c3,c4],_,[y0,y1,y2],_=>
  have C:DataW.trod enc prog w base spare held n 9 [c0]=γ y0:=by simpa[afd] using B 0 _ rfl
  have g1:DataW.trod enc prog w base spare held n 54 [c1,c2]=γ y1:=by simpa[afh] using B 1 _ rfl
  have g2:DataW.trod enc prog w base spare held n 54 [c3,c4]=γ y2:=by simpa[afh] using B 2 _ rfl
  obtain⟨a,rfl⟩:=Ba C;obtain⟨z1,rfl,rfl⟩:=ui g1;obtain⟨z0,rfl,rfl⟩:=ui g2;exact⟨⟨a,z1,z0⟩,rfl⟩
def QJ{j cs}{x:DataW H×List MemPlace}(Z:cs.length=6)(h:DataW.trod enc prog w base spare held j 83 cs=γ x):∃d:DV,cs=yn d:=by
 obtain⟨xs,n,_,J,_,Y,B⟩:=aaI underlying83 h
 match cs,Z,xs,Y with
 |[c0,c5,c1,c2,c3,c4],_,[y0,y3,y1,y2],_=>
  have C:DataW.trod enc prog w base spare held n 9 [c0]=γ y0:=by simpa[afd] using B 0 _ rfl
  have g3:DataW.trod enc prog w base spare held n 3 [c5]=γ y3:=by simpa[ae4] using B 1 _ rfl
  have g1:DataW.trod enc prog w base spare held n 54 [c1,c2]=γ y1:=by simpa[afh] using B 2 _ rfl
  have g2:DataW.trod enc prog w base spare held n 54 [c3,c4]=γ y2:=by simpa[afh] using B 3 _ rfl
  obtain⟨a,rfl⟩:=Ba C;obtain⟨e,rfl⟩:=j4 g3;obtain⟨z1,rfl,rfl⟩:=ui g1;obtain⟨z0,rfl,rfl⟩:=ui g2;exact⟨⟨a,e,z1,z0⟩,rfl⟩
def Pq{j cs}{x:DataW H×List MemPlace}(Z:cs.length=2)(h:DataW.trod enc prog w base spare held j 137 cs=γ x):∃d:qP,cs=Ms d:=by
 obtain⟨xs,n,_,J,_,Y,B⟩:=aaI underlying137 h
 match cs,Z,xs,Y with
 |[c0,c1],_,[y0,y1],_=>
  have C:DataW.trod enc prog w base spare held n 3 [c0]=γ y0:=by simpa[ae4] using B 0 _ rfl
  have g1:DataW.trod enc prog w base spare held n 3 [c1]=γ y1:=by simpa[ae4] using B 1 _ rfl
  obtain⟨a,rfl⟩:=j4 C;obtain⟨b,rfl⟩:=j4 g1;exact⟨⟨a,b⟩,rfl⟩
def V5 (w:World) (d:iA×Hd):Prop:=Lks w d.2.A d.2.n d.1.links
instance:Inhabited Hd:=⟨⟨δ,0,0⟩⟩
def Qc{j cs}{x:DataW H×List MemPlace}(Z:cs.length=12)(h:DataW.trod enc prog w base spare held j 57 cs=γ x):∃d:iA×Hd,cs=ji d.1 d.2/\V5 w d:=by
 obtain⟨xs,n,_,J,_,Y,I⟩:=aaI abg h
 match cs,Z,xs,Y with
 |[c0,c1,c2,c3,c4,c5,c6,c7,c8,c9,c10,c11],_,[y0,y1,y2,y3,y4,y5,y6,y7,y8,y9,y10],_=>
  have K:DataW.trod enc prog w base spare held n 9 [c0]=γ y0:=by simpa[afd] using I 0 _ rfl
  have g1:DataW.trod enc prog w base spare held n 3 [c1]=γ y1:=by simpa[ae4] using I 1 _ rfl
  have g2:DataW.trod enc prog w base spare held n 3 [c2]=γ y2:=by simpa[ae4] using I 2 _ rfl
  have g3:DataW.trod enc prog w base spare held n 3 [c3]=γ y3:=by simpa[ae4] using I 3 _ rfl
  have g4:DataW.trod enc prog w base spare held n 54 [c4,c5]=γ y4:=by simpa[afh] using I 4 _ rfl
  have g5:DataW.trod enc prog w base spare held n 55 [c6]=γ y5:=by simpa[agk] using I 5 _ rfl
  have g6:DataW.trod enc prog w base spare held n 4 [c7]=γ y6:=by simpa[afs] using I 6 _ rfl
  have g7:DataW.trod enc prog w base spare held n 3 [c8]=γ y7:=by simpa[ae4] using I 7 _ rfl
  have g8:DataW.trod enc prog w base spare held n 3 [c9]=γ y8:=by simpa[ae4] using I 8 _ rfl
  have g9:DataW.trod enc prog w base spare held n 3 [c10]=γ y9:=by simpa[ae4] using I 9 _ rfl
  have g10:DataW.trod enc prog w base spare held n 3 [c11]=γ y10:=by simpa[ae4] using I 10 _ rfl
  obtain⟨N,rfl⟩:=Ba K;obtain⟨O,rfl⟩:=j4 g1;obtain⟨P,rfl⟩:=j4 g2;obtain⟨L,rfl⟩:=j4 g3;obtain⟨z,rfl,rfl⟩:=ui g4;obtain⟨A,m,c,l,rfl,S,M,_,_,_⟩:=open_arr Ms (fun _=>True) underlying55 aga aa (fun _=>rfl) (fun f cs x Z h=>(Pq Z h).imp fun d e=>⟨e,trivial⟩) g5;obtain⟨G,rfl⟩:=KW g6;obtain⟨D,rfl⟩:=j4 g7;obtain⟨C,rfl⟩:=j4 g8;obtain⟨F,rfl⟩:=j4 g9;obtain⟨B,rfl⟩:=j4 g10;exact⟨(⟨N,O,P,L,z,l,G,D,C,F,B⟩,⟨A,m,c⟩),rfl,S,M⟩
theorem Gv{r:Reach}{b0:Nat}{v:Value}{d:DataW H}{p:List MemPlace}(hv:Value.okWide prog w r b0 27 v)(h:DataW.Trod enc prog w base spare held 27 v d p):
  ∃A0 n0 c0 A1 n1 c1 A2 n2 c2 A3 n3 c3 L s,v=stV s.name A0 n0 c0 A1 n1 c1 A2 n2 c2 A3 n3 c3/\yu w A0 n0 c0 A1 n1 c1 A2 n2 c2 A3 n3 c3 L s:=by
 obtain⟨cs,rfl,F⟩:=adD acY hv;obtain⟨l⟩:=cs;rw[agq] at F;obtain⟨j,hf⟩:=h;obtain⟨xs,n,_,J,_,Y,D⟩:=aaI acY hf
 match l,F,xs,Y with
 |[c0,c1,c2,c3,c4],_,[y0,y1,y2,y3,y4],_=>
  have g0:DataW.trod enc prog w base spare held n 9 [c0]=γ y0:=by simpa[Value.cells,afd] using D 0 _ rfl
  have g1:DataW.trod enc prog w base spare held n 22 [c1]=γ y1:=by simpa[Value.cells,age] using D 1 _ rfl
  have g2:DataW.trod enc prog w base spare held n 23 [c2]=γ y2:=by simpa[Value.cells,agi] using D 2 _ rfl
  have g3:DataW.trod enc prog w base spare held n 24 [c3]=γ y3:=by simpa[Value.cells,agj] using D 3 _ rfl
  have g4:DataW.trod enc prog w base spare held n 25 [c4]=γ y4:=by simpa[Value.cells,agd] using D 4 _ rfl
  obtain⟨nm,rfl⟩:=Ba g0;obtain⟨A0,n0,k0,l0,rfl,G,I,_,Q,P⟩:=open_arr (α:=ByteArray) (fun s=>[Value.string s]) (fun _=>True) underlying22 afd aa (fun _=>rfl) (fun f cs x Z h=>by
   match cs,Z with
   |[c],_=>obtain⟨z,rfl⟩:=Ba h;exact⟨z,rfl,trivial⟩) g1
  obtain⟨A1,n1,C,l1,rfl,S,K,_,_,R⟩:=open_arr mr (fun _=>True) underlying23 agn aa (fun _=>rfl) (fun f cs x Z h=>(OZ Z h).imp fun d e=>⟨e,trivial⟩) g2;obtain⟨A2,n2,k2,l2,rfl,M,U,_,_,T⟩:=open_arr yn (fun _=>True) underlying24 agm aa (fun _=>rfl) (fun f cs x Z h=>(QJ Z h).imp fun d e=>⟨e,trivial⟩) g3;obtain⟨A3,n3,k3,l3,rfl,V,W,B,_,O⟩:=open_arr (fun d:iA×Hd=>ji d.1 d.2) (V5 w) underlying25 agr aa (fun _=>rfl) (fun f cs x Z h=>Qc Z h) g4;have hb:∀i,i<n3->(l3.map (·.1)).getD i η=(l3.getD i η).1:=fun i hi=>by
   have N:i<l3.length:=aa;rw[π,π,Aa,ν N];rfl
  refine⟨A0,n0,k0,A1,n1,C,A2,n2,k2,A3,n3,k3,fun i=>(l3.getD i η).2,⟨nm,l0,l1,l2,l3.map (·.1)⟩,rfl,⟨?_,Q,⟨P,R,T,O⟩,S,K,M,U,by simpa using V,?_,?_⟩⟩
  .exact Arr.reads (f:=Value.string) (d:=η) I G
  .exact W.congr fun i hi=>by rw[hb i hi]
  .intro i hi;have:=B i hi;unfold V5 at this;rw[<-hb i hi] at this;exact this
def DU{r:Reach}{R:Nat}{v:Value}{d:DataW H}{p:List MemPlace}(hv:Value.okWide prog w r R 31 v)(h:DataW.Trod enc prog w base spare held 31 v d p):
  ∃PA P pc PB V qc K q,v=lK PA P pc PB V qc/\iR w PA P PB V K q:=by
 obtain⟨cs,rfl,D⟩:=adD acd hv;obtain⟨l⟩:=cs;rw[agt] at D;obtain⟨j,W⟩:=h;obtain⟨xs,n,_,J,_,Y,O⟩:=aaI acd W
 match l,D,xs,Y with
 |[c0,c1],_,[y0,y1],_=>
  have T:DataW.trod enc prog w base spare held n 28 [c0]=γ y0:=by simpa[Value.cells,agl] using O 0 _ rfl
  have g1:DataW.trod enc prog w base spare held n 29 [c1]=γ y1:=by simpa[Value.cells,agf] using O 1 _ rfl
  obtain⟨A0,n0,k0,l0,rfl,G,I,_,Q,M⟩:=open_arr (α:=Bool) (fun s=>[Value.bool s]) (fun _=>True) acb afs aa (fun _=>rfl) (fun f cs x Z h=>by
   match cs,Z with
   |[c],_=>obtain⟨z,rfl⟩:=KW h;exact⟨z,rfl,trivial⟩) T
  obtain⟨A1,n1,C,l1,rfl,S,F,B,_,N⟩:=open_arr (α:=List Int×Hd) (fun d=>[d.2.v]) (fun d=>d.1.length=d.2.n/\Arr w d.2.A d.2.n 1 (fun k=>[.int .i64 (d.1.getD k 0)])/\d.2.n<=9223372036854775807) underlying29 agp aa (fun _=>rfl) (fun f cs x Z h=>by
   match cs,Z with
   |[c],_=>
    obtain⟨A,m,k,l,rfl,S,U,_,_,hm⟩:=open_arr (α:=Int) (fun z=>[Value.int .i64 z]) (fun _=>True) aca ae4 aa (fun _=>rfl) (fun f cs x Z h=>by
     match cs,Z with
     |[c],_=>obtain⟨z,rfl⟩:=j4 h;exact⟨z,rfl,trivial⟩) h
    exact⟨(l,⟨A,m,k⟩),rfl,S,U,hm⟩) g1
  have hb:∀i,i<n1->(l1.map (·.1)).getD i []=(l1.getD i η).1:=fun i hi=>by
   have L:i<l1.length:=aa;rw[π,π,Aa,ν L];rfl
  refine⟨A0,n0,k0,A1,n1,C,fun i=>(l1.getD i η).2,⟨l0,l1.map (·.1)⟩,rfl,⟨G,I,by simpa using S,F,?_,?_,M,N,fun i hi=>(B i hi).2.2⟩⟩
  .intro i hi;show((l1.map (·.1)).getD i []).length=_;rw[hb i hi];exact(B i hi).1
  .intro i hi;show Arr w _ _ 1 (fun k=>[.int .i64 (((l1.map (·.1)).getD i []).getD k 0)]);rw[hb i hi];exact(B i hi).2.1
def JY{r:Reach}{D:Nat}{v:Value}{d:DataW H}{p:List MemPlace}(hv:Value.okWide prog w r D 33 v)(h:DataW.Trod enc prog w base spare held 33 v d p):∃f:eD,v=nU f:=by
 obtain⟨cs,rfl,C⟩:=adD underlying33 hv;obtain⟨l⟩:=cs;rw[agb] at C;obtain⟨j,L⟩:=h;obtain⟨xs,n,_,J,_,Y,B⟩:=aaI underlying33 L
 match l,C,xs,Y with
 |[c0,c1,c2,c3,c4,c5],_,[y0,y1,y2,y3,y4,y5],_=>
  have F:DataW.trod enc prog w base spare held n 3 [c0]=γ y0:=by simpa[Value.cells,ae4] using B 0 _ rfl
  have g1:DataW.trod enc prog w base spare held n 4 [c1]=γ y1:=by simpa[Value.cells,afs] using B 1 _ rfl
  have g2:DataW.trod enc prog w base spare held n 3 [c2]=γ y2:=by simpa[Value.cells,ae4] using B 2 _ rfl
  have g3:DataW.trod enc prog w base spare held n 3 [c3]=γ y3:=by simpa[Value.cells,ae4] using B 3 _ rfl
  have g4:DataW.trod enc prog w base spare held n 3 [c4]=γ y4:=by simpa[Value.cells,ae4] using B 4 _ rfl
  have g5:DataW.trod enc prog w base spare held n 3 [c5]=γ y5:=by simpa[Value.cells,ae4] using B 5 _ rfl
  obtain⟨M,rfl⟩:=j4 F;obtain⟨N,rfl⟩:=KW g1;obtain⟨O,rfl⟩:=j4 g2;obtain⟨G,rfl⟩:=j4 g3;obtain⟨K,rfl⟩:=j4 g4;obtain⟨I,rfl⟩:=j4 g5;exact⟨⟨M,N,O,G,K,I⟩,rfl⟩
end
open Go.RowKit Go.Deep
def SmP (w:World) (n0 n1 n2 n3 V:Nat) (e:Ending) (w':World):Prop:=∃b,e=.returned (.bool b)/\Ext w w'/\(b=ε->n0<=3/\n1<=2/\n2<=2/\n3<=9/\V<=12)
def SmP.no{w w':World}{n0 n1 n2 n3 V:Nat}(x:Ext w w'):SmP w n0 n1 n2 n3 V (.returned (.bool ζ)) w':=⟨_,rfl,x,fun h=>by cases h⟩
def SmP.yes{w w':World}{n0 n1 n2 n3 V:Nat}(x:Ext w w')(h:n0<=3/\n1<=2/\n2<=2/\n3<=9/\V<=12):SmP w n0 n1 n2 n3 V (.returned (.bool ε)) w':=⟨_,rfl,x,fun _=>h⟩
theorem Ke{A0:Option Addr}{n0 c0:Nat}{A1:Option Addr}{n1 c1:Nat}{A2:Option Addr}{n2 c2:Nat}{A3:Option Addr}{n3 c3:Nat}{L:Nat->Hd}{s:StD}{PA:Option Addr}{J P:Nat}{PB:Option Addr}{V qc:Nat}{K:Nat->Hd}{p:dM}(w:World)(hs:yu w A0 n0 c0 A1 n1 c1 A2 n2 c2 A3 n3 c3 L s)(hp:iR w PA J PB V K p):
  Calls prog 53 #[stV s.name A0 n0 c0 A1 n1 c1 A2 n2 c2 A3 n3 c3,lK PA J P PB V qc] w (SmP w n0 n1 n2 n3 V):=by
 have R:=aW hs;have HP:=aW hp;clear hs hp;unfold stV lK;by_cases t1:3<n0
 .have T:decide ((3:Int)<n0)=ε:=ae;clear t1;exact AaE
 have T:decide ((3:Int)<n0)=ζ:=ae;by_cases t2:2<n1
 .have S:decide ((2:Int)<n1)=ε:=ae;clear t2;exact AaE
 have S:decide ((2:Int)<n1)=ζ:=ae;by_cases t3:2<n2
 .have d3:decide ((2:Int)<n2)=ε:=ae;clear t3;exact AaE
 have d3:decide ((2:Int)<n2)=ζ:=ae;by_cases Y:9<n3
 .have W:decide ((9:Int)<n3)=ε:=ae;clear Y;exact AaE
 have W:decide ((9:Int)<n3)=ζ:=ae;by_cases t5:12<V
 .have d5:decide ((12:Int)<V)=ε:=ae;clear t5;exact AaE
 have d5:decide ((12:Int)<V)=ζ:=ae;go_enter func53,ntmps53;go_wp2_with fail;clear T S d3 W d5;have F:Ext w (aL (aL w #[s.name,aO A0 n0 c0,aO A1 n1 c1,aO A2 n2 c2,aO A3 n3 c3] 27) #[aO PA J P,aO PB V qc] 31):=(Ext.new _ _).alloc _;obtain⟨-,U,-⟩:=ah2 w 27 #[s.name,aO A0 n0 c0,aO A1 n1 c1,aO A2 n2 c2,aO A3 n3 c3] 31 #[aO PA J P,aO PB V qc];have H:=aW F;clear F;generalize aU _ _=w0 at H U⊢;generalize w.heap.size+1=g3;generalize w.heap.size=g2 at U⊢;have O:Hid (n0<=3/\n1<=2/\n2<=2/\n3<=9/\V<=12):=aW aa;clear t1 t2 t3 Y t5;go_loopw [42] (fun iv wr=>∃k:Nat,k<=n1/\iv=.int .i64 k/\Ext w0 wr) (aT n1)
 case atStart=>exact⟨0,aa,rfl,Ext.refl _⟩
 case round=>
  rename World=>wr;obtain⟨k,N,rfl,C⟩:=hrel;have Q:=aW C;clear C;by_cases D:k<n1
  .have hd:decide ((k:Int)<n1)=ε:=ae;have q1:(0:Int)<=k:=aa;have q2:(k:Int)<n1:=aa;have B:Hid (wrap64 ((k:Int)+1)=(k:Int)+1):=aW (Ab _ Ace);obtain⟨lb,lo,M,hb,hc⟩:=(R.lines.ext (H.trans Q.o)).at_ D;generalize s.lines.getD k η=j at hc;have e0:=hc 0 _ rfl;have e1:=hc 1 _ rfl;have Z:=hc 2 _ rfl;have e3:=hc 3 _ rfl;have e4:=hc 4 _ rfl;simp only[I6] at e0;subst M;have G:=(U.ext Q.o).cell;clear hb hc;go_wp2_with fail;all_goals first
    |(go_ret;exact SmP.no (H.trans (Q.trans (Ext.new _ _))))
    |(refine⟨⟨k+1,aa,by rw[B.o];rfl,Q.trans (Ext.new _ _)⟩,?_⟩;rw[B.o];simp[aT,intOf];omega)
  .have hd:decide ((k:Int)<n1)=ζ:=ae;obtain rfl:k=n1:=aa;have G:=(U.ext Q.o).cell;go_wp2_with fail;clear G hd;have I:=Q;clear Q D N;go_loopw [72] (fun iv wr=>∃k:Nat,k<=n2/\iv=.int .i64 k/\Ext w0 wr) (aT n2)
   case atStart=>exact⟨0,aa,rfl,I.o⟩
   case round=>
    rename World=>wr;obtain⟨k,N,rfl,C⟩:=hrel;have Q:=aW C;clear C;by_cases D:k<n2
    .have hd:decide ((k:Int)<n2)=ε:=ae;have q1:(0:Int)<=k:=aa;have q2:(k:Int)<n2:=aa;have B:Hid (wrap64 ((k:Int)+1)=(k:Int)+1):=aW (Ab _ Ace);obtain⟨lb,lo,M,hb,hc⟩:=(R.srcs.ext (H.trans Q.o)).at_ D;generalize s.srcs.getD k η=j at hc;have e0:=hc 0 _ rfl;have e1:=hc 1 _ rfl;have Z:=hc 2 _ rfl;have e3:=hc 3 _ rfl;have e4:=hc 4 _ rfl;have e5:=hc 5 _ rfl;simp only[I6] at e0;subst M;have G:=(U.ext Q.o).cell;clear hb hc;go_wp2_with fail;all_goals first
      |(go_ret;exact SmP.no (H.trans (Q.trans (Ext.new _ _))))
      |(refine⟨⟨k+1,aa,by rw[B.o];rfl,Q.trans (Ext.new _ _)⟩,?_⟩;rw[B.o];simp[aT,intOf];omega)
    .have hd:decide ((k:Int)<n2)=ζ:=ae;obtain rfl:k=n2:=aa;have G:=(U.ext Q.o).cell;go_wp2_with fail;clear G hd;have I:=Q;clear Q D N;go_loopw [102] (fun iv wr=>∃k:Nat,k<=n3/\iv=.int .i64 k/\Ext w0 wr) (aT n3)
     case atStart=>exact⟨0,aa,rfl,I.o⟩
     case round=>
      rename World=>wr;obtain⟨k,N,rfl,C⟩:=hrel;have Q:=aW C;clear C;by_cases D:k<n3
      .have hd:decide ((k:Int)<n3)=ε:=ae;have q1:(0:Int)<=k:=aa;have q2:(k:Int)<n3:=aa;have B:Hid (wrap64 ((k:Int)+1)=(k:Int)+1):=aW (Ab _ Ace);obtain⟨lb,lo,M,hb,hc⟩:=(R.bays.ext (H.trans Q.o)).at_ D;generalize s.bays.getD k η=j at hc;have e0:=hc 0 _ rfl;have e1:=hc 1 _ rfl;have Z:=hc 2 _ rfl;have e3:=hc 3 _ rfl;have e4:=hc 4 _ rfl;have e5:=hc 5 _ rfl;have e6:=hc 6 _ rfl;have e7:=hc 7 _ rfl;have e8:=hc 8 _ rfl;have e9:=hc 9 _ rfl;have Yx:=hc 10 _ rfl;have YE:=hc 11 _ rfl;simp only[I6] at e0;subst M;have G:=(U.ext Q.o).cell;clear hb hc;go_wp2_with fail;all_goals first
        |(go_ret;exact SmP.no (H.trans (Q.trans (Ext.new _ _))))
        |(refine⟨⟨k+1,aa,by rw[B.o];rfl,Q.trans (Ext.new _ _)⟩,?_⟩;rw[B.o];simp[aT,intOf];omega)
      .have hd:decide ((k:Int)<n3)=ζ:=ae;obtain rfl:k=n3:=aa;have G:=(U.ext Q.o).cell;go_wp2_with fail;clear G hd;go_ret;exact SmP.yes (H.trans Q.o) O.o
def VaP (w:World) (n0 n1 n2 n3 V:Nat) (s:StD) (p:dM) (f:eD) (e:Ending) (w':World):Prop:=∃b,e=.returned (.bool b)/\Ext w w'/\(b=ε->(n0<=3/\n1<=2/\n2<=2/\n3<=9/\V<=12)/\xL s f=0/\jG s p=0)
def VaP.no{w w':World}{n0 n1 n2 n3 V:Nat}{s:StD}{p:dM}{f:eD}(x:Ext w w'):VaP w n0 n1 n2 n3 V s p f (.returned (.bool ζ)) w':=⟨_,rfl,x,fun h=>by cases h⟩
def VaP.yes{w w':World}{n0 n1 n2 n3 V:Nat}{s:StD}{p:dM}{f:eD}(x:Ext w w')(b:Bool)(h:b=ε->(n0<=3/\n1<=2/\n2<=2/\n3<=9/\V<=12)/\xL s f=0/\jG s p=0):VaP w n0 n1 n2 n3 V s p f (.returned (.bool b)) w':=⟨_,rfl,x,h⟩
theorem Ps{A0:Option Addr}{n0 c0:Nat}{A1:Option Addr}{n1 c1:Nat}{A2:Option Addr}{n2 c2:Nat}{A3:Option Addr}{n3 c3:Nat}{L:Nat->Hd}{s:StD}{PA:Option Addr}{O Q:Nat}{PB:Option Addr}{V qc:Nat}{K:Nat->Hd}{p:dM}(f:eD)(w:World)(hs:yu w A0 n0 c0 A1 n1 c1 A2 n2 c2 A3 n3 c3 L s)(hp:iR w PA O PB V K p):
  Calls prog 17 #[stV s.name A0 n0 c0 A1 n1 c1 A2 n2 c2 A3 n3 c3,lK PA O Q PB V qc,nU f] w (VaP w n0 n1 n2 n3 V s p f):=by
 have Z:=aW hs;have HP:=aW hp;clear hs hp;unfold stV lK nU;go_enter func17,ntmps17;go_wp2_with fail;have F:Ext w (aL (aL (aL w #[s.name,aO A0 n0 c0,aO A1 n1 c1,aO A2 n2 c2,aO A3 n3 c3] 27) #[aO PA O Q,aO PB V qc] 31) #[f.kind,f.line,f.obj,f.num,f.den,f.r] 33):=((Ext.new _ _).alloc _).alloc _;obtain⟨-,G,H,-⟩:=ah3 w 27 #[s.name,aO A0 n0 c0,aO A1 n1 c1,aO A2 n2 c2,aO A3 n3 c3] 31 #[aO PA O Q,aO PB V qc] 33 #[f.kind,f.line,f.obj,f.num,f.den,f.r];have I:Hid (Blk (aL (aL (aL w #[s.name,aO A0 n0 c0,aO A1 n1 c1,aO A2 n2 c2,aO A3 n3 c3] 27) #[aO PA O Q,aO PB V qc] 31) #[f.kind,f.line,f.obj,f.num,f.den,f.r] 33) (w.heap.size+1+1) 33 #[f.kind,f.line,f.obj,f.num,f.den,f.r]):=aW (aeV _ _ ag);have R:=aW F;clear F;generalize aU _ _=w0 at R G H I⊢;generalize w.heap.size+1+1=g5 at I⊢;generalize w.heap.size+1=g4 at H⊢;generalize w.heap.size=g3 at G⊢;refine(Ke _ (Z.ext R.o) (HP.ext R.o)).mono ?_;rintro _ w1 ⟨b,rfl,F,hb⟩;have P:=aW (R.trans F);replace G:=G.aA F;replace H:=H.aA F;replace I:=I.aA F;clear F R;cases b
 .clear hb G H I;go_wp2_with fail;go_ret;exact VaP.no P.o
 have HT:=aW (hb rfl);clear hb;have M:=aW ((Z.ext P.o).is_ (by have:=HT.o;omega));have N:=aW (HP.ext P.o);clear Z HP;have T:=G.cell;have k5:=I.cell;by_cases hr:100<f.r
 .have hd:decide (f.r<=100)=ζ:=ae;clear hr;go_wp2_with fail;go_ret;exact VaP.no P.o
 have hd:decide (f.r<=100)=ε:=ae;clear hr;go_wp2_with fail;clear T k5 hd;refine(G9 _ M.o f).mono ?_;rintro _ w2 ⟨rfl,F⟩;have B:=aW (P.trans F);replace M:=M.aA F;replace N:=N.aA F;replace G:=G.aA F;replace H:=H.aA F;clear F P;obtain⟨Y,j⟩:∃z,xL s f=z:=⟨_,rfl⟩;rw[j];by_cases S:Y=0
 .subst S;have T:=G.cell;have k4:=H.cell;have W:=aW j;clear j;go_wp2_with fail;clear T k4;refine(Hg _ _ M.o N.o).mono ?_;rintro _ w3 ⟨rfl,F⟩;have U:=aW (B.trans F);clear F;obtain⟨D,J⟩:∃z,jG s p=z:=⟨_,rfl⟩;rw[J];have C:=aW J;clear J;go_wp2_with fail;go_ret;exact VaP.yes U.o _ (fun h=>⟨HT.o,W.o,by rw[C.o];simpa using h⟩)
 .have hd:decide (Y=0)=ζ:=by simpa using S
  have ac:(Y==0)=ζ:=by simpa using S
  clear j S;go_wp2_with fail;go_ret;exact VaP.no B.o
def Ur{A B C S T g h A1 I J H j:Nat}(U:Nat.gcd (Nat.gcd C A) B=1)(hs:Nat.gcd T S=1)(N:g=Nat.gcd (Nat.gcd T A) B)(V:h=Nat.gcd C S)(P:0<g)(M:0<h)(D:T=g*j)(L:A=g*A1)(F:B=g*I)(G:C=h*J)(O:S=h*H):Nat.gcd (Nat.gcd (J*j) (A1*H)) (I*H)=1:=by
 have c1:Nat.gcd (Nat.gcd j A1) I=1:=by
  have e:Nat.gcd (Nat.gcd T A) B=g*Nat.gcd (Nat.gcd j A1) I:=by rw[D,L,F,abO,abO]
  rw[e] at N;exact abh P aa
 have c2:Nat.gcd J H=1:=by
  have e:Nat.gcd C S=h*Nat.gcd J H:=by rw[G,O,abO]
  rw[e] at V;exact abh M aa
 have W:Nat.Coprime (Nat.gcd A1 I) j:=by
  show Nat.gcd (Nat.gcd A1 I) j=1;rw[aaE,<-ach];exact c1
 have Y:Nat.Coprime (Nat.gcd A1 I) J:=by
  have K:Nat.gcd (Nat.gcd A1 I) J∣Nat.gcd (Nat.gcd C A) B:=by
   refine acG (acG ?_ ?_) ?_
   .rw[G];exact aaf (aag _ _) ⟨h,nH _ _⟩
   .rw[L];exact aaf (aaf (I4 _ _) (I4 _ _)) ⟨g,nH _ _⟩
   .rw[F];exact aaf (aaf (I4 _ _) (aag _ _)) ⟨g,nH _ _⟩
  rw[U] at K;exact Nat.dvd_one.1 K
 have Q:Nat.Coprime H J:=by show Nat.gcd H J=1;rw[aaE];exact c2
 have R:Nat.Coprime H j:=by
  have K:Nat.gcd H j∣Nat.gcd T S:=by
   refine acG ?_ ?_
   .rw[D];exact aaf (aag _ _) ⟨g,nH _ _⟩
   .rw[O];exact aaf (I4 _ _) ⟨h,nH _ _⟩
  rw[hs] at K;exact Nat.dvd_one.1 K
 have k:Nat.Coprime (Nat.gcd A1 I*H) (J*j):=Nat.Coprime.mul_left (ado Y W) (ado Q R);rw[ach,acU,aaE];exact k
def nat_eq{x y z:Int}(h:x=y*z):x.natAbs=y.natAbs*z.natAbs:=by rw[h,Ex]
def NW{x y z:Int}(h:x=y*z)(J:0<x)(R:0<y):0<z:=by
 rcases acT z 0 with j|j|j
 .have:=ac0 R j;omega
 .subst j;simp at h;omega
 .exact j
theorem LF(gc v1 v2 P fb D sa S u v t K)(I:K<=12800)(w)(hc:Calm w gc)(L:RG w v1 P fb D)(M:RG w v2 sa 0 S)(lf:Low P fb D)(B:Low sa 0 S)(sx:Sz K P fb D)(sy:Sz K sa 0 S)(E:(u,v,t)=nf (P*sa) (fb*sa) (D*S))(sz:Sz K u v t):
  CV 142 #[aN gc 0,v1,v2] w fun x w'=>RG w' x u v t:=by
 have hd:D≠0:=by have:=lf.1;omega
 have hd':S≠0:=by have:=B.1;omega
 obtain⟨g,t1,a1,b1,hg,N,G,ea,eb⟩:=tQ (a:=S) (b:=P) (c:=fb) hd';obtain⟨h,d1,s1,z1,hh,Yx,ed,O,ez⟩:=tQ (a:=D) (b:=sa) (c:=0) hd;have YK:z1=0:=by
  rcases ack.1 ez.symm with h|h
  .exact absurd h Yx
  .exact h
 subst YK;have F:g.natAbs=Nat.gcd (Nat.gcd S.natAbs P.natAbs) fb.natAbs:=by rw[hg];simp[gG]
 have W:h.natAbs=Nat.gcd D.natAbs sa.natAbs:=by rw[hh];simp[gG]
 have Yu:0<g:=by
  have:0<=g:=by rw[hg];omega
  omega
 have Y:0<h:=by
  have:0<=h:=by rw[hh];omega
  omega
 have R:Nat.gcd (Nat.gcd D.natAbs P.natAbs) fb.natAbs=1:=lf.2;have U:Nat.gcd S.natAbs sa.natAbs=1:=by have:=B.2;unfold g3 at this;simpa using this
 have C:=Ur R U F W aa aa (nat_eq G) (nat_eq ea) (nat_eq eb) (nat_eq ed) (nat_eq O);have j:=NW ed lf.1 Y;have ac:=NW G B.1 Yu;have Yv:Low (a1*s1) (b1*s1) (d1*t1):=⟨Int.mul_pos j ac,by unfold g3;rw[Ex,Ex,Ex];exact C⟩;have hD:d1*t1≠0:=by have:=Yv.1;omega
 have E2:nf (P*sa) (fb*sa) (D*S)=nf (a1*s1) (b1*s1) (d1*t1):=by
  refine pR (nk hd hd') hD ?_ ?_
  .rw[ea,G,ed,O];grind
  .rw[eb,G,ed,O];grind
 rw[E2,BM Yv] at E;injection E with e1 E;injection E with e2 e3;obtain⟨x1,x2,J⟩:=sx.nK I;obtain⟨y1,y2,y3⟩:=sy.nK I;obtain⟨z1,z2,z3⟩:=sz.nK I;have T:=gP N ea sx.a;have V:=gP N eb sx.b;have Z:=gP N G sy.d;have Q:=gP Yx O sy.a;have H:=gP Yx ed sx.d;have bg:g.natAbs<2^K:=zg hd' ⟨_,G⟩ sy.d;have bh:h.natAbs<2^K:=zg hd ⟨_,ed⟩ sx.d;have l0:(0:Int).natAbs<lim:=y2;exact Cg gc v1 P fb D v2 sa 0 S w hc L x1 x2 J M y1 y2 y3 g (aW hg) (bQ bg aa) h (aW hh) (bQ bh aa)
  a1 (aW (gF N ea)) (bQ T aa) (aW N) (aW ⟨_,ea⟩) b1 (aW (gF N eb)) (bQ V aa) (aW N) (aW ⟨_,eb⟩)
  s1 (aW (gF Yx O)) (bQ Q aa) (aW Yx) (aW ⟨_,O⟩) 0 (aW ag) l0 (aW Yx) (aW ⟨0,ag⟩)
  u (aW e1) z1 0 (aW ag) l0 u (aW ag) z1
  0 (aW ag) l0 v (aW e2) z2 v (aW ag) z2
  d1 (aW (gF Yx ed)) (bQ H aa) (aW Yx) (aW ⟨_,ed⟩) t1 (aW (gF N G)) (bQ Z aa) (aW N) (aW ⟨_,G⟩)
  t (aW e3) z3 (aW (by rw[e3];exact hD)) u v t (aW (by rw[e1,e2,e3,BM Yv])) z1 z2 z3
namespace GQ
def rX(x y:GQ):x+y=y+x:=by ext<;>simp only[bT,bS]<;>grind
def sH(x y z:GQ):x+y+z=x+(y+z):=by ext<;>simp only[bT,bS]<;>grind
def qB(x y z:GQ):x*(y+z)=x*y+x*z:=by ext<;>simp only[bT,bS,bL,bK]<;>grind
def mI(x y z:GQ):x*(y-z)=x*y-x*z:=by ext<;>simp only[dJ,dK,bL,bK]<;>grind
def fq(x):i 0 0*x=i 0 0:=by ext<;>simp only[dH,dC,bL,bK]<;>grind
def bY(x):x*i 0 0=i 0 0:=by ext<;>simp only[dH,dC,bL,bK]<;>grind
def kJ(x):i 1 0*x=x:=by ext<;>simp only[dH,dC,bL,bK]<;>grind
def pU(x):x*i 1 0=x:=by ext<;>simp only[dH,dC,bL,bK]<;>grind
def fC(x):x-i 0 0=x:=by ext<;>simp only[dH,dC,dJ,dK]<;>grind
def O7(x):i 0 0-x= -x:=by ext<;>simp only[dH,dC,dJ,dK,lL,lT]<;>grind
def rJ(x):x-x=i 0 0:=by ext<;>simp only[dH,dC,dJ,dK]<;>grind
def add_zero'(x):x+i 0 0=x:=by ext<;>simp only[dH,dC,bT,bS]<;>grind
def KZ{x y}(h:x+y=i 0 0):x= -y:=by
 have B:=congrArg GQ.re h;have j:=congrArg GQ.im h;simp only[bT,bS,dH,dC] at B j;ext<;>simp only[lL,lT]<;>grind
def II{x}(h:x+x=i 0 0):x=i 0 0:=by
 have j:=congrArg GQ.re h;have B:=congrArg GQ.im h;simp only[bT,bS,dH,dC] at j B;ext<;>simp only[dH,dC]<;>grind
theorem TR(x y:GQ):(x*y).nrm=x.nrm*y.nrm:=by unfold nrm;simp only[bL,bK];grind
theorem jd{x y}(J:x≠i 0 0)(R:y≠i 0 0):x*y≠i 0 0:=by
 intro h;have j:=TR x y;rw[h] at j;have B:(i 0 0).nrm=0:=by unfold nrm;simp only[dH,dC];grind
 rw[B] at j;rcases abx.1 j.symm with h|h
 .exact Dj J h
 .exact Dj R h
end GQ
def dB (v:Nat->GQ) (D:List Nat->GQ):List Nat->GQ
 |[]=>GQ.i 0 0
 |c::cs=>v c*D cs-dB v (fun l=>D (c::l)) cs
def det:List (Nat->GQ)->List Nat->GQ
 |[],_=>GQ.i 1 0
 |v::R,cs=>dB v (det R) cs
def Dn(v a):∀(cs:List Nat) (D E:List Nat->GQ),dB v (fun l=>a*D l-E l) cs=a*dB v D cs-dB v E cs
 |[],D,E=>by simp only[dB,GQ.bY,GQ.fC]
 |c::cs,D,E=>by
  simp only[dB,Dn v a cs];ext<;>simp only[GQ.dJ,GQ.dK,GQ.bL,GQ.bK]<;>grind
def yA(v u f):∀(cs:List Nat) (D:List Nat->GQ),dB (fun c=>v c-f*u c) D cs=dB v D cs-f*dB u D cs
 |[],D=>by simp only[dB,GQ.bY,GQ.fC]
 |c::cs,D=>by
  simp only[dB,yA v u f cs];ext<;>simp only[GQ.dJ,GQ.dK,GQ.bL,GQ.bK]<;>grind
def nD(v):∀(cs:List Nat),dB v (fun _=>GQ.i 0 0) cs=GQ.i 0 0
 |[]=>rfl
 |c::cs=>by simp only[dB,nD v cs,GQ.bY,GQ.fC]
def rG(v u):∀(cs:List Nat) (D:List Nat->GQ),dB v (dB u D) cs+dB u (dB v D) cs=GQ.i 0 0
 |[],D=>by simp only[dB,GQ.add_zero']
 |c::cs,D=>by
  have B:=rG v u cs (fun l=>D (c::l));have C:dB v (fun l=>dB u D (c::l)) cs=u c*dB v D cs-dB v (dB u (fun l=>D (c::l))) cs:=by
   rw[<-Dn];rfl
  have j:dB u (fun l=>dB v D (c::l)) cs=v c*dB u D cs-dB u (dB v (fun l=>D (c::l))) cs:=by
   rw[<-Dn];rfl
  have e1:dB v (dB u D) (c::cs)=v c*dB u D cs-dB v (fun l=>dB u D (c::l)) cs:=rfl;have F:dB u (dB v D) (c::cs)=u c*dB v D cs-dB u (fun l=>dB v D (c::l)) cs:=rfl;rw[e1,F,C,j];have i1:=congrArg GQ.re B;have Q:=congrArg GQ.im B;simp only[GQ.bT,GQ.bS,GQ.dH,GQ.dC] at i1 Q;ext<;>simp only[GQ.bT,GQ.bS,GQ.dJ,GQ.dK,GQ.bL,GQ.bK,GQ.dH,GQ.dC]<;>grind
def xP(v u R cs):det (v::u::R) cs= -det (u::v::R) cs:=by
 have h:=rG v u cs (det R);exact GQ.KZ h
def rM(v):∀(R:List (Nat->GQ)) (cs:List Nat),v∈R->det (v::R) cs=GQ.i 0 0
 |[],_,h=>by cases h
 |u::R,cs,h=>by
  by_cases e:v=u
  .subst e;apply GQ.II;exact rG v v cs (det R)
  .have j:v∈R:=by
    rcases kC.1 h with h|h
    .exact absurd h e
    .exact h
   rw[xP];have B:det (v::R)=fun _=>GQ.i 0 0:=funext fun l=>rM v R l j;show-dB u (det (v::R)) cs=_;rw[B,nD];ext<;>simp only[GQ.lL,GQ.lT,GQ.dH,GQ.dC]<;>grind
def Says (x a:Nat->GQ) (P:List (Nat->GQ)):Prop:=∀cs,det (x::P) cs=det (a::P) cs
def Says.refl(a P):Says a a P:=fun _=>rfl
def Says.more{x a b P}(h:Says x a P):Says x a (b::P):=by
 intro cs;rw[xP,xP a];have:det (x::P)=det (a::P):=funext h;show-dB b (det (x::P)) cs= -dB b (det (a::P)) cs;rw[this]
def Says.step{x y a b P}(J:Says x a P)(R:Says y b P)(f):Says (fun c=>x c-f*y c) a (b::P):=by
 intro cs;have j:det ((fun c=>x c-f*y c)::b::P) cs=det (x::b::P) cs-f*det (y::b::P) cs:=yA x y f cs (det (b::P));rw[j,J.more cs,R.more cs,rM b (b::P) cs (qa),GQ.bY,GQ.fC]
def nA{x}:∀(cs:List Nat) (D:List Nat->GQ),(∀c∈cs,x c=GQ.i 0 0)->dB x D cs=GQ.i 0 0
 |[],_,_=>rfl
 |c::cs,D,h=>by
  show x c*D cs-dB x (fun l=>D (c::l)) cs=_;rw[h c (qa),nA cs _ (fun d hd=>h d (nC _ hd)),GQ.fq,GQ.fC]
def Says.entry{x a P q}(h:Says x a P)(D:∀c∈q,x c=GQ.i 0 0)(j):det (a::P) (j::q)=x j*det P q:=by
 rw[<-h];show x j*det P q-dB x _ q=_;rw[nA q _ D,GQ.fC]

def Wh (x:GQ) (B:Nat):Prop:=∃a b:Int,x=GQ.i a b/\a.natAbs+b.natAbs<=B
def Wh.mono{x B C}(h:Wh x B)(D:B<=C):Wh x C:=by
 obtain⟨a,b,e,h⟩:=h;exact⟨a,b,e,aa⟩
def Wh.mul{x y B C}(J:Wh x B)(R:Wh y C):Wh (x*y) (B*C):=by
 obtain⟨a,b,rfl,h⟩:=J;obtain⟨c,d,rfl,k⟩:=R;refine⟨a*c-b*d,a*d+b*c,?_,?_⟩
 .ext<;>simp only[GQ.bL,GQ.bK,GQ.dH,GQ.dC,abU,aa7,aan]
 .have D:=abF (a*c) (b*d);have j:=ab8 (a*d) (b*c);have G:(a.natAbs+b.natAbs)*(c.natAbs+d.natAbs)<=B*C:=aaa h k;have F:(a.natAbs+b.natAbs)*(c.natAbs+d.natAbs)=a.natAbs*c.natAbs+b.natAbs*d.natAbs+(a.natAbs*d.natAbs+b.natAbs*c.natAbs):=by
   exact Acl
  rw[Ex,Ex] at D j;omega
def Wh.sub{x y B C}(J:Wh x B)(R:Wh y C):Wh (x-y) (B+C):=by
 obtain⟨a,b,rfl,h⟩:=J;obtain⟨c,d,rfl,k⟩:=R;refine⟨a-c,b-d,?_,?_⟩
 .ext<;>simp only[GQ.dJ,GQ.dK,GQ.dH,GQ.dC,abU]
 .have D:=abF a c;have j:=abF b d;omega
def ww:Wh (GQ.i 1 0) 1:=⟨1,0,rfl,ag⟩
def iH(B):Wh (GQ.i 0 0) B:=⟨0,0,rfl,ag⟩
def fct:Nat->Nat
 |0=>1
 |n+1=>(n+1)*fct n
def sP{x}(s):∀(cs:List Nat) (D:List Nat->GQ),dB (fun c=>s*x c) D cs=s*dB x D cs
 |[],_=>(GQ.bY s).symm
 |c::cs,D=>by
  show s*x c*D cs-dB (fun c=>s*x c) (fun l=>D (c::l)) cs=s*(x c*D cs-dB x (fun l=>D (c::l)) cs);rw[sP s cs,GQ.mI,GQ.dE]
def kI{x}(s):∀(cs:List Nat) (D:List Nat->GQ),dB x (fun l=>s*D l) cs=s*dB x D cs
 |[],_=>(GQ.bY s).symm
 |c::cs,D=>by
  show x c*(s*D cs)-dB x (fun l=>s*D (c::l)) cs=s*(x c*D cs-dB x (fun l=>D (c::l)) cs);rw[kI s cs,GQ.mI,<-GQ.dE,GQ.dZ (x c) s,GQ.dE]
def St.swap{w W a b bs fs}(h:St w W (a::b::bs) fs):St w W (b::a::bs) fs:=
 ⟨h.ext,fun p hp=>h.blks p (by simp at hp⊢;rcases hp with e|e|e<;>simp[e]),⟨⟨fun e=>h.nd.1.1 e.symm,h.nd.2.1⟩,h.nd.1.2,h.nd.2.2⟩,h.nums⟩
def UG(v0)(q0:PQ)(n0:Nat)(m1:Int)(K r:Nat)(w)(Yw:PV w v0 q0 n0)(l1: -9223372036854775808<=m1)(u1:m1<=9223372036854775807)(V:Hid (m1%12=(K:Int)))(Q:Hid (K=3*r+0))(hr:r<=3)(hn:2*n0+65<=12800):
  CV 132 #[v0,m1] w fun v w'=>(∃u,v=.tuple #[u,aJ]/\PV w' u (⟨q0.u*aeY r,q0.v*aeY r⟩) (n0)):=by
 have hS:=aeZ w;obtain⟨Zj,Zi,Zg,bl,bj,bi,Yw,ZO,ZP,ZN,ZQ⟩:=Yw;obtain⟨Yv,Yu,L,G,W,T,P,Y,U,S,H,Z,Zd,YW,YV,YU,Za,YX,N,Ze,YZ,Zc,YY,Zf,rfl,YJ,YL,YK,Zn,Zp,Zo⟩:=Yw;replace hS:=hS.bI YJ;clear YJ;replace hS:=hS.bI YL;clear YL;replace hS:=hS.bI YK;clear YK;replace hS:=hS.bI Zn;clear Zn;replace hS:=hS.bI Zp;clear Zp;replace hS:=hS.bI Zo;clear Zo;have bk:=J4 V.o;have e3:(K:Int).tmod 3=0:=by rw[Q.o,abd aa];omega
 have e4:(K:Int).tdiv 3=(r:Int):=by rw[Q.o,abS aa];omega
 have B:=(St.al (St.al hS 44 #[Yv,aO Yu L G,W,aO T P Y,U,aO S H Z,Zd,aO YW YV YU,Za,aO YX N Ze,YZ,aO Zc YY Zf] (g:=w.heap.size) ag) 44 aQ6 (g:=(w.heap.size+1)) ag);have YN:=(B.aH 1).cell;go_enter aed,adE;go_wp2_with fail;clear YN;clear B;refine gA3 hS 44 #[Yv,aO Yu L G,W,aO T P Y,U,aO S H Z,Zd,aO YW YV YU,Za,aO YX N Ze,YZ,aO Zc YY Zf] 44 aQ6 42 #[Yv,aO Yu L G,W,aO T P Y,U,aO S H Z,Zd,aO YW YV YU,Za,aO YX N Ze,YZ,aO Zc YY Zf] ?_;clear hS;intro w1 g2 o2 g4 o4 ZW bh hS;refine(kQ ZW q0.u q0.v n0 n0 _ (hS.aH 0) ⟨_,_,_,RG.mk (hS.aF 5) (hS.aF 4) (hS.aF 3),ZO,ZP⟩ aa ⟨_,_,_,RG.mk (hS.aF 2) (hS.aF 1) (hS.aF 0),ZN,ZQ⟩ aa).mono ?_;rintro e w2 ⟨rfl,F⟩;replace hS:=hS.mv F;clear F;go_wp2_with fail;refine gA1 hS 197 #[aJ] ?_;clear hS;intro w3 g6 o6 hS;have YM:=(hS.aH 3).cell;have ZU:=(hS.aH 3).lt;go_region;clear YM ZU;have o7:Own w w3.heap.size:=aeX hS.ext ag;have o8:Own w (w3.heap.size+1):=aeX hS.ext ag;replace hS:=((hS.al 42 #[Yv,aO Yu L G,W,aO T P Y,U,aO S H Z] (g:=w3.heap.size) rfl).al 42 #[Zd,aO YW YV YU,Za,aO YX N Ze,YZ,aO Zc YY Zf] (g:=w3.heap.size+1) ag).mv ((Ext.refl _).drew);generalize ((w3.alloc (.cells #[Yv,aO Yu L G,W,aO T P Y,U,aO S H Z] 42)).alloc (.cells #[Zd,aO YW YV YU,Za,aO YX N Ze,YZ,aO Zc YY Zf] 42)).drew=w4 at hS⊢;generalize w3.heap.size+1=g8 at hS o8⊢;generalize w3.heap.size=g7 at hS o7⊢
 rotate_left 1
 clear YM ZU;have o8:Own w w3.heap.size:=aeX hS.ext ag;have o7:Own w (w3.heap.size+1):=aeX hS.ext ag;replace hS:=((hS.al 42 #[Zd,aO YW YV YU,Za,aO YX N Ze,YZ,aO Zc YY Zf] (g:=w3.heap.size) rfl).al 42 #[Yv,aO Yu L G,W,aO T P Y,U,aO S H Z] (g:=w3.heap.size+1) ag).mv ((Ext.refl _).drew);replace hS:=St.swap hS;generalize ((w3.alloc (.cells #[Zd,aO YW YV YU,Za,aO YX N Ze,YZ,aO Zc YY Zf] 42)).alloc (.cells #[Yv,aO Yu L G,W,aO T P Y,U,aO S H Z] 42)).drew=w4 at hS⊢;generalize w3.heap.size+1=g7 at hS o7⊢;generalize w3.heap.size=g8 at hS o8⊢
 rotate_left 1
 all_goals
  have YR:=(hS.aH 2).cell;go_wp2_with fail;clear YR;obtain⟨D,YA,Yx,ar⟩:=gI (q0.u*aeY r);have bg:Sz (n0) D YA Yx:=(ae6 ⟨_,_,_,ZO,ZP⟩ r).sz ar;obtain⟨Yy,YB,Yz,aq⟩:=gI (q0.v*aeY r);have be:Sz (n0) Yy YB Yz:=(ae6 ⟨_,_,_,ZN,ZQ⟩ r).sz aq;have Y8:=aX.blk (hS.aH 0);have Y7:=aX.blk (hS.aH 1);have C:=hS.ext;refine tF 11 [(3,.rg (D) (YA) (Yx)),(7,.rg (Yy) (YB) (Yz)),(8,.retp (D) (YA) (Yx) (Yy) (YB) (Yz) 0)] ?_;refine Qs ?_;refine Eg (fun R I=>mX (iN g6 _ q0.u (n0) r ((r:Int)) _ rfl (Blk.ext (hS.aH 2) I.1) ⟨_,_,_,RG.mk (hS.aD 5 I.1) (hS.aD 4 I.1) (hS.aD 3 I.1),ZO,ZP⟩ aa aa) ar) ?_;intro ZF YF Zt Zw ZI YO Zx ZE ZG YP ZA Zz ZL ZJ;refine Qs ?_;refine Eg (fun R I=>mX (iN g6 _ q0.v (n0) r ((r:Int)) _ rfl (Blk.ext (hS.aH 2) I.1) ⟨_,_,_,RG.mk (hS.aD 2 I.1) (hS.aD 1 I.1) (hS.aD 0 I.1),ZN,ZQ⟩ aa aa) aq) ?_;intro Zk YG Zq ZH Zv YE Zy YQ ZB YH Zr ZC ZM ZK;refine dL rf rf rf ?_ ?_
  .intro R I;have hW:=I.1;have ZY:RI R (iv ZF YF Zt Zw) D:=RG.at1 (I.2 3 ((gv ZF YF Zt Zw ZI YO Zx ZE ZG YP ZA Zz),ZL,ZJ) rf ah);have ZZ:RI R (iv ZI YO Zx ZE) YA:=RG.at2 (I.2 3 ((gv ZF YF Zt Zw ZI YO Zx ZE ZG YP ZA Zz),ZL,ZJ) rf ah);have Z9:RI R (iv ZG YP ZA Zz) Yx:=RG.at3 (I.2 3 ((gv ZF YF Zt Zw ZI YO Zx ZE ZG YP ZA Zz),ZL,ZJ) rf ah);have Z8:RI R (iv Zk YG Zq ZH) Yy:=RG.at1 (I.2 7 ((gv Zk YG Zq ZH Zv YE Zy YQ ZB YH Zr ZC),ZM,ZK) rf ah);have Z7:RI R (iv Zv YE Zy YQ) YB:=RG.at2 (I.2 7 ((gv Zk YG Zq ZH Zv YE Zy YQ ZB YH Zr ZC),ZM,ZK) rf ah);have ac:RI R (iv ZB YH Zr ZC) Yz:=RG.at3 (I.2 7 ((gv Zk YG Zq ZH Zv YE Zy YQ ZB YH Zr ZC),ZM,ZK) rf ah);clear I;go_simp;exact⟨rfl,(zl g6 _ D YA Yx _ Yy YB Yz _ (Blk.ext (hS.aH 2) hW) (RG.mk ZY ZZ Z9) (RG.mk Z8 Z7 ac)).mono fun e w' ⟨v,O,hR,J⟩=>⟨v,O,J,hR⟩⟩
  intro v_ aE a7 YD;obtain⟨R,YC⟩:=YD;have M:Fc.holds (.retp (D) (YA) (Yx) (Yy) (YB) (Yz) 0) aE a7 v_ R:=YC.get;clear YC;obtain⟨_,rfl,aB,ao,a1,ax,aI,am,a0,a3,av,ai,ba,a5,az,af,bb,aw,a6,ad,ay,a9,a8,ap,a2,a4,rfl,-,-,-,-,-,-⟩:=M;clear R;refine Qp ?_;refine Qs ?_;refine bN ?_;intro w5 I;have j:=hS.lt;replace hS:=hS.mv I.ext;replace hS:=hS.aG I 3;replace hS:=hS.aG I 7;replace hS:=hS.aP I 8;clear I j C Y8 Y7;have YS:=(hS.aH 4).cell;have Zh:=(hS.aH 4).frozen;go_wp2;replace hS:=hS.pt 4 0 [.bool aB,.slice ao a1 ax,.bool aI,.slice am a0 a3,.bool av,.slice ai ba a5,.bool az,.slice af bb aw,.bool a6,.slice ad ay a9,.bool a8,.slice ap a2 a4] o4;exact tH rfl rfl rfl (hS.aH 4) ⟨_,rfl,⟨_,rfl,⟨_,_,_,_,_,_,RP.mk (hS.aF 5) (hS.aF 4) (hS.aF 3) (hS.aF 2) (hS.aF 1) (hS.aF 0),ar,bg,aq,be⟩⟩,hS.ext⟩
def Uu(v0)(q0:PQ)(n0:Nat)(m1:Int)(K r:Nat)(w)(Yw:PV w v0 q0 n0)(l1: -9223372036854775808<=m1)(u1:m1<=9223372036854775807)(V:Hid (m1%12=(K:Int)))(Q:Hid (K=3*r+1))(hr:r<=3)(hn:2*n0+65<=12800):
  CV 132 #[v0,m1] w fun v w'=>(∃u,v=.tuple #[u,aJ]/\PV w' u (⟨aeW 1 (q0.u*aeY 1) 3 q0.v 2*aeY r,aeW 1 q0.u 1 (q0.v*aeY 1) 2*aeY r⟩) (n0+n0+65)):=by
 have hS:=aeZ w;obtain⟨Zj,Zi,Zg,dy,dw,dv,Yw,ZO,ZP,ZN,ZQ⟩:=Yw;obtain⟨Yv,Yu,L,G,W,T,P,Y,U,S,H,Z,Zd,YW,YV,YU,Za,YX,N,Ze,YZ,Zc,YY,Zf,rfl,YJ,YL,YK,Zn,Zp,Zo⟩:=Yw;replace hS:=hS.bI YJ;clear YJ;replace hS:=hS.bI YL;clear YL;replace hS:=hS.bI YK;clear YK;replace hS:=hS.bI Zn;clear Zn;replace hS:=hS.bI Zp;clear Zp;replace hS:=hS.bI Zo;clear Zo;have dx:=J4 V.o;have e3:(K:Int).tmod 3=1:=by rw[Q.o,abd aa];omega
 have e4:(K:Int).tdiv 3=(r:Int):=by rw[Q.o,abS aa];omega
 have B:=(St.al (St.al hS 44 #[Yv,aO Yu L G,W,aO T P Y,U,aO S H Z,Zd,aO YW YV YU,Za,aO YX N Ze,YZ,aO Zc YY Zf] (g:=w.heap.size) ag) 44 aQ6 (g:=(w.heap.size+1)) ag);have YN:=(B.aH 1).cell;go_enter aed,adE;go_wp2_with fail;clear YN;clear B;refine gA3 hS 44 #[Yv,aO Yu L G,W,aO T P Y,U,aO S H Z,Zd,aO YW YV YU,Za,aO YX N Ze,YZ,aO Zc YY Zf] 44 aQ6 42 #[Yv,aO Yu L G,W,aO T P Y,U,aO S H Z,Zd,aO YW YV YU,Za,aO YX N Ze,YZ,aO Zc YY Zf] ?_;clear hS;intro w1 g2 o2 g4 o4 ZW du hS;refine(kQ ZW q0.u q0.v n0 n0 _ (hS.aH 0) ⟨_,_,_,RG.mk (hS.aF 5) (hS.aF 4) (hS.aF 3),ZO,ZP⟩ aa ⟨_,_,_,RG.mk (hS.aF 2) (hS.aF 1) (hS.aF 0),ZN,ZQ⟩ aa).mono ?_;rintro e w2 ⟨rfl,F⟩;replace hS:=hS.mv F;clear F;go_wp2_with fail;refine gA1 hS 197 #[aJ] ?_;clear hS;intro w3 g6 o6 hS;have YM:=(hS.aH 3).cell;have ZU:=(hS.aH 3).lt;go_region;clear YM ZU;have o7:Own w w3.heap.size:=aeX hS.ext ag;have o8:Own w (w3.heap.size+1):=aeX hS.ext ag;replace hS:=((hS.al 42 #[Yv,aO Yu L G,W,aO T P Y,U,aO S H Z] (g:=w3.heap.size) rfl).al 42 #[Zd,aO YW YV YU,Za,aO YX N Ze,YZ,aO Zc YY Zf] (g:=w3.heap.size+1) ag).mv ((Ext.refl _).drew);generalize ((w3.alloc (.cells #[Yv,aO Yu L G,W,aO T P Y,U,aO S H Z] 42)).alloc (.cells #[Zd,aO YW YV YU,Za,aO YX N Ze,YZ,aO Zc YY Zf] 42)).drew=w4 at hS⊢;generalize w3.heap.size+1=g8 at hS o8⊢;generalize w3.heap.size=g7 at hS o7⊢
 rotate_left 1
 clear YM ZU;have o8:Own w w3.heap.size:=aeX hS.ext ag;have o7:Own w (w3.heap.size+1):=aeX hS.ext ag;replace hS:=((hS.al 42 #[Zd,aO YW YV YU,Za,aO YX N Ze,YZ,aO Zc YY Zf] (g:=w3.heap.size) rfl).al 42 #[Yv,aO Yu L G,W,aO T P Y,U,aO S H Z] (g:=w3.heap.size+1) ag).mv ((Ext.refl _).drew);replace hS:=St.swap hS;generalize ((w3.alloc (.cells #[Zd,aO YW YV YU,Za,aO YX N Ze,YZ,aO Zc YY Zf] 42)).alloc (.cells #[Yv,aO Yu L G,W,aO T P Y,U,aO S H Z] 42)).drew=w4 at hS⊢;generalize w3.heap.size+1=g7 at hS o7⊢;generalize w3.heap.size=g8 at hS o8⊢
 rotate_left 1
 all_goals
  go_wp2_with fail;obtain⟨bA,bV,ca,cE⟩:=gI (q0.u*aeY 1);have dk:Sz (n0) bA bV ca:=(ae6 ⟨_,_,_,ZO,ZP⟩ 1).sz cE;obtain⟨cf,ci,cn,cF⟩:=gI (aeW (1) (q0.u*aeY 1) (3) q0.v (2));have de:Sz (n0+n0+65) cf ci cn:=(ae7 (m:=2) ⟨_,_,_,cE,dk⟩ ⟨_,_,_,ZN,ZQ⟩ aa aa aa aa aa aa aa).sz cF;obtain⟨cg,cj,cb,cG⟩:=gI (q0.v*aeY 1);have di:Sz (n0) cg cj cb:=(ae6 ⟨_,_,_,ZN,ZQ⟩ 1).sz cG;obtain⟨ce,ch,bw,cD⟩:=gI (aeW (1) q0.u (1) (q0.v*aeY 1) (2));have df:Sz (n0+n0+65) ce ch bw:=(ae7 (m:=2) ⟨_,_,_,ZO,ZP⟩ ⟨_,_,_,cG,di⟩ aa aa aa aa aa aa aa).sz cD;have Y2:=aX.blk (hS.aH 5);have C:=hS.ext;refine tF 12 [(2,.rg (bA) (bV) (ca)),(5,.rg (cf) (ci) (cn)),(10,.rg (cg) (cj) (cb)),(11,.rg (ce) (ch) (bw))] ?_;refine Qs ?_;refine Eg (fun R I=>mX (iN g6 _ q0.u (n0) 1 (1) _ rfl (Blk.ext (hS.aH 2) I.1) ⟨_,_,_,RG.mk (hS.aD 5 I.1) (hS.aD 4 I.1) (hS.aD 3 I.1),ZO,ZP⟩ aa aa) cE) ?_;intro aI aq a8 a3 a9 am bi a2 bm ar bk az ZT ZR;refine Qs ?_;refine Eg (fun R I=>mX (jW g6 _ _ (q0.u*aeY 1) q0.v (1) (3) (2) _ _ _ (Blk.ext (hS.aH 2) I.1) ⟨_,_,_,RG.mk (RG.at1 (I.f 2 ((gv aI aq a8 a3 a9 am bi a2 bm ar bk az),ZT,ZR))) (RG.at2 (I.f 2 ((gv aI aq a8 a3 a9 am bi a2 bm ar bk az),ZT,ZR))) (RG.at3 (I.f 2 ((gv aI aq a8 a3 a9 am bi a2 bm ar bk az),ZT,ZR))),cE,dk⟩ ⟨_,_,_,RG.mk (hS.aD 2 I.1) (hS.aD 1 I.1) (hS.aD 0 I.1),ZN,ZQ⟩ aa aa aa aa aa aa aa aa) cF) ?_;intro be ac a0 a1 bj ao aB bq bl ad bh a6 dp dr;refine Qs ?_;refine Eg (fun R I=>mX (iN g6 _ q0.v (n0) 1 (1) _ rfl (Blk.ext (hS.aH 2) I.1) ⟨_,_,_,RG.mk (hS.aD 2 I.1) (hS.aD 1 I.1) (hS.aD 0 I.1),ZN,ZQ⟩ aa aa) cG) ?_;intro a5 ai bn bb bp ap a7 aE ay af ba bg a4 bo;refine Eg (fun R I=>mX (jW g6 _ _ q0.u (q0.v*aeY 1) (1) (1) (2) _ _ _ (Blk.ext (hS.aH 2) I.1) ⟨_,_,_,RG.mk (hS.aD 5 I.1) (hS.aD 4 I.1) (hS.aD 3 I.1),ZO,ZP⟩ ⟨_,_,_,RG.mk (RG.at1 (I.f 10 ((gv a5 ai bn bb bp ap a7 aE ay af ba bg),a4,bo))) (RG.at2 (I.f 10 ((gv a5 ai bn bb bp ap a7 aE ay af ba bg),a4,bo))) (RG.at3 (I.f 10 ((gv a5 ai bn bb bp ap a7 aE ay af ba bg),a4,bo))),cG,di⟩ aa aa aa aa aa aa aa aa) cD) ?_;intro bx av cr cv cp aw cd cl b0 ax ck cc dq ds;refine bN ?_;intro w5 I;have j:=hS.lt;replace hS:=hS.mv I.ext;replace hS:=hS.aG I 2;replace hS:=hS.aG I 5;replace hS:=hS.aG I 10;replace hS:=hS.aG I 11;clear I j C Y2;have YR:=(hS.aH 1).cell;have YS:=(hS.aH 1).frozen;have YI:=hS.pt 1 0 [.bool be,.slice ac a0 a1,.bool bj,.slice ao aB bq,.bool bl,.slice ad bh a6] o7;have Zh:=(YI.aH 0).cell;have Zl:=(YI.aH 0).frozen;have YT:=(hS.pt 1 0 [.bool be,.slice ac a0 a1,.bool bj,.slice ao aB bq,.bool bl,.slice ad bh a6] o7).pt 0 0 [.bool bx,.slice av cr cv,.bool cp,.slice aw cd cl,.bool b0,.slice ax ck cc] o8;have Zm:=(YT.aH 2).cell;go_wp2_with fail;clear YR YS Zh Zl Zm;clear YI YT;replace hS:=(hS.pt 1 0 [.bool be,.slice ac a0 a1,.bool bj,.slice ao aB bq,.bool bl,.slice ad bh a6] o7).pt 0 0 [.bool bx,.slice av cr cv,.bool cp,.slice aw cd cl,.bool b0,.slice ax ck cc] o8;refine gW hS ?_;clear hS;intro w6 hS;obtain⟨D,YA,Yx,cI⟩:=gI ((aeW (1) (q0.u*aeY 1) (3) q0.v (2))*aeY r);have dn:Sz (n0+n0+65) D YA Yx:=(ae6 ⟨_,_,_,cF,de⟩ r).sz cI;obtain⟨Yy,YB,Yz,cH⟩:=gI ((aeW (1) q0.u (1) (q0.v*aeY 1) (2))*aeY r);have dl:Sz (n0+n0+65) Yy YB Yz:=(ae6 ⟨_,_,_,cD,df⟩ r).sz cH;have Y8:=aX.blk (hS.aH 0);have Y7:=aX.blk (hS.aH 1);have C:=hS.ext;refine tF 11 [(3,.rg (D) (YA) (Yx)),(7,.rg (Yy) (YB) (Yz)),(8,.retp (D) (YA) (Yx) (Yy) (YB) (Yz) 0)] ?_;refine Qs ?_;refine Eg (fun R I=>mX (iN g6 _ (aeW (1) (q0.u*aeY 1) (3) q0.v (2)) (n0+n0+65) r ((r:Int)) _ rfl (Blk.ext (hS.aH 2) I.1) ⟨_,_,_,RG.mk (hS.aD 8 I.1) (hS.aD 7 I.1) (hS.aD 6 I.1),cF,de⟩ aa aa) cI) ?_;intro ZF YF Zt Zw ZI YO Zx ZE ZG YP ZA Zz ZL ZJ;refine Qs ?_;refine Eg (fun R I=>mX (iN g6 _ (aeW (1) q0.u (1) (q0.v*aeY 1) (2)) (n0+n0+65) r ((r:Int)) _ rfl (Blk.ext (hS.aH 2) I.1) ⟨_,_,_,RG.mk (hS.aD 2 I.1) (hS.aD 1 I.1) (hS.aD 0 I.1),cD,df⟩ aa aa) cH) ?_;intro Zk YG Zq ZH Zv YE Zy YQ ZB YH Zr ZC ZM ZK;refine dL rf rf rf ?_ ?_
  .intro R I;have hW:=I.1;have ZY:RI R (iv ZF YF Zt Zw) D:=RG.at1 (I.2 3 ((gv ZF YF Zt Zw ZI YO Zx ZE ZG YP ZA Zz),ZL,ZJ) rf ah);have ZZ:RI R (iv ZI YO Zx ZE) YA:=RG.at2 (I.2 3 ((gv ZF YF Zt Zw ZI YO Zx ZE ZG YP ZA Zz),ZL,ZJ) rf ah);have Z9:RI R (iv ZG YP ZA Zz) Yx:=RG.at3 (I.2 3 ((gv ZF YF Zt Zw ZI YO Zx ZE ZG YP ZA Zz),ZL,ZJ) rf ah);have Z8:RI R (iv Zk YG Zq ZH) Yy:=RG.at1 (I.2 7 ((gv Zk YG Zq ZH Zv YE Zy YQ ZB YH Zr ZC),ZM,ZK) rf ah);have Z7:RI R (iv Zv YE Zy YQ) YB:=RG.at2 (I.2 7 ((gv Zk YG Zq ZH Zv YE Zy YQ ZB YH Zr ZC),ZM,ZK) rf ah);have bt:RI R (iv ZB YH Zr ZC) Yz:=RG.at3 (I.2 7 ((gv Zk YG Zq ZH Zv YE Zy YQ ZB YH Zr ZC),ZM,ZK) rf ah);clear I;go_simp;exact⟨rfl,(zl g6 _ D YA Yx _ Yy YB Yz _ (Blk.ext (hS.aH 2) hW) (RG.mk ZY ZZ Z9) (RG.mk Z8 Z7 bt)).mono fun e w' ⟨v,O,hR,J⟩=>⟨v,O,J,hR⟩⟩
  intro v_ cR c7 YD;obtain⟨R,YC⟩:=YD;have M:Fc.holds (.retp (D) (YA) (Yx) (Yy) (YB) (Yz) 0) cR c7 v_ R:=YC.get;clear YC;obtain⟨_,rfl,cQ,cB,cU,cM,cS,cA,cT,cW,cJ,cy,db,cY,cP,cx,dc,cL,c6,cw,cN,da,c8,cC,cV,cX,rfl,-,-,-,-,-,-⟩:=M;clear R;refine Qp ?_;refine Qs ?_;refine bN ?_;intro w7 I;have j:=hS.lt;replace hS:=hS.mv I.ext;replace hS:=hS.aG I 3;replace hS:=hS.aG I 7;replace hS:=hS.aP I 8;clear I j C Y8 Y7;have ZV:=(hS.aH 4).cell;have ZX:=(hS.aH 4).frozen;go_wp2;replace hS:=hS.pt 4 0 [.bool cQ,.slice cB cU cM,.bool cS,.slice cA cT cW,.bool cJ,.slice cy db cY,.bool cP,.slice cx dc cL,.bool c6,.slice cw cN da,.bool c8,.slice cC cV cX] o4;exact Aa2
def TL(v0)(q0:PQ)(n0:Nat)(m1:Int)(K r:Nat)(w)(Yw:PV w v0 q0 n0)(l1: -9223372036854775808<=m1)(u1:m1<=9223372036854775807)(V:Hid (m1%12=(K:Int)))(Q:Hid (K=3*r+2))(hr:r<=3)(hn:2*n0+65<=12800):
  CV 132 #[v0,m1] w fun v w'=>(∃u,v=.tuple #[u,aJ]/\PV w' u (⟨aeW 1 q0.u 3 (q0.v*aeY 1) 2*aeY r,aeW 1 (q0.u*aeY 1) 1 q0.v 2*aeY r⟩) (n0+n0+65)):=by
 have hS:=aeZ w;obtain⟨Zj,Zi,Zg,dy,dw,dv,Yw,ZO,ZP,ZN,ZQ⟩:=Yw;obtain⟨Yv,Yu,L,G,W,T,P,Y,U,S,H,Z,Zd,YW,YV,YU,Za,YX,N,Ze,YZ,Zc,YY,Zf,rfl,YJ,YL,YK,Zn,Zp,Zo⟩:=Yw;replace hS:=hS.bI YJ;clear YJ;replace hS:=hS.bI YL;clear YL;replace hS:=hS.bI YK;clear YK;replace hS:=hS.bI Zn;clear Zn;replace hS:=hS.bI Zp;clear Zp;replace hS:=hS.bI Zo;clear Zo;have dx:=J4 V.o;have e3:(K:Int).tmod 3=2:=by rw[Q.o,abd aa];omega
 have e4:(K:Int).tdiv 3=(r:Int):=by rw[Q.o,abS aa];omega
 have B:=(St.al (St.al hS 44 #[Yv,aO Yu L G,W,aO T P Y,U,aO S H Z,Zd,aO YW YV YU,Za,aO YX N Ze,YZ,aO Zc YY Zf] (g:=w.heap.size) ag) 44 aQ6 (g:=(w.heap.size+1)) ag);have YN:=(B.aH 1).cell;go_enter aed,adE;go_wp2_with fail;clear YN;clear B;refine gA3 hS 44 #[Yv,aO Yu L G,W,aO T P Y,U,aO S H Z,Zd,aO YW YV YU,Za,aO YX N Ze,YZ,aO Zc YY Zf] 44 aQ6 42 #[Yv,aO Yu L G,W,aO T P Y,U,aO S H Z,Zd,aO YW YV YU,Za,aO YX N Ze,YZ,aO Zc YY Zf] ?_;clear hS;intro w1 g2 o2 g4 o4 ZW du hS;refine(kQ ZW q0.u q0.v n0 n0 _ (hS.aH 0) ⟨_,_,_,RG.mk (hS.aF 5) (hS.aF 4) (hS.aF 3),ZO,ZP⟩ aa ⟨_,_,_,RG.mk (hS.aF 2) (hS.aF 1) (hS.aF 0),ZN,ZQ⟩ aa).mono ?_;rintro e w2 ⟨rfl,F⟩;replace hS:=hS.mv F;clear F;go_wp2_with fail;refine gA1 hS 197 #[aJ] ?_;clear hS;intro w3 g6 o6 hS;have YM:=(hS.aH 3).cell;have ZU:=(hS.aH 3).lt;go_region;clear YM ZU;have o7:Own w w3.heap.size:=aeX hS.ext ag;have o8:Own w (w3.heap.size+1):=aeX hS.ext ag;replace hS:=((hS.al 42 #[Yv,aO Yu L G,W,aO T P Y,U,aO S H Z] (g:=w3.heap.size) rfl).al 42 #[Zd,aO YW YV YU,Za,aO YX N Ze,YZ,aO Zc YY Zf] (g:=w3.heap.size+1) ag).mv ((Ext.refl _).drew);generalize ((w3.alloc (.cells #[Yv,aO Yu L G,W,aO T P Y,U,aO S H Z] 42)).alloc (.cells #[Zd,aO YW YV YU,Za,aO YX N Ze,YZ,aO Zc YY Zf] 42)).drew=w4 at hS⊢;generalize w3.heap.size+1=g8 at hS o8⊢;generalize w3.heap.size=g7 at hS o7⊢
 rotate_left 1
 clear YM ZU;have o8:Own w w3.heap.size:=aeX hS.ext ag;have o7:Own w (w3.heap.size+1):=aeX hS.ext ag;replace hS:=((hS.al 42 #[Zd,aO YW YV YU,Za,aO YX N Ze,YZ,aO Zc YY Zf] (g:=w3.heap.size) rfl).al 42 #[Yv,aO Yu L G,W,aO T P Y,U,aO S H Z] (g:=w3.heap.size+1) ag).mv ((Ext.refl _).drew);replace hS:=St.swap hS;generalize ((w3.alloc (.cells #[Zd,aO YW YV YU,Za,aO YX N Ze,YZ,aO Zc YY Zf] 42)).alloc (.cells #[Yv,aO Yu L G,W,aO T P Y,U,aO S H Z] 42)).drew=w4 at hS⊢;generalize w3.heap.size+1=g7 at hS o7⊢;generalize w3.heap.size=g8 at hS o8⊢
 rotate_left 1
 all_goals
  go_wp2_with fail;obtain⟨bA,bx,cb,cF⟩:=gI (q0.v*aeY 1);have dk:Sz (n0) bA bx cb:=(ae6 ⟨_,_,_,ZN,ZQ⟩ 1).sz cF;obtain⟨ca,ce,cp,cG⟩:=gI (aeW (1) q0.u (3) (q0.v*aeY 1) (2));have de:Sz (n0+n0+65) ca ce cp:=(ae7 (m:=2) ⟨_,_,_,ZO,ZP⟩ ⟨_,_,_,cF,dk⟩ aa aa aa aa aa aa aa).sz cG;obtain⟨cn,cf,ck,ZT⟩:=gI (q0.u*aeY 1);have df:Sz (n0) cn cf ck:=(ae6 ⟨_,_,_,ZO,ZP⟩ 1).sz ZT;obtain⟨ci,cc,cw,cE⟩:=gI (aeW (1) (q0.u*aeY 1) (1) q0.v (2));have di:Sz (n0+n0+65) ci cc cw:=(ae7 (m:=2) ⟨_,_,_,ZT,df⟩ ⟨_,_,_,ZN,ZQ⟩ aa aa aa aa aa aa aa).sz cE;have Y2:=aX.blk (hS.aH 5);have C:=hS.ext;refine tF 12 [(4,.rg (bA) (bx) (cb)),(5,.rg (ca) (ce) (cp)),(8,.rg (cn) (cf) (ck)),(11,.rg (ci) (cc) (cw))] ?_;refine Qs ?_;refine Eg (fun R I=>mX (iN g6 _ q0.v (n0) 1 (1) _ rfl (Blk.ext (hS.aH 2) I.1) ⟨_,_,_,RG.mk (hS.aD 2 I.1) (hS.aD 1 I.1) (hS.aD 0 I.1),ZN,ZQ⟩ aa aa) cF) ?_;intro a4 ad ba a7 bb ap a5 a9 a0 am aE a3 bg bh;refine Eg (fun R I=>mX (jW g6 _ _ q0.u (q0.v*aeY 1) (1) (3) (2) _ _ _ (Blk.ext (hS.aH 2) I.1) ⟨_,_,_,RG.mk (hS.aD 5 I.1) (hS.aD 4 I.1) (hS.aD 3 I.1),ZO,ZP⟩ ⟨_,_,_,RG.mk (RG.at1 (I.f 4 ((gv a4 ad ba a7 bb ap a5 a9 a0 am aE a3),bg,bh))) (RG.at2 (I.f 4 ((gv a4 ad ba a7 bb ap a5 a9 a0 am aE a3),bg,bh))) (RG.at3 (I.f 4 ((gv a4 ad ba a7 bb ap a5 a9 a0 am aE a3),bg,bh))),cF,dk⟩ aa aa aa aa aa aa aa aa) cG) ?_;intro az ai bm bj bo ac a2 bn ax aq bq bi ds dp;refine Qs ?_;refine Eg (fun R I=>mX (iN g6 _ q0.u (n0) 1 (1) _ rfl (Blk.ext (hS.aH 2) I.1) ⟨_,_,_,RG.mk (hS.aD 5 I.1) (hS.aD 4 I.1) (hS.aD 3 I.1),ZO,ZP⟩ aa aa) ZT) ?_;intro be af bt ay a8 ao a6 a1 bk ZR aI aB bp bl;refine Qs ?_;refine Eg (fun R I=>mX (jW g6 _ _ (q0.u*aeY 1) q0.v (1) (1) (2) _ _ _ (Blk.ext (hS.aH 2) I.1) ⟨_,_,_,RG.mk (RG.at1 (I.f 8 ((gv be af bt ay a8 ao a6 a1 bk ZR aI aB),bp,bl))) (RG.at2 (I.f 8 ((gv be af bt ay a8 ao a6 a1 bk ZR aI aB),bp,bl))) (RG.at3 (I.f 8 ((gv be af bt ay a8 ao a6 a1 bk ZR aI aB),bp,bl))),ZT,df⟩ ⟨_,_,_,RG.mk (hS.aD 2 I.1) (hS.aD 1 I.1) (hS.aD 0 I.1),ZN,ZQ⟩ aa aa aa aa aa aa aa aa) cE) ?_;intro cr ar b0 cj cg av cd cl cv aw ch bV dq dr;refine bN ?_;intro w5 I;have j:=hS.lt;replace hS:=hS.mv I.ext;replace hS:=hS.aG I 4;replace hS:=hS.aG I 5;replace hS:=hS.aG I 8;replace hS:=hS.aG I 11;clear I j C Y2;have YR:=(hS.aH 1).cell;have YS:=(hS.aH 1).frozen;have YI:=hS.pt 1 0 [.bool az,.slice ai bm bj,.bool bo,.slice ac a2 bn,.bool ax,.slice aq bq bi] o7;have Zh:=(YI.aH 0).cell;have Zl:=(YI.aH 0).frozen;have YT:=(hS.pt 1 0 [.bool az,.slice ai bm bj,.bool bo,.slice ac a2 bn,.bool ax,.slice aq bq bi] o7).pt 0 0 [.bool cr,.slice ar b0 cj,.bool cg,.slice av cd cl,.bool cv,.slice aw ch bV] o8;have Zm:=(YT.aH 2).cell;go_wp2_with fail;clear YR YS Zh Zl Zm;clear YI YT;replace hS:=(hS.pt 1 0 [.bool az,.slice ai bm bj,.bool bo,.slice ac a2 bn,.bool ax,.slice aq bq bi] o7).pt 0 0 [.bool cr,.slice ar b0 cj,.bool cg,.slice av cd cl,.bool cv,.slice aw ch bV] o8;refine gW hS ?_;clear hS;intro w6 hS;obtain⟨D,YA,Yx,cI⟩:=gI ((aeW (1) q0.u (3) (q0.v*aeY 1) (2))*aeY r);have dn:Sz (n0+n0+65) D YA Yx:=(ae6 ⟨_,_,_,cG,de⟩ r).sz cI;obtain⟨Yy,YB,Yz,cH⟩:=gI ((aeW (1) (q0.u*aeY 1) (1) q0.v (2))*aeY r);have dl:Sz (n0+n0+65) Yy YB Yz:=(ae6 ⟨_,_,_,cE,di⟩ r).sz cH;have Y8:=aX.blk (hS.aH 0);have Y7:=aX.blk (hS.aH 1);have C:=hS.ext;refine tF 11 [(3,.rg (D) (YA) (Yx)),(7,.rg (Yy) (YB) (Yz)),(8,.retp (D) (YA) (Yx) (Yy) (YB) (Yz) 0)] ?_;refine Qs ?_;refine Eg (fun R I=>mX (iN g6 _ (aeW (1) q0.u (3) (q0.v*aeY 1) (2)) (n0+n0+65) r ((r:Int)) _ rfl (Blk.ext (hS.aH 2) I.1) ⟨_,_,_,RG.mk (hS.aD 8 I.1) (hS.aD 7 I.1) (hS.aD 6 I.1),cG,de⟩ aa aa) cI) ?_;intro ZF YF Zt Zw ZI YO Zx ZE ZG YP ZA Zz ZL ZJ;refine Qs ?_;refine Eg (fun R I=>mX (iN g6 _ (aeW (1) (q0.u*aeY 1) (1) q0.v (2)) (n0+n0+65) r ((r:Int)) _ rfl (Blk.ext (hS.aH 2) I.1) ⟨_,_,_,RG.mk (hS.aD 2 I.1) (hS.aD 1 I.1) (hS.aD 0 I.1),cE,di⟩ aa aa) cH) ?_;intro Zk YG Zq ZH Zv YE Zy YQ ZB YH Zr ZC ZM ZK;refine dL rf rf rf ?_ ?_
  .intro R I;have hW:=I.1;have ZY:RI R (iv ZF YF Zt Zw) D:=RG.at1 (I.2 3 ((gv ZF YF Zt Zw ZI YO Zx ZE ZG YP ZA Zz),ZL,ZJ) rf ah);have ZZ:RI R (iv ZI YO Zx ZE) YA:=RG.at2 (I.2 3 ((gv ZF YF Zt Zw ZI YO Zx ZE ZG YP ZA Zz),ZL,ZJ) rf ah);have Z9:RI R (iv ZG YP ZA Zz) Yx:=RG.at3 (I.2 3 ((gv ZF YF Zt Zw ZI YO Zx ZE ZG YP ZA Zz),ZL,ZJ) rf ah);have Z8:RI R (iv Zk YG Zq ZH) Yy:=RG.at1 (I.2 7 ((gv Zk YG Zq ZH Zv YE Zy YQ ZB YH Zr ZC),ZM,ZK) rf ah);have Z7:RI R (iv Zv YE Zy YQ) YB:=RG.at2 (I.2 7 ((gv Zk YG Zq ZH Zv YE Zy YQ ZB YH Zr ZC),ZM,ZK) rf ah);have bw:RI R (iv ZB YH Zr ZC) Yz:=RG.at3 (I.2 7 ((gv Zk YG Zq ZH Zv YE Zy YQ ZB YH Zr ZC),ZM,ZK) rf ah);clear I;go_simp;exact⟨rfl,(zl g6 _ D YA Yx _ Yy YB Yz _ (Blk.ext (hS.aH 2) hW) (RG.mk ZY ZZ Z9) (RG.mk Z8 Z7 bw)).mono fun e w' ⟨v,O,hR,J⟩=>⟨v,O,J,hR⟩⟩
  intro v_ cR c7 YD;obtain⟨R,YC⟩:=YD;have M:Fc.holds (.retp (D) (YA) (Yx) (Yy) (YB) (Yz) 0) cR c7 v_ R:=YC.get;clear YC;obtain⟨_,rfl,cQ,cC,cU,cM,cS,cB,cT,cW,cJ,cA,db,cY,cP,cy,dc,cL,c6,cx,cN,da,c8,cD,cV,cX,rfl,-,-,-,-,-,-⟩:=M;clear R;refine Qp ?_;refine Qs ?_;refine bN ?_;intro w7 I;have j:=hS.lt;replace hS:=hS.mv I.ext;replace hS:=hS.aG I 3;replace hS:=hS.aG I 7;replace hS:=hS.aP I 8;clear I j C Y8 Y7;have ZV:=(hS.aH 4).cell;have ZX:=(hS.aH 4).frozen;go_wp2;replace hS:=hS.pt 4 0 [.bool cQ,.slice cC cU cM,.bool cS,.slice cB cT cW,.bool cJ,.slice cA db cY,.bool cP,.slice cy dc cL,.bool c6,.slice cx cN da,.bool c8,.slice cD cV cX] o4;exact Aa2
def Ug:∀r:Nat,PQ.zp (3*r)=⟨aeY r,GQ.i 0 0⟩
 |0=>rfl
 |r+1=>by
  rw[ω,PQ.KA,Ug r,PQ.zp3];ext<;>simp only[PQ.vX,PQ.vS,PQ.mk4,aeY,GQ.bL,GQ.bK,GQ.bT,GQ.bS,GQ.dH,GQ.dC]<;>grind
def XI(p r):(⟨p.u*aeY r,p.v*aeY r⟩:PQ)=p*PQ.zp (3*r+0):=by
 rw[I6,Ug];ext<;>simp only[PQ.vX,PQ.vS,GQ.bL,GQ.bK,GQ.bT,GQ.bS,GQ.dH,GQ.dC]<;>grind
def XJ(p r):(⟨aeW 1 (p.u*aeY 1) 3 p.v 2*aeY r,aeW 1 p.u 1 (p.v*aeY 1) 2*aeY r⟩:PQ)=p*PQ.zp (3*r+1):=by
 rw[PQ.KA,Ug,PQ.zp1];ext<;>simp only[aeW,aeY,PQ.mk4,PQ.vX,PQ.vS,GQ.bL,GQ.bK,GQ.bT,GQ.bS,GQ.dH,GQ.dC]<;>grind
def XQ(p r):(⟨aeW 1 p.u 3 (p.v*aeY 1) 2*aeY r,aeW 1 (p.u*aeY 1) 1 p.v 2*aeY r⟩:PQ)=p*PQ.zp (3*r+2):=by
 rw[PQ.KA,Ug,PQ.zp2];ext<;>simp only[aeW,aeY,PQ.mk4,PQ.vX,PQ.vS,GQ.bL,GQ.bK,GQ.bT,GQ.bS,GQ.dH,GQ.dC]<;>grind
def PV.mono{w v p m n}(h:PV w v p m)(Q:m<=n):PV w v p n:=by
 obtain⟨a,b,d,x,y,z,C,j,F,B,D⟩:=h;exact⟨a,b,d,x,y,z,C,j,F.mono Q,B,D.mono Q⟩
def Tf(v0 q0)(n0:Nat)(m1:Int)(K:Nat)(w)(L:PV w v0 q0 n0)(l1: -9223372036854775808<=m1)(u1:m1<=9223372036854775807)(V:m1%12=(K:Int))(hn:2*n0+65<=12800):
  CV 132 #[v0,m1] w fun v w'=>(∃u,v=.tuple #[u,aJ]/\PV w' u (q0*PQ.zp K) (n0+n0+65)):=by
 have I:K<12:=aa;obtain⟨r,C⟩:∃r,r=K/3:=⟨_,rfl⟩;have B:K%3=0\/K%3=1\/K%3=2:=aa;rcases B with h|h|h
 .have e:K=3*r+0:=aa;have:=UG v0 q0 n0 m1 K r w L l1 u1 (aW V) (aW e) aa hn;rw[XI,<-e] at this;exact this.mono fun e w' ⟨v,O,⟨u,j,hp⟩,J⟩=>⟨v,O,⟨u,j,hp.mono aa⟩,J⟩
 .have e:K=3*r+1:=aa;have:=Uu v0 q0 n0 m1 K r w L l1 u1 (aW V) (aW e) aa hn;rw[XJ,<-e] at this;exact this
 .have e:K=3*r+2:=aa;have:=TL v0 q0 n0 m1 K r w L l1 u1 (aW V) (aW e) aa hn;rw[XQ,<-e] at this;exact this
def XG(m0 m1 m2 w)(l0: -9223372036854775808<=m0)(u0:m0<=9223372036854775807)(l1: -9223372036854775808<=m1)(u1:m1<=9223372036854775807)(l2: -9223372036854775808<=m2)(u2:m2<=9223372036854775807)(H0:(m2==0)=ζ)(B:Hid ((m2)≠0))(Q L O)(ZJ:Hid ((Q,L,O)=nf (m0) (m1) (m2)))(H:Q.natAbs<lim)(G:L.natAbs<lim)(D:O.natAbs<lim):
  CV 92 #[.int .i64 m0,.int .i64 m1,.int .i64 m2] w fun v w'=>(∃u,v=.tuple #[u,aJ]/\RG w' u Q L O):=by
 have hS:=aeZ w;go_enter func92,ntmps92;go_wp2_with fail;refine gA2 hS 42 aQ3 197 #[aJ] ?_;clear hS;intro w1 g6 o6 g8 o8 hS;refine(CO (m0) _ l0 u0).mono ?_;rintro e w2 ⟨v_,rfl,M,F⟩;replace hS:=hS.mv F;clear F;obtain⟨Yu,Yx,YP,c13,rfl,J⟩:=RI.opn M;clear M;replace hS:=hS.bI J;clear J;go_wp2_with fail;refine(CO (m1) _ l1 u1).mono ?_;rintro e w3 ⟨v_,rfl,M,F⟩;replace hS:=hS.mv F;clear F;obtain⟨Zf,YW,Ze,Zn,rfl,S⟩:=RI.opn M;clear M;replace hS:=hS.bI S;clear S;go_wp2_with fail;refine(CO (m2) _ l2 u2).mono ?_;rintro e w4 ⟨v_,rfl,M,F⟩;replace hS:=hS.mv F;clear F;obtain⟨YH,T,YF,YG,rfl,P⟩:=RI.opn M;clear M;replace hS:=hS.bI P;clear P;go_wp2_with fail;refine(qy g8 _ _ _ (m0) (m1) (m2) Q L O _ (hS.aH 0) (hS.aF 2) (hS.aF 1) (hS.aF 0) (jy l0 u0) (jy l1 u1) (jy l2 u2) B.o ZJ.o).mono ?_;rintro e w5 ⟨v_,rfl,M,F⟩;replace hS:=hS.mv F;clear F;obtain⟨ZB,Zw,ZH,ZE,ZA,Zy,Zz,ZI,ZF,Zx,ZC,ZG,rfl,K,C,j⟩:=M;replace hS:=hS.bI K;clear K;replace hS:=hS.bI C;clear C;replace hS:=hS.bI j;clear j;go_wp2_with fail;refine(pQ g8 _ Q L O _ (hS.aH 0) (RG.mk (hS.aF 2) (hS.aF 1) (hS.aF 0))).mono ?_;rintro e w6 ⟨v_,rfl,M,F⟩;replace hS:=hS.mv F;clear F;obtain⟨_,rfl,Zk,V,Zo,Zt,Zv,W,Z,Y,Zq,U,Zd,Zr,rfl,I,N,R⟩:=M;replace hS:=hS.bI I;clear I;replace hS:=hS.bI N;clear N;replace hS:=hS.bI R;clear R;have YN:=(hS.aH 1).cell;have YM:=(hS.aH 1).frozen;go_wp2;replace hS:=hS.pt 1 0 [.bool Zk,.slice V Zo Zt,.bool Zv,.slice W Z Y,.bool Zq,.slice U Zd Zr] o6;exact nI rfl rfl rfl (hS.aH 1) ⟨_,rfl,⟨_,rfl,RG.mk (hS.aF 2) (hS.aF 1) (hS.aF 0)⟩,hS.ext⟩
def Pm(x y):aeW 1 x 1 y 1=x+y:=by
 ext<;>simp only[aeW,GQ.bT,GQ.bS]<;>grind
def PD(x y):aeW 1 x (-1) y 1=x-y:=by
 ext<;>simp only[aeW,GQ.dJ,GQ.dK]<;>grind
def VC(re im den w)(l0: -9223372036854775808<=re)(u0:re<=9223372036854775807)(l1: -9223372036854775808<=im)(u1:im<=9223372036854775807)(l2: -9223372036854775808<=den)(u2:den<=9223372036854775807)(hd:den≠0):
  CV 92 #[.int .i64 re,.int .i64 im,.int .i64 den] w fun v w'=>(∃u,v=.tuple #[u,aJ]/\GV w' u ⟨(re:Rat)/(den:Rat),(im:Rat)/(den:Rat)⟩ 64):=by
 obtain⟨a,b,d,E⟩:=JD re im den;have I:=Ta (a:=re) (b:=im) (d:=den) hd;rw[<-E] at I;have sz:=jF (n:=64) hd E (DF l0 u0) (DF l1 u1) (DF l2 u2);obtain⟨s1,s2,s3⟩:=sz.nK aa;exact(XG re im den w l0 u0 l1 u1 l2 u2 (by simpa using hd) (aW hd) a b d (aW E) s1 s2 s3).mono fun e w' ⟨v,O,⟨u,j,B⟩,J⟩=>⟨v,O,⟨u,j,a,b,d,B,I,sz⟩,J⟩
def oZ{D B}(h:D.natAbs<=B):Wh (GQ.i D 0) B:=⟨D,0,rfl,by simpa using h⟩
def xZ{x N M G B2 n}(Q:Wh N G)(I:Wh M B2)(K:M≠GQ.i 0 0)(J:x*M=N)(T:G*B2<2^n)(R:B2*B2<2^n):Bd x n:=by
 obtain⟨a,b,rfl,F⟩:=Q;obtain⟨c,d,rfl,D⟩:=I;have H:c*c+d*d≠0:=by
  intro e;apply K;have U:0<=c*c:=pX c;have S:0<=d*d:=pX d;have e1:c*c=0:=aa;have O:d*d=0:=aa;rw[(ack.1 e1).elim id id,(ack.1 O).elim id id]
 have j:((c:Rat)*c+d*d)≠0:=by
  have:=gL H;simpa only[aa7,aan] using this
 have r1:=congrArg GQ.re J;have r2:=congrArg GQ.im J;simp only[GQ.bL,GQ.bK,GQ.dH,GQ.dC] at r1 r2;have C:(a.natAbs+b.natAbs)*(c.natAbs+d.natAbs)<=G*B2:=aaa F D;have B:(c.natAbs+d.natAbs)*(c.natAbs+d.natAbs)<=B2*B2:=aaa D D;have P:(a.natAbs+b.natAbs)*(c.natAbs+d.natAbs)=a.natAbs*c.natAbs+b.natAbs*d.natAbs+(a.natAbs*d.natAbs+b.natAbs*c.natAbs):=by
  exact Acl
 have L:(c.natAbs+d.natAbs)*(c.natAbs+d.natAbs)=c.natAbs*c.natAbs+d.natAbs*d.natAbs+(c.natAbs*d.natAbs+d.natAbs*c.natAbs):=by
  exact Acl
 refine agF (a:=a*c+b*d) (b:=b*c-a*d) (d:=c*c+d*d) H ?_ ?_ ⟨?_,?_,?_⟩
 .simp only[aa7,aan];grind
 .simp only[aa7,abU,aan];grind
 .have:=ab8 (a*c) (b*d);exact Abr
 .have:=abF (b*c) (a*d);exact Abr
 .have:=ab8 (c*c) (d*d);exact Abr
def room (b k:Nat):Nat:=fct (k+1)*(2^(b*(k+1)+1))^(k+1)*(2^(b*(k+1))*(fct k*(2^(b*(k+1)+1))^k))
instance:DecidableEq GQ:=fun x y=>decidable_of_iff (x.re=y.re/\x.im=y.im) ⟨fun h=>GQ.ext h.1 h.2,fun h=>by rw[h];exact⟨rfl,rfl⟩⟩
theorem ae8{x y}(h:y≠GQ.i 0 0):x/y*y=x:=by
 have j:=GQ.Dj h;unfold GQ.nrm at j;ext<;>simp only[GQ.bL,GQ.bK,GQ.Cm,GQ.wR,GQ.nrm]<;>grind
def afw(y):GQ.i 0 0/y=GQ.i 0 0:=by
 ext<;>simp only[GQ.Cm,GQ.wR,GQ.dH,GQ.dC]<;>grind
def fp (X:Nat->Nat->GQ) (c:Nat):Nat->Nat->Option Nat
 |0,_=>δ
 |n+1,k=>if X k c=GQ.i 0 0 then fp X c n (k+1) else γ k
theorem AP{X c p}:∀{n k:Nat},k<=p->p<k+n->(∀i,k<=i->i<p->X i c=GQ.i 0 0)->X p c≠GQ.i 0 0->fp X c n k=γ p
 |0,k,h1,h2,_,_=>aa
 |n+1,k,h1,h2,h,h0=>by
  unfold fp;by_cases e:k=p
  .subst e;rw[θ h0]
  .rw[ι (h k (κ _) aa)];exact AP aa aa (fun i hi=>h i aa) h0
theorem AU{X c}:∀{n k:Nat},(∀i,k<=i->i<k+n->X i c=GQ.i 0 0)->fp X c n k=δ
 |0,_,_=>rfl
 |n+1,k,h=>by
  unfold fp;rw[ι (h k (κ _) aa)];exact AU (fun i B j=>h i aa aa)
theorem qA{X c}:∀{n k:Nat},fp X c n k=δ->∀i,k<=i->i<k+n->X i c=GQ.i 0 0
 |0,k,_,i,h1,h2=>aa
 |n+1,k,h,i,h1,h2=>by
  unfold fp at h;by_cases e:X k c=GQ.i 0 0
  .rw[ι e] at h;by_cases j:i=k
   .subst j;exact e
   .exact qA h i aa aa
  .rw[θ e] at h;cases h
theorem jc{X c p}:∀{n k:Nat},fp X c n k=γ p->k<=p/\p<k+n/\X p c≠GQ.i 0 0/\∀i,k<=i->i<p->X i c=GQ.i 0 0
 |0,k,h=>by cases h
 |n+1,k,h=>by
  unfold fp at h;by_cases e:X k c=GQ.i 0 0
  .rw[ι e] at h;obtain⟨C,j,F,B⟩:=jc h;refine⟨aa,aa,F,fun i hi hp=> ?_⟩;by_cases D:i=k
   .subst D;exact e
   .exact B i aa hp
  .rw[θ e] at h;cases h;exact⟨κ _,aa,e,fun i C j=>aa⟩
def swp (k r i:Nat):Nat:=if i=k then r else if i=r then k else i
theorem Ql(k i):swp k k i=i:=by unfold swp;split<;>omega
theorem oQ(k r):swp k r r=k:=by unfold swp;split<;>simp_all
theorem Xn(k r):swp k r k=r:=by unfold swp;simp
theorem xm{k r i}(B:i≠k)(j:i≠r):swp k r i=i:=by unfold swp;rw[θ B,θ j]
theorem mH{k r i m}(j:k<m)(B:r<m)(hi:i<m):swp k r i<m:=by unfold swp;split<;>(try split)<;>omega
theorem Fy(k r i):swp k r (swp k r i)=i:=by unfold swp;split<;>(try split)<;>(try split)<;>(try split)<;>omega
def clr (X:Nat->Nat->GQ) (r c:Nat):Nat->Nat->GQ:=fun i j=>if r<i then X i j-X i c/X r c*X r j else X i j
structure Ec where
 r:Nat
 X:Nat->Nat->GQ
 odd:Bool
 q:List Nat
def kP (m c:Nat) (s:Ec):Ec:=
 match fp s.X c (m-s.r) s.r with
 |none=>s
 |some k=>⟨s.r+1,clr (fun i=>s.X (swp k s.r i)) s.r c,s.odd^^decide (k≠s.r),c::s.q⟩
def ech (m:Nat) (X:Nat->Nat->GQ):Nat->Ec
 |0=>⟨0,X,ζ,[]⟩
 |c+1=>kP m c (ech m X c)
theorem fF{m c}{s:Ec}(h:fp s.X c (m-s.r) s.r=δ):kP m c s=s:=by unfold kP;rw[h]
theorem eu{m c k}{s:Ec}(h:fp s.X c (m-s.r) s.r=γ k):kP m c s=⟨s.r+1,clr (fun i=>s.X (swp k s.r i)) s.r c,s.odd^^decide (k≠s.r),c::s.q⟩:=by unfold kP;rw[h]
structure Inv (m:Nat) (X0:Nat->Nat->GQ) (c:Nat) (s:Ec) (o:Nat->Nat) (P:List (Nat->GQ)):Prop where
 rm:s.r<=m
 pl:P.length=s.r
 ql:s.q.length=s.r
 ne:det P s.q≠GQ.i 0 0
 qc:∀d∈s.q,d<c
 pm:∀p∈P,∃i,i<m/\p=X0 i
 om:∀i,i<m->o i<m
 sy:∀i,s.r<=i->i<m->Says (s.X i) (X0 (o i)) P
 z:∀i j,s.r<=i->i<m->j<c->s.X i j=GQ.i 0 0
def afy(m D):Inv m D 0 (ech m D 0) (fun i=>i) []:=
 ⟨by simp[ech],rfl,rfl,by show GQ.i 1 0≠_;decide,by simp[ech],ag,fun i h=>h,fun i _ _=>Says.refl _ _,by intros;omega⟩
theorem Inv.step{m c D}{s:Ec}{o P}(h:Inv m D c s o P):∃U G,Inv m D (c+1) (kP m c s) U G:=by
 have Q:=h.rm;cases M:fp s.X c (m-s.r) s.r with
 |none=>
  rw[fF M];refine⟨o,P,h.rm,h.pl,h.ql,h.ne,fun d hd=>ace (h.qc d hd),h.pm,h.om,h.sy,fun i j I J O=> ?_⟩;by_cases e:j=c
  .subst e;exact qA M i I aa
  .exact h.z i j I J aa
 |some k=>
  obtain⟨C,R,N,S⟩:=jc M;rw[eu M];have B:swp k s.r s.r=k:=oQ _ _;have L:=(h.sy k C aa).entry (fun d hd=>h.z k d C aa (h.qc d hd)) c;refine⟨fun i=>o (swp k s.r i),D (o k)::P,by show s.r+1<=m;omega,by simp[h.pl],by simp[h.ql],?_,?_,?_,?_,?_,?_⟩
  .show det (D (o k)::P) (c::s.q)≠_;rw[L];exact GQ.jd N h.ne
  .intro d hd;rcases kC.1 hd with rfl|hd
   .omega
   .exact ace (h.qc d hd)
  .intro p hp;rcases kC.1 hp with rfl|hp
   .exact⟨o k,h.om k aa,rfl⟩
   .exact h.pm p hp
  .intro i hi;exact h.om _ (mH aa aa hi)
  .intro i I J;have F:s.r<i:=I;have e:(clr (fun i=>s.X (swp k s.r i)) s.r c) i=fun j=>s.X (swp k s.r i) j-(s.X (swp k s.r i) c/s.X k c)*s.X k j:=by
    funext j;unfold clr;rw[ι F];simp only[B]
   show Says ((clr (fun i=>s.X (swp k s.r i)) s.r c) i) _ _;rw[e];have H:s.r<=swp k s.r i:=by unfold swp;split<;>(try split)<;>omega
   exact Says.step (h.sy _ H (mH aa aa J)) (h.sy k C aa) _
  .intro i j I J O;have F:s.r<i:=I;have H:s.r<=swp k s.r i:=by unfold swp;split<;>(try split)<;>omega
   have K:=mH (k:=k) (r:=s.r) (i:=i) (m:=m) aa aa J;show(clr (fun i=>s.X (swp k s.r i)) s.r c) i j=_;unfold clr;rw[ι F];simp only[B];by_cases e:j=c
   .subst e;rw[ae8 N,GQ.rJ]
   .rw[h.z _ j H K aa,h.z k j C aa aa,GQ.bY,GQ.fC]
def pK(m D):∀c,∃o P,Inv m D c (ech m D c) o P
 |0=>⟨_,_,afy m D⟩
 |c+1=>by
  obtain⟨o,P,h⟩:=pK m D c;exact h.step
def Uw(v0 q0 n0 v1 q1 n1 w)(j:GV w v0 q0 n0)(D:GV w v1 q1 n1)(hn:2*max n0 n1+65<=12800):
  CV 194 #[v0,v1] w fun v w'=>(∃u,v=.tuple #[u,aJ]/\GV w' u (q0+q1) (n0+n1+65)):=by
 have:=V3 v0 q0 n0 v1 q1 n1 w j D hn;rwa[Pm] at this
def N7(v0 q0 n0 v1 q1 n1 w)(j:GV w v0 q0 n0)(D:GV w v1 q1 n1)(hn:2*max n0 n1+65<=12800):
  CV 135 #[v0,v1] w fun v w'=>(∃u,v=.tuple #[u,aJ]/\GV w' u (q0-q1) (n0+n1+65)):=by
 have:=We v0 q0 n0 v1 q1 n1 w j D hn;rwa[PD] at this
def rD(v u p j m n w)(L:PV w v p m)(M:PV w u j n)(h:p=j):
  CE 21 #[v,u] w (.bool ε):=by subst h;exact C9 v u p m n w L M
instance (a d x z r n:Int):Decidable (RZ a d x z r n):=by unfold RZ;infer_instance
def jV (w:World) (g:Nat):Prop:=Blk w g 250 #[aJ]
def jV.ext{w w' g}(h:jV w g)(x:Ext w w'):jV w' g:=Blk.ext h x
def fA{w w' g n q s1 s2 s3 A1 A2 A3 n1 c1 n2 c2 n3 c3}(J:Ext w w')(D:w.heap.size<=g)(hb:Blk w' g 42 #[.bool ζ,.slice δ 0 0,.bool ζ,.slice δ 0 0,.bool ζ,.slice δ 0 0])(h:GV w' (gv s1 A1 n1 c1 s2 A2 n2 c2 s3 A3 n3 c3) q n):
  Ext w ((((((w'.setCell ⟨g,0,δ⟩ (.bool s1)).setCell ⟨g,1,δ⟩ (.slice A1 n1 c1)).setCell ⟨g,2,δ⟩ (.bool s2)).setCell ⟨g,3,δ⟩ (.slice A2 n2 c2)).setCell ⟨g,4,δ⟩ (.bool s3)).setCell ⟨g,5,δ⟩ (.slice A3 n3 c3))/\
  Blk ((((((w'.setCell ⟨g,0,δ⟩ (.bool s1)).setCell ⟨g,1,δ⟩ (.slice A1 n1 c1)).setCell ⟨g,2,δ⟩ (.bool s2)).setCell ⟨g,3,δ⟩ (.slice A2 n2 c2)).setCell ⟨g,4,δ⟩ (.bool s3)).setCell ⟨g,5,δ⟩ (.slice A3 n3 c3)) g 42 #[.bool s1,.slice A1 n1 c1,.bool s2,.slice A2 n2 c2,.bool s3,.slice A3 n3 c3]/\
  GV ((((((w'.setCell ⟨g,0,δ⟩ (.bool s1)).setCell ⟨g,1,δ⟩ (.slice A1 n1 c1)).setCell ⟨g,2,δ⟩ (.bool s2)).setCell ⟨g,3,δ⟩ (.slice A2 n2 c2)).setCell ⟨g,4,δ⟩ (.bool s3)).setCell ⟨g,5,δ⟩ (.slice A3 n3 c3)) (gv s1 A1 n1 c1 s2 A2 n2 c2 s3 A3 n3 c3) q n:=by
 have F:Mod (fun k=>k=g) w' (puts w' g 0 [.bool s1,.slice A1 n1 c1,.bool s2,.slice A2 n2 c2,.bool s3,.slice A3 n3 c3]):=Mod.only (gV _ _ _ _) rfl;have hS:Far (fun k=>k=g) w':=fun k B _=>by subst B;exact⟨_,_,hb,rfl⟩
 have ec:gJ #[.bool ζ,.slice δ 0 0,.bool ζ,.slice δ 0 0,.bool ζ,.slice δ 0 0] 0 [.bool s1,.slice A1 n1 c1,.bool s2,.slice A2 n2 c2,.bool s3,.slice A3 n3 c3]= #[.bool s1,.slice A1 n1 c1,.bool s2,.slice A2 n2 c2,.bool s3,.slice A3 n3 c3]:=ah;have C:=fO D 0 [.bool s1,.slice A1 n1 c1,.bool s2,.slice A2 n2 c2,.bool s3,.slice A3 n3 c3] J;have j:=dm 0 [.bool s1,.slice A1 n1 c1,.bool s2,.slice A2 n2 c2,.bool s3,.slice A3 n3 c3] hb;rw[ec] at j;exact⟨C,j,h.mod F hS⟩
def uB(g v q n w)(hc:jV w g)(L:GV w v q n):
  CV 226 #[aN g 0,v,aJ] w fun v w'=>GV w' v q n:=by
 obtain⟨s1,A1,n1,c1,s2,A2,n2,c2,s3,A3,n3,c3,rfl⟩:=L.opn;have G:=Blk.cell hc;have B:=Blk.frozen hc;have j:Ext w (w.setCell ⟨g,0,δ⟩ (.int .i64 0)):=(Ext.refl w).stay hc rfl;have O:=hc.ext j;have C:=Blk.cell O;have F:g<w.heap.size:=Blk.lt hc;have D:=aW (L.ext j);clear L;go_enter func226,ntmps226;go_wp2_with fail;exact dG rfl rfl rfl (aeV _ _ Abh) ⟨_,rfl,D.ext ((Ext.new _ _).alloc _),j.trans ((Ext.new _ _).alloc _)⟩
def Vh(g v0 v1 q0 q1 n0 n1 w)(hc:jV w g)(L:GV w v0 q0 n0)(M:GV w v1 q1 n1)(hn:2*max n0 n1+65<=12800):
  CV 224 #[aN g 0,v0,v1] w fun v w'=>GV w' v (q0-q1) (n0+n1+65):=by
 obtain⟨N,H,Q,G,Z,T,U,V,Yw,B,Yz,Yx,rfl⟩:=L.opn;obtain⟨D,YA,C,I,YB,R,YD,P,S,YC,Yv,K,rfl⟩:=M.opn;have HX:=aW L;have HY:=aW M;clear L M;obtain⟨Y,F,W,j⟩:=an3 w 42 #[N,aO H Q G,Z,aO T U V,Yw,aO B Yz Yx] 42 #[D,aO YA C I,YB,aO R YD P,S,aO YC Yv K] 42 aQ3;have O:=hc.ext Y;have k0:=Blk.cell O;go_enter func224,ntmps224;go_wp2_with fail;refine(N7 _ q0 n0 _ q1 n1 _ (HX.ext Y) (HY.ext Y) hn).mono ?_;exact AbN
def Vj(g v0 v1 q0 q1 n0 n1 w)(hc:jV w g)(L:GV w v0 q0 n0)(M:GV w v1 q1 n1)(hn:2*max n0 n1+1<=12800):
  CV 225 #[aN g 0,v0,v1] w fun v w'=>GV w' v (q0*q1) (n0+n1+1):=by
 obtain⟨N,H,Q,G,Z,T,U,V,Yw,B,Yz,Yx,rfl⟩:=L.opn;obtain⟨D,YA,C,I,YB,R,YD,P,S,YC,Yv,K,rfl⟩:=M.opn;have HX:=aW L;have HY:=aW M;clear L M;obtain⟨Y,F,W,j⟩:=an3 w 42 #[N,aO H Q G,Z,aO T U V,Yw,aO B Yz Yx] 42 #[D,aO YA C I,YB,aO R YD P,S,aO YC Yv K] 42 aQ3;have O:=hc.ext Y;have k0:=Blk.cell O;go_enter func225,ntmps225;go_wp2_with fail;refine(RO _ q0 n0 _ q1 n1 _ (HX.ext Y) (HY.ext Y) hn).mono ?_;exact AbN
def Vg(g v0 v1 q0 q1 n0 n1 w)(hc:jV w g)(L:GV w v0 q0 n0)(M:GV w v1 q1 n1)(h0:q1≠GQ.i 0 0)(hn:4*max n0 n1+3<=12800):
  CV 213 #[aN g 0,v0,v1] w fun v w'=>GV w' v (q0/q1) (n0+(n1+n1+1)):=by
 obtain⟨N,H,Q,G,Z,T,U,V,Yw,B,Yz,Yx,rfl⟩:=L.opn;obtain⟨D,YA,C,I,YB,R,YD,P,S,YC,Yv,K,rfl⟩:=M.opn;have HX:=aW L;have HY:=aW M;clear L M;obtain⟨Y,F,W,j⟩:=an3 w 42 #[N,aO H Q G,Z,aO T U V,Yw,aO B Yz Yx] 42 #[D,aO YA C I,YB,aO R YD P,S,aO YC Yv K] 42 aQ3;have O:=hc.ext Y;have k0:=Blk.cell O;go_enter func213,ntmps213;go_wp2_with fail;refine(Xd _ q0 n0 _ q1 n1 _ (HX.ext Y) (HY.ext Y) (aW h0) hn).mono ?_;exact AbN
def SK(g w)(hc:jV w g):
  CV 223 #[aN g 0] w fun v w'=>GV w' v (GQ.i 0 0) 64:=by
 obtain⟨Y,j⟩:=an1 w 42 aQ3;have O:=hc.ext Y;go_enter func223,ntmps223;go_wp2_with fail;refine(VC 0 0 1 _ aa aa aa aa aa aa aa).mono ?_;rintro e w2 ⟨v,rfl,⟨u,rfl,B⟩,J⟩;replace Y:=Y.trans J;replace j:=j.ext J;replace O:=O.ext J;clear J;have e0:(⟨((0:Int):Rat)/((1:Int):Rat),((0:Int):Rat)/((1:Int):Rat)⟩:GQ)=GQ.i 0 0:=by ext<;>simp only[GQ.dH,GQ.dC]<;>grind
 rw[e0] at B;go_wp2_with fail;refine(uB g u _ _ _ O B).mono ?_;rintro e V ⟨v,rfl,hv,J⟩;replace Y:=Y.trans J;replace j:=j.ext J;clear J B O;obtain⟨T,N,S,I,P,G,K,U,D,R,F,Q,rfl⟩:=hv.opn;have W:=j.cell;have Z:=j.frozen;obtain⟨p1,p2,C⟩:=fA Y aa j hv;have L:=aW p1;have M:=aW p2;have H:=aW C;clear p1 p2 C Y j hv;go_wp2_with fail;exact dG rfl rfl rfl M.o ⟨_,rfl,H.o,L.o⟩
def yI(v q n w)(L:GV w v q n)(hn:n<=12800):
  CE 90 #[v] w (.bool (decide (q=GQ.i 0 0))):=by
 by_cases h:q=GQ.i 0 0
 .rw[Λ h];exact yK v q n w L hn h
 .rw[ρ h];exact Bi v q n w L hn h
structure Rw where
 A:Option Addr
 b:Nat
 o:Nat
 n:Nat
 c:Nat
def Rw.v (r:Rw):Value:=.slice r.A r.n r.c
structure Mem (w:World) (A:Option Addr) (B O m:Nat) (R:Nat->Rw) (E:Nat->Nat->En):Prop where
 at0:0<m->A=γ ⟨B,O,δ⟩
 row:∀i,i<m->w.cell? (aM B (O+i))=γ (R i).v
 ra:∀i,i<m->0<(R i).n->(R i).A=γ ⟨(R i).b,(R i).o,δ⟩
 el:∀i j,i<m->j<(R i).n->∀t u,(E i j).cells[t]? =γ u->w.cell? (aM ((R i).b) ((R i).o+(j*6+t)))=γ u
 lm:m<=9223372036854775807
 ln:∀i,i<m->(R i).n<=9223372036854775807
theorem IW{w w' p u}(h:w.cell? p=γ u)(x:Ext w w'):w'.cell? p=γ u:=by
 have hp:p.block<w.heap.size:=by
  rcases Nq p.block w.heap.size with j|C
  .exact j
  .unfold World.cell? at h;rw[aat C] at h;simp at h
 exact(x.cell hp).trans h
section
variable {w w':World} {A:Option Addr} {B O m c:Nat} {R:Nat->Rw} {E:Nat->Nat->En}
def Mem.ext(h:Mem w A B O m R E)(x:Ext w w'):Mem w' A B O m R E:=
 ⟨h.at0,fun i hi=>IW (h.row i hi) x,h.ra,fun i j hi C t u D=>IW (h.el i j hi C t u D) x,h.lm,h.ln⟩
def wd (m:Nat) (R:Nat->Rw):Nat:=if m=0 then 0 else (R 0).n
theorem rH(h:Mem w A B O m R E):CE 190 #[aO A m c] w (.int .i64 (wd m R:Nat)):=by
 by_cases j:m=0
 .have C:((m:Int)==0)=ε:=by simp[j]
  have e0:wd m R=0:=by unfold wd;rw[ι j]
  rw[e0];clear j;exact AaL
 .have C:((m:Int)==0)=ζ:=by simp[j]
  have e0:wd m R=(R 0).n:=by unfold wd;rw[θ j]
  rw[e0];have D:=h.at0 aa;have F:w.cell? (aM B O)=γ (.slice (R 0).A (R 0).n (R 0).c):=h.row 0 aa;subst D;have q1:(0:Int)<m:=aa;exact AaL
def IsM (m:Nat) (R:Nat->Rw) (vb:Nat->Nat->Bool):Prop:=m<=24/\wd m R<=24/\(∀i,i<m->(R i).n=wd m R)/\∀i j,i<m->j<(R i).n->vb i j=ε
def Mem.bz(h:Mem w A B O m R E){i}(hi:i<m)(x:Ext w w'):w'.cell? (aM B (O+i))=γ (.slice (R i).A (R i).n (R i).c):=x.cell_ (h.row i hi)
def Mem.cells(h:Mem w A B O m R E){i j}(hi:i<m)(C:j<(R i).n)(x:Ext w w'):
  w'.cell? (aM ((R i).b) ((R i).o+j*6))=γ (.bool (E i j).s1)/\w'.cell? (aM ((R i).b) ((R i).o+j*6+1))=γ (.slice (E i j).A1 (E i j).n1 (E i j).c1)/\w'.cell? (aM ((R i).b) ((R i).o+j*6+2))=γ (.bool (E i j).s2)/\
  w'.cell? (aM ((R i).b) ((R i).o+j*6+3))=γ (.slice (E i j).A2 (E i j).n2 (E i j).c2)/\w'.cell? (aM ((R i).b) ((R i).o+j*6+4))=γ (.bool (E i j).s3)/\w'.cell? (aM ((R i).b) ((R i).o+j*6+5))=γ (.slice (E i j).A3 (E i j).n3 (E i j).c3):=
 ⟨x.cell_ (h.el i j hi C 0 _ rfl),x.cell_ (h.el i j hi C 1 _ rfl),x.cell_ (h.el i j hi C 2 _ rfl),x.cell_ (h.el i j hi C 3 _ rfl),x.cell_ (h.el i j hi C 4 _ rfl),x.cell_ (h.el i j hi C 5 _ rfl)⟩
def Dm(h:Mem w A B O m R E){vb:Nat->Nat->Bool}(hv:∀i j,i<m->j<(R i).n->VB w (E i j).v (vb i j))(b)(hb:b=ε↔IsM m R vb):
  CE 189 #[aO A m c] w (.bool b):=by
 have S:=aW h;have HV:=aW hv;have Zm:(0:Int)<=m:=aa;by_cases F:24<m
 .have I:decide ((24:Int)<m)=ε:=ae;have hF:b=ζ:=by cases b<;>simp_all [IsM];omega
  subst hF;clear h hv hb F;go_enter aee,adF;go_wp2_with fail;go_ret;exact⟨rfl,Ext.refl _⟩
 have I:decide ((24:Int)<m)=ζ:=ae;by_cases L:24<wd m R
 .have M:decide ((24:Int)<(wd m R:Int))=ε:=ae;have hF:b=ζ:=by cases b<;>simp_all [IsM];omega
  subst hF;clear h hv hb;go_enter aee,adF;go_wp2_with fail;refine(rH S.o).mono ?_;rintro e w2 ⟨rfl,J⟩;go_wp2_with fail;go_ret;exact⟨rfl,J⟩
 have M:decide ((24:Int)<(wd m R:Int))=ζ:=ae;have HB:=aW hb;clear hb;have C:m<=24:=aa;clear h hv;go_enter aee,adF;go_wp2_with fail;refine(rH S.o).mono ?_;rintro e w2 ⟨rfl,P⟩;have W:=aW P;clear P;go_wp2_with fail
 go_loopw [19] (fun i wr=>∃k:Nat,k<=m/\i=.int .i64 k/\(∀i,i<k->(R i).n=wd m R)/\Ext w wr) (aT m)
 case atStart=>exact⟨0,aa,rfl,by intros;omega,W.o⟩
 case round=>
  obtain⟨k,hk,rfl,K,J⟩:=hrel;have HA:=aW K;have HX:=aW J;clear K J W;by_cases Q:k<m
  .have hd:decide ((k:Int)<m)=ε:=ae;have hA:=S.at0 aa;have hr:=S.bz Q HX.o;subst hA;by_cases hn:(R k).n=wd m R
   .have N:(((R k).n:Int) !=(wd m R:Int))=ζ:=by simp[hn]
    have HN:=aW hn;clear hn;go_wp2_with fail;refine(rH (S.ext HX.o)).mono ?_;rintro e w3 ⟨rfl,T⟩;go_wp2_with fail
    go_roundw
    case rel=>
     refine⟨k+1,aa,au,fun i hi=> ?_,HX.trans T⟩;by_cases e:i=k
     .subst e;exact HN.o
     .exact HA.o i aa
    case measure=>exact aV
   .have N:(((R k).n:Int) !=(wd m R:Int))=ε:=ae;have hF:b=ζ:=by
     cases b
     .rfl
     .exact absurd ((HB.o.1 rfl).2.2.1 k Q) hn
    subst hF;clear hn;go_wp2_with fail;refine(rH (S.ext HX.o)).mono ?_;rintro e w3 ⟨rfl,T⟩;go_wp2_with fail;go_ret;exact⟨rfl,HX.trans T⟩
  .obtain rfl:k=m:=aa;have hd:decide ((k:Int)<k)=ζ:=ag;clear hd;go_wp2_with fail
   go_loopw [31] (fun i wr=>∃Z:Nat,Z<=k/\i=.int .i64 Z/\(∀i j,i<Z->j<(R i).n->vb i j=ε)/\Ext w wr) (aT k)
   case atStart=>exact⟨0,aa,rfl,by intros;omega,HX.o⟩
   case round=>
    clear Q;obtain⟨r,hr,rfl,K,J⟩:=hrel;have YR:=aW K;have W:=aW J;clear K J HX;by_cases Q:r<k
    .have hd:decide ((r:Int)<k)=ε:=ae;have hA:=S.at0 aa;have H:=S.bz Q W.o;subst hA;go_wp2_with fail
     go_loopw [37] (fun i wr=>∃Z:Nat,Z<=(R r).n/\i=.int .i64 Z/\(∀j,j<Z->vb r j=ε)/\Ext w wr) (fun i _=>(R r).n-(intOf i).toNat)
     case atStart=>exact⟨0,aa,rfl,by intros;omega,W.o⟩
     case round=>
      clear hd;obtain⟨j,hj,rfl,K,J⟩:=hrel;have Zt:=aW K;have U:=aW J;clear K J;by_cases V:j<(R r).n
      .have hd:decide ((j:Int)<((R r).n:Int))=ε:=ae;have YT:=S.ra r Q aa;have Zz:=S.ln r Q;obtain⟨c0,c1,c2,c3,c4,c5⟩:=S.cells Q V U.o;rw[YT];generalize Y:vb r j=bv;have Zn:Hid (VB w (E r j).v bv):=aW (Y ▸ HV.o r j Q V);have D:=aW Y;clear Y;have HE:=aW (U.alloc (.cells #[.bool (E r j).s1,aO (E r j).A1 (E r j).n1 (E r j).c1,.bool (E r j).s2,aO (E r j).A2 (E r j).n2 (E r j).c2,.bool (E r j).s3,aO (E r j).A3 (E r j).n3 (E r j).c3] 42));go_wp2_with fail;refine((Zn.ext HE.o).e).mono ?_;rintro e w4 ⟨rfl,Yw⟩;cases bv
       .have hF:b=ζ:=by
         cases b
         .rfl
         .have:=(HB.o.1 rfl).2.2.2 r j Q V;rw[D.o] at this;cases this
        subst hF;go_wp2_with fail;go_ret;exact⟨rfl,HE.trans Yw⟩
       .go_wp2_with fail
        go_roundw
        case rel=>
         refine⟨j+1,aa,au,fun i hi=> ?_,HE.trans Yw⟩;by_cases e:i=j
         .subst e;exact D.o
         .exact Zt.o i aa
        case measure=>exact aV
      .obtain rfl:j=(R r).n:=aa;have hd:decide (((R r).n:Int)<((R r).n:Int))=ζ:=ag
       go_wp2_with fail
       go_roundw
       case rel=>
        refine⟨r+1,aa,au,fun i G hi Yy=> ?_,U.o⟩;by_cases e:i=r
        .subst e;exact Zt.o G Yy
        .exact YR.o i G aa Yy
       case measure=>exact aV
    .obtain rfl:r=k:=aa;have hT:b=ε:=HB.o.2 ⟨C,aa,HA.o,YR.o⟩;subst hT;go_wp2_with fail;go_ret;exact⟨rfl,W.o⟩
end
def dQ.cells{w g n f}(hb:Blk w g 42 (bz n f).toArray){j}(C:j<n){p}(hp:j*6=p):
  w.cell? (aM g p)=γ (.bool (f j).s1)/\w.cell? (aM g (p+1))=γ (.slice (f j).A1 (f j).n1 (f j).c1)/\w.cell? (aM g (p+2))=γ (.bool (f j).s2)/\
  w.cell? (aM g (p+3))=γ (.slice (f j).A2 (f j).n2 (f j).c2)/\w.cell? (aM g (p+4))=γ (.bool (f j).s3)/\w.cell? (aM g (p+5))=γ (.slice (f j).A3 (f j).n3 (f j).c3):=by
 subst hp;have h:∀t u,(f j).cells[t]? =γ u->w.cell? (aM g (j*6+t))=γ u:=fun t u B=>by
  rw[hb.cell];have D:t<6:=by
   have:=(μ.1 B).1;exact this
  rw[Γ,dY D C];exact B
 exact⟨h 0 _ rfl,h 1 _ rfl,h 2 _ rfl,h 3 _ rfl,h 4 _ rfl,h 5 _ rfl⟩
def wW (x y:Nat->GQ) (q:GQ) (o B k:Nat):Nat->GQ:=fun j=>if o<=j/\j<o+k then x j-q*y (B+(j-o)) else x j
theorem Pn(x y q o B):wW x y q o B 0=x:=by
 funext j;unfold wW;rw[θ aa]
theorem Ev(x y q o B k):wW x y q o B (k+1)=upd (wW x y q o B k) (o+k) (x (o+k)-q*y (B+k)):=by
 funext j;unfold upd;by_cases h:j=o+k
 .subst h;rw[ι rfl];unfold wW;rw[ι aa];rw[show o+k-o=k by omega]
 .rw[θ h];unfold wW;by_cases C:o<=j/\j<o+k
  .rw[ι C,ι aa]
  .rw[θ C,θ aa]
theorem Nl(x y q o j k):wW x y q o j k (o+k)=x (o+k):=by
 unfold wW;rw[θ aa]
def jV.ne{w gf g n x}(h:jV w gf)(J:dQ w g n x):gf≠g:=by
 rintro rfl;obtain⟨f,hb,_⟩:=J;have e:=h.symm.trans hb;simp at e
def dQ.far{w g n x}(h:dQ w g n x):Far (fun k=>k=g) w:=by
 obtain⟨f,B,_⟩:=h;intro k j _;subst j;exact⟨_,_,B,dD _ _⟩
def zP(gf g g2 o o2 n n2 L C G C2 Nx Ny B A A2 v x y q w)(hc:jV w gf)(J:dQ w g n x)(R:dQ w g2 n2 y)(Yx:g≠g2)(hA:0<L->A=γ ⟨g,o*6,δ⟩)(ac:0<G->A2=γ ⟨g2,o2*6,δ⟩)(hL:L<=G)(ho:o+L<=n)(YG:o2+G<=n2)(S:L<=9223372036854775807)(D:G<=9223372036854775807)(hq:GV w v q B)(bx:∀j,j<L->Bd (x (o+j)) Nx)(by_:∀j,j<L->Bd (y (o2+j)) Ny)(hN:2*max Nx (B+Ny+1)+65<=12800)(H:2*max B Ny+1<=12800):
  Calls prog 212 #[aN gf 0,aO A L C,aO A2 G C2,v] w fun e w'=>e=.returned (.tuple #[])/\dQ w' g n (wW x y q o o2 L)/\Mod (fun k=>k=g) w w':=by
 obtain⟨s1,A1,n1,c1,s2,O,P,c2,s3,A3,n3,c3,rfl⟩:=hq.opn;have HB:=aW (Blk.new w 42 #[s1,aO A1 n1 c1,s2,aO O P c2,s3,aO A3 n3 c3]);have HE:=aW (Ext.new w (.cells #[s1,aO A1 n1 c1,s2,aO O P c2,s3,aO A3 n3 c3] 42));have ZO:g<w.heap.size:=by obtain⟨f,h,_⟩:=J;exact h.lt
 have HC:=aW (hc.ext HE.o);have HX:=aW (J.ext HE.o);have HY:=aW (R.ext HE.o);have HQ:=aW (hq.ext HE.o);have YB:=aW bx;have YU:=aW by_;clear hc J R hq bx by_;go_enter func212,ntmps212;go_wp2_with fail;generalize (w.alloc _)=w1 at HB HE HC HX HY HQ⊢;generalize ZA:w.heap.size=g7 at HB ZO⊢;have af:=aW ZA;clear ZA;go_loopw [11] (fun i wr=>∃k:Nat,k<=L/\i=.int .i64 k/\dQ wr g n (wW x y q o o2 k)/\Mod (fun k=>k=g) w1 wr) (aT L)
 case atStart=>exact⟨0,aa,rfl,by rw[Pn];exact HX.o,Mod.refl _ _⟩
 case round=>
  obtain⟨k,hk,rfl,F,hm⟩:=hrel;have HM:=aW hm;have Q:=aW F;clear hm F;by_cases Yu:k<L
  .have hd:decide ((k:Int)<L)=ε:=ae;have YN:decide ((k:Int)<G)=ε:=ae;have hA:=hA aa;have ac:=ac aa;subst hA;subst ac;have M:=HX.far;obtain⟨f2,YP,ZV⟩:=HY.mod HM.o M Adt;obtain⟨f,hf,hv⟩:=Q.o;have V:=aW ((ZV (o2+k) aa).to (YU.o k Yu));have HV:=aW (hv (o+k) aa);obtain⟨d0,d1,d2,d3,d4,d5⟩:=dQ.cells YP (j:=o2+k) aa (show(o2+k)*6=o2*6+k*6 by omega);have Y:=aW hf;have am:=aW YP;clear hf YP ZV;have ZB:=aW hv;clear hv;go_wp2_with fail;refine(yI _ _ _ _ V.o aa).mono ?_;rintro e w3 ⟨rfl,Yv⟩;by_cases h0:y (o2+k)=GQ.i 0 0
   .rw[Λ h0];go_wp2_with fail
    go_roundw
    case rel=>
     refine⟨k+1,aa,au,?_,HM.trans (ae0 Yv)⟩;rw[Ev];refine(Q.ext Yv).congr fun j hj=> ?_;by_cases e:j=o+k
     .subst e;rw[upd_same,Nl,h0,GQ.bY,GQ.fC]
     .rw[upd_ne e]
    case measure=>exact aV
   .rw[ρ h0];have Z:=aW (Y.ext Yv);have Yy:=aW ((HB.mod HM.o (by exact fun e=>aa)).ext Yv);obtain⟨a0,a1,a2,a3,a4,a5⟩:=dQ.cells Z.o (j:=o+k) aa (show(o+k)*6=o*6+k*6 by omega);have E0:=aX.cell a0;have N:=aX.cell a1;have E2:=aX.cell a2;have E3:=aX.cell a3;have E4:=aX.cell a4;have E5:=aX.cell a5;have D0:=aX.cell (Yv.cell_ d0);have D1:=aX.cell (Yv.cell_ d1);have D2:=aX.cell (Yv.cell_ d2);have D3:=aX.cell (Yv.cell_ d3);have D4:=aX.cell (Yv.cell_ d4);have D5:=aX.cell (Yv.cell_ d5);have B7:=aX.blk Yy.o;have YA:=aW Yv;clear Yv a0 a1 a2 a3 a4 a5 d0 d1 d2 d3 d4 d5;go_wp2_with fail;refine bO 15 [(ε,0),(ε,1),(ε,2),(ε,3),(ε,4),(ε,5),(ε,6),(ε,7),(ε,8),(ε,9),(ε,10),(ε,11),(ε,12),(ζ,13),(ζ,14)] ah ah ?_;refine bD [0,1,2,3,4,5,6,7,8,9,10,11,12] [(ζ,13),(ζ,14)] _ ah ?_;refine Gq ?_;refine bC 13 [(ζ,14)] ah ?_;intro K I;simp only[bJ];go_wp2_with fail;have ad:=aW (HM.trans (ae0 YA.drew));have Zx:=aW (HV.ext YA.drew);refine(Vj gf _ _ q (y (o2+k)) B Ny _ (Blk.mod HC.o ad.o (HC.ne HX.o)) (HQ.mod ad.o M) (V.ext YA.drew) aa).mono ?_;rintro e w4 ⟨v4,rfl,U,Yw⟩;have YZ:=aW Yw.jJ;have YC:=aW U;have W:=aW Yw;clear Yw U;go_wp2;refine I _ _ ⟨⟨w4,YZ.o⟩,rfl⟩ ?_;clear I K;refine bC 14 [] ah ?_;intro K I;simp only[bJ];go_wp2_with fail;have YW:=YB.o k Yu;refine(Vh gf _ _ (x (o+k)) (q*y (o2+k)) Nx (B+Ny+1) _ ?_ ?_ YC.o aa).mono ?_
    .exact Blk.ext (Blk.mod HC.o ad.o (HC.ne HX.o)) W.o
    .have:=Zx.ext W.o;rw[Nl] at this;exact this.to YW
    rintro e w5 ⟨v5,rfl,Zr,Yz⟩;obtain⟨t1,B1,m1,b1,t2,B2,m2,b2,t3,B3,m3,b3,rfl⟩:=Zr.opn;have YQ:=aW (YZ.trans Yz);have ZR:=aW Zr;clear Yz Zr;go_wp2;refine I _ _ ⟨⟨w5,YQ.o⟩,rfl⟩ ?_;clear I K;have T:=aW (Z.ext YQ.o);obtain⟨a0,a1,a2,a3,a4,a5⟩:=dQ.cells T.o (j:=o+k) aa (show(o+k)*6=o*6+k*6 by omega);have f5:=T.frozen;simp only[dh,ξ,τ];have ai:=aW M;clear M E0 N E2 E3 E4 E5 D0 D1 D2 D3 D4 D5 B7;go_wp2_with fail
    go_roundw
    case rel=>
     refine⟨k+1,aa,au,?_⟩;have Zh:Mod (fun k=>k=g) w1 w5:=(HM.trans (ae0 YA.o)).trans (ae0 YQ.o);have hh:∀j,j<n->GV w5 (f j).v (wW x y q o o2 k j) 12800:=fun j hj=>((ZB.o j hj).ext YA.o).ext YQ.o;have hp:=dQ.put (e:=⟨t1,B1,m1,b1,t2,B2,m2,b2,t3,B3,m3,b3⟩) T.o hh (j:=o+k) aa (ZR.up aa);rw[show(o+k)*6=o*6+k*6 by omega] at hp;rw[Ev];exact⟨hp.1,Zh.trans hp.2⟩
    case measure=>exact aV
  .obtain rfl:k=L:=aa;have hd:decide ((k:Int)<k)=ζ:=ag;go_wp2_with fail;refine aaY (aas rfl _ _ _) rfl ?_;refine⟨rfl,Q.o,?_⟩;exact(ae0 HE.o).trans HM.o
def zQ(gf g g2 o B n n2 L C G K N A A2 v x y q w)(hc:jV w gf)(J:dQ w g n x)(R:dQ w g2 n2 y)(F:g≠g2)(O:0<L->A=γ ⟨g,o*6,δ⟩)(H:0<G->A2=γ ⟨g2,B*6,δ⟩)(P:L<=G)(Q:o+L<=n)(I:B+G<=n2)(S:L<=9223372036854775807)(D:G<=9223372036854775807)(hq:GV w v q N)(M:∀j,j<L->Bd (x (o+j)) N)(by_:∀j,j<L->Bd (y (B+j)) N)(T:4*N+67<=12800):
  Calls prog 212 #[aN gf 0,aO A L C,aO A2 G K,v] w fun e w'=>e=.returned (.tuple #[])/\dQ w' g n (wW x y q o B L)/\Mod (fun k=>k=g) w w':=
 zP gf g g2 o B n n2 L C G K N N N A A2 v x y q w hc J R F O H P Q I S D hq M by_ aa aa
def Af(gf C G B A A2 v q N w)(hq:GV w v q N):
  CE 212 #[aN gf 0,aO A 0 C,aO A2 G B,v] w (.tuple #[]):=by
 obtain⟨s1,A1,n1,c1,s2,O,P,c2,s3,A3,n3,c3,rfl⟩:=hq.opn;have j:=aW (Ext.new w (.cells #[s1,aO A1 n1 c1,s2,aO O P c2,s3,aO A3 n3 c3] 42));clear hq;go_enter func212,ntmps212;go_wp2_with fail;generalize (w.alloc _)=w1 at j⊢;go_loopw [11] (fun i wr=>i=.int .i64 0/\wr=w1) (fun i _=>0)
 case atStart=>exact⟨rfl,rfl⟩
 case round=>
  obtain⟨rfl,rfl⟩:=hrel;go_wp2_with fail;refine aaY (aas rfl _ _ _) rfl ?_;exact⟨rfl,j.o⟩
def EH (x y:Nat->GQ) (q:GQ) (c:Nat):Nat->GQ:=fun j=>if j<c then x j else if j=c then GQ.i 0 0 else x j-q*y j
def Blk.fw{w g g' t j cs cs'}(h:Blk w g t cs)(D:Blk w g' j cs')(B:t≠j):g≠g':=by
 rintro rfl;have e:=h.symm.trans D;simp at e;exact B e.2
def dQ.blk{w g n x}(h:dQ w g n x):∃cs,Blk w g 42 cs:=by obtain⟨f,hb,_⟩:=h;exact⟨_,hb⟩
theorem RU(gf G S nb D F N B C v H K q w)(hc:jV w gf)(hq:GV w v q N)(Q:0<nb->B=γ ⟨G,0,δ⟩/\dQ w G nb H)(P:0<nb->C=γ ⟨S,0,δ⟩/\dQ w S nb K)(L:0<nb->G≠S)(Z:nb<=1000)(M:∀j,j<nb->Bd (H j) N)(R:∀j,j<nb->Bd (K j) N)(hN:4*N+67<=12800):
  Calls prog 212 #[aN gf 0,aO B nb D,aO C nb F,v] w.drew fun e w'=>e=.returned (.tuple #[])/\(0<nb->dQ w' G nb (fun j=>H j-q*K j))/\Mod (fun g=>0<nb/\g=G) w w':=by
 have hd:Ext w w.drew:=(Ext.refl _).drew;by_cases h:0<nb
 .obtain⟨e1,r1⟩:=Q h;obtain⟨V,r2⟩:=P h;refine(zQ gf G S 0 0 nb nb nb D nb F N B C v H K q w.drew (hc.ext hd) (r1.ext hd) (r2.ext hd) (L h) (fun _=>by simpa using e1) (fun _=>by simpa using V) (κ _) aa aa aa aa (hq.ext hd) (fun j I=>by simpa using M j I) (fun j I=>by simpa using R j I) hN).mono ?_;rintro e w' ⟨O,W,Y⟩;refine⟨O,fun _=>W.congr fun j I=> ?_,(ae0 hd).trans (Y.mono fun g U=>⟨h,U⟩)⟩;unfold wW;rw[ι aa];simp
 .obtain rfl:nb=0:=aa;refine(Af gf D 0 F B C v q N w.drew (hq.ext hd)).mono ?_;rintro e w' ⟨O,J⟩;exact⟨O,fun T=>absurd T aa,(ae0 hd).trans (ae0 J)⟩
theorem QL(gf Ga Gb m cA cB i k col na nb Q bk G S Yz YA N Yu Yv ZA ZC x y x2 y2 w)(hc:jV w gf)(hA:Blk w Ga 174 ZA)(hB:Blk w Gb 174 ZC)(YX:ZA[i]? =γ (aO (γ (aM Q 0)) na na))(ZO:ZA[k]? =γ (aO (γ (aM bk 0)) na na))(ai:ZC[i]? =γ (aO Yu nb Yz))(YL:ZC[k]? =γ (aO Yv nb YA))(YD:i<m)(Z:k<m)(Yw:col<na)(hm:m<=1000)(ao:na<=1000)(Zn:nb<=1000)(J:dQ w Q na x)(R:dQ w bk na y)(YT:0<nb->Yu=γ ⟨G,0,δ⟩/\dQ w G nb x2)(YS:0<nb->Yv=γ ⟨S,0,δ⟩/\dQ w S nb y2)(Yx:Q≠bk)(YM:0<nb->G≠S/\Q≠G/\Q≠S)(h0:y col≠GQ.i 0 0)(bx:∀j,j<na->Bd (x j) N)(by_:∀j,j<na->Bd (y j) N)(YR:∀j,j<nb->Bd (x2 j) N)(YV:∀j,j<nb->Bd (y2 j) N)(bq:Bd (x col/y col) N)(hN:4*N+67<=12800):
  Calls prog 211 #[aN gf 0,aO (γ (aM Ga 0)) m cA,aO (γ (aM Gb 0)) m cB,.int .i64 k,.int .i64 i,.int .i64 col] w fun e w'=>e=.returned (.tuple #[])/\
   dQ w' Q na (EH x y (x col/y col) col)/\(0<nb->dQ w' G nb (fun j=>x2 j-x col/y col*y2 j))/\Mod (fun g=>g=Q\/(0<nb/\g=G)) w w':=by
 have HX:=aW J;have HY:=aW R;have HA:=aW hA;have HB:=aW hB;have HC:=aW hc;obtain⟨f,hf,hv⟩:=J;obtain⟨f2,YP,ZV⟩:=R;have C:w.cell? (aM Ga i)=γ (aO (γ (aM Q 0)) na na):=(hA.cell i).trans YX;have k2:w.cell? (aM Ga k)=γ (aO (γ (aM bk 0)) na na):=(hA.cell k).trans ZO;obtain⟨a0,a1,a2,a3,a4,a5⟩:=dQ.cells hf Yw rfl;have e0:=hc.cell;have HV:=aW ((hv col Yw).to (bx col Yw));have d1:decide ((i:Int)<m)=ε:=ae;have d2:decide ((k:Int)<m)=ε:=ae;have d3:decide ((col:Int)<na)=ε:=ae;have Y:=aW hf;have am:=aW YP;have ZB:=aW hv;have ZQ:=aW ZV;have Zi:=aW YT;have ZP:=aW YS;have YB:=aW bx;have YU:=aW by_;have Zg:=aW YR;have ZH:=aW YV;have Ze:=aW bq;have YN:=aW YM;clear hf YP hv ZV YT YS bx by_ YR YV bq hA hB hc YM;go_enter func211,ntmps211;go_wp2_with fail;refine(yI _ _ _ _ HV.o aa).mono ?_;rintro e w1 ⟨rfl,H⟩;replace C:=H.cell_ C;replace k2:=H.cell_ k2;replace a0:=H.cell_ a0;replace a1:=H.cell_ a1;replace a2:=H.cell_ a2;replace a3:=H.cell_ a3;replace a4:=H.cell_ a4;replace a5:=H.cell_ a5;clear e0;have e0:=(HC.ext H).cell;by_cases hz:x col=GQ.i 0 0
 .rw[Λ hz];go_wp2_with fail;refine aai (aas rfl _ _ _) rfl ?_;have ZK:x col/y col=GQ.i 0 0:=by rw[hz,afw]
  refine⟨rfl,(HX.ext H).congr fun j hj=> ?_,fun hb=>((Zi.o hb).2.ext H).congr fun j hj=> ?_,ae0 H⟩
  .unfold EH;rw[ZK];by_cases h1:j<col
   .rw[ι h1]
   .rw[θ h1];by_cases h2:j=col
    .subst h2;rw[ι rfl,hz]
    .rw[θ h2,GQ.fq,GQ.fC]
  .rw[ZK,GQ.fq,GQ.fC]
 .rw[ρ hz];go_wp2_with fail;obtain⟨b0,b1,b2,b3,b4,b5⟩:=dQ.cells (am.ext H) Yw rfl;have K1:=aX.cell C;have U:=aX.cell k2;have A0:=aX.cell a0;have A1:=aX.cell a1;have A2:=aX.cell a2;have A3:=aX.cell a3;have A4:=aX.cell a4;have A5:=aX.cell a5;have B0:=aX.cell b0;have B1:=aX.cell b1;have B2:=aX.cell b2;have B3:=aX.cell b3;have B4:=aX.cell b4;have B5:=aX.cell b5;have YC:=aW H;clear a0 a1 a2 a3 a4 a5 b0 b1 b2 b3 b4 b5 C k2 e0 H;have Zz:∀w',Ext w1 w'->CV 213 #[aN gf 0,.agg #[.bool (f col).s1,aO (f col).A1 (f col).n1 (f col).c1,.bool (f col).s2,aO (f col).A2 (f col).n2 (f col).c2,.bool (f col).s3,aO (f col).A3 (f col).n3 (f col).c3],.agg #[.bool (f2 col).s1,aO (f2 col).A1 (f2 col).n1 (f2 col).c1,.bool (f2 col).s2,aO (f2 col).A2 (f2 col).n2 (f2 col).c2,.bool (f2 col).s3,aO (f2 col).A3 (f2 col).n3 (f2 col).c3]] w' fun v w''=>GV w'' v (x col/y col) N:=fun w' W=>
   (Vg gf _ _ (x col) (y col) N N w' ((HC.ext YC.o).ext W) ((HV.ext YC.o).ext W) ((((ZQ.o col Yw).to (YU.o col Yw)).ext YC.o).ext W) h0 aa).mono fun e w'' ⟨v,h1,h2,h3⟩=>⟨v,h1,h2.to Ze.o,h3⟩
  have HD:=aW Zz;clear Zz;refine uH 17 16 [(ε,0),(ε,1),(ε,2),(ε,3),(ε,4),(ε,5),(ε,6),(ε,7),(ε,8),(ε,9),(ε,10),(ε,11),(ε,12),(ε,13),(ε,14),(ζ,15)] [] (fun a a' w'=>∃(gb:Nat) (r1:Bool) (D1:Option Addr) (p1 q1:Nat) (r2:Bool) (D2:Option Addr) (p2 q2:Nat) (r3:Bool) (D3:Option Addr) (p3 q3:Nat),a'=(((((((((((((((((a.put (γ 28) (.pointer (γ (aM gf 0)))).put (γ 29) (.slice (γ (aM Ga 0)) m cA)).put (γ 30) (.int .i64 i)).put (γ 31) (.pointer (γ (aM Ga i)))).put (γ 32) (.slice (γ (aM Q 0)) na na)).put (γ 33) (.int .i64 col)).put (γ 34) (.pointer (γ (aM Q (col*6))))).put (γ 35) (.agg #[.bool (f col).s1,aO (f col).A1 (f col).n1 (f col).c1,.bool (f col).s2,aO (f col).A2 (f col).n2 (f col).c2,.bool (f col).s3,aO (f col).A3 (f col).n3 (f col).c3])).put (γ 36) (.slice (γ (aM Ga 0)) m cA)).put (γ 37) (.int .i64 k)).put (γ 38) (.pointer (γ (aM Ga k)))).put (γ 39) (.slice (γ (aM bk 0)) na na)).put (γ 40) (.int .i64 col)).put (γ 41) (.pointer (γ (aM bk (col*6))))).put (γ 42) (.agg #[.bool (f2 col).s1,aO (f2 col).A1 (f2 col).n1 (f2 col).c1,.bool (f2 col).s2,aO (f2 col).A2 (f2 col).n2 (f2 col).c2,.bool (f2 col).s3,aO (f2 col).A3 (f2 col).n3 (f2 col).c3])).put (γ 43) ((gv r1 D1 p1 q1 r2 D2 p2 q2 r3 D3 p3 q3))).put (γ 12) (.pointer (γ (aM gb 0))))/\GV w' (gv r1 D1 p1 q1 r2 D2 p2 q2 r3 D3 p3 q3) (x col/y col) N/\Blk w' gb 42 aQ3/\Ext w1 w'/\w1.heap.size<=gb) ah ah ?_ ?_
  ·
   have P:Ext w1 w1.drew:=(Ext.refl _).drew;generalize w1.drew=w6 at*
   refine gK [0,1,2,3,4,5,6,7,8,9,10,11,12,13,14] [(ζ,15)] _ ah ?_;refine Gq ?_;refine nJ 15 [] ah ah ?_ ?_
   ·
    intro K I;simp only[bJ];go_wp2_with fail;refine(HD.o _ P).mono ?_;rintro e w7 ⟨v_,rfl,hO,F⟩;replace P:=P.trans F;obtain⟨r1,D1,p1,q1,r2,D2,p2,q2,r3,D3,p3,q3,rfl⟩:=hO.opn;have T:=aW hO;clear hO;go_wp2;refine I _ _ ⟨⟨w7,P⟩,rfl⟩ ?_;clear I K F;refine qp ah ?_;intro K I;simp only[bJ];go_wp2_with fail;have F:=Ext.new w7 (.cells aQ3 42);obtain⟨-,YZ⟩:=an1 w7 42 aQ3;have ac:w1.heap.size<=w7.heap.size:=P.size;replace P:=P.trans F;have Zf:=aW (T.ext F);refine I _ _ ⟨⟨_,P⟩,rfl⟩ ?_;exact⟨_,r1,D1,p1,q1,r2,D2,p2,q2,r3,D3,p3,q3,by simp only[Act.put,aQ,De,Ej],Zf.o,YZ,P,ac⟩
   ·
    intro K I;simp only[bJ];go_wp2_with fail;have F:=Ext.new w6 (.cells aQ3 42);obtain⟨-,YZ⟩:=an1 w6 42 aQ3;have ac:w1.heap.size<=w6.heap.size:=P.size;replace P:=P.trans F;refine I _ _ ⟨⟨_,P⟩,rfl⟩ ?_;clear I K F;generalize w6.alloc (.cells aQ3 42)=af at*
    generalize w6.heap.size=gb at*
    refine bC 15 [] ah ?_;intro K I;simp only[bJ];go_wp2_with fail;refine(HD.o _ P).mono ?_;rintro e w7 ⟨v_,rfl,hO,F⟩;replace P:=P.trans F;replace YZ:=YZ.ext F;obtain⟨r1,D1,p1,q1,r2,D2,p2,q2,r3,D3,p3,q3,rfl⟩:=hO.opn;have T:=aW hO;clear hO;go_wp2;refine I _ _ ⟨⟨w7,P⟩,rfl⟩ ?_;clear I K F;exact⟨_,r1,D1,p1,q1,r2,D2,p2,q2,r3,D3,p3,q3,by simp only[Act.put,aQ,De,Ej],T.o,YZ,P,ac⟩
  rintro a' w8 ⟨gb,r1,D1,p1,q1,r2,D2,p2,q2,r3,D3,p3,q3,rfl,hQ,YI,YW,ac⟩;clear K1 U A0 A1 A2 A3 A4 A5 B0 B1 B2 B3 B4 B5;simp only[Act.put,aQ,De,Ej,ξ,τ];have Zp:=aW (YC.trans YW);have k6:=YI.cell;have f6:=YI.frozen;obtain⟨z1,z2,z3⟩:=fA YW ac YI hQ;have Z1:=aW (YC.trans z1);have Z2:=aW z2;have Z3:=aW z3;clear z1 z2 z3 YW YI hQ;have ZT:w.heap.size<=gb:=Θ YC.size ac;clear Zp;go_wp2_with fail;generalize ZR:World.setCell _ _ _=w9 at Z1 Z2 Z3⊢;clear ZR k6 f6 ac;have K1:=aX.cell (((HA.ext Z1.o).cell i).trans YX);have ZG:=aW (SK gf w9.drew (HC.ext Z1.drew));refine bO 7 [(ε,0),(ε,1),(ε,2),(ε,3),(ε,4),(ε,5),(ζ,6)] ah ah ?_;refine bD [0,1,2,3,4,5] [(ζ,6)] _ ah ?_;refine Gq ?_;refine bC 6 [] ah ?_;intro K I;simp only[bJ];go_wp2_with fail;refine ZG.mono ?_;rintro e ZN ⟨ap,rfl,YY,Zt⟩;obtain⟨t1,B1,m1,o1,t2,B2,m2,o2,t3,B3,m3,o3,rfl⟩:=YY.opn;have D:=aW Zt.jJ;have Zl:=aW YY;clear Zt YY ZG;go_wp2;refine I _ _ ⟨⟨ZN,D.o⟩,rfl⟩ ?_;clear I K K1;simp only[dh,ξ,τ];have Zd:=aW (Z1.trans D.o);have YF:=aW (Y.ext Zd.o);obtain⟨a0,a1,a2,a3,a4,a5⟩:=dQ.cells YF.o Yw rfl;have f5:=YF.frozen;go_wp2_with fail;clear a0 a1 a2 a3 a4 a5 f5;have hp:=dQ.put (e:=⟨t1,B1,m1,o1,t2,B2,m2,o2,t3,B3,m3,o3⟩) YF.o (fun j hj=>(ZB.o j hj).ext Zd.o) (j:=col) Yw (Zl.up aa);have YE:=aW (show dQ (puts ZN Q (col*6) [.bool t1,.slice B1 m1 o1,.bool t2,.slice B2 m2 o2,.bool t3,.slice B3 m3 o3]) Q na (upd x col (GQ.i 0 0)) from hp.1);have YG:=aW (show Mod (fun g=>g=Q) ZN (puts ZN Q (col*6) [.bool t1,.slice B1 m1 o1,.bool t2,.slice B2 m2 o2,.bool t3,.slice B3 m3 o3]) from hp.2);clear hp;show Code.wp _ _ _ _ (puts ZN Q (col*6) [.bool t1,.slice B1 m1 o1,.bool t2,.slice B2 m2 o2,.bool t3,.slice B3 m3 o3]);generalize (puts ZN Q (col*6) [.bool t1,.slice B1 m1 o1,.bool t2,.slice B2 m2 o2,.bool t3,.slice B3 m3 o3])=ZF at YE YG⊢;have M:=HX.far;have V:Mod (fun g=>g=Q) w ZF:=(ae0 Zd.o).trans YG.o;have Zo:=Y.lt;have Zw:=aW (HA.mod V (HA.fw Y.o aj));have B:=aW (HB.mod V (HB.fw Y.o aj));have YK:=aW (Blk.mod HC.o V (HC.ne HX.o));have ZM:=aW (HY.mod V M Adt);have YH:Far (fun g=>g=Q) ZN:=fun g hg _=>by subst hg;exact⟨_,_,YF.o,dD _ _⟩
  have Zc:=aW ((Z2.ext D.o).mod YG.o (by exact fun e=>aa));have Zh:=aW ((Z3.ext D.o).mod YG.o YH);have YO:=aW V;clear V YG Z2 Z3 Zl YF YH D;have K1:=aX.cell ((Zw.cell i).trans YX);have U:=aX.cell ((Zw.cell k).trans ZO);have B7:=aX.blk Zc.o;have s1:(0:Int)<=(col:Int)+1:=aa;have s2:(col:Int)+1<=(na:Int):=aa;refine bO 16 [(ε,0),(ε,1),(ε,2),(ε,3),(ε,4),(ε,5),(ε,6),(ε,7),(ε,8),(ε,9),(ε,10),(ε,11),(ε,12),(ε,13),(ε,14),(ε,15)] ah ah ?_;refine bD [0,1,2,3,4,5,6,7,8,9,10,11,12,13,14,15] [] _ ah ?_;refine Gq ?_;clear K1 U B7 s1 s2;simp only[dh,ξ,τ];have ZJ:Hid (∀(P1 P2:Option Addr) (L C1 C2:Nat),L=na-(col+1)->(0<L->P1=γ ⟨Q,(col+1)*6,δ⟩)->(0<L->P2=γ ⟨bk,(col+1)*6,δ⟩)->Calls prog 212 #[aN gf 0,aO P1 L C1,aO P2 L C2,(gv r1 D1 p1 q1 r2 D2 p2 q2 r3 D3 p3 q3)] ZF.drew fun e w'=>e=.returned (.tuple #[])/\dQ w' Q na (EH x y (x col/y col) col)/\Mod (fun g=>g=Q) ZF w'):=by
   refine aW fun P1 P2 L C1 C2 hL h1 h2=> ?_;have hd:Ext ZF ZF.drew:=(Ext.refl _).drew;refine(zQ gf Q bk (col+1) (col+1) na na L C1 L C2 N P1 P2 _ (upd x col (GQ.i 0 0)) y (x col/y col) ZF.drew (YK.ext hd) (YE.ext hd) (ZM.ext hd) Yx h1 h2 (κ _) aa aa aa aa (Zh.ext hd) ?_ (fun j hj=>YU.o _ aa) hN).mono ?_
   .intro j hj;rw[upd_ne aa];exact YB.o _ aa
   .rintro e w' ⟨O,hr,hm⟩;refine⟨O,hr.congr fun j hj=> ?_,(ae0 hd).trans hm⟩;unfold wW EH;by_cases ad:j<col
    .rw[θ aa,ι ad,upd_ne aa]
    .by_cases Yy:j=col
     .subst Yy;rw[θ aa,θ aa,ι rfl,upd_same]
     .rw[ι aa,θ ad,θ Yy,upd_ne Yy];congr 3;omega
  go_wp2_with fail;all_goals
   refine(ZJ.o _ _ _ _ _ aa AdO AdO).mono ?_;rintro e af ⟨rfl,Zk,YJ⟩;have ZI:=aW Zk;have YQ:=aW (YO.trans YJ);clear Zk;go_wp2_with fail;have Za:=aW (B.mod YJ (B.fw (YE.blk.choose_spec) aj));have Zx:=aW (Blk.mod YK.o YJ (jV.ne YK.o YE.o));have Zr:=aW (Zc.mod YJ (by exact fun e=>aa));have Zv:=aW (Zh.mod YJ YE.far);have K1:=aX.cell ((Za.cell i).trans ai);have U:=aX.cell ((Za.cell k).trans YL);have B7:=aX.blk Zr.o;have HS:=aW (RU gf G S nb Yz YA N Yu Yv _ x2 y2 (x _/y _) af Zx.o Zv.o (fun hb=>⟨(Zi.o hb).1,(Zi.o hb).2.mod YQ.o M (by exact fun e=>(YN.o hb).2.1 e.symm)⟩) (fun hb=>⟨(ZP.o hb).1,(ZP.o hb).2.mod YQ.o M (by exact fun e=>(YN.o hb).2.2 e.symm)⟩) (fun hb=>(YN.o hb).1) Zn Zg.o ZH.o hN);clear B YK Zc Zh Za Zx Zr Zv ZJ YE;refine bO 10 [(ε,0),(ε,1),(ε,2),(ε,3),(ε,4),(ε,5),(ε,6),(ε,7),(ε,8),(ε,9)] ah ah ?_;refine bD [0,1,2,3,4,5,6,7,8,9] [] _ ah ?_;refine Gq ?_;clear K1 U B7;simp only[dh,ξ,τ];go_wp2_with fail;refine HS.mono ?_;rintro e ZL ⟨rfl,Zj,Zm⟩;have ZE:=aW Zj;have Zq:=aW Zm;clear Zj Zm;go_wp2_with fail;refine aaY (aas rfl _ _ _) rfl ?_;refine⟨rfl,?_,ZE.o,(YQ.mono (fun g hg=> .inl hg)).trans (Zq.mono (fun g hg=> .inr hg))⟩;refine ZI.mod Zq.o ?_ ?_
   .intro g hg _;obtain⟨hb,rfl⟩:=hg;have hr:=(Zi.o hb).2.mod YQ.o M (by exact fun e=>(YN.o hb).2.1 e.symm);obtain⟨ff,Zy,_⟩:=hr;exact⟨_,_,Zy,dD _ _⟩
   .exact fun hg=>(YN.o hg.1).2.1 hg.2
def mxc (m:Nat) (R:Nat->Rw):List Value:=(List.range m).map fun i=>(R i).v
def jq{m R i}(hi:i<m):(mxc m R).toArray[i]? =γ (R i).v:=by simp[mxc,hi]
structure MxI (W:World) (G m n:Nat) (P:Nat->Prop) (R:Nat->Rw) (X:Nat->Nat->GQ):Prop where
 o:Blk W G 174 (mxc m R).toArray
 len:∀i,i<m->(R i).n=n/\(R i).c=n
 row:∀i,i<m->0<n->(R i).A=γ ⟨(R i).b,0,δ⟩/\dQ W (R i).b n (X i)
 inj:∀i j,i<m->j<m->0<n->(R i).b=(R j).b->i=j
 mem:∀i,i<m->0<n->P (R i).b
section
variable {W W':World} {G m n:Nat} {P:Nat->Prop} {R:Nat->Rw} {X Y:Nat->Nat->GQ}
def MxI.ext(h:MxI W G m n P R X)(x:Ext W W'):MxI W' G m n P R X:=
 ⟨h.o.ext x,h.len,fun i hi hn=>⟨(h.row i hi hn).1,(h.row i hi hn).2.ext x⟩,h.inj,h.mem⟩
def MxI.congr(h:MxI W G m n P R X)(e:∀i j,i<m->j<n->X i j=Y i j):MxI W G m n P R Y:=
 ⟨h.o,h.len,fun i hi hn=>⟨(h.row i hi hn).1,(h.row i hi hn).2.congr fun j B=>e i j hi B⟩,h.inj,h.mem⟩
theorem MxI.v(h:MxI W G m n P R X){i}(hi:i<m)(hn:0<n):(R i).v=.slice (γ (aM ((R i).b) 0)) n n:=by
 unfold Rw.v;rw[(h.row i hi hn).1,(h.len i hi).1,(h.len i hi).2]
theorem MxI.v0(h:MxI W G m n P R X){i}(hi:i<m):(R i).v=.slice (R i).A n n:=by
 unfold Rw.v;rw[(h.len i hi).1,(h.len i hi).2]
def MxI.cell(h:MxI W G m n P R X){i}(hi:i<m):W.cell? (aM G i)=γ (.slice (R i).A n n):=by
 rw[h.o.cell,jq hi,h.v0 hi]
def MxI.U7{S:Nat->Prop}{x:Nat->GQ}{i:Nat}(h:MxI W G m n P R X)(C:Mod S W W')(hS:Far S W)(F:¬S G)(D:∀j,j<m->j≠i->0<n->¬S (R j).b)(hi:0<n->dQ W' (R i).b n x):MxI W' G m n P R (upd X i x):=by
 refine⟨h.o.mod C F,h.len,fun j B hn=>⟨(h.row j B hn).1,?_⟩,h.inj,h.mem⟩;by_cases e:j=i
 .subst e;rw[upd_same];exact hi hn
 .rw[upd_ne e];exact(h.row j B hn).2.mod C hS (D j B e hn)
def MxI.mod{S}(h:MxI W G m n P R X)(C:Mod S W W')(hS:Far S W)(F:¬S G)(D:∀j,j<m->0<n->¬S (R j).b):MxI W' G m n P R X:=by
 refine⟨h.o.mod C F,h.len,fun j B hn=>⟨(h.row j B hn).1,?_⟩,h.inj,h.mem⟩;exact(h.row j B hn).2.mod C hS (D j B hn)
theorem kV(m R):lS (mxc m R).toArray=ε:=by
 unfold lS;simp only[q8];intro v hv;unfold mxc at hv;obtain⟨j,_,rfl⟩:=aab.1 hv;rfl
def RH{k r}(B:k<m)(D:r<m):(((mxc m R).toArray.setIfInBounds k (R r).v).setIfInBounds r (R k).v)=(mxc m fun i=>R (swp k r i)).toArray:=by
 apply Array.ext
 .simp[mxc]
 .intro i F C;simp only[mxc,aQ,List.getElem_toArray,List.getElem_set,List.getElem_map,List.getElem_range];by_cases e1:r=i
  .subst e1;rw[ι rfl,oQ]
  .rw[θ e1];by_cases j:k=i
   .subst j;rw[ι rfl,Xn]
   .rw[θ j,xm (fun e=>j e.symm) (fun e=>e1 e.symm)]
def MxI.swap{k r}(h:MxI W G m n P R X)(B:k<m)(C:r<m):
  MxI ((W.setCell ⟨G,k,δ⟩ (.slice (R r).A n n)).setCell ⟨G,r,δ⟩ (.slice (R k).A n n)) G m n P (fun i=>R (swp k r i)) (fun i=>X (swp k r i))/\
   Mod (fun g=>g=G) W ((W.setCell ⟨G,k,δ⟩ (.slice (R r).A n n)).setCell ⟨G,r,δ⟩ (.slice (R k).A n n)):=by
 have F:Mod (fun g=>g=G) W ((W.setCell ⟨G,k,δ⟩ (.slice (R r).A n n)).setCell ⟨G,r,δ⟩ (.slice (R k).A n n)):=Mod.only ((Only.set _ _ _ _).trans (Only.set _ _ _ _)) rfl;have hS:Far (fun g=>g=G) W:=fun g H _=>by subst H;exact⟨_,_,h.o,kV _ _⟩
 refine⟨⟨?_,fun i hi=>h.len _ (mH B C hi),fun i hi hn=> ?_,fun i j hi J hn e=> ?_,fun i hi hn=>h.mem _ (mH B C hi) hn⟩,F⟩
 .have:=(h.o.qG k (R r).v).qG r (R k).v;rw[RH B C,h.v0 B,h.v0 C] at this;exact this
 .obtain⟨I,D⟩:=h.row _ (mH B C hi) hn;refine⟨I,D.mod F hS ?_⟩;obtain⟨f,hb,_⟩:=D;exact fun e=>h.o.fw hb aj e.symm
 .have:=h.inj _ _ (mH B C hi) (mH B C J) hn e;rw[<-Fy k r i,this,Fy]
end
def H8{m Z c}(h:(ech m Z c).r=m):∀d,c<=d->ech m Z d=ech m Z c
 |0,hd=>by
  obtain rfl:c=0:=aa;rfl
 |d+1,hd=>by
  by_cases e:c=d+1
  .subst e;rfl
  .have B:=H8 h d aa;show kP m d (ech m Z d)=_;rw[B];apply fF;rw[h,aaW];rfl
def MxI.ne{W G m n P R X}(h:MxI W G m n P R X){i g cs}(hi:i<m)(hn:0<n)(hb:Blk W g 174 cs):(R i).b≠g:=by
 obtain⟨_,f,j,_⟩:=h.row i hi hn;exact j.fw hb aj
def side (na:Nat) (X Y:Nat->Nat->GQ):Nat->Nat->GQ:=fun i j=>if j<na then X i j else Y i (j-na)
def elm (X:Nat->Nat->GQ) (r c i:Nat):Nat->Nat->GQ:=upd X i (fun j=>X i j-X i c/X r c*X r j)
def pE (X:Nat->Nat->GQ) (r c i:Nat):Nat->Nat->GQ:=fun D j=>if r<D/\D<i then X D j-X D c/X r c*X r j else X D j
theorem Ce(X r c):pE X r c (r+1)=X:=by
 funext i j;unfold pE;rw[θ aa]
structure EI (W:World) (gf Ga Gb m na nb:Nat) (PA PB:Nat->Prop) (Z:Nat->Nat->GQ):Prop where
 calm:jV W gf
 a:∃R,MxI W Ga m na PA R Z
 b:∃R,MxI W Gb m nb PB R (fun i j=>Z i (na+j))
def Room (N m na nb:Nat) (Z:Nat->Nat->GQ):Prop:=∀c,c<na->(ech m Z c).r+1<m->(∀i j,(ech m Z c).r<=i->i<m->j<na+nb->Bd ((ech m Z c).X i j) N)/\
 ∀i k,(ech m Z c).r<=i->i<m->(ech m Z c).r<=k->k<m->(ech m Z c).X k c≠GQ.i 0 0->Bd ((ech m Z c).X i c/(ech m Z c).X k c) N
def EI.ext{W W' gf Ga Gb m na nb PA PB Z}(h:EI W gf Ga Gb m na nb PA PB Z)(x:Ext W W'):EI W' gf Ga Gb m na nb PA PB Z:=by
 obtain⟨B,⟨R,j⟩,⟨R2,C⟩⟩:=h;exact⟨B.ext x,⟨R,j.ext x⟩,⟨R2,C.ext x⟩⟩
def EI.congr{W gf Ga Gb m na nb PA PB Z B}(h:EI W gf Ga Gb m na nb PA PB Z)(e:∀i j,i<m->Z i j=B i j):EI W gf Ga Gb m na nb PA PB B:=by
 obtain⟨D,⟨R,C⟩,⟨R2,F⟩⟩:=h;exact⟨D,⟨R,C.congr fun i j hi _=>e i j hi⟩,⟨R2,F.congr fun i j hi _=>e i _ hi⟩⟩
theorem Eo(X){r c i}(hi:r<i):elm (pE X r c i) r c i=pE X r c (i+1):=by
 funext i' j;unfold elm upd;by_cases e:i'=i
 .subst e;rw[ι rfl];unfold pE;rw[θ aa,θ aa,θ aa,θ aa,ι aa]
 .rw[θ e];unfold pE;by_cases h:r<i'/\i'<i
  .rw[ι h,ι aa]
  .rw[θ h,θ aa]
theorem Jg(gf Ga Gb m cA cB na nb r i c N PA PB T X w)(h:EI w gf Ga Gb m na nb PA PB X)(hd:∀g,PA g->PB g->False)(hT:T Ga/\T Gb/\(∀g,PA g->T g)/\∀g,PB g->T g)(hi:i<m)(Zt:r<i)(hc:c<na)(hm:m<=24)(ad:na<=24)(Zn:nb<=24)(h0:X r c≠GQ.i 0 0)(hz:∀j,j<c->X r j=GQ.i 0 0)(Q:∀j,j<na+nb->Bd (X i j) N)(br:∀j,j<na+nb->Bd (X r j) N)(bq:Bd (X i c/X r c) N)(hN:4*N+67<=12800):
  Calls prog 211 #[aN gf 0,aO (γ (aM Ga 0)) m cA,aO (γ (aM Gb 0)) m cB,.int .i64 r,.int .i64 i,.int .i64 c] w fun e w'=>e=.returned (.tuple #[])/\EI w' gf Ga Gb m na nb PA PB (elm X r c i)/\Mod T w w':=by
 obtain⟨F,⟨R,J⟩,⟨R2,I⟩⟩:=h;have L:r<m:=aa;obtain⟨H,ri⟩:=J.row i hi aa;obtain⟨C,S⟩:=J.row r L aa;have YX:(mxc m R).toArray[i]? =γ (.slice (γ (aM ((R i).b) 0)) na na):=by rw[jq hi,J.v hi aa]
 have Y:(mxc m R).toArray[r]? =γ (.slice (γ (aM ((R r).b) 0)) na na):=by rw[jq L,J.v L aa]
 have ac:(mxc m R2).toArray[i]? =γ (.slice (R2 i).A nb nb):=by rw[jq hi,I.v0 hi]
 have Zl:(mxc m R2).toArray[r]? =γ (.slice (R2 r).A nb nb):=by rw[jq L,I.v0 L]
 have W:(R i).b≠(R r).b:=fun e=>by have:=J.inj i r hi L aa e;omega
 refine(QL gf Ga Gb m cA cB i r c na nb (R i).b (R r).b (R2 i).b (R2 r).b nb nb N (R2 i).A (R2 r).A _ _ (X i) (X r) (fun j=>X i (na+j)) (fun j=>X r (na+j)) w F J.o I.o YX Y ac Zl hi L hc aa aa aa ri S
  (fun hn=>I.row i hi hn) (fun hn=>I.row r L hn) W (fun hn=>⟨fun e=>by have:=I.inj i r hi L hn e;omega,fun e=>hd _ (J.mem i hi aa) (e ▸ I.mem i hi hn),fun e=>hd _ (J.mem i hi aa) (e ▸ I.mem r L hn)⟩)
  h0 (fun j K=>Q j aa) (fun j K=>br j aa) (fun j K=>Q _ aa) (fun j K=>br _ aa) bq hN).mono ?_
 rintro e w' ⟨O,h1,h2,P⟩;have M:Far (fun g=>g=(R i).b\/0<nb/\g=(R2 i).b) w:=by
  rintro g (rfl|⟨hn,rfl⟩) _
  .obtain⟨f,hf,_⟩:=ri;exact⟨_,_,hf,dD _ _⟩
  .obtain⟨f,hf,_⟩:=(I.row i hi hn).2;exact⟨_,_,hf,dD _ _⟩
 have B:∀(G:Nat) (cs:Array Value),Blk w G 174 cs->¬(G=(R i).b\/0<nb/\G=(R2 i).b):=by
  rintro G cs hG (e|⟨hn,e⟩)
  .exact J.ne hi aa hG e.symm
  .exact I.ne hi hn hG e.symm
 refine⟨O,⟨?_,⟨R,?_⟩,⟨R2,?_⟩⟩,P.mono ?_⟩
 .refine Blk.mod F P ?_;rintro(e|⟨hn,e⟩)
  .exact jV.ne F ri e
  .exact jV.ne F (I.row i hi hn).2 e
 .refine(J.U7 (i:=i) (x:=EH (X i) (X r) (X i c/X r c) c) P M (B _ _ J.o) ?_ (fun _=>h1)).congr ?_
  .rintro j K U hn (e|⟨V,e⟩)
   .exact U (J.inj j i K hi hn e)
   .exact hd _ (J.mem j K hn) (e ▸ I.mem i hi V)
  .intro D j Z K;unfold elm upd;by_cases e:D=i
   .rw[ι e,ι e];unfold EH;by_cases e1:j<c
    .rw[ι e1,hz j e1,GQ.bY,GQ.fC]
    .rw[θ e1];by_cases e2:j=c
     .subst e2;rw[ι rfl,ae8 h0,GQ.rJ]
     .rw[θ e2]
   .rw[θ e,θ e]
 .refine(I.U7 (i:=i) (x:=fun j=>X i (na+j)-X i c/X r c*X r (na+j)) P M (B _ _ I.o) ?_ (fun hn=>h2 hn)).congr ?_
  .rintro j K U hn (e|⟨V,e⟩)
   .exact hd _ (J.mem i hi aa) (e ▸ I.mem j K hn)
   .exact U (I.inj j i K hi hn e)
  .intro D j Z K;unfold elm upd;by_cases e:D=i
   .rw[ι e,ι e]
   .rw[θ e,θ e]
 .rintro g (rfl|⟨hn,rfl⟩)
  .exact hT.2.2.1 _ (J.mem i hi aa)
  .exact hT.2.2.2 _ (I.mem i hi hn)
theorem J2(gf Ga Gb m cA cB na nb N PA PB T Z w)(h:EI w gf Ga Gb m na nb PA PB Z)(Yx:Ga≠Gb)(hd:∀g,PA g->PB g->False)(hT:T Ga/\T Gb/\(∀g,PA g->T g)/\∀g,PB g->T g)(Zi:m=0->na=0)(hm:m<=24)(ai:na<=24)(Zn:nb<=24)(hN:4*N+67<=12800)(K:Room N m na nb Z)(hw:∀w',Ext w w'->CE 190 #[aO (γ (aM Ga 0)) m cA] w' (.int .i64 na)):
  Calls prog 192 #[aN gf 0,aO (γ (aM Ga 0)) m cA,aO (γ (aM Gb 0)) m cB] w fun e w'=>e=.returned (.tuple #[.int .i64 (ech m Z na).r,.bool (ech m Z na).odd])/\
   EI w' gf Ga Gb m na nb PA PB (ech m Z na).X/\Mod T w w':=by
 have HH:=aW h;have Q:=aW K;have HT:=aW hT;have HD:=aW hd;clear h K hT hd;go_enter func192,ntmps192;go_wp2_with fail
 go_step3
 go_wp2_with fail
 go_step3
 go_wp2_with fail;refine(hw _ (Ext.refl _)).mono ?_;rintro e w1 ⟨rfl,H⟩;have YC:=aW H;clear H hw;go_wp2_with fail
 go_loopw [6,7,13] (fun r o i wr=>∃c:Nat,c<=na/\i=.int .i64 c/\r=.int .i64 (ech m Z c).r/\o=.bool (ech m Z c).odd/\EI wr gf Ga Gb m na nb PA PB (ech m Z c).X/\Mod T w wr) (fun _ _ i _=>na-(intOf i).toNat)
 case atStart=>
  obtain⟨h1,⟨R,h2⟩,⟨R2,h3⟩⟩:=HH.o;exact⟨0,aa,rfl,rfl,rfl,⟨h1.ext YC.o,⟨R,h2.ext YC.o⟩,⟨R2,h3.ext YC.o⟩⟩,ae0 YC.o⟩
 case round=>
  obtain⟨c,hc,rfl,rfl,rfl,Zf,Yy⟩:=hrel;have HE:=aW Zf;have HM:=aW Yy;clear Zf Yy HH YC;by_cases Yu:c<na
  .have hd:decide ((c:Int)<na)=ε:=ae;obtain⟨o,P,YH⟩:=pK m Z c;have YS:=YH.rm;have HZ:=aW YH.z;clear YH;generalize hs:ech m Z c=s at*
   have HS:=aW hs;clear hs;by_cases M:s.r=m
   .have df:((s.r:Int)==(m:Int))=ε:=by simp[M]
    have S:ech m Z na=s:=by rw[<-HS.o];exact H8 (by rw[HS.o];exact M) na aa
    have Yz:=aW S;clear S M;go_wp2_with fail;rw[Exit.noGoto_ret];refine xM rfl rfl ?_;rw[Yz.o];exact⟨rfl,HE.o,HM.o⟩
   .have df:((s.r:Int)==(m:Int))=ζ:=ae;have YD:s.r<m:=aa;clear M;go_wp2_with fail
    go_loopw [9] (fun i w2=>∃k:Nat,s.r<=k/\k<m/\i=.int .i64 k/\(∀i,s.r<=i->i<k->s.X i c=GQ.i 0 0)/\Ext wr w2) (aT m)
    case atStart=>exact⟨s.r,κ _,YD,rfl,by intros;omega,Ext.refl _⟩
    case round=>
     clear hd df;obtain⟨k,ZB,YN,rfl,hz,J⟩:=hrel;have HX:=aW J;have YZ:=aW hz;clear J hz;obtain⟨F,⟨R,hA⟩,⟨R2,hB⟩⟩:=HE.o;obtain⟨YT,f,hf,hv⟩:=hA.row k YN aa;have C:=hA.cell YN;rw[YT] at C;replace C:=HX.o.cell_ C;obtain⟨a0,a1,a2,a3,a4,a5⟩:=dQ.cells (hf.ext HX.o) Yu rfl;have d1:decide ((k:Int)<m)=ε:=ae;have d2:decide ((c:Int)<na)=ε:=ae;have HV:=aW ((hv c Yu).ext HX.o);clear hv hf F hA hB;go_wp2_with fail;refine(yI _ _ _ _ HV.o aa).mono ?_;rintro e w3 ⟨rfl,Yv⟩;have YA:=HX.aC Yv;clear Yv C a0 a1 a2 a3 a4 a5;by_cases h0:s.X k c=GQ.i 0 0
     .rw[Λ h0];have YU:Hid (∀i,s.r<=i->i<k+1->s.X i c=GQ.i 0 0):=aW fun i h1 h2=>by
       by_cases e:i=k
       .subst e;exact h0
       .exact YZ.o i h1 aa
      clear h0;by_cases ZF:k+1=m
      .have dl:(((k:Int)+1)==(m:Int))=ε:=ae;have I:ech m Z (c+1)=s:=by
        show kP m c (ech m Z c)=s;rw[HS.o];exact fF (AU fun i h1 h2=>YU.o i h1 aa)
       have B:=aW I;clear I;go_wp2_with fail;refine⟨⟨c+1,aa,au,by rw[B.o],by rw[B.o],?_,HM.o.trans (ae0 YA.o)⟩,by simp[aT,intOf];omega⟩;rw[B.o];obtain⟨h1,⟨R,h2⟩,⟨R2,h3⟩⟩:=HE.o;exact⟨h1.ext YA.o,⟨R,h2.ext YA.o⟩,⟨R2,h3.ext YA.o⟩⟩
      .have dl:(((k:Int)+1)==(m:Int))=ζ:=ae
       go_wp2_with fail
       go_roundw
       case rel=>exact⟨k+1,aa,aa,au,YU.o,YA.o⟩
       case measure=>exact aV
     .rw[ρ h0];have YK:ech m Z (c+1)=⟨s.r+1,clr (fun i=>s.X (swp k s.r i)) s.r c,s.odd^^decide (k≠s.r),c::s.q⟩:=by
       show kP m c (ech m Z c)=_;rw[HS.o];exact eu (AP ZB aa YZ.o h0)
      have Yw:=aW YK;clear YK;have Za:Hid (EI w3 gf Ga Gb m na nb PA PB s.X):=aW (by
       obtain⟨h1,⟨R,h2⟩,⟨R2,h3⟩⟩:=HE.o;exact⟨h1.ext YA.o,⟨R,h2.ext YA.o⟩,⟨R2,h3.ext YA.o⟩⟩)
      have ac:=HM.aC (ae0 YA.o);clear HE HM HX YA YZ YT HV d1 d2;have YY:=aW h0;have G:=aW (And.intro ZB YN);have O:Hid (∀i,s.r<i->i<m->s.r<=swp k s.r i/\swp k s.r i<m):=aW fun i h1 h2=>⟨by unfold swp;split<;>(try split)<;>omega,mH YN YD h2⟩;have W:Hid ((s.r+1<m->∀i j,s.r<=i->i<m->j<na+nb->Bd (s.X i j) N)/\(s.r+1<m->∀i k,s.r<=i->i<m->s.r<=k->k<m->s.X k c≠GQ.i 0 0->Bd (s.X i c/s.X k c) N)):=aW (by
       have:=Q.o c Yu;rw[HS.o] at this;exact⟨fun h=>(this h).1,fun h=>(this h).2⟩)
      clear h0;by_cases Zc:k=s.r
      .subst Zc;have dne:((s.r:Int) !=(s.r:Int))=ζ:=ag;go_wp2_with fail;have YP:Hid (EI w3 gf Ga Gb m na nb PA PB (fun i=>s.X (swp s.r s.r i))):=aW (by
        have e:(fun i=>s.X (swp s.r s.r i))=s.X:=by funext i;rw[Ql]
        rw[e];exact Za.o)
       have YO:=ac;clear Za ac;go_loopw [10] (fun i w2=>∃D:Nat,s.r+1<=D/\D<=m/\i=.int .i64 D/\EI w2 gf Ga Gb m na nb PA PB (pE (fun i=>s.X (swp s.r s.r i)) s.r c D)/\Mod T w w2) (aT m)
       case atStart=>
        refine⟨s.r+1,κ _,aa,au,?_,?_⟩
        .rw[Ce];first|exact YP.o|exact YP.o.ext (Ext.refl _).drew|exact YP.o.ext (Ext.refl _).drew.drew
        .first|exact YO.o|exact YO.o.trans (ae0 (Ext.refl _).drew)|exact YO.o.trans (ae0 (Ext.refl _).drew.drew)
       case round=>
        obtain⟨D,Zp,Zj,rfl,Y,hM⟩:=hrel;have L:=aW Y;have YV:=aW hM;clear Y hM;by_cases V:D<m
        .have q1:decide ((D:Int)<m)=ε:=ae;go_wp2_with fail;refine(Jg gf Ga Gb m cA cB na nb s.r D c N PA PB T (pE (fun i=>s.X (swp s.r s.r i)) s.r c D) _ L.o HD.o HT.o V aa Yu hm ai Zn ?_ ?_ ?_ ?_ ?_ hN).mono ?_
         .unfold pE;rw[θ aa];simp only[oQ];exact YY.o
         .exact Adh
         .exact Acj
         .exact AcU
         .exact Abc
         rintro e w7 ⟨rfl,YE,YM⟩;have YL:=aW YE;have Zh:=YV.aC YM;clear YE YM L YV;go_wp2_with fail
         go_roundw
         case rel=>
          refine⟨D+1,aa,aa,au,?_,Zh.o⟩;rw[<-Eo _ aa];exact YL.o
         case measure=>exact aV
        .obtain rfl:D=m:=aa;have q1:decide ((D:Int)<D)=ζ:=ag;have e0:=L.o.calm.cell;go_wp2_with fail;refine⟨⟨c+1,aa,au,by rw[Yw.o];go_num,by rw[Yw.o];simp,?_,YV.o⟩,by simp[aT,intOf];omega⟩;rw[Yw.o];refine L.o.congr fun i j hi=> ?_;show pE (fun i=>s.X (swp s.r s.r i)) s.r c D i j=clr (fun i=>s.X (swp s.r s.r i)) s.r c i j;unfold pE clr;by_cases h:s.r<i
         .rw[ι ⟨h,hi⟩,ι h]
         .rw[θ (fun e=>h e.1),θ h]
      .have dne:((k:Int) !=s.r)=ε:=ae;obtain⟨F,⟨R,hA⟩,⟨R2,hB⟩⟩:=Za.o;have HA:=aW hA;have HB:=aW hB;have HC:=aW F;have C:=hA.cell YN;have k2:=hA.cell YD;have f1:=hA.o.frozen;clear hA hB F;have q1:decide ((k:Int)<m)=ε:=ae;have q2:decide ((s.r:Int)<(m:Int))=ε:=ae
       go_wp2_with fail
       go_region;obtain⟨af,YW⟩:=HA.o.swap YN YD;have YJ:Far (fun g=>g=Ga) w3:=fun g hg _=>by subst hg;exact⟨_,_,HA.o.o,kV _ _⟩
       have YG:=HB.o.mod YW YJ Adt (fun j hj hn=>HB.o.ne hj hn HA.o.o);have Ze:jV _ gf:=Blk.mod HC.o YW (by exact fun e=>HC.o.fw HA.o.o aj e);have YR:=aW af;have U:=aW YG;have Zd:=aW Ze;have ad:=aW YW;clear af YG Ze YW YJ C k2 f1;generalize ZT:World.setCell _ _ _=w4 at YR U Zd ad⊢;clear ZT;have C:=U.o.cell YN;have k2:=U.o.cell YD;have f1:=U.o.o.frozen;go_wp2_with fail
       go_region;obtain⟨YF,YX⟩:=U.o.swap YN YD;have YQ:Far (fun g=>g=Gb) w4:=fun g hg _=>by subst hg;exact⟨_,_,U.o.o,kV _ _⟩
       have Z7:=YR.o.mod YX YQ (by exact Yx) (fun j hj hn=>YR.o.ne hj hn U.o.o);have YB:jV _ gf:=Blk.mod Zd.o YX (by exact fun e=>Zd.o.fw U.o.o aj e);have YI:=aW (EI.mk YB ⟨_,Z7⟩ ⟨_,YF⟩);have YO:=aW ((ac.o.trans (ad.o.mono (T:=T) (fun g hg=>by subst hg;exact HT.o.1))).trans (YX.mono (T:=T) (fun g hg=>by subst hg;exact HT.o.2.1)));clear YF YX YQ Z7 YB YR U Zd ad HA HB HC ac Za C k2 f1;generalize Zg:World.setCell _ _ _=w5 at YI YO⊢;clear Zg;have YP:Hid (EI w5 gf Ga Gb m na nb PA PB (fun i=>s.X (swp k s.r i))):=aW YI.o;clear YI;go_wp2_with fail
       go_loopw [10] (fun i w2=>∃D:Nat,s.r+1<=D/\D<=m/\i=.int .i64 D/\EI w2 gf Ga Gb m na nb PA PB (pE (fun i=>s.X (swp k s.r i)) s.r c D)/\Mod T w w2) (aT m)
       case atStart=>
        refine⟨s.r+1,κ _,aa,au,?_,?_⟩
        .rw[Ce];first|exact YP.o|exact YP.o.ext (Ext.refl _).drew|exact YP.o.ext (Ext.refl _).drew.drew
        .first|exact YO.o|exact YO.o.trans (ae0 (Ext.refl _).drew)|exact YO.o.trans (ae0 (Ext.refl _).drew.drew)
       case round=>
        obtain⟨D,Zp,Zj,rfl,Y,hM⟩:=hrel;have L:=aW Y;have YV:=aW hM;clear Y hM;by_cases V:D<m
        .have q1:decide ((D:Int)<m)=ε:=ae;go_wp2_with fail;refine(Jg gf Ga Gb m cA cB na nb s.r D c N PA PB T (pE (fun i=>s.X (swp k s.r i)) s.r c D) _ L.o HD.o HT.o V aa Yu hm ai Zn ?_ ?_ ?_ ?_ ?_ hN).mono ?_
         .unfold pE;rw[θ aa];simp only[oQ];exact YY.o
         .exact Adh
         .exact Acj
         .exact AcU
         .exact Abc
         rintro e w7 ⟨rfl,YE,YM⟩;have YL:=aW YE;have Zh:=YV.aC YM;clear YE YM L YV;go_wp2_with fail
         go_roundw
         case rel=>
          refine⟨D+1,aa,aa,au,?_,Zh.o⟩;rw[<-Eo _ aa];exact YL.o
         case measure=>exact aV
        .obtain rfl:D=m:=aa;have q1:decide ((D:Int)<D)=ζ:=ag;have e0:=L.o.calm.cell;go_wp2_with fail;refine⟨⟨c+1,aa,au,by rw[Yw.o];go_num,by rw[Yw.o];simp[Zc],?_,YV.o⟩,by simp[aT,intOf];omega⟩;rw[Yw.o];refine L.o.congr fun i j hi=> ?_;show pE (fun i=>s.X (swp k s.r i)) s.r c D i j=clr (fun i=>s.X (swp k s.r i)) s.r c i j;unfold pE clr;by_cases h:s.r<i
         .rw[ι ⟨h,hi⟩,ι h]
         .rw[θ (fun e=>h e.1),θ h]
  .obtain rfl:c=na:=aa;have hd:decide ((c:Int)<c)=ζ:=ag;go_wp2_with fail;rw[Exit.noGoto_ret];exact xM rfl rfl ⟨rfl,HE.o,HM.o⟩
def BX:Rw:=⟨δ,0,0,0,0⟩
def zEn:En:=⟨ζ,δ,0,0,ζ,δ,0,0,ζ,δ,0,0⟩
def Sm:(prog.info? 174).map (fun i=>(i.zero,i.size,i.bytes))=γ (γ (aO δ 0 0),1,24):=ah
def Ky:(prog.info? 42).map (fun i=>(i.zero,i.size,i.bytes))=γ (γ zEn.v,6,96):=ah
theorem GM(m):madeCells #[Value.slice δ 0 0] m=(mxc m fun _=>BX).toArray:=by
 rw[vQ];congr 1;unfold mxc;rw[List.map_const',List.length_range];rfl
theorem DW(n):madeCells zEn.v.cells (n*6)=(bz n fun _=>zEn).toArray:=by
 unfold madeCells;apply Array.ext
 .simp[bM]
 .intro i F H;have hi:i<n*6:=by simpa using F
  have e:i=(i/6)*6+i%6:=aa;have h:=dY (f:=fun _=>zEn) (j:=i/6) (t:=i%6) (n:=n) (pu _ aa) aa;rw[<-e] at h;have G:(bz n fun _=>zEn)[i]? =γ ((bz n fun _=>zEn).toArray[i]):=ag;rw[G] at h;have hs:zEn.v.cells.size=6:=rfl;have B:∀k,k<6->γ (zEn.v.cells[k]!)=zEn.cells[k]? :=fun k C=>match k,C with
   |0,_=>rfl
   |1,_=>rfl
   |2,_=>rfl
   |3,_=>rfl
   |4,_=>rfl
   |5,_=>rfl
  simp only[Array.getElem_map,Array.getElem_range];rw[hs];have D:=B (i%6) (pu _ aa);rw[<-D] at h;injection h with h;exact h.symm
def F7(m:Nat)(D:m<=1000)(W:World):(Instr.makeSlice 223 (.int .i64 m) (.int .i64 m)).run prog W=.ok (.slice (γ (aM W.heap.size 0)) m m) (W.alloc (.cells (mxc m fun _=>BX).toArray 174)):=by
 obtain⟨i0,O,B,C,j⟩:=abM Sm;have h:=ac7 (P:=prog) W 223 174 i0 (.slice δ 0 0) underlying223 O B .i64 .i64 m m aa aa Abq aa;rw[h,C];have e:madeCells (Value.slice δ 0 0).cells m=(mxc m fun _=>BX).toArray:=GM m;simp only[aap,Hu,e]
def Co(n:Nat)(hn:n<=1000)(W:World):(Instr.makeSlice 174 (.int .i64 n) (.int .i64 n)).run prog W=.ok (.slice (γ (aM W.heap.size 0)) n n) (W.alloc (.cells (bz n fun _=>zEn).toArray 42)):=by
 obtain⟨i0,O,B,C,j⟩:=abM Ky;have h:=ac7 (P:=prog) W 174 42 i0 zEn.v acM O B .i64 .i64 n n aa aa Abq aa;rw[h,C];simp only[Hu,DW]
def JV(k){P}(w K L F B g o C H a D J cur t cs)(O:P.underlying K=γ (.slice B))(hs:(P.info? B).map (·.size)=γ k)(M:w.heap[g]? =γ (.cells cur t (0,0)))(hn:cs.length=Nat.min D C*k)(G:∀j v,cs[j]? =γ v->w.cell? (a.add j)=γ v)(I:o+cs.length<=cur.size)(N:∀v∈cs,v.oneCell'=ε):
  (Builtin.copy_ #[K,L] F #[aO (γ (aM g o)) C H,aO (γ a) D J]).run P w=
   .ok (goInt (Nat.min D C)) (w.setRow g (cur.toList.take o++cs++cur.toList.drop (o+cs.length)).toArray):=by
 have Z:=run_loadCells_list (P:=P) w a cs G;have S:=run_storeCells_at P g o t cs 0 cur w M (by simpa using I) N;cases hq:P.info? B with
 |none=>simp[hq] at hs
 |some i=>
  have hi:i.size=k:=by simpa[hq] using hs
  simp[Builtin.copy_,abl O,Builtin.lenOf,Builtin.firstCells,sizeOf,typeInfo,hq,hi,<-hn,Z,S]
def Ff:(prog.info? 42).map (·.size)=γ 6:=ah
theorem dN(n f):∀v∈bz n f,v.oneCell'=ε:=by
 intro v hv;unfold bz at hv;obtain⟨j,_,hv⟩:=ac8.1 hv;unfold En.cells at hv;simp only[kC,Ha,aaH] at hv;rcases hv with rfl|rfl|rfl|rfl|rfl|rfl<;>rfl
def OG{f j n t u e}(I:j<n)(H:t<6)(hc:e.cells=(f j).cells.set t u):(bz n f).toArray.setIfInBounds (j*6+t) u=(bz n (upd f j e)).toArray:=by
 rw[aQ];congr 1;apply aal;intro i;rw[List.getElem?_set];by_cases hi:i<n*6
 .have F:i=(i/6)*6+i%6:=aa;have D:i%6<6:=pu _ aa;by_cases B:i/6=j
  .have G:(bz n (upd f j e))[i]? =e.cells[i%6]? :=by
    conv=>lhs;rw[F]
    rw[dY D aa,B,upd_same]
   rw[G,hc,List.getElem?_set];by_cases C:i%6=t
   .rw[ι aa,ι C.symm,bM,ι aa,ι (by show t<6;exact H)]
   .rw[θ aa,θ (fun e=>C e.symm)]
    conv=>lhs;rw[F]
    rw[dY D aa,B]
  .rw[θ aa]
   conv=>lhs;rw[F]
   conv=>rhs;rw[F]
   rw[dY D aa,dY D aa,upd_ne B]
 .rw[θ aa,qb Ab5,qb Ab5]
def afL{w:World}{g n j t:Nat}{f:Nat->En}{x:Nat->GQ}{e:En}{u:Value}(hb:Blk w g 42 (bz n f).toArray)(J:∀j,j<n->GV w (f j).v (x j) 12800)(F:j<n)(C:t<6)(hc:e.cells=(f j).cells.set t u)(O:GV w e.v (x j) 12800):
  (Blk (w.setCell ⟨g,j*6+t,δ⟩ u) g 42 (bz n (upd f j e)).toArray/\∀i,i<n->GV (w.setCell ⟨g,j*6+t,δ⟩ u) (upd f j e i).v (x i) 12800)/\Mod (fun k=>k=g) w (w.setCell ⟨g,j*6+t,δ⟩ u):=by
 have B:Mod (fun k=>k=g) w (w.setCell ⟨g,j*6+t,δ⟩ u):=Mod.only (Only.set _ _ _ _) rfl;have hS:Far (fun k=>k=g) w:=fun k D _=>by subst D;exact⟨_,_,hb,dD _ _⟩
 refine⟨⟨?_,fun i hi=> ?_⟩,B⟩
 .rw[<-OG F C hc];exact hb.qG _ _
 .by_cases h:i=j
  .subst h;rw[upd_same];exact O.mod B hS
  .rw[upd_ne h];exact(J i hi).mod B hS
def BH(A n c s z w)(h:RI w (iv s A n c) z)(hn:n<=1000000):
  Calls prog 198 #[aO A n c] w fun e w'=>∃A' n' c',e=.returned (.slice A' n' c')/\RI w' (iv s A' n' c') z/\Ext w w':=by
 obtain⟨A2,n2,c2,e,C⟩:=h;simp at e;obtain⟨rfl,rfl,rfl,rfl⟩:=e;refine(uW A n c _ w C hn).mono ?_;rintro e w' ⟨v,rfl,⟨A1,n1,c1,rfl,j⟩,B⟩;exact⟨A1,n1,c1,rfl,⟨A1,n1,c1,rfl,j⟩,B⟩
structure DI (w W:World) (G m na i:Nat) (X:Nat->Nat->GQ) (R:Nat->Rw):Prop where
 o:Blk W G 174 (mxc m R).toArray
 gx:w.heap.size<=G
 len:∀i',i'<i->(R i').n=na/\(R i').c=na
 row:∀i',i'<i->(R i').A=γ ⟨(R i').b,0,δ⟩/\dQ W (R i').b na (X i')/\w.heap.size<=(R i').b
 inj:∀i' j',i'<i->j'<i->(R i').b=(R j').b->i'=j'
 ext:Ext w W
def Gt{m R i r}:(mxc m R).toArray.setIfInBounds i r.v=(mxc m (upd R i r)).toArray:=by
 rw[aQ];congr 1;apply List.ext_getElem
 .simp[mxc]
 .intro k B j;simp only[mxc,List.getElem_set,List.getElem_map,List.getElem_range];by_cases e:i=k
  .subst e;rw[ι rfl,upd_same]
  .rw[θ e,upd_ne (fun x=>e x.symm)]
def RI3{w}{e:En}{q n}(h:GV w e.v q n):∃a b d,RI w (iv e.s1 e.A1 e.n1 e.c1) a/\RI w (iv e.s2 e.A2 e.n2 e.c2) b/\RI w (iv e.s3 e.A3 e.n3 e.c3) d/\Is q a b d/\Sz n a b d:=by
 obtain⟨a,b,d,j,I,Z⟩:=h;have:=RG.inj (show RG w (gv e.s1 e.A1 e.n1 e.c1 e.s2 e.A2 e.n2 e.c2 e.s3 e.A3 e.n3 e.c3) a b d from j);exact⟨a,b,d,this.1,this.2.1,this.2.2,I,Z⟩
def afr{w s A n c z}(h:RI w (iv s A n c) z)(B:z.natAbs<2^12800):n<=1000000:=by
 have j:z.natAbs<2^(32*400):=by rw[show 32*400=12800 from rfl];exact B
 have:=RI.le h j;omega
theorem Rn{W2 g na b o cs D f0 f}(hb:Blk W2 g 42 (bz na f0).toArray)(G:0<na->D=γ ⟨b,o,δ⟩)(hc:∀j,j<na->∀t u,(f j).cells[t]? =γ u->W2.cell? (aM b (o+(j*6+t)))=γ u):
  ∃C,Sem.run prog (Builtin.copy_ #[174,174] 3 #[aO (γ (aM g 0)) na na,aO D na cs]) W2=.ok (goInt na) C/\Blk C g 42 (bz na f).toArray/\Mod (fun k=>k=g) W2 C:=by
 have B:Nat.min na na=na:=ag;by_cases I:na=0
 .subst I;refine⟨W2,?_,hb,Mod.refl _ _⟩;have Z:∀(x:Addr),(loadCells x 0).run prog W2=.ok #[] W2:=fun x=>by simpa using run_loadCells_list (P:=prog) W2 x [] ag
  cases hq:prog.info? 42 with
  |none=>have:=Ff;rw[hq] at this;cases this
  |some i=>cases D<;>simp[Builtin.copy_,abl acM,Builtin.lenOf,Builtin.firstCells,sizeOf,typeInfo,hq,storeCells,Z]
 .have J:=G aa;subst J;have h:=JV 6 W2 174 174 3 42 g 0 na na ⟨b,o,δ⟩ na cs (bz na f0).toArray 42 (bz na f) acM Ff hb (by rw[bM,B]) (fun j v H=>by
   have L:j<na*6:=by have:=(μ.1 H).1;rwa[bM] at this
   have e:j=(j/6)*6+j%6:=aa;rw[e,dY (pu _ aa) aa] at H;have:=hc _ aa _ _ H;rw[<-e] at this;have K:(⟨b,o,δ⟩:Addr).add j=⟨b,o+j,δ⟩:=by unfold Addr.add;by_cases F:j=0<;>simp[F]
   rw[K];exact this) (by rw[bM];simp[bM]) (dN na f)
  rw[B] at h;refine⟨_,h,?_,?_⟩
  .have e:((bz na f0).toArray.toList.take 0++bz na f++(bz na f0).toArray.toList.drop (0+(bz na f).length)).toArray=(bz na f).toArray:=by
    simp[bM]
   rw[e];exact aeL _ g _ _ _ _ hb
  .exact Mod.only (Only.setRow _ _ _) rfl
def Od{w B:World}{g na j:Nat}{f:Nat->En}{x:Nat->GQ}{A':Option Addr}{n' c':Nat}{z:Int}(hb:Blk w g 42 (bz na f).toArray)(hv:∀j,j<na->GV w (f j).v (x j) 12800)(C:j<na)(J:RI w (iv (f j).s1 (f j).A1 (f j).n1 (f j).c1) z)(W:Ext w B)(G:RI B (iv (f j).s1 A' n' c') z)(F:∃a b d,RI w (iv (f j).s1 (f j).A1 (f j).n1 (f j).c1) a/\RI w (iv (f j).s2 (f j).A2 (f j).n2 (f j).c2) b/\RI w (iv (f j).s3 (f j).A3 (f j).n3 (f j).c3) d/\Is (x j) a b d/\Sz 12800 a b d/\z=a):
  ∃f',Blk (B.setCell ⟨g,j*6+1,δ⟩ (.slice A' n' c')) g 42 (bz na f').toArray/\(∀H,H<na->GV (B.setCell ⟨g,j*6+1,δ⟩ (.slice A' n' c')) (f' H).v (x H) 12800)/\Mod (fun k=>k=g) w (B.setCell ⟨g,j*6+1,δ⟩ (.slice A' n' c')):=by
 obtain⟨a,b,d,i1,Q,D,I,Z,rfl⟩:=F;have hp:=afL (e:={f j with A1:=A',n1:=n',c1:=c'}) (t:=1) (u:=.slice A' n' c') (hb.ext W) (fun j C=>(hv j C).ext W) C aa rfl ⟨_,_,_,⟨_,_,_,_,_,_,_,_,_,_,_,_,rfl,G,Q.ext W,D.ext W⟩,I,Z⟩;exact Abp
def O9{w B:World}{g na j:Nat}{f:Nat->En}{x:Nat->GQ}{A':Option Addr}{n' c':Nat}{z:Int}(hb:Blk w g 42 (bz na f).toArray)(hv:∀j,j<na->GV w (f j).v (x j) 12800)(C:j<na)(J:RI w (iv (f j).s2 (f j).A2 (f j).n2 (f j).c2) z)(W:Ext w B)(G:RI B (iv (f j).s2 A' n' c') z)(F:∃a b d,RI w (iv (f j).s1 (f j).A1 (f j).n1 (f j).c1) a/\RI w (iv (f j).s2 (f j).A2 (f j).n2 (f j).c2) b/\RI w (iv (f j).s3 (f j).A3 (f j).n3 (f j).c3) d/\Is (x j) a b d/\Sz 12800 a b d/\z=b):
  ∃f',Blk (B.setCell ⟨g,j*6+3,δ⟩ (.slice A' n' c')) g 42 (bz na f').toArray/\(∀H,H<na->GV (B.setCell ⟨g,j*6+3,δ⟩ (.slice A' n' c')) (f' H).v (x H) 12800)/\Mod (fun k=>k=g) w (B.setCell ⟨g,j*6+3,δ⟩ (.slice A' n' c')):=by
 obtain⟨a,b,d,i1,Q,D,I,Z,rfl⟩:=F;have hp:=afL (e:={f j with A2:=A',n2:=n',c2:=c'}) (t:=3) (u:=.slice A' n' c') (hb.ext W) (fun j C=>(hv j C).ext W) C aa rfl ⟨_,_,_,⟨_,_,_,_,_,_,_,_,_,_,_,_,rfl,i1.ext W,G,D.ext W⟩,I,Z⟩;exact Abp
def Pe{w B:World}{g na j:Nat}{f:Nat->En}{x:Nat->GQ}{A':Option Addr}{n' c':Nat}{z:Int}(hb:Blk w g 42 (bz na f).toArray)(hv:∀j,j<na->GV w (f j).v (x j) 12800)(C:j<na)(G:RI w (iv (f j).s3 (f j).A3 (f j).n3 (f j).c3) z)(W:Ext w B)(D:RI B (iv (f j).s3 A' n' c') z)(F:∃a b d,RI w (iv (f j).s1 (f j).A1 (f j).n1 (f j).c1) a/\RI w (iv (f j).s2 (f j).A2 (f j).n2 (f j).c2) b/\RI w (iv (f j).s3 (f j).A3 (f j).n3 (f j).c3) d/\Is (x j) a b d/\Sz 12800 a b d/\z=d):
  ∃f',Blk (B.setCell ⟨g,j*6+5,δ⟩ (.slice A' n' c')) g 42 (bz na f').toArray/\(∀H,H<na->GV (B.setCell ⟨g,j*6+5,δ⟩ (.slice A' n' c')) (f' H).v (x H) 12800)/\Mod (fun k=>k=g) w (B.setCell ⟨g,j*6+5,δ⟩ (.slice A' n' c')):=by
 obtain⟨a,b,d,i1,Q,J,I,Z,rfl⟩:=F;have hp:=afL (e:={f j with A3:=A',n3:=n',c3:=c'}) (t:=5) (u:=.slice A' n' c') (hb.ext W) (fun j C=>(hv j C).ext W) C aa rfl ⟨_,_,_,⟨_,_,_,_,_,_,_,_,_,_,_,_,rfl,i1.ext W,Q.ext W,D⟩,I,Z⟩;exact Abp
def Vy{A B O m c na R}{E:Nat->Nat->En}{X w}(h:Mem w A B O m R E)(hn:∀i,i<m->(R i).n=na)(hv:∀i j,i<m->j<na->GV w (E i j).v (X i j) 12800)(hm:m<=24)(af:na<=24):
  Calls prog 191 #[aO A m c] w fun e w'=>∃(G:Nat) (S:Nat->Rw),e=.returned (.slice (γ (aM G 0)) m m)/\DI w w' G m na m X S:=by
 have HM:=aW h;have HN:=aW hn;have HV:=aW hv;clear h hn hv;have Zj:=F7 m aa;have Z7:=Co na aa;go_enter func191,ntmps191;go_wp2_with fail;clear Zj;go_loopw [13] (fun i wr=>∃(D:Nat) (S:Nat->Rw),D<=m/\i=.int .i64 D/\DI w wr w.heap.size m na D X S) (aT m)
 case atStart=>exact⟨0,fun _=>BX,aa,rfl,Blk.new _ _ _,κ _,by intros;omega,by intros;omega,by intros;omega,Ext.new _ _⟩
 case round=>
  obtain⟨i,S,hi,rfl,hD⟩:=hrel;have HD:=aW hD;clear hD;by_cases Yu:i<m
  .have hd:decide ((i:Int)<m)=ε:=ae;have hA:=HM.o.at0 aa;have hr:=HM.o.bz Yu HD.o.ext;rw[HN.o i Yu] at hr;subst hA;have Zw:=Ext.new wr (.cells (bz na fun _=>zEn).toArray 42);have YK:=HD.o.o.ext Zw;have fr:=YK.frozen;have C:(wr.alloc (.cells (bz na fun _=>zEn).toArray 42)).cell? (aM w.heap.size i)=γ (S i).v:=by rw[YK.cell];exact jq Yu
   have YU:Blk ((wr.alloc (.cells (bz na fun _=>zEn).toArray 42)).setCell ⟨w.heap.size,i,δ⟩ (.slice (γ (aM wr.heap.size 0)) na na)) w.heap.size 174 (mxc m (upd S i ⟨γ ⟨wr.heap.size,0,δ⟩,wr.heap.size,0,na,na⟩)).toArray:=by
    rw[<-Gt];exact YK.qG _ _
   have k2:((wr.alloc (.cells (bz na fun _=>zEn).toArray 42)).setCell ⟨w.heap.size,i,δ⟩ (.slice (γ (aM wr.heap.size 0)) na na)).cell? (aM w.heap.size i)=γ (aO (γ (aM wr.heap.size 0)) na na):=by rw[YU.cell,jq Yu,upd_same];rfl
   have YW:=aW YK;have YM:=aW YU;have U:=aW Zw;clear YK YU Zw;have Zc:w.heap.size<wr.heap.size:=HD.o.o.lt;have YG:Blk ((wr.alloc (.cells (bz na fun _=>zEn).toArray 42)).setCell ⟨w.heap.size,i,δ⟩ (.slice (γ (aM wr.heap.size 0)) na na)) wr.heap.size 42 (bz na fun _=>zEn).toArray:=(Blk.new _ _ _).far (by show wr.heap.size≠w.heap.size;omega) _;have YV:Ext w ((wr.alloc (.cells (bz na fun _=>zEn).toArray 42)).setCell ⟨w.heap.size,i,δ⟩ (.slice (γ (aM wr.heap.size 0)) na na)):=(HD.o.ext.trans U.o).setCell (κ _) _;obtain⟨w3,J,YF,ZU⟩:=Rn (cs:=(R i).c) YG (fun h0=>HM.o.ra i Yu (by rw[HN.o i Yu];exact h0)) (fun j hj t u hu=>YV.cell_ (HM.o.el i j Yu (by rw[HN.o i Yu];exact hj) t u hu));have Yv:Ext w w3:=⟨ZU.os.trans YV.os,ZU.tape.trans YV.tape,ZU.output.trans YV.output,Θ YV.size ZU.size,fun k hk=>(ZU.block k (ο hk YV.size) aa).trans (YV.block k hk)⟩;have YR:=YM.o.mod ZU (by show ¬w.heap.size=wr.heap.size;omega);have k3:w3.cell? (aM w.heap.size i)=γ (aO (γ (aM wr.heap.size 0)) na na):=by rw[YR.cell,jq Yu,upd_same];rfl
   have Za:=aW YR;have Yy:=aW YF;have YA:=aW Yv;have ad:=aW ZU;have Zg:=aW Zc;clear YR YF Yv ZU YG YV Zc;go_wp2_with fail;clear J C k2 fr hr;have V:Mod (fun k=>k=w.heap.size\/k=wr.heap.size) wr w3:=((ae0 U.o).trans (Mod.only (Only.set _ _ _ _) (.inl rfl))).trans (ad.o.mono fun k hk=> .inr hk);have YO:=aW V;clear V ad YW YM U;generalize Zo:wr.heap.size=g at*
   have YE:=aW Zo;clear Zo;go_loopw [35] (fun Q wz=>∃(j:Nat) (f:Nat->En),j<=na/\Q=.int .i64 j/\Blk wz g 42 (bz na f).toArray/\(∀H,H<na->GV wz (f H).v (X i H) 12800)/\Mod (fun k=>k=g) w3 wz) (aT na)
   case atStart=>exact⟨0,E i,aa,rfl,Yy.o,fun j hj=>(HV.o i j Yu hj).ext YA.o,Mod.refl _ _⟩
   case round=>
    clear k3;rename World=>wz;obtain⟨j,f,hj,rfl,hb,YS,Zp⟩:=hrel;have YP:=aW hb;have YN:=aW YS;have YH:=aW Zp;clear hb YS Zp;have YQ:w.heap.size≠g:=by have:=Zg.o;omega
    have Y:=Za.o.mod YH.o YQ;have Zz:=aW Y;by_cases Yx:j<na
    .have hd:decide ((j:Int)<na)=ε:=ae;have k3:wz.cell? (aM w.heap.size i)=γ (aO (γ (aM g 0)) na na):=by rw[Y.cell,jq Yu,upd_same];rfl
     clear Y;have Zf:=YN;obtain⟨_,a1,_,_,_,_⟩:=dQ.cells YP.o Yx rfl;obtain⟨za,zb,M,i1,Q,i3,I,Z⟩:=RI3 (Zf.o j Yx);have HI:=aW i1;have H3:=aW (show ∃a b d,RI _ (iv (f j).s1 (f j).A1 (f j).n1 (f j).c1) a/\RI _ (iv (f j).s2 (f j).A2 (f j).n2 (f j).c2) b/\RI _ (iv (f j).s3 (f j).A3 (f j).n3 (f j).c3) d/\Is (X i j) a b d/\Sz 12800 a b d/\za=a from ⟨za,zb,M,i1,Q,i3,I,Z,rfl⟩);have K:=afr i1 Z.a;clear i1 Q i3 I Z;go_wp2_with fail;refine(BH _ _ _ _ _ _ HI.o K).mono ?_;rintro e w4 ⟨A',n',c',rfl,N,Yw⟩;replace a1:=Yw.cell_ a1;have fr:=(YP.o.ext Yw).frozen;obtain⟨P,YZ,ZC,ac⟩:=Od YP.o Zf.o Yx HI.o Yw N H3.o;have YL:=aW YZ;have ZB:=aW ZC;have Zd:=aW ac;clear YZ ZC ac N Yw HI H3 K;(iterate 15 (try (first|go_values|go_skip|go_guarded|go_step|go_upon|go_in|go_back|go_simp)));clear a1 fr;generalize w4.setCell _ _=wa at YL ZB Zd⊢;obtain⟨_,_,_,a1,_,_⟩:=dQ.cells YL.o Yx rfl;obtain⟨za,zb,M,i1,Q,i3,I,Z⟩:=RI3 (ZB.o j Yx);have HI:=aW Q;have H3:=aW (show ∃a b d,RI _ (iv (P j).s1 (P j).A1 (P j).n1 (P j).c1) a/\RI _ (iv (P j).s2 (P j).A2 (P j).n2 (P j).c2) b/\RI _ (iv (P j).s3 (P j).A3 (P j).n3 (P j).c3) d/\Is (X i j) a b d/\Sz 12800 a b d/\zb=b from ⟨za,zb,M,i1,Q,i3,I,Z,rfl⟩);have K:=afr Q Z.b;clear i1 Q i3 I Z;go_wp2_with fail;refine(BH _ _ _ _ _ _ HI.o K).mono ?_;rintro e w4 ⟨A',n',c',rfl,N,Yw⟩;replace a1:=Yw.cell_ a1;have fr:=(YL.o.ext Yw).frozen;obtain⟨fb,YI,YY,Ze⟩:=O9 YL.o ZB.o Yx HI.o Yw N H3.o;have W:=aW YI;have ZE:=aW YY;have Yz:=aW Ze;clear YI YY Ze N Yw HI H3 K;(iterate 15 (try (first|go_values|go_skip|go_guarded|go_step|go_upon|go_in|go_back|go_simp)));clear a1 fr;generalize w4.setCell _ _=wb at W ZE Yz⊢;obtain⟨_,_,_,_,_,a1⟩:=dQ.cells W.o Yx rfl;obtain⟨za,zb,M,i1,Q,i3,I,Z⟩:=RI3 (ZE.o j Yx);have HI:=aW i3;have H3:=aW (show ∃a b d,RI _ (iv (fb j).s1 (fb j).A1 (fb j).n1 (fb j).c1) a/\RI _ (iv (fb j).s2 (fb j).A2 (fb j).n2 (fb j).c2) b/\RI _ (iv (fb j).s3 (fb j).A3 (fb j).n3 (fb j).c3) d/\Is (X i j) a b d/\Sz 12800 a b d/\M=d from ⟨za,zb,M,i1,Q,i3,I,Z,rfl⟩);have K:=afr i3 Z.d;clear i1 Q i3 I Z;go_wp2_with fail;refine(BH _ _ _ _ _ _ HI.o K).mono ?_;rintro e w4 ⟨A',n',c',rfl,N,Yw⟩;replace a1:=Yw.cell_ a1;have fr:=(W.o.ext Yw).frozen;obtain⟨fc,Zh,YX,YD⟩:=Pe W.o ZE.o Yx HI.o Yw N H3.o;have YT:=aW Zh;have Zk:=aW YX;have Zi:=aW YD;clear Zh YX YD N Yw HI H3 K;go_wp2_with fail;clear a1 fr;generalize w4.setCell _ _=wc at YT Zk Zi⊢;go_wp2_with fail
     go_roundw
     case rel=>exact⟨j+1,fc,aa,au,YT.o,Zk.o,((YH.o.trans Zd.o).trans Yz.o).trans Zi.o⟩
     case measure=>exact aV
    .obtain rfl:j=na:=aa;have hd:decide ((j:Int)<j)=ζ:=ag;clear Y;go_wp2_with fail;refine⟨⟨i+1,upd S i ⟨γ ⟨g,0,δ⟩,g,0,j,j⟩,aa,au,?_⟩,by simp[aT,intOf];omega⟩;have Zl:Mod (fun k=>k=w.heap.size\/k=g) wr wz:=YO.o.trans (YH.o.mono fun k hk=> .inr hk);have hS:Far (fun k=>k=w.heap.size\/k=g) wr:=by
      rintro k (rfl|rfl) hk
      .exact⟨_,_,HD.o.o,kV _ _⟩
      .have:=YE.o;omega
     have F:∀D,D<i->(S D).b<g:=fun D YB=>by
      obtain⟨cs,YJ⟩:=(HD.o.row D YB).2.1.blk;have:=YJ.lt;have:=YE.o;omega
     refine⟨Zz.o,κ _,fun D YB=> ?_,fun D YB=> ?_,fun D H YB YC e=> ?_,?_⟩
     .exact AcP
     .by_cases e:D=i
      .exact Aci
      .rw[upd_ne e];obtain⟨h1,h2,h3⟩:=HD.o.row D aa;refine⟨h1,h2.mod Zl hS ?_,h3⟩;rintro(e2|e2)
       .obtain⟨cs,YJ⟩:=h2.blk;exact YJ.fw HD.o.o aj e2
       .have:=F D aa;omega
     .by_cases e1:D=i
      .by_cases e2:H=i
       .omega
       .rw[e1,upd_same,upd_ne e2] at e;have:=F H aa;have T:g=(S H).b:=e;omega
      .by_cases e2:H=i
       .rw[e2,upd_same,upd_ne e1] at e;have:=F D aa;have T:(S D).b=g:=e;omega
       .rw[upd_ne e1,upd_ne e2] at e;exact HD.o.inj D H aa aa e
     .have L:=YA.o;have hM:=YH.o;exact⟨hM.os.trans L.os,hM.tape.trans L.tape,hM.output.trans L.output,Θ L.size hM.size,fun k hk=>(hM.block k (ο hk L.size) (by have:=Zg.o;omega)).trans (L.block k hk)⟩
  .obtain rfl:i=m:=aa;have hd:decide ((i:Int)<i)=ζ:=ag;go_wp2_with fail;go_ret;exact⟨_,_,rfl,HD.o⟩
def DI.mx{w W W' G m na X R}(h:DI w W G m na m X R)(x:Ext W W'):MxI W' G m na (fun g=>∃i,i<m/\g=(R i).b) R X:=
 ⟨h.o.ext x,h.len,fun i hi _=>⟨(h.row i hi).1,(h.row i hi).2.1.ext x⟩,fun i j hi B _ e=>h.inj i j hi B e,fun i hi _=>⟨i,hi,rfl⟩⟩
def Ou{W G m n P R X}(h:MxI W G m n P R X)(B:m=0->n=0)(c)(D:m<=1000):CE 190 #[aO (γ (aM G 0)) m c] W (.int .i64 n):=by
 by_cases j:m=0
 .have C:((m:Int)==0)=ε:=by simp[j]
  rw[B j];clear h B j;exact AaL
 .have C:((m:Int)==0)=ζ:=by simp[j]
  have F:=h.cell (i:=0) aa;have q1:(0:Int)<m:=aa;clear h B;exact AaL
def Mod.Wj{B0 w W}(h:Mod (fun g=>B0<=g) w W){w0}(x:Ext w0 w)(hb:w0.heap.size<=B0):Ext w0 W:=
 ⟨h.os.trans x.os,h.tape.trans x.tape,h.output.trans x.output,Θ x.size h.size,fun k j=>(h.block k (ο j x.size) aa).trans (x.block k j)⟩
def P8(W:World):jV (aL W #[aJ] 250) W.heap.size:=Blk.new _ _ _
def rR (X:Nat->Nat->GQ):Nat->GQ
 |0=>GQ.i 1 0
 |k+1=>rR X k*X k k
def IB{A B D a b d}(j:D≠0)(E:(a,b,d)=nf A B D):Low a b d:=by
 have h:=Ta (a:=A) (b:=B) j;rw[<-E] at h;exact h.low
def H6(gc v1 v2 a b d a' b' d' u v t m n w)(hc:Calm w gc)(L:RG w v1 a b d)(M:RG w v2 a' b' d')(sx:Sz m a b d)(sy:Sz n a' b' d')(hn:m+n+1<=12800)(Zp:n+n+1<=12800)(K)(I:K<=12800)(C:m+n+1<=K)(YE:n+n+1<=K)(sz:Sz K u v t)(hd:d≠0)(hd':d'≠0)(R:a'≠0\/b'≠0)(E:(u,v,t)=nf ((a*a'+b*b')*d') ((b*a'-a*b')*d') (d*(a'*a'+b'*b'))):
  CV 173 #[aN gc 0,v1,v2] w fun x w'=>RG w' x u v t:=by
 obtain⟨g,a1,b1,p,q,hg,N,ea,eb,B,j⟩:=Bc (a:=a) (b:=b) R;have F:p≠0\/q≠0:=by
  exact Acd
 obtain⟨h,c1,o,hh,Yx,ec,eo⟩:=tJ (a:=d) (b:=d') hd';obtain⟨i,p1,q1,hi,O,U,eq⟩:=zI F;have Yy:p1≠0\/q1≠0:=by
  exact Abe
 have bg:g.natAbs<2^n:=by
  rcases R with h|h
  .exact ru h B sy.a
  .exact ru h j sy.b
 have T:=gP N ea sx.a;have V:=gP N eb sx.b;have bp:=gP N B sy.a;have bq:=gP N j sy.b;have Q:i.natAbs<2^n:=by
  rcases F with h|h
  .exact ru h U bp
  .exact ru h eq bq
 have Yu:=gP O U bp;have Z:=gP O eq bq;have bh:=ru hd ec sx.d;have Yv:=gP Yx ec sx.d;have bo:=gP Yx eo sy.d;have m1:=bR T Yu;have m2:=bR V Z;have m3:=bR V Yu;have m4:=bR T Z;have m5:=bR Yu Yu;have m6:=bR Z Z;have m7:=iV m1 m2;have m8:=sK m3 m4;have m9:=iV m5 m6;have Yw:=bR Q Yv;have hN:=qI Yy;have Y:i*c1≠0:=nk O AdR;obtain⟨P,fb,D,Ef⟩:=JD (a1*p1+b1*q1) (b1*p1-a1*q1) (p1*p1+q1*q1);obtain⟨sa,sb,S,Es⟩:=JD o 0 (i*c1);obtain⟨G,YD,e1,e2,e3,ad⟩:=Fz hN Ef;obtain⟨H,ac,e4,e6,e5,af⟩:=Fz Y Es;have ZP:sb=0:=by
  exact AcW
 subst ZP;have sf:=jF (n:=K) hN Ef (jl m7 aa) (jl m8 aa) (jl m9 aa);have ss:=jF (n:=K) Y Es (jl bo aa) (show(0:Int).natAbs<2^K from Na aa) (jl Yw aa);have Yz:d*(a'*a'+b'*b')≠0:=nk hd (qI R);have YA:D*S≠0:=nk aa aa;obtain⟨YC,YB⟩:=CG ea eb B j U eq eo ec e1 e2 e3 e4 e5;have E':(u,v,t)=nf (P*sa) (fb*sa) (D*S):=by
  rw[E];refine pR Yz YA ?_ ?_
  .rw[YC]
  .rw[YB]
 obtain⟨x1,x2,J⟩:=sx.nK aa;obtain⟨y1,y2,y3⟩:=sy.nK aa;obtain⟨f1,f2,f3⟩:=sf.nK aa;obtain⟨t1,t2,t3⟩:=ss.nK aa;obtain⟨s1,s2,s3⟩:=sz.nK aa;exact equotient_g gc v1 a b d v2 a' b' d' w hc L x1 x2 J M y1 y2 y3 g (aW hg) (bQ bg aa) h (aW hh) (bQ bh aa)
  a1 (aW (gF N ea)) (bQ T aa) (aW N) (aW ⟨_,ea⟩) b1 (aW (gF N eb)) (bQ V aa) (aW N) (aW ⟨_,eb⟩)
  p (aW (gF N B)) (bQ bp aa) (aW N) (aW ⟨_,B⟩) q (aW (gF N j)) (bQ bq aa) (aW N) (aW ⟨_,j⟩)
  i (aW hi) (bQ Q aa) p1 (aW (gF O U)) (bQ Yu aa) (aW O) (aW ⟨_,U⟩) q1 (aW (gF O eq)) (bQ Z aa) (aW O) (aW ⟨_,eq⟩)
  _ (aW rfl) (bQ m1 aa) _ (aW rfl) (bQ m2 aa) _ (aW rfl) (bQ m7 aa)
  _ (aW rfl) (bQ m3 aa) _ (aW rfl) (bQ m4 aa) _ (aW rfl) (bQ m8 aa)
  _ (aW rfl) (bQ m5 aa) _ (aW rfl) (bQ m6 aa) _ (aW rfl) (bQ m9 aa) (aW hN)
  P fb D (aW Ef) f1 f2 f3 o (aW (gF Yx eo)) (bQ bo aa) (aW Yx) (aW ⟨_,eo⟩)
  c1 (aW (gF Yx ec)) (bQ Yv aa) (aW Yx) (aW ⟨_,ec⟩) _ (aW rfl) (bQ Yw aa) (aW Y)
  sa 0 S (aW Es) t1 t2 t3 u v t (aW fun _ _ W h1 h2 h3=>LF gc _ _ P fb D sa S u v t K I W h1 h2 h3 (IB hN Ef) (IB Y Es) sf ss E' sz) s1 s2 s3
def JC(C v1 B x y n1 n2 j w)(hc:Calm w C)(L:GV w v1 x n1)(M:GV w B y n2)(hn:n1+n2+1<=12800)(D:n2+n2+1<=12800)(hb:Bd (x/y) j)(K:j<=12800)(R:y≠GQ.i 0 0):
  CV 173 #[aN C 0,v1,B] w fun v w'=>GV w' v (x/y) j:=by
 obtain⟨a,b,d,H,i1,s1⟩:=L;obtain⟨a',b',d',G,Q,s2⟩:=M;obtain⟨u,v,t,h⟩:=gI (x/y);have F:=Q.ne0 R;have E:=i1.Lt Q F h;have sz:=hb.sz h;exact(H6 C v1 B a b d a' b' d' u v t n1 n2 w hc H G s1 s2 hn D (max j (max (n1+n2+1) (n2+n2+1))) aa aa aa (sz.mono aa) i1.dne Q.dne F E).mono fun e w' ⟨z,O,I,J⟩=>⟨z,O,⟨u,v,t,I,h,sz⟩,J⟩
def Te(v0 q0 n0 v1 q1 n1 w)(Yw:GV w v0 q0 n0)(D:GV w v1 q1 n1)(H0:Hid (q1≠GQ.i 0 0))(nr)(hn:n0+n1+1<=12800)(Zp:n1+n1+1<=12800)(hb:Bd (q0/q1) nr)(hr:nr<=12800):
  CV 137 #[v0,v1] w fun v w'=>(∃u,v=.tuple #[u,aJ]/\GV w' u (q0/q1) nr):=by
 have hS:=aeZ w;obtain⟨Zj,Zi,Zg,Yw,I0,S0⟩:=Yw;obtain⟨Yv,Yu,L,G,W,T,P,Y,U,S,H,Z,rfl,YJ,YL,YK⟩:=Yw;replace hS:=hS.bI YJ;clear YJ;replace hS:=hS.bI YL;clear YL;replace hS:=hS.bI YK;clear YK;obtain⟨YQ,YP,YO,D,I1,S1⟩:=D;obtain⟨YC,Yz,Yy,YB,YD,YE,YA,Yx,Q,O,J,V,rfl,YG,YH,YF⟩:=D;replace hS:=hS.bI YG;clear YG;replace hS:=hS.bI YH;clear YH;replace hS:=hS.bI YF;clear YF;have B:=(St.al (St.al (St.al hS 42 #[Yv,aO Yu L G,W,aO T P Y,U,aO S H Z] (g:=w.heap.size) ag) 42 #[YC,aO Yz Yy YB,YD,aO YE YA Yx,Q,aO O J V] (g:=(w.heap.size+1)) ag) 42 aQ3 (g:=(w.heap.size+2)) ag);have YN:=(B.aH 2).cell;have YM:=(B.aH 1).cell;go_enter func137,ntmps137;go_wp2_with fail;clear YN YM;clear B;refine gA4 hS 42 #[Yv,aO Yu L G,W,aO T P Y,U,aO S H Z] 42 #[YC,aO Yz Yy YB,YD,aO YE YA Yx,Q,aO O J V] 42 aQ3 42 #[Yv,aO Yu L G,W,aO T P Y,U,aO S H Z,YC,aO Yz Yy YB,YD,aO YE YA Yx,Q,aO O J V] ?_;clear hS;intro w1 g2 o2 g3 o3 g4 o4 g9 o9 hS;refine(kQ g9 q0 q1 n0 n1 _ (hS.aH 0) ⟨_,_,_,RG.mk (hS.aF 5) (hS.aF 4) (hS.aF 3),I0,S0⟩ aa ⟨_,_,_,RG.mk (hS.aF 2) (hS.aF 1) (hS.aF 0),I1,S1⟩ aa).mono ?_;rintro e w2 ⟨rfl,F⟩;replace hS:=hS.mv F;clear F;have YR:=(hS.aH 2).cell;go_wp2_with fail;clear YR;refine(IQ _ q1 (n1) _ ⟨_,_,_,RG.mk (hS.aF 2) (hS.aF 1) (hS.aF 0),I1,S1⟩ H0.o).mono ?_;rintro e w3 ⟨rfl,F⟩;replace hS:=hS.mv F;clear F;have YI:=(St.al hS 197 #[aJ] (g:=w3.heap.size) ag);have YS:=(YI.aH 4).cell;have Zh:=(YI.aH 3).cell;go_wp2_with fail;clear YS Zh;clear YI;refine gA1 hS 197 #[aJ] ?_;clear hS;intro w4 g6 o6 hS;obtain⟨YV,YT,YU,YW⟩:=gI (q0/q1);have Ze:Sz nr YV YT YU:=hb.sz YW;refine(mX (JC g6 _ _ q0 q1 _ _ nr _ (hS.aH 0) ⟨_,_,_,RG.mk (hS.aF 5) (hS.aF 4) (hS.aF 3),I0,S0⟩ ⟨_,_,_,RG.mk (hS.aF 2) (hS.aF 1) (hS.aF 0),I1,S1⟩ aa aa hb hr H0.o) YW).mono ?_;exact Aaq
def WF(g v0 v1 q0 q1 n0 n1 w)(hc:jV w g)(L:GV w v0 q0 n0)(M:GV w v1 q1 n1)(h0:q1≠GQ.i 0 0)(B)(hn:n0+n1+1<=12800)(Zp:n1+n1+1<=12800)(hb:Bd (q0/q1) B)(hr:B<=12800):
  CV 213 #[aN g 0,v0,v1] w fun v w'=>GV w' v (q0/q1) B:=by
 obtain⟨N,H,Q,G,Z,T,U,V,Yw,Yy,Yz,Yx,rfl⟩:=L.opn;obtain⟨D,YA,C,I,YB,R,YD,P,S,YC,Yv,K,rfl⟩:=M.opn;have HX:=aW L;have HY:=aW M;clear L M;obtain⟨Y,F,W,j⟩:=an3 w 42 #[N,aO H Q G,Z,aO T U V,Yw,aO Yy Yz Yx] 42 #[D,aO YA C I,YB,aO R YD P,S,aO YC Yv K] 42 aQ3;have O:=hc.ext Y;have k0:=Blk.cell O;go_enter func213,ntmps213;go_wp2_with fail;refine(Te _ q0 n0 _ q1 n1 _ (HX.ext Y) (HY.ext Y) (aW h0) B hn Zp hb hr).mono ?_;exact AbN
def bps (Z W:Nat->Nat->GQ) (m i j:Nat):Nat->GQ
 |0=>Z i (m+j)
 |s+1=>bps Z W m i j s-Z i (i+1+s)*W (i+1+s) j
def jI (Z:Nat->Nat->GQ) (m:Nat):Nat->Nat->Nat->GQ
 |0=>fun _ _=>GQ.i 0 0
 |k+1=>upd (jI Z m k) (m-1-k) (fun j=>bps Z (jI Z m k) m (m-1-k) j k/Z (m-1-k) (m-1-k))
def DZ(Z){m k i}(j:k<m)(hi:m-k<=i):jI Z m (k+1) i=jI Z m k i:=by
 show upd _ _ _ i=_;rw[upd_ne aa]
structure BI (w W:World) (gf Ga Gb G m nb:Nat) (PA PB:Nat->Prop) (Z:Nat->Nat->GQ) (k:Nat) (RX:Nat->Rw):Prop where
 calm:jV W gf
 a:∃R,MxI W Ga m m PA R Z
 b:∃R Y,MxI W Gb m nb PB R Y/\∀i j,i<m-k->Y i j=Z i (m+j)
 x:Blk W G 174 (mxc m RX).toArray
 gx:w.heap.size<=G
 row:∀i,m-k<=i->i<m->(RX i).A=γ ⟨(RX i).b,0,δ⟩/\(RX i).n=nb/\(RX i).c=nb/\w.heap.size<=(RX i).b/\dQ W (RX i).b nb (jI Z m k i)
 mod:Mod PB w W
theorem Sa(gf G S nb F I Nx Ny B C D v K M q w)(hc:jV w gf)(hq:GV w v q B)(R:0<nb->C=γ ⟨G,0,δ⟩/\dQ w G nb K)(Q:0<nb->D=γ ⟨S,0,δ⟩/\dQ w S nb M)(N:0<nb->G≠S)(Zn:nb<=1000)(P:∀j,j<nb->Bd (K j) Nx)(T:∀j,j<nb->Bd (M j) Ny)(hN:2*max Nx (B+Ny+1)+65<=12800)(H:2*max B Ny+1<=12800):
  Calls prog 212 #[aN gf 0,aO C nb F,aO D nb I,v] w.drew fun e w'=>e=.returned (.tuple #[])/\(0<nb->dQ w' G nb (fun j=>K j-q*M j))/\Mod (fun g=>0<nb/\g=G) w w':=by
 have hd:Ext w w.drew:=(Ext.refl _).drew;by_cases h:0<nb
 .obtain⟨e1,r1⟩:=R h;obtain⟨W,r2⟩:=Q h;refine(zP gf G S 0 0 nb nb nb F nb I Nx Ny B C D v K M q w.drew (hc.ext hd) (r1.ext hd) (r2.ext hd) (N h) (fun _=>by simpa using e1) (fun _=>by simpa using W) (κ _) aa aa aa aa (hq.ext hd) (fun j L=>by simpa using P j L) (fun j L=>by simpa using T j L) hN H).mono ?_;rintro e w' ⟨O,Y,Z⟩;refine⟨O,fun _=>Y.congr fun j L=> ?_,(ae0 hd).trans (Z.mono fun g V=>⟨h,V⟩)⟩;unfold wW;rw[ι aa];simp
 .obtain rfl:nb=0:=aa;refine(Af gf F 0 I C D v q B w.drew (hq.ext hd)).mono ?_;rintro e w' ⟨O,J⟩;exact⟨O,fun U=>absurd U aa,(ae0 hd).trans (ae0 J)⟩
def GN(m Z):∀c,(ech m Z c).r<=c
 |0=>κ _
 |c+1=>by
  have B:=GN m Z c;show(kP m c (ech m Z c)).r<=c+1;cases j:fp (ech m Z c).X c (m-(ech m Z c).r) (ech m Z c).r with
  |none=>rw[fF j];omega
  |some k=>rw[eu j];show(ech m Z c).r+1<=c+1;omega
theorem Db(m Z):∀c,(ech m Z c).r=c->∀i,i<c->(ech m Z c).X i i≠GQ.i 0 0
 |0,_,i,hi=>aa
 |c+1,h,i,hi=>by
  have G:=GN m Z c;have e:ech m Z (c+1)=kP m c (ech m Z c):=rfl;rw[e] at h⊢;cases j:fp (ech m Z c).X c (m-(ech m Z c).r) (ech m Z c).r with
  |none=>rw[fF j] at h;omega
  |some k=>
   rw[eu j] at h⊢;have F:(ech m Z c).r=c:=by have D:(ech m Z c).r+1=c+1:=h;omega
   have B:=Db m Z c F;obtain⟨H,J,I,K⟩:=jc j;show clr (fun i=>(ech m Z c).X (swp k (ech m Z c).r i)) (ech m Z c).r c i i≠_;rw[F] at H⊢;unfold clr;rw[θ aa];show(ech m Z c).X (swp k c i) i≠_;by_cases C:i=c
   .subst C;rw[oQ];exact I
   .rw[xm aa C];exact B i aa
theorem J8{na X Y i j}(h:j<na):side na X Y i j=X i j:=by unfold side;rw[ι h]
theorem Rq{na X Y i j}:side na X Y i (na+j)=Y i j:=by unfold side;rw[θ aa,show na+j-na=j by omega]
structure Out (W:World) (G m n:Nat) (RX:Nat->Rw) (X:Nat->Nat->GQ):Prop where
 x:Blk W G 174 (mxc m RX).toArray
 row:∀i,i<m->(RX i).A=γ ⟨(RX i).b,0,δ⟩/\(RX i).n=n/\(RX i).c=n/\dQ W (RX i).b n (X i)
def Out.ext{W W' G m n RX X}(h:Out W G m n RX X)(x:Ext W W'):Out W' G m n RX X:=
 ⟨h.x.ext x,fun i hi=>⟨(h.row i hi).1,(h.row i hi).2.1,(h.row i hi).2.2.1,(h.row i hi).2.2.2.ext x⟩⟩
end Go.Proofs.YtbfnfkppkmpieaaGreat
