import Derived.Test.YtbfnfkppkmpieaaGreatQsb
set_option linter.unusedVariables false
set_option linter.unusedSimpArgs false
set_option maxHeartbeats 25600000
set_option maxRecDepth 200000
set_option linter.defProp false
namespace Go.Proofs.YtbfnfkppkmpieaaGreat
open Go.RowKit
open Go.Proofs.Tryz
open Option renaming some->γ,none->δ
open Bool renaming true->ε,false->ζ
open Inhabited renaming default->η
open Value renaming slice->aO
open World renaming alloc->aU
open Mc
def AY(Z L)(G:List Bool)(cs w)(hb:Blk w Z 42 cs)(hL:G.length=L)(K:L<=100)(J:∀j b,G[j]? =γ b->∃s1 A1 n1 c1 s2 A2 n2 c2 s3 A3 n3 c3,cs[j*6]? =γ (.bool s1)/\cs[j*6+1]? =γ (aO A1 n1 c1)/\cs[j*6+2]? =γ (.bool s2)/\cs[j*6+3]? =γ (aO A2 n2 c2)/\cs[j*6+4]? =γ (.bool s3)/\cs[j*6+5]? =γ (aO A3 n3 c3)/\∀w',Ext w w'->CE 95 #[gv s1 A1 n1 c1 s2 A2 n2 c2 s3 A3 n3 c3] w' (.bool b)):
  CE 51 #[aO (γ (aM Z 0)) L L] w (.bool (G.all id)):=by
 have HL:=aW hL;have HZ:=aW J;clear hL J;go_enter func51,ntmps51;go_wp2_with fail
 go_loopw [7] (fun i wr=>∃k:Nat,k<=L/\i=.int .i64 (k:Int)/\(G.take k).all id=ε/\Ext w wr) (aT L)
 case atStart=>exact⟨0,aa,rfl,ag,Ext.refl w⟩
 case round=>
  obtain⟨k,hk,rfl,V,D⟩:=hrel;have HT:=aW V;clear V;by_cases O:k<L
  .have hq:=ν (l:=G) (i:=k) (by rw[HL.o];exact O);obtain⟨b,J⟩:∃b,G[k]? =γ b:=⟨_,hq⟩;clear hq;obtain⟨s1,A1,n1,c1,s2,A2,n2,c2,s3,A3,n3,c3,r0,r1,r2,U,Y,r5,hV⟩:=HZ.o k b J;have B:=(hb.ext D).cell;have R:=(B (k*6)).trans r0;have N:=(B (k*6+1)).trans r1;have M:=(B (k*6+2)).trans r2;have T:=(B (k*6+3)).trans U;have I:=(B (k*6+4)).trans Y;have H:=(B (k*6+5)).trans r5;clear B r0 r1 r2 U Y r5;have W:=aW J;clear J;have Q:=aW hV;clear hV;have e1:((k:Int)*6).toNat=k*6:=aa;have S:=Blk.new wr 42 aQ3;have C:=S.cell;have k2:=S.frozen;have b1:=Blk.new wr 42 #[s1,aO A1 n1 c1,s2,aO A2 n2 c2,s3,aO A3 n3 c3];have k3:=b1.cell;clear S b1;go_wp2_with fail;clear C k2 k3 R N M T I H;refine(Q.o _ (D.alloc _)).mono ?_;rintro e w2 ⟨rfl,P⟩;have F:=(D.alloc _).trans P;clear P;cases b
   .go_wp2;go_ret;refine⟨bE ?_,F⟩;symm;rw[acR];intro h;have:=qb.1 h ζ (wo W.o);simp at this
   .go_wp2;go_roundw
    case rel=>
     refine⟨k+1,aa,au,?_,F⟩;rw[acU,W.o,List.all_append,HT.o];rfl
    case measure=>simp[aT,intOf]<;>omega
  .obtain rfl:k=L:=aa;go_wp2;go_ret;refine⟨bE ?_,D⟩;rw[<-HT.o,χ (by rw[HL.o];exact κ _)]
def XK:(1:Int).natAbs<lim:=ji aa aa
def pR(v q n w)(L:GV w v q n)(hn:n<=12800):
  CE 95 #[v] w (.bool ε):=by
 obtain⟨a,b,d,l,j,B⟩:=L;obtain⟨l1,l2,l3⟩:=B.pM hn;have e:((gD [d,a,b]:Nat):Int)=1:=by rw[FH,j.low.2];rfl
 exact PK v a b d w l l1 l2 l3 (aW j.low.1) 1 (aW e.symm) XK (aW rfl)
def kN(gs q0 q1 m0 m1 w){H N L B Q G I M l C O D S Yx K P W F V U YG Y Z T}(hb:Blk w gs 42 #[.bool H,aO N L B,.bool Q,aO G I M,.bool l,aO C O D,.bool S,aO Yx K P,.bool W,aO F V U,.bool YG,aO Y Z T])(h0:GV w (gv H N L B Q G I M l C O D) q0 m0)(l0:m0<=12800)(h1:GV w (gv S Yx K P W F V U YG Y Z T) q1 m1)(l1:m1<=12800):
  CE 51 #[aO (γ (aM gs 0)) 2 2] w (.bool ε):=by
 refine AY gs 2 [ε,ε] _ w hb rfl aa (fun j b R=> ?_)
 match j,R with
 |0,R=>injection R with R;subst R;exact⟨_,_,_,_,_,_,_,_,_,_,_,_,rfl,rfl,rfl,rfl,rfl,rfl,fun w' J=>pR _ q0 m0 w' (h0.ext J) l0⟩
 |1,R=>injection R with R;subst R;exact⟨_,_,_,_,_,_,_,_,_,_,_,_,rfl,rfl,rfl,rfl,rfl,rfl,fun w' J=>pR _ q1 m1 w' (h1.ext J) l1⟩
def Ki(gs q0 q1 q2 m0 m1 m2 w){H N L B Q G I M l C O D S Yx K P W F V U YG YL Yz YK Zn Zg Zh Zo Zd Ze YZ Zc Z R T Y}(hb:Blk w gs 42 #[.bool H,aO N L B,.bool Q,aO G I M,.bool l,aO C O D,.bool S,aO Yx K P,.bool W,aO F V U,.bool YG,aO YL Yz YK,.bool Zn,aO Zg Zh Zo,.bool Zd,aO Ze YZ Zc,.bool Z,aO R T Y])(h0:GV w (gv H N L B Q G I M l C O D) q0 m0)(l0:m0<=12800)(h1:GV w (gv S Yx K P W F V U YG YL Yz YK) q1 m1)(l1:m1<=12800)(h2:GV w (gv Zn Zg Zh Zo Zd Ze YZ Zc Z R T Y) q2 m2)(l2:m2<=12800):
  CE 51 #[aO (γ (aM gs 0)) 3 3] w (.bool ε):=by
 refine AY gs 3 [ε,ε,ε] _ w hb rfl aa (fun j b hj=> ?_)
 match j,hj with
 |0,hj=>injection hj with hj;subst hj;exact⟨_,_,_,_,_,_,_,_,_,_,_,_,rfl,rfl,rfl,rfl,rfl,rfl,fun w' J=>pR _ q0 m0 w' (h0.ext J) l0⟩
 |1,hj=>injection hj with hj;subst hj;exact⟨_,_,_,_,_,_,_,_,_,_,_,_,rfl,rfl,rfl,rfl,rfl,rfl,fun w' J=>pR _ q1 m1 w' (h1.ext J) l1⟩
 |2,hj=>injection hj with hj;subst hj;exact⟨_,_,_,_,_,_,_,_,_,_,_,_,rfl,rfl,rfl,rfl,rfl,rfl,fun w' J=>pR _ q2 m2 w' (h2.ext J) l2⟩
def aeY (j:Int) (x:GQ) (k:Int) (y:GQ) (m:Int):GQ:=⟨((j:Rat)*x.re+(k:Rat)*y.re)/(m:Rat),((j:Rat)*x.im+(k:Rat)*y.im)/(m:Rat)⟩
def Is.Il{x y a b d a' b' d' u v t j k m}(J:Is x a b d)(R:Is y a' b' d')(l:m≠0)(h:Is (aeY j x k y m) u v t):(u,v,t)=nf (j*a*d'+k*a'*d) (j*b*d'+k*b'*d) (d*d'*m):=by
 have C:=ig J.dne;have B:=ig R.dne;have D:=ig l;refine(h.Ii (nk (nk J.dne R.dne) l) ?_ ?_).symm
 .show((j:Rat)*x.re+(k:Rat)*y.re)/(m:Rat)=_;rw[J.re,R.re];exact AaK
 .show((j:Rat)*x.im+(k:Rat)*y.im)/(m:Rat)=_;rw[J.im,R.im];exact AaK
def ae8{x y n1 n2 j k m}(J:Bd x n1)(R:Bd y n2)(l:m≠0)(B: -9223372036854775808<=j)(G:j<=9223372036854775807)(C: -9223372036854775808<=k)(F:k<=9223372036854775807)(m1: -9223372036854775808<=m)(m2:m<=9223372036854775807):Bd (aeY j x k y m) (n1+n2+65):=by
 obtain⟨a,b,d,J,sx⟩:=J;obtain⟨a',b',d',R,sy⟩:=R;obtain⟨u,v,t,h⟩:=gX (aeY j x k y m);have W:=Dz B G;have D:=Dz C F;have Y:=Dz m1 m2;have E:=J.Il R l h;refine⟨u,v,t,h,jR (nk (nk J.dne R.dne) l) E ?_ ?_ ?_⟩
 .exact jC (m:=n1+n2+64) (jA (bS (bS W sx.a) sy.d) aa) (jA (bS (bS D sy.a) sx.d) aa)
 .exact jC (m:=n1+n2+64) (jA (bS (bS W sx.b) sy.d) aa) (jA (bS (bS D sy.b) sx.d) aa)
 .exact jA (bS (bS sx.d sy.d) Y) aa
def jQ(Q v1 D x y j k m n1 n2 w)(hc:Calm w Q)(L:GV w v1 x n1)(l:GV w D y n2)(hn:2*max n1 n2+65<=12800)(F:m≠0)(B: -9223372036854775808<=j)(G:j<=9223372036854775807)(C: -9223372036854775808<=k)(H:k<=9223372036854775807)(m1: -9223372036854775808<=m)(m2:m<=9223372036854775807):
  CV 128 #[aN Q 0,v1,.int .i64 j,D,.int .i64 k,.int .i64 m] w fun v w'=>GV w' v (aeY j x k y m) (n1+n2+65):=by
 obtain⟨a,b,d,K,i1,s1⟩:=L;obtain⟨a',b',d',I,M,s2⟩:=l;obtain⟨u,v,t,h⟩:=gX (aeY j x k y m);have sz:=(ae8 (m:=m) ⟨_,_,_,i1,s1⟩ ⟨_,_,_,M,s2⟩ F B G C H m1 m2).sz h;exact(OV Q v1 D a b d j a' b' d' k m u v t (max n1 n2) w hc K I (s1.mono aa) (s2.mono aa) aa i1.dne M.dne F B G C H m1 m2 (i1.Il M F h)).mono fun e w' ⟨z,O,N,J⟩=>⟨z,O,⟨u,v,t,N,h,sz⟩,J⟩
def K9(Q v1 j x y n1 n2 w)(hc:Calm w Q)(L:GV w v1 x n1)(l:GV w j y n2)(hn:2*max n1 n2+1<=12800):
  CV 142 #[aN Q 0,v1,j] w fun v w'=>GV w' v (x*y) (n1+n2+1):=by
 obtain⟨a,b,d,C,i1,s1⟩:=L;obtain⟨a',b',d',B,M,s2⟩:=l;obtain⟨u,v,t,h⟩:=gX (x*y);have K:=afE i1 s1 M s2 h aa;exact(zW Q v1 j a b d a' b' d' u v t (max n1 n2) w hc C B (s1.mono aa) (s2.mono aa) aa i1.dne M.dne K.E).mono fun e w' ⟨z,O,D,J⟩=>⟨z,O,⟨u,v,t,D,h,K.size⟩,J⟩
def Is.Lf{x y a b d a' b' d' u v t}(J:Is x a b d)(R:Is y a' b' d')(j:a'≠0\/b'≠0)(h:Is (x/y) u v t):(u,v,t)=nf ((a*a'+b*b')*d') ((b*a'-a*b')*d') (d*(a'*a'+b'*b')):=by
 have B:=ig J.dne;have C:=ig R.dne;have l:=ig (qI j);simp only[aac,aba] at l;refine(h.Ii (nk J.dne (qI j)) ?_ ?_).symm
 .rw[GQ.yN,GQ.nrm,J.re,R.re,J.im,R.im];exact AaK
 .rw[GQ.uB,GQ.nrm,J.re,R.re,J.im,R.im];simp only[aac,aba,abV];grind
def Is.ne0{y a b d}(h:Is y a b d)(R:y≠GQ.i 0 0):a≠0\/b≠0:=by
 by_cases ha:a=0
 .by_cases hb:b=0
  .exfalso;apply R;ext
   .rw[h.re,ha];simp only[GQ.dM];grind
   .rw[h.im,hb];simp only[GQ.dJ];grind
  .exact .inr hb
 .exact .inl ha
def Jn(Q v1 j x y n1 n2 w)(hc:Calm w Q)(L:GV w v1 x n1)(l:GV w j y n2)(hn:4*max n1 n2+3<=12800)(R:y≠GQ.i 0 0):
  CV 173 #[aN Q 0,v1,j] w fun v w'=>GV w' v (x/y) (n1+(n2+n2+1)):=by
 obtain⟨a,b,d,G,i1,s1⟩:=L;obtain⟨a',b',d',D,M,s2⟩:=l;obtain⟨u,v,t,h⟩:=gX (x/y);have B:=M.ne0 R;have E:=i1.Lf M B h;have C:=bS (jC (bS s1.a s2.a) (bS s1.b s2.b)) s2.d;have H:=bS (sG (bS s1.b s2.a) (bS s1.a s2.b)) s2.d;have F:=bS s1.d (jC (bS s2.a s2.a) (bS s2.b s2.b));have sz:=jR (n:=n1+(n2+n2+1)) (nk i1.dne (qI B)) E (jA C aa) (jA H aa) F;exact(GM Q v1 j a b d a' b' d' u v t (max n1 n2) w hc G D (s1.mono aa) (s2.mono aa) hn i1.dne M.dne B E).mono fun e w' ⟨z,O,I,J⟩=>⟨z,O,⟨u,v,t,I,h,sz⟩,J⟩
def ae7{q n}(h:Bd q n):∀K,Bd (q*aeZ K) n
 |0=>by rw[show aeZ 0=GQ.i 1 0 from rfl,af1];exact h
 |K+1=>by
  obtain⟨a,b,d,l,j⟩:=ae7 h K;exact⟨_,_,_,l.turn,j.turn⟩
def iJ(Q:Nat)(v1 q1)(n1 K:Nat)(k:Int)(w)(j:k=(K:Int))(hc:Calm w Q)(D:GV w v1 q1 n1)(hn:n1<=12800)(I:K<=100):
  CV 130 #[aN Q 0,v1,k] w fun v w'=>GV w' v (q1*aeZ K) n1:=by
 subst j;exact K7 Q v1 q1 n1 K w hc D hn I
def pV(Q v1 U R S w)(hc:Calm w Q)(D:RG w v1 U R S):
  CV 138 #[aN Q 0,v1] w fun v w'=>(∃u,v=.tuple #[u,aJ]/\RG w' u U R S):=by
 have hS:=ae0 w;obtain⟨H,B,C,G,K,I,F,j,T,O,J,L,rfl,M,N,P⟩:=D;replace hS:=hS.bI M;clear M;replace hS:=hS.bI N;clear N;replace hS:=hS.bI P;clear P;replace hS:=hS.yc hc trivial;clear hc;have o3:Own w w.heap.size:=aeX hS.ext ag;have o4:Own w (w.heap.size+1):=aeX hS.ext ag;have l:=(St.al (St.al hS 42 #[H,aO B C G,K,aO I F j,T,aO O J L] (g:=w.heap.size) ag) 42 aQ3 (g:=(w.heap.size+1)) ag);have Z:=(l.aH 2).cell;have W:=(l.aH 1).cell;have V:=(l.aH 0).cell;have Y:=(l.aH 0).frozen;go_enter func138,ntmps138;go_wp2;replace hS:=(St.al (St.al hS 42 #[H,aO B C G,K,aO I F j,T,aO O J L] (g:=w.heap.size) ag) 42 #[H,aO B C G,K,aO I F j,T,aO O J L] (g:=(w.heap.size+1)) ag);exact nK rfl rfl rfl (hS.aH 0) ⟨_,rfl,⟨_,rfl,RG.mk (hS.aF 2) (hS.aF 1) (hS.aF 0)⟩,hS.ext⟩
def yT(Q v1 YL YK YG v2 Zo Zq Zp w)(hc:Calm w Q)(D:RG w v1 YL YK YG)(YP:RG w v2 Zo Zq Zp):
  CV 141 #[aN Q 0,v1,v2] w fun v w'=>(∃u,v=.tuple #[u,aJ]/\RP w' u YL YK YG Zo Zq Zp):=by
 have hS:=ae0 w;obtain⟨Y,H,N,S,Yy,Z,R,F,T,O,J,Yq,rfl,YE,YF,YD⟩:=D;replace hS:=hS.bI YE;clear YE;replace hS:=hS.bI YF;clear YF;replace hS:=hS.bI YD;clear YD;obtain⟨P,G,L,M,I,B,V,C,U,W,K,j,rfl,Zy,Zz,Zx⟩:=YP;replace hS:=hS.bI Zy;clear Zy;replace hS:=hS.bI Zz;clear Zz;replace hS:=hS.bI Zx;clear Zx;replace hS:=hS.yc hc trivial;clear hc;have o4:Own w w.heap.size:=aeX hS.ext ag;have o5:Own w (w.heap.size+1):=aeX hS.ext ag;have o6:Own w (w.heap.size+2):=aeX hS.ext ag;have l:=(St.al (St.al (St.al hS 42 #[Y,aO H N S,Yy,aO Z R F,T,aO O J Yq] (g:=w.heap.size) ag) 42 #[P,aO G L M,I,aO B V C,U,aO W K j] (g:=(w.heap.size+1)) ag) 44 aQ6 (g:=(w.heap.size+2)) ag);have YC:=(l.aH 3).cell;have YB:=(l.aH 2).cell;have YM:=(l.aH 1).cell;have YN:=(l.aH 0).cell;have Za:=(l.aH 0).frozen;go_enter func141,ntmps141;go_wp2;replace hS:=(St.al (St.al (St.al hS 42 #[Y,aO H N S,Yy,aO Z R F,T,aO O J Yq] (g:=w.heap.size) ag) 42 #[P,aO G L M,I,aO B V C,U,aO W K j] (g:=(w.heap.size+1)) ag) 44 #[Y,aO H N S,Yy,aO Z R F,T,aO O J Yq,P,aO G L M,I,aO B V C,U,aO W K j] (g:=(w.heap.size+2)) ag);exact tq rfl rfl rfl (hS.aH 0) ⟨_,rfl,⟨_,rfl,RP.mk (hS.aF 5) (hS.aF 4) (hS.aF 3) (hS.aF 2) (hS.aF 1) (hS.aF 0)⟩,hS.ext⟩
def KF(w):
  CV 129 #[] w fun v w'=>RG w' v 0 0 1:=by
 have hS:=ae0 w;go_enter func129,ntmps129;go_wp2_with fail;refine gA1 hS 42 aQ3 ?_;clear hS;intro w1 D o0 hS;refine(CL (1) _ aa aa).mono ?_;rintro e w2 ⟨G,rfl,M,F⟩;replace hS:=hS.mv F;clear F;obtain⟨s1,l,n1,c1,rfl,j⟩:=RI.opn M;clear M;replace hS:=hS.bI j;clear j;have C:=(hS.aH 0).cell;have B:=(hS.aH 0).frozen;go_wp2;replace hS:=hS.pt 0 0 [.bool ζ,.slice δ 0 0,.bool ζ,.slice δ 0 0,.bool s1,.slice l n1 c1] o0;exact dG rfl rfl rfl (hS.aH 0) ⟨_,rfl,RG.mk (RI.zero _) (RI.zero _) (hS.aF 0),hS.ext⟩
def VU(v0 q0 n0 v1 q1 n1 w)(Yp:GV w v0 q0 n0)(D:GV w v1 q1 n1)(hn:2*max n0 n1+65<=12800):
  CV 194 #[v0,v1] w fun v w'=>(∃u,v=.tuple #[u,aJ]/\GV w' u (aeY 1 q0 1 q1 1) (n0+n1+65)):=by
 have hS:=ae0 w;obtain⟨Ze,Zd,Zc,Yp,I0,S0⟩:=Yp;obtain⟨Z,Y,H,C,U,Q,L,V,S,P,G,W,rfl,YH,YJ,YI⟩:=Yp;replace hS:=hS.bI YH;clear YH;replace hS:=hS.bI YJ;clear YJ;replace hS:=hS.bI YI;clear YI;obtain⟨YL,YK,YG,D,I1,S1⟩:=D;obtain⟨Yx,Yu,Yt,Yw,Yy,Yz,Yv,Yr,T,O,J,Yq,rfl,YE,YF,YD⟩:=D;replace hS:=hS.bI YE;clear YE;replace hS:=hS.bI YF;clear YF;replace hS:=hS.bI YD;clear YD;have l:=(St.al (St.al (St.al hS 42 #[Z,aO Y H C,U,aO Q L V,S,aO P G W] (g:=w.heap.size) ag) 42 #[Yx,aO Yu Yt Yw,Yy,aO Yz Yv Yr,T,aO O J Yq] (g:=(w.heap.size+1)) ag) 42 aQ3 (g:=(w.heap.size+2)) ag);have YC:=(l.aH 2).cell;have YB:=(l.aH 1).cell;go_enter func194,ntmps194;go_wp2_with fail;clear YC YB;clear l;refine gA4 hS 42 #[Z,aO Y H C,U,aO Q L V,S,aO P G W] 42 #[Yx,aO Yu Yt Yw,Yy,aO Yz Yv Yr,T,aO O J Yq] 42 aQ3 42 #[Z,aO Y H C,U,aO Q L V,S,aO P G W,Yx,aO Yu Yt Yw,Yy,aO Yz Yv Yr,T,aO O J Yq] ?_;clear hS;intro w1 g2 o2 g3 o3 g4 o4 g9 o9 hS;refine(kN g9 q0 q1 n0 n1 _ (hS.aH 0) ⟨_,_,_,RG.mk (hS.aF 5) (hS.aF 4) (hS.aF 3),I0,S0⟩ aa ⟨_,_,_,RG.mk (hS.aF 2) (hS.aF 1) (hS.aF 0),I1,S1⟩ aa).mono ?_;rintro e w2 ⟨rfl,F⟩;replace hS:=hS.mv F;clear F;have YA:=(St.al hS 197 #[aJ] (g:=w2.heap.size) ag);have YM:=(YA.aH 4).cell;have YN:=(YA.aH 3).cell;go_wp2_with fail;clear YM YN;clear YA;refine gA1 hS 197 #[aJ] ?_;clear hS;intro w3 g6 o6 hS;obtain⟨YO,YP,YQ,YS⟩:=gX (aeY (1) q0 (1) q1 (1));have Zk:Sz (n0+n1+65) YO YP YQ:=(ae8 (m:=1) ⟨_,_,_,I0,S0⟩ ⟨_,_,_,I1,S1⟩ aa aa aa aa aa aa aa).sz YS;refine(mX (jQ g6 _ _ q0 q1 (1) (1) (1) _ _ _ (hS.aH 0) ⟨_,_,_,RG.mk (hS.aF 5) (hS.aF 4) (hS.aF 3),I0,S0⟩ ⟨_,_,_,RG.mk (hS.aF 2) (hS.aF 1) (hS.aF 0),I1,S1⟩ aa aa aa aa aa aa aa aa) YS).mono ?_;exact Aam
def V7(v0 q0 n0 v1 q1 n1 w)(Yp:GV w v0 q0 n0)(D:GV w v1 q1 n1)(hn:2*max n0 n1+65<=12800):
  CV 135 #[v0,v1] w fun v w'=>(∃u,v=.tuple #[u,aJ]/\GV w' u (aeY 1 q0 (-1) q1 1) (n0+n1+65)):=by
 have hS:=ae0 w;obtain⟨Ze,Zd,Zc,Yp,I0,S0⟩:=Yp;obtain⟨Z,Y,H,C,U,Q,L,V,S,P,G,W,rfl,YH,YJ,YI⟩:=Yp;replace hS:=hS.bI YH;clear YH;replace hS:=hS.bI YJ;clear YJ;replace hS:=hS.bI YI;clear YI;obtain⟨YL,YK,YG,D,I1,S1⟩:=D;obtain⟨Yx,Yu,Yt,Yw,Yy,Yz,Yv,Yr,T,O,J,Yq,rfl,YE,YF,YD⟩:=D;replace hS:=hS.bI YE;clear YE;replace hS:=hS.bI YF;clear YF;replace hS:=hS.bI YD;clear YD;have l:=(St.al (St.al (St.al hS 42 #[Z,aO Y H C,U,aO Q L V,S,aO P G W] (g:=w.heap.size) ag) 42 #[Yx,aO Yu Yt Yw,Yy,aO Yz Yv Yr,T,aO O J Yq] (g:=(w.heap.size+1)) ag) 42 aQ3 (g:=(w.heap.size+2)) ag);have YC:=(l.aH 2).cell;have YB:=(l.aH 1).cell;go_enter func135,ntmps135;go_wp2_with fail;clear YC YB;clear l;refine gA4 hS 42 #[Z,aO Y H C,U,aO Q L V,S,aO P G W] 42 #[Yx,aO Yu Yt Yw,Yy,aO Yz Yv Yr,T,aO O J Yq] 42 aQ3 42 #[Z,aO Y H C,U,aO Q L V,S,aO P G W,Yx,aO Yu Yt Yw,Yy,aO Yz Yv Yr,T,aO O J Yq] ?_;clear hS;intro w1 g2 o2 g3 o3 g4 o4 g9 o9 hS;refine(kN g9 q0 q1 n0 n1 _ (hS.aH 0) ⟨_,_,_,RG.mk (hS.aF 5) (hS.aF 4) (hS.aF 3),I0,S0⟩ aa ⟨_,_,_,RG.mk (hS.aF 2) (hS.aF 1) (hS.aF 0),I1,S1⟩ aa).mono ?_;rintro e w2 ⟨rfl,F⟩;replace hS:=hS.mv F;clear F;have YA:=(St.al hS 197 #[aJ] (g:=w2.heap.size) ag);have YM:=(YA.aH 4).cell;have YN:=(YA.aH 3).cell;go_wp2_with fail;clear YM YN;clear YA;refine gA1 hS 197 #[aJ] ?_;clear hS;intro w3 g6 o6 hS;obtain⟨YO,YP,YQ,YS⟩:=gX (aeY (1) q0 (-1) q1 (1));have Zk:Sz (n0+n1+65) YO YP YQ:=(ae8 (m:=1) ⟨_,_,_,I0,S0⟩ ⟨_,_,_,I1,S1⟩ aa aa aa aa aa aa aa).sz YS;refine(mX (jQ g6 _ _ q0 q1 (1) (-1) (1) _ _ _ (hS.aH 0) ⟨_,_,_,RG.mk (hS.aF 5) (hS.aF 4) (hS.aF 3),I0,S0⟩ ⟨_,_,_,RG.mk (hS.aF 2) (hS.aF 1) (hS.aF 0),I1,S1⟩ aa aa aa aa aa aa aa aa) YS).mono ?_;exact Aam
def RH(v0 q0 n0 v1 q1 n1 w)(Yp:GV w v0 q0 n0)(D:GV w v1 q1 n1)(hn:2*max n0 n1+1<=12800):
  CV 164 #[v0,v1] w fun v w'=>(∃u,v=.tuple #[u,aJ]/\GV w' u (q0*q1) (n0+n1+1)):=by
 have hS:=ae0 w;obtain⟨Ze,Zd,Zc,Yp,I0,S0⟩:=Yp;obtain⟨Z,Y,H,C,U,Q,L,V,S,P,G,W,rfl,YH,YJ,YI⟩:=Yp;replace hS:=hS.bI YH;clear YH;replace hS:=hS.bI YJ;clear YJ;replace hS:=hS.bI YI;clear YI;obtain⟨YL,YK,YG,D,I1,S1⟩:=D;obtain⟨Yx,Yu,Yt,Yw,Yy,Yz,Yv,Yr,T,O,J,Yq,rfl,YE,YF,YD⟩:=D;replace hS:=hS.bI YE;clear YE;replace hS:=hS.bI YF;clear YF;replace hS:=hS.bI YD;clear YD;have l:=(St.al (St.al (St.al hS 42 #[Z,aO Y H C,U,aO Q L V,S,aO P G W] (g:=w.heap.size) ag) 42 #[Yx,aO Yu Yt Yw,Yy,aO Yz Yv Yr,T,aO O J Yq] (g:=(w.heap.size+1)) ag) 42 aQ3 (g:=(w.heap.size+2)) ag);have YC:=(l.aH 2).cell;have YB:=(l.aH 1).cell;go_enter func164,ntmps164;go_wp2_with fail;clear YC YB;clear l;refine gA4 hS 42 #[Z,aO Y H C,U,aO Q L V,S,aO P G W] 42 #[Yx,aO Yu Yt Yw,Yy,aO Yz Yv Yr,T,aO O J Yq] 42 aQ3 42 #[Z,aO Y H C,U,aO Q L V,S,aO P G W,Yx,aO Yu Yt Yw,Yy,aO Yz Yv Yr,T,aO O J Yq] ?_;clear hS;intro w1 g2 o2 g3 o3 g4 o4 g9 o9 hS;refine(kN g9 q0 q1 n0 n1 _ (hS.aH 0) ⟨_,_,_,RG.mk (hS.aF 5) (hS.aF 4) (hS.aF 3),I0,S0⟩ aa ⟨_,_,_,RG.mk (hS.aF 2) (hS.aF 1) (hS.aF 0),I1,S1⟩ aa).mono ?_;rintro e w2 ⟨rfl,F⟩;replace hS:=hS.mv F;clear F;have YA:=(St.al hS 197 #[aJ] (g:=w2.heap.size) ag);have YM:=(YA.aH 4).cell;have YN:=(YA.aH 3).cell;go_wp2_with fail;clear YM YN;clear YA;refine gA1 hS 197 #[aJ] ?_;clear hS;intro w3 g6 o6 hS;obtain⟨YO,YP,YQ,YS⟩:=gX (q0*q1);have Zk:Sz (n0+n1+1) YO YP YQ:=(Bd.mul ⟨_,_,_,I0,S0⟩ ⟨_,_,_,I1,S1⟩).sz YS;refine(mX (K9 g6 _ _ q0 q1 _ _ _ (hS.aH 0) ⟨_,_,_,RG.mk (hS.aF 5) (hS.aF 4) (hS.aF 3),I0,S0⟩ ⟨_,_,_,RG.mk (hS.aF 2) (hS.aF 1) (hS.aF 0),I1,S1⟩ aa) YS).mono ?_;exact Aam
def RI.le{w s A n c k z}(h:RI w (iv s A n c) z)(j:z.natAbs<2^(32*k)):n<=k:=by
 obtain⟨A',n',c',e,K⟩:=h;simp[iv] at e;obtain⟨_,_,rfl,_⟩:=e;rw[<-K.len];exact eG (by rw[show(4294967296:Nat)=2^32 from rfl,<-Nat.pow_mul];exact j)
def VB (w:World) (v:Value) (b:Bool):Prop:=∀w',Ext w w'->(CE 95 #[v] w' (.bool b))/\True
def VB.ext{w w' v b}(h:VB w v b)(x:Ext w w'):VB w' v b:=fun w'' x'=>h w'' (x.trans x')
def VB.e{w v b}(h:VB w v b):CE 95 #[v] w (.bool b):=(h w (Ext.refl w)).1
def GV.vb{w v q n}(h:GV w v q n)(hn:n<=12800):VB w v ε:=fun w' x=>⟨pR v q n w' (h.ext x) hn,trivial⟩
def agD{w s A n c z}(h:RI w (iv s A n c) z)(j:z≠0):((n:Int)==0)=ζ:=by
 obtain⟨A',n',c',e,K⟩:=h;simp[iv] at e;obtain⟨_,_,rfl,_⟩:=e;have:=(lZ K.len).2 aa;simp;omega
def agB{w s A n c z}(h:RI w (iv s A n c) z)(j:z=0):((n:Int)==0)=ε:=by
 obtain⟨A',n',c',e,K⟩:=h;simp[iv] at e;obtain⟨_,_,rfl,_⟩:=e;have:=(lZ K.len);simp;omega
def RZ (a d b e r n:Int):Prop:=Le3 ((2*n-1)*r*(d*e)-2*(a*e)) (2*(b*d))
def Ox(s1 A1 n1 c1 s2 A2 n2 c2 s3 A3 n3 c3 w):
  CE 136 #[gv s1 A1 n1 c1 s2 A2 n2 c2 s3 A3 n3 c3] w (.bool (decide (n1=0)&&decide (n2=0))):=by
 have F:=Blk.new w 42 #[s1,aO A1 n1 c1,s2,aO A2 n2 c2,s3,aO A3 n3 c3];have k0:=F.cell;by_cases l:n1=0
 .have G:((n1:Int)==0)=ε:=ae;have B:=aW l;clear l;by_cases j:n2=0
  .have D:((n2:Int)==0)=ε:=ae;have C:=aW j;clear j;go_enter aec,adE;go_wp2;go_ret;exact⟨bE (by simp[B.o,C.o]),Ext.new _ _⟩
  .have D:((n2:Int)==0)=ζ:=ae;have C:=aW j;clear j;go_enter aec,adE;go_wp2;go_ret;exact⟨bE (by simp[C.o]),Ext.new _ _⟩
 .have G:((n1:Int)==0)=ζ:=ae;have B:=aW l;clear l;go_enter aec,adE;go_wp2;go_ret;exact⟨bE (by simp[B.o]),Ext.new _ _⟩
def Da(s1 A1 n1 c1 s2 A2 n2 c2 s3 A3 n3 c3 r w)(h:(decide (n1=0)&&decide (n2=0))=r):
  CE 136 #[gv s1 A1 n1 c1 s2 A2 n2 c2 s3 A3 n3 c3] w (.bool r):=by
 have:=Ox s1 A1 n1 c1 s2 A2 n2 c2 s3 A3 n3 c3 w;rwa[h] at this
def af0{w s A n c z}(h:RI w (iv s A n c) z):decide (n=0)=decide (z=0):=by
 by_cases j:z=0
 .have:=agB h j;simp at this;simp[this,j]
 .have:=agD h j;simp at this;simp[this,j]
def Is.Qw{q a b d}(h:Is q a b d):q=GQ.i 0 0↔a=0/\b=0:=by
 have hd:=ig h.dne;constructor
 .intro e;have j:=h.re;have l:=h.im;rw[e] at j l;simp only[GQ.dM,GQ.dJ] at j l;have C:(a:Rat)=0:=ak;have B:(b:Rat)=0:=ak;exact⟨by exact_mod_cast C,by exact_mod_cast B⟩
 .rintro⟨rfl,rfl⟩;ext
  .rw[h.re];simp only[GQ.dM];grind
  .rw[h.im];simp only[GQ.dJ];grind
def GV.zero{w q n n1 c1 n2 c2 n3 c3 s1 s2 s3 A1 A2 A3}(h:GV w (gv s1 A1 n1 c1 s2 A2 n2 c2 s3 A3 n3 c3) q n):(decide (n1=0)&&decide (n2=0))=ε↔q=GQ.i 0 0:=by
 obtain⟨a,b,d,l,j,_⟩:=h;obtain⟨r1,r2,B⟩:=RG.inj l;rw[af0 r1,af0 r2,j.Qw];simp
def GV.opn{w v q n}(h:GV w v q n):∃s1 A1 n1 c1 s2 A2 n2 c2 s3 A3 n3 c3,v=gv s1 A1 n1 c1 s2 A2 n2 c2 s3 A3 n3 c3:=by
 obtain⟨a,b,d,⟨s1,A1,n1,c1,s2,A2,n2,c2,s3,A3,n3,c3,e,_⟩,_⟩:=h;exact⟨s1,A1,n1,c1,s2,A2,n2,c2,s3,A3,n3,c3,e⟩
def IJ(v q n w)(L:GV w v q n)(h:q≠GQ.i 0 0):
  CE 136 #[v] w (.bool ζ):=by
 obtain⟨s1,A1,n1,c1,s2,A2,n2,c2,s3,A3,n3,c3,rfl⟩:=L.opn;exact Da _ _ _ _ _ _ _ _ _ _ _ _ _ w AbD
def agr{x y n1 n2}(J:Bd x n1)(R:Bd y n2)(h:y≠GQ.i 0 0):Bd (x/y) (n1+(n2+n2+1)):=by
 obtain⟨a,b,d,i1,s1⟩:=J;obtain⟨a',b',d',M,s2⟩:=R;obtain⟨u,v,t,l⟩:=gX (x/y);have j:=M.ne0 h;have E:=i1.Lf M j l;have C:=bS (jC (bS s1.a s2.a) (bS s1.b s2.b)) s2.d;have D:=bS (sG (bS s1.b s2.a) (bS s1.a s2.b)) s2.d;have B:=bS s1.d (jC (bS s2.a s2.a) (bS s2.b s2.b));exact⟨u,v,t,l,jR (n:=n1+(n2+n2+1)) (nk i1.dne (qI j)) E (jA C aa) (jA D aa) B⟩
def TP(M I B D N J j C K L G H R w)(O:VB w (gv M I B D N J j C K L G H) R)(S:Hid ((decide (B=0)&&decide (j=0))=ε)):
  CE 90 #[gv M I B D N J j C K L G H] w (.bool R):=by
 have hS:=ae0 w;have l:=(St.al hS 42 #[M,aO I B D,N,aO J j C,K,aO L G H] (g:=w.heap.size) ag);have Q:=(l.aH 0).cell;go_enter func90,ntmps90;go_wp2_with fail;clear Q;clear l;refine gA1 hS 42 #[M,aO I B D,N,aO J j C,K,aO L G H] ?_;clear hS;intro w1 g1 o1 hS;refine(Da M I B D N J j C K L G H ε _ S.o).mono ?_;rintro e w2 ⟨rfl,F⟩;replace hS:=hS.mv F;clear F;have P:=(hS.aH 0).cell;go_wp2_with fail;clear P;refine(VB.e (O.ext hS.ext)).mono ?_;rintro e T ⟨rfl,F⟩;exact AaJ
def Uu(M I B D N J j C K L G H R w)(O:VB w (gv M I B D N J j C K L G H) R)(Q:Hid ((decide (B=0)&&decide (j=0))=ζ)):
  CE 90 #[gv M I B D N J j C K L G H] w (.bool ζ):=by
 have hS:=ae0 w;have l:=(St.al hS 42 #[M,aO I B D,N,aO J j C,K,aO L G H] (g:=w.heap.size) ag);have P:=(l.aH 0).cell;go_enter func90,ntmps90;go_wp2_with fail;clear P;clear l;refine gA1 hS 42 #[M,aO I B D,N,aO J j C,K,aO L G H] ?_;clear hS;intro w1 g1 o1 hS;refine(Da M I B D N J j C K L G H ζ _ Q.o).mono ?_;rintro e w2 ⟨rfl,F⟩;exact AaJ
def yt(v q n w)(L:GV w v q n)(hn:n<=12800)(h:q=GQ.i 0 0):
  CE 90 #[v] w (.bool ε):=by
 obtain⟨s1,A1,n1,c1,s2,A2,n2,c2,s3,A3,n3,c3,rfl⟩:=L.opn;exact TP _ _ _ _ _ _ _ _ _ _ _ _ _ w (L.vb hn) (aW (L.zero.2 h))
def Bh(v q n w)(L:GV w v q n)(hn:n<=12800)(h:q≠GQ.i 0 0):
  CE 90 #[v] w (.bool ζ):=by
 obtain⟨s1,A1,n1,c1,s2,A2,n2,c2,s3,A3,n3,c3,rfl⟩:=L.opn;exact Uu _ _ _ _ _ _ _ _ _ _ _ _ _ w (L.vb hn) (aW AbD)
def WY(v0 q0 n0 v1 q1 n1 w)(Yp:GV w v0 q0 n0)(D:GV w v1 q1 n1)(H0:Hid (q1≠GQ.i 0 0))(hn:4*max n0 n1+3<=12800):
  CV 137 #[v0,v1] w fun v w'=>(∃u,v=.tuple #[u,aJ]/\GV w' u (q0/q1) (n0+(n1+n1+1))):=by
 have hS:=ae0 w;obtain⟨Ze,Zd,Zc,Yp,I0,S0⟩:=Yp;obtain⟨Z,Y,H,C,U,Q,L,V,S,P,G,W,rfl,YH,YJ,YI⟩:=Yp;replace hS:=hS.bI YH;clear YH;replace hS:=hS.bI YJ;clear YJ;replace hS:=hS.bI YI;clear YI;obtain⟨YL,YK,YG,D,I1,S1⟩:=D;obtain⟨Yx,Yu,Yt,Yw,Yy,Yz,Yv,Yr,T,O,J,Yq,rfl,YE,YF,YD⟩:=D;replace hS:=hS.bI YE;clear YE;replace hS:=hS.bI YF;clear YF;replace hS:=hS.bI YD;clear YD;have l:=(St.al (St.al (St.al hS 42 #[Z,aO Y H C,U,aO Q L V,S,aO P G W] (g:=w.heap.size) ag) 42 #[Yx,aO Yu Yt Yw,Yy,aO Yz Yv Yr,T,aO O J Yq] (g:=(w.heap.size+1)) ag) 42 aQ3 (g:=(w.heap.size+2)) ag);have YC:=(l.aH 2).cell;have YB:=(l.aH 1).cell;go_enter func137,ntmps137;go_wp2_with fail;clear YC YB;clear l;refine gA4 hS 42 #[Z,aO Y H C,U,aO Q L V,S,aO P G W] 42 #[Yx,aO Yu Yt Yw,Yy,aO Yz Yv Yr,T,aO O J Yq] 42 aQ3 42 #[Z,aO Y H C,U,aO Q L V,S,aO P G W,Yx,aO Yu Yt Yw,Yy,aO Yz Yv Yr,T,aO O J Yq] ?_;clear hS;intro w1 g2 o2 g3 o3 g4 o4 g9 o9 hS;refine(kN g9 q0 q1 n0 n1 _ (hS.aH 0) ⟨_,_,_,RG.mk (hS.aF 5) (hS.aF 4) (hS.aF 3),I0,S0⟩ aa ⟨_,_,_,RG.mk (hS.aF 2) (hS.aF 1) (hS.aF 0),I1,S1⟩ aa).mono ?_;rintro e w2 ⟨rfl,F⟩;replace hS:=hS.mv F;clear F;have YM:=(hS.aH 2).cell;go_wp2_with fail;clear YM;refine(IJ _ q1 (n1) _ ⟨_,_,_,RG.mk (hS.aF 2) (hS.aF 1) (hS.aF 0),I1,S1⟩ H0.o).mono ?_;rintro e w3 ⟨rfl,F⟩;replace hS:=hS.mv F;clear F;have YA:=(St.al hS 197 #[aJ] (g:=w3.heap.size) ag);have YN:=(YA.aH 4).cell;have Za:=(YA.aH 3).cell;go_wp2_with fail;clear YN Za;clear YA;refine gA1 hS 197 #[aJ] ?_;clear hS;intro w4 g6 o6 hS;obtain⟨YQ,YO,YP,YR⟩:=gX (q0/q1);have YU:Sz (n0+(n1+n1+1)) YQ YO YP:=(agr ⟨_,_,_,I0,S0⟩ ⟨_,_,_,I1,S1⟩ H0.o).sz YR;refine(mX (Jn g6 _ _ q0 q1 _ _ _ (hS.aH 0) ⟨_,_,_,RG.mk (hS.aF 5) (hS.aF 4) (hS.aF 3),I0,S0⟩ ⟨_,_,_,RG.mk (hS.aF 2) (hS.aF 1) (hS.aF 0),I1,S1⟩ aa H0.o) YR).mono ?_;exact Aar
structure Mod (S:Nat->Prop) (w w':World):Prop where
 os:w'.os=w.os
 tape:w'.tape=w.tape
 output:w'.output=w.output
 size:w.heap.size<=w'.heap.size
 block:∀k,k<w.heap.size->¬S k->w'.heap[k]? =w.heap[k]?
section
variable {S T:Nat->Prop} {w w' w'':World}
def Mod.refl(S w):Mod S w w:=⟨rfl,rfl,rfl,κ _,fun _ _ _=>rfl⟩
def Mod.trans(h:Mod S w w')(k:Mod S w' w''):Mod S w w'':=
 ⟨k.os.trans h.os,k.tape.trans h.tape,k.output.trans h.output,Ξ h.size k.size,fun i hi hs=>(k.block i (ο hi h.size) hs).trans (h.block i hi hs)⟩
def ae1(h:Ext w w'):Mod S w w':=⟨h.os,h.tape,h.output,h.size,fun k j _=>h.block k j⟩
def Mod.mono(h:Mod S w w')(hs:∀k,S k->T k):Mod T w w':=⟨h.os,h.tape,h.output,h.size,fun k j hn=>h.block k j (fun e=>hn (hs k e))⟩
def Mod.only{g}(h:Only g w w')(j:S g):Mod S w w':=
 ⟨h.os,h.tape,h.output,h.size,fun k l hn=>h.block k l (fun e=>hn (by first|(injection e with e;exact e ▸ j)|exact e ▸ j))⟩
def Blk.mod{g t cs}(h:Blk w g t cs)(m:Mod S w w')(j:¬S g):Blk w' g t cs:=(m.block g h.lt j).trans h
def Far (S:Nat->Prop) (w:World):Prop:=∀g,S g->g<w.heap.size->∃t cs,Blk w g t cs/\lL cs=ε
def RM.mod{A n c l}(h:RM w A n c l)(m:Mod S w w')(hS:Far S w):RM w' A n c l:=by
 refine⟨⟨h.rd.1,fun hn=> ?_⟩,h.dg,h.nc,h.cm⟩;obtain⟨b,o,rfl,B,hc⟩:=h.rd.plain hn;obtain⟨I,x,e,_,J,_,_⟩:=h.at_ hn;have C:¬S b:=by
  intro hs;obtain⟨t,cs,hb,D⟩:=hS b hs B;have:=hc 0 _ (p9 J);rw[hb.cell] at this;exact uh D _ _ _ this
 exact Aa0
def RI.mod{v z}(h:RI w v z)(m:Mod S w w')(hS:Far S w):RI w' v z:=by
 obtain⟨A,n,c,e,h⟩:=h;exact⟨A,n,c,e,h.mod m hS⟩
def GV.mod{v q n}(h:GV w v q n)(m:Mod S w w')(hS:Far S w):GV w' v q n:=by
 obtain⟨a,b,d,⟨s1,A1,n1,c1,s2,A2,n2,c2,s3,A3,n3,c3,e,l,j,B⟩,I,Z⟩:=h;exact⟨a,b,d,⟨s1,A1,n1,c1,s2,A2,n2,c2,s3,A3,n3,c3,e,l.mod m hS,j.mod m hS,B.mod m hS⟩,I,Z⟩
end
def GV.to{w v q m n}(h:GV w v q m)(hb:Bd q n):GV w v q n:=by
 obtain⟨a,b,d,j,I,Z⟩:=h;exact⟨a,b,d,j,I,hb.sz I⟩
def GV.up{w v q m n}(h:GV w v q m)(hn:m<=n):GV w v q n:=by
 obtain⟨a,b,d,j,I,Z⟩:=h;exact⟨a,b,d,j,I,Z.mono hn⟩
structure En where
 s1:Bool
 A1:Option Addr
 n1:Nat
 c1:Nat
 s2:Bool
 A2:Option Addr
 n2:Nat
 c2:Nat
 s3:Bool
 A3:Option Addr
 n3:Nat
 c3:Nat
def En.v (e:En):Value:=gv e.s1 e.A1 e.n1 e.c1 e.s2 e.A2 e.n2 e.c2 e.s3 e.A3 e.n3 e.c3
def En.cells (e:En):List Value:=[.bool e.s1,.slice e.A1 e.n1 e.c1,.bool e.s2,.slice e.A2 e.n2 e.c2,.bool e.s3,.slice e.A3 e.n3 e.c3]
def GV.en{w v q n}(h:GV w v q n):∃e:En,v=e.v:=by
 obtain⟨s1,A1,n1,c1,s2,A2,n2,c2,s3,A3,n3,c3,e⟩:=h.opn;exact⟨⟨s1,A1,n1,c1,s2,A2,n2,c2,s3,A3,n3,c3⟩,e⟩
def bD (n:Nat) (f:Nat->En):List Value:=(List.range n).flatMap fun j=>(f j).cells
theorem jg(n f):bD (n+1) f=bD n f++(f n).cells:=by
 unfold bD;exact Abt
def bN:∀(n:Nat) (f:Nat->En),(bD n f).length=n*6
 |0,_=>rfl
 |n+1,f=>by
  rw[jg,nH,bN n f];simp[En.cells];omega
def dP{f j t}(l:t<6):∀{n:Nat},j<n->(bD n f)[j*6+t]? =(f j).cells[t]?
 |0,h=>aa
 |n+1,h=>by
  rw[jg];by_cases e:j=n
  .subst e;rw[kC Ab4,bN];congr 1;omega
  .rw[Λ Ab4];exact dP l aa
theorem BJ{n f f'}(h:∀j,j<n->f j=f' j):bD n f=bD n f':=by
 unfold bD;have:∀(L:List Nat),(∀j∈L,f j=f' j)->L.flatMap (fun j=>(f j).cells)=L.flatMap (fun j=>(f' j).cells):=by
  intro L
  induction L with
  |nil=>intro _;rfl
  |cons a L ih=>
   intro h;simp only[List.flatMap_cons];rw[h a (q8),ih (fun j l=>h j (nC _ l))]
 exact this _ (fun j l=>h j (aav.1 l))
def upd {α:Type} (f:Nat->α) (j:Nat) (e:α):Nat->α:=fun i=>if i=j then e else f i
theorem upd_same{α:Type}(f:Nat->α)(j)(e:α):upd f j e j=e:=by unfold upd;rw[ι rfl]
theorem upd_ne{α:Type}{f:Nat->α}{i j}{e:α}(h:i≠j):upd f j e i=f i:=by unfold upd;rw[θ h]
def jL:∀(B:List Value) (l:List Value) (k:Nat),gI l.toArray k B=((l.take k)++(B.take (l.length-k))++l.drop (k+B.length)).toArray
 |[],l,k=>by simp[gI]
 |v::B,l,k=>by
  show gI (l.toArray.setIfInBounds k v) (k+1) B=_;rw[aQ,jL B];congr 1;by_cases h:k<l.length
  .rw[abb,List.take_set,List.drop_set_of_lt aa];have j:((l.take (k+1)).set k v)=l.take k++[v]:=by
    rw[aaN h,abH _ _ ae];simp[aao (aaj h)]
   rw[j];have C:(v::B).take (l.length-k)=v::B.take (l.length-(k+1)):=by
    rw[show l.length-k=(l.length-(k+1))+1 by omega,aaz]
   rw[C];simp only[nV,HV,abM,aaX];rw[show k+1+B.length=k+(B.length+1) by omega]
  .rw[List.set_eq_of_length_le aa];rw[χ (i:=k+1) aa,χ (i:=k) aa,show l.length-k=0 by omega,show l.length-(k+1)=0 by omega];simp only[abh,Z6];rw[aal aa,aal (by simp only[nV];omega)]
def ou{f j n}(e)(F:j<n):gI (bD n f).toArray (j*6) e.cells=(bD n (upd f j e)).toArray:=by
 rw[jL];congr 1;apply aam;intro t;have T:e.cells.length=6:=rfl;rw[bN,T,χ (l:=e.cells) (by rw[T];omega)];have S:((bD n f).take (j*6)).length=j*6:=by rw[Be,bN];omega
 by_cases C:t<j*6
 .rw[HV,Λ (by rw[S];exact C),NK C];have B:t=(t/6)*6+t%6:=aa;rw[B,dP (pz _ aa) aa,dP (pz _ aa) aa,upd_ne aa]
 .by_cases B:t<j*6+6
  .rw[HV,kC (by rw[S];omega),S,Λ (by rw[T];omega)];have D:t=j*6+(t-j*6):=aa
   conv=>rhs;rw[D]
   rw[dP aa F,upd_same]
  .rw[kC (by rw[nH,S,T];omega),nH,S,T,Zb];rw[show j*6+6+(t-(j*6+6))=t by omega];by_cases D:t<n*6
   .have G:t=(t/6)*6+t%6:=aa;rw[G,dP (pz _ aa) aa,dP (pz _ aa) aa,upd_ne aa]
   .rw[qa Ab4,qa Ab4]
theorem dI(n f):lL (bD n f).toArray=ε:=by
 unfold lL;simp only[qb];intro v hv;unfold bD at hv;obtain⟨j,_,hv⟩:=ac9.1 hv;unfold En.cells at hv;simp only[lh,I6,aaM] at hv;rcases hv with rfl|rfl|rfl|rfl|rfl|rfl<;>rfl
def dN (w:World) (g n:Nat) (x:Nat->GQ):Prop:=∃f:Nat->En,Blk w g 42 (bD n f).toArray/\∀j,j<n->GV w (f j).v (x j) 12800
def dN.ext{w w' g n x}(h:dN w g n x)(e:Ext w w'):dN w' g n x:=by
 obtain⟨f,C,l⟩:=h;exact⟨f,C.ext e,fun j B=>(l j B).ext e⟩
def dN.mod{S w w' g n x}(h:dN w g n x)(m:Mod S w w')(hS:Far S w)(D:¬S g):dN w' g n x:=by
 obtain⟨f,C,l⟩:=h;exact⟨f,C.mod m D,fun j B=>(l j B).mod m hS⟩
def dN.congr{w g n x y}(h:dN w g n x)(e:∀j,j<n->x j=y j):dN w g n y:=by
 obtain⟨f,C,B⟩:=h;exact⟨f,C,fun j l=>e j l ▸ B j l⟩
def dN.put{w g n j f x}{e:En}{q}(hb:Blk w g 42 (bD n f).toArray)(J:∀j,j<n->GV w (f j).v (x j) 12800)(C:j<n)(O:GV w e.v q 12800):
  dN (puts w g (j*6) e.cells) g n (upd x j q)/\Mod (fun k=>k=g) w (puts w g (j*6) e.cells):=by
 have l:Mod (fun k=>k=g) w (puts w g (j*6) e.cells):=Mod.only (gP _ _ _ _) rfl;have hS:Far (fun k=>k=g) w:=fun k B _=>by subst B;exact⟨_,_,hb,dI _ _⟩
 refine⟨⟨upd f j e,?_,fun i hi=> ?_⟩,l⟩
 .rw[<-ou e C];exact dm _ _ hb
 .by_cases h:i=j
  .subst h;rw[upd_same,upd_same];exact O.mod l hS
  .rw[upd_ne h,upd_ne h];exact(J i hi).mod l hS
def Nam (w:World) (M n:Nat) (l:List ByteArray):Prop:=
 ∃D:DataW Unit,w.ownsMap prog 9 (plainElem prog 4) M n D/\Maps.IsMap D/\∀s:ByteArray,s.size<=maxLen->D.atKey (.string s.data.toList) (.lit (.bool ζ))=.lit (.bool (vK s l))
def BR:Maps.Keyed prog 9:=Maps.string_keyed ada
def Te{s}(hs:s.size<=maxLen):keyOf prog 9 (.string s)=γ (.string s.data.toList):=WideMaps.keyOf_string_mk ada hs
def EK(s x):∀l:List ByteArray,vK s (l++[x])=(vK s l||decide (x=s))
 |[]=>by simp[vK]
 |y::l=>by
  show(decide (y=s)||vK s (l++[x]))=(decide (y=s)||vK s l||decide (x=s));rw[EK s x l,Bool.or_assoc]
theorem wG{H:Type}{P e}(O:P.underlying e=γ .bool){v}{z:DataW H×List MemPlace}(h:plainElem P e v=γ z):∃x,v=.bool x/\z=(.lit (.bool x),[]):=by
 unfold plainElem at h;rw[O] at h;cases v<;>simp at h
 exact⟨_,rfl,h.symm⟩
section
variable {w w':World} {M n:Nat} {l:List ByteArray}
def QX(w:World):Nam (w.alloc (.map #[] 0)) w.heap.size 0 []:=
 ⟨_,World.ownsMap_made w _ _ _,⟨_,rfl⟩,fun s _=>rfl⟩
def Nam.ext(h:Nam w M n l)(x:Ext w w'):Nam w' M n l:=by
 obtain⟨D,B,C,F⟩:=h;have Z:=B.lt;obtain⟨G,j,hb,r⟩:=B;exact⟨D,⟨G,j,(x.block M Z).trans hb,r⟩,C,F⟩
def Nam.lt(h:Nam w M n l):M<w.heap.size:=by obtain⟨D,j,_⟩:=h;exact j.lt
def Nam.look(h:Nam w M n l)(s)(hs:s.size<=maxLen):(Instr.lookup 183 (.map (γ M)) (.string s) ζ).run prog w=.ok (.bool (vK s l)) w:=by
 obtain⟨D,C,_,F⟩:=h;obtain⟨v,ps,B,hv⟩:=C.lookup BR aby (by kernel_rfl:(zeroValue 4).run prog w=.ok (.bool ζ) w) (ab5 aaP ζ) (Te hs);rw[B];rw[F s hs] at hv;obtain⟨x,rfl,j⟩:=wG aaP hv;simp only[Prod.mk.injEq,DataW.lit.injEq,Lit.bool.injEq] at j;rw[j.1]
def Nam.put{D:DataW Unit}(H:w.ownsMap prog 9 (plainElem prog 4) M n D)(B:Maps.IsMap D)(F:∀s:ByteArray,s.size<=maxLen->D.atKey (.string s.data.toList) (.lit (.bool ζ))=.lit (.bool (vK s l))){x}(C:w'.ownsMap prog 9 (plainElem prog 4) M (n+1) (D.put (.string x.data.toList) (.lit (.bool ε)))):Nam w' M (n+1) (l++[x]):=by
 refine⟨_,C,?_,fun s hs=> ?_⟩
 .obtain⟨G,rfl⟩:=B;exact⟨_,rfl⟩
 .rw[EK];by_cases e:x=s
  .subst e;rw[Maps.atKey_put_same B (by first|exact True.intro|simp[WideAt.IsKeyLit])];simp
  .rw[Maps.atKey_put_other (fun j=>e (by
    injection j with j;cases s with|mk a=>cases x with|mk b=>exact congrArg ByteArray.mk (Array.toList_inj.1 j.symm))),F s hs]
   simp[e]
end
def mJ{S w w' base e size n v xs}(h:w.ownsRow base e size v n xs)(m:Mod S w w')(hs:∀g,v.ownBlock=γ g->¬S g):w'.ownsRow base e size v n xs:=by
 refine⟨h.1,?_⟩;rcases h.2 with hn|⟨g,G,cur,hv,hb,l,j⟩
 .exact .inl hn
 .subst hv;exact .inr ⟨g,G,cur,rfl,hb,(m.block g (aaK.1 l).1 (hs g rfl)).trans l,j⟩
def Mod.grown{S w w' row}(h:w.grownBy w' row)(hs:∀g,row=γ g->S g):Mod S w w':=
 ⟨h.os,h.tape,h.output,h.size,fun k j hn=>h.block k j (fun e=>hn (hs k e.symm))⟩
def Mod.below{S w w' B}(h:Mod S w w')(hs:∀k,S k->B<=k)(l:B<=w.heap.size):Below B w w':=
 ⟨h.os,h.tape,h.output,h.size,fun k j=>h.block k (ο j l) (fun e=>by have:=hs k e;omega)⟩
def Nam.mod{S w w' M n}{l:List ByteArray}(h:Nam w M n l)(m:Mod S w w')(hs:¬S M):Nam w' M n l:=by
 have Z:=h.lt;obtain⟨D,⟨G,j,hb,r⟩,B,C⟩:=h;exact⟨D,⟨G,j,(m.block M Z hs).trans hb,r⟩,B,C⟩
structure BSt (w:World) (M B:Nat) (l:List ByteArray) (m0 m1 m2:Nat) (bs:List (il×Hd)):Prop where
 ord:M<B
 nm:Nam w M l.length l
 rows:∃v0 v1 v2 v3,Blk w B 185 #[ByteArray.empty,v0,v1,v2,v3,.map (γ M)]/\(∃xs,w.ownsRow (B+1) 9 1 v0 m0 xs)/\(∃xs,w.ownsRow (B+1) 63 5 v1 m1 xs)/\
  (∃xs,w.ownsRow (B+1) 83 6 v2 m2 xs)/\w.ownsRow (B+1) 57 12 v3 bs.length (bs.flatMap fun x=>j6 x.1 x.2)
section
variable {w w':World} {M B m0 m1 m2:Nat} {l:List ByteArray} {bs:List (il×Hd)}
def BSt.ext(h:BSt w M B l m0 m1 m2 bs)(x:Ext w w'):BSt w' M B l m0 m1 m2 bs:=by
 obtain⟨J,G,v0,v1,H,F,hb,⟨j,C⟩,⟨K,L⟩,⟨N,D⟩,I⟩:=h;exact⟨J,G.ext x,v0,v1,H,F,hb.ext x,⟨j,eH C x⟩,⟨K,eH L x⟩,⟨N,eH D x⟩,eH I x⟩
end
def Bi(w):Calls prog 71 #[] w fun e w'=>e=.returned (.pointer (γ (aM (w.heap.size+1) 0)))/\BSt w' w.heap.size (w.heap.size+1) [] 0 0 0 []/\Ext w w':=by
 have j:= @run_makeMap prog;go_enter func71,ntmps71;go_wp2;go_ret;refine⟨rfl,⟨abp _,(QX w).ext (Ext.new _ _),_,_,_,_,aeW _ _ ag,⟨_,PI _ _ _ _⟩,⟨_,PI _ _ _ _⟩,⟨_,PI _ _ _ _⟩,PI _ _ _ _⟩,(Ext.new _ _).trans (Ext.new _ _)⟩
theorem jh{w M B m0 m1 m2}{l:List ByteArray}{bs:List (il×Hd)}(h:BSt w M B l m0 m1 m2 bs)(s):
  Calls prog 114 #[aN B 0,.string s] w fun e w'=>e=.returned (.int .i64 (eu l s))/\w=w':=by
 have F:∀w:World,Calls prog 70 #[s] w fun e w'=>e=.returned (.bool (fJ s))/\w=w':=fun w=>(JE s w).mono (fun e w' D=>⟨D.1,D.2.symm⟩);cases hn:fJ s
 .have C:Hid (eu l s=7):=aW (by simp[eu,hn]);go_enter func114,ntmps114;(go_wp2_with (first|(go_at_call 70;refine(F _).mono ?_;rintro e w1 ⟨rfl,rfl⟩)));go_ret;exact⟨aY C.symm,rfl⟩
 .have j:s.size<=maxLen:=by
   have:=hn;simp only[fJ,ρ,Θ] at this;unfold maxLen;omega
  obtain⟨_,H,v0,v1,K,J,hb,_⟩:=h;have G:=H.look s j;have kB:=hb.cell;have C:Hid (eu l s=if vK s l=ε then 8 else 0):=aW (by simp only[eu,hn];rfl);clear H j;cases hi:vK s l
  all_goals
   rw[hi] at G;have I:=aW hi;clear hi;go_enter func114,ntmps114;(go_wp2_with (first|(go_at_call 70;refine(F _).mono ?_;rintro e w1 ⟨rfl,rfl⟩)));go_ret;exact⟨aY (by rw[C.o,I.o];rfl),rfl⟩
def oL{w w' M B e G size j n n' v L xs C}(R:w.ownsRow (B+1) e size v n xs)(S:w.ownsRow (B+1) G j L n' C)(D:e≠G)(H:M<B)(m:Mod (fun k=>k=M\/k=B\/L.ownBlock=γ k\/w.heap.size<=k) w w'):w'.ownsRow (B+1) e size v n xs:=by
 refine mJ R m fun g F=> ?_;have I:=R.lt g F;rintro(h|h|h|h)
 .omega
 .omega
 .rcases uF R S D with l|l
  .rw[F] at l;cases l
  .exact l (F.trans h.symm)
 .omega
def step_mod{w w2 j:World}{M B}{o:Obj}{v:Value}{i u}(V:w.grownBy w2 (γ M))(L:(w2.alloc o).grownBy j v.ownBlock):
  Mod (fun k=>k=M\/k=B\/v.ownBlock=γ k\/w.heap.size<=k) w (j.setCell ⟨B,i,δ⟩ u):=
 ((((Mod.grown V (fun g e=> .inl (by injection e with e;exact e.symm))).trans (ae1 (Ext.new _ _))).trans (Mod.grown L (fun g e=> .inr (.inr (.inl e))))).trans (Mod.only (Only.set _ _ _ _) (.inr (.inl rfl))))
def sD{w w' M B v e size n xs}(R:w.ownsRow (B+1) e size v n xs)(j:M<B)(l:B<w.heap.size)(m:Mod (fun k=>k=M\/k=B\/v.ownBlock=γ k\/w.heap.size<=k) w w'):Below M w w':=
 m.below (fun k h=>by
  rcases h with h|h|h|h
  .omega
  .omega
  .have:=(R.lt k h).1;omega
  .omega) aa
def xY{w2 j M B n}{o:Obj}{v i u}{l:List ByteArray}{e size k xs}(h:Nam w2 M n l)(R:w2.ownsRow (B+1) e size v k xs)(C:M<B)(L:(w2.alloc o).grownBy j v.ownBlock):
  Nam (j.setCell ⟨B,i,δ⟩ u) M n l:=
 h.mod (S:=fun k=>k=B\/v.ownBlock=γ k) (((ae1 (Ext.new _ _)).trans (Mod.grown L (fun g e=> .inr e))).trans (Mod.only (Only.set _ _ _ _) (.inl rfl))) (by
  rintro(h|h)
  .omega
  .have:=(R.lt M h).1;omega)
theorem tK{s}(h:fJ s=ε):s.size<=maxLen:=by
 simp only[fJ,ρ,Θ] at h;unfold maxLen;omega
theorem xD{l:List ByteArray}{s}(h:eu l s=0):fJ s=ε:=by
 unfold eu at h;split at h
 .assumption
 .cases h
def TK{w M B m0 m1 m2}{l:List ByteArray}{bs:List (il×Hd)}(h:BSt w M B l m0 m1 m2 bs)(s)(Z:l.length<=1000)(K:m0<=1000):
  Calls prog 73 #[aN B 0,.string s] w fun e w'=>e=.returned (.int .i64 (eu l s))/\Below M w w'/\(eu l s=0->BSt w' M B (l++[s]) (m0+1) m1 m2 bs):=by
 have HB:=aW h;generalize O:eu l s=en;have HE:=aW O;by_cases R:en=0
 rotate_left
 .have q0:((en:Int) !=0)=ε:=by simp;exact R
  have HN:=aW R;clear h O R;go_enter func73,ntmps73;go_wp2_with fail;refine(jh HB.o s).mono ?_;rintro e w1 ⟨rfl,rfl⟩;rw[HE.o];go_wp2;go_ret;exact⟨rfl,acl _ _,fun e=>absurd e HN.o⟩
 .subst R;have T:=tK (xD O);obtain⟨C,hN,v0,v1,v2,v3,hb,⟨x0,r0⟩,⟨x1,r1⟩,⟨x2,r2⟩,r3⟩:=h;obtain⟨D,d1,d2,d3⟩:=hN;have kB:=hb.cell;have j:=hb.frozen;have Zi:=aW hb;have I:=aW r0;have R1:=aW r1;have R2:=aW r2;have R3:=aW r3;have D1:=aW d1;have D2:=aW d2;have D3:=aW d3;have J:=hb.lt;clear O hb r0 r1 r2 r3 d1 d2 d3;go_enter func73,ntmps73;go_wp2_with fail;refine(jh HB.o s).mono ?_;rintro e w1 ⟨rfl,rfl⟩;rw[HE.o];(go_wp2_with (first|(at_mapUpdate;refine abP _ rfl _ _ _ 183 rfl 9 4 BR aby (plainElem prog 4) M l.length D rfl D1.o AdA _ _ (.string s.data.toList) rfl rfl (Te T) (.lit (.bool ε)) [] (ab5 aaP ε) ?_)));intro w2 N V;have F:=gN V Zi.o AbP;have r2:w2.ownsRow (B+1) 9 1 v0 m0 x0:=I.kept V (.inr (fun e=>by have:=(I.lt M e).1;omega));have ZC:=V.size;have RR:=aW r2;have G2:=aW V;have Za:=aW N;have k2:=F.cell;have f2:=F.frozen;have U:=aW F;clear F r2 V N kB j;have Yz:B<w2.heap.size:=aa;(go_wp2_with (at_builtin;refine eX uu rfl (.tmp 22) (.tmp 24) rfl (B+1) _ m0 _ rf (RR.alloc _) w2.heap.size 1 1 [.string s] rf (Blk.new _ _ _) rfl AaB aa aa aa Adr ?_));intro g G w3 P L H W;have Y:=gN L (U.alloc _) (kG RR.o (abp _));have k3:=Y.cell;have f3:=Y.frozen;have Zc:=Y.lt;have Yu:=aW Y;have G3:=aW L;have Q:=aW P;clear Y L P H W k2 f2;go_wp2;go_ret;have K:=step_mod (B:=B) (i:=1) (u:=.slice (γ (aM g 0)) (m0+1) G) G2.o G3.o;refine⟨rfl,sD I.o C J K,fun _=>⟨C,?_,_,_,_,_,Yu.mM 1 _,⟨_,mJ Q.o (Mod.only (S:=fun k=>k=B) (Only.set _ _ _ _) rfl) (fun g' YH=>by have:=(Q.lt g' YH).1;omega)⟩,⟨_,oL R1.o I.o aj C K⟩,⟨_,oL R2.o I.o aj C K⟩,oL R3.o I.o aj C K⟩⟩;have hn:=xY (B:=B) (i:=1) (u:=.slice (γ (aM g 0)) (m0+1) G) (Nam.put D1.o D2.o D3.o Za.o) RR.o C G3.o;simpa using hn
structure oH (w:World) (bs:List Nat) where
 val:World
 kept:∀b∈bs,val.heap[b]? =w.heap[b]?
instance (w:World) (bs:List Nat):Nonempty (oH w bs):=⟨⟨w,fun _ _=>rfl⟩⟩
def oH.blk{w bs g t cs}(h:Blk w g t cs)(j:g∈bs)(x:oH w bs)(i):x.val.cell? (aM g i)=cs[i]? :=
 (show Blk x.val g t cs from (x.kept g j).trans h).cell i
def oI{P:Program}{Q I a}{w:World}{l:List Oper}(n f S)(J post:List (Bool×Nat))(R:P.follows .mixedOrders=ε)(N:(Region.noSelect l.toArray&&Region.sinkB .any l.toArray n&&Region.chainB .any l.toArray n&&decide (n<l.length)&&decide (J.length+(post.length+1)=n)&&ui l.toArray n f post J (Array.replicate l.length ζ))=ε)(hS:S w.drew)(h:lN P l.toArray S (fun a' w'=>wpList P l.toArray Q (l.drop n) a' w') f post J a w.drew):(Code.region I l.toArray ε).wp P Q a w:=by
 simp only[ρ,Θ] at N;obtain⟨⟨⟨⟨⟨C,hs⟩,hc⟩,hn⟩,T⟩,F⟩:=N;have K:n<l.toArray.size:=by simpa using hn
 have D:HeadInv .any l.toArray n (Array.replicate l.length ζ):=
  ⟨ag,fun j U _ Z=>AaX,fun t _ O=>aen (by simpa using O) (aaU _ _)⟩
 have H:=mF (P:=P) C hs hc K J _ a w.drew D F hS h;have G:(l.drop n).length=l.toArray.size-n:=ag;have L:=nU (P:=P) (Q:=Q) (n:=n) (g:=l.toArray.size-n) (fun B a' w' M=>by
  have:=aco (P:=P) (ops:=l.toArray) (md:=.any) (Q':=Q) (l.drop n) n B a' w' (fun j=>ag) (by rw[G];exact M.1) M.2;rwa[G] at this) _ _ _ _ H
 rw[T] at L;have e:n+(l.toArray.size-n)=l.toArray.size:=by simp at hn⊢;omega
 rw[e] at L;refine acN R ?_;simpa using L
def VK (l:zR):Value:=.agg #[l.name,l.z1.r,l.z1.x,l.z0.r,l.z0.x]
def O8:Elem prog 23 63 5 48:=afa underlying23 (z:=.agg #[ByteArray.empty,aJ,aJ,aJ,aJ]) ah rfl aa
def Jq:Elem prog 24 83 6 56:=afa underlying24 (z:=.agg #[ByteArray.empty,aJ,aJ,aJ,aJ,aJ]) ah rfl aa
theorem SL{w M B m0 m1 m2}{l:List ByteArray}{bs:List (il×Hd)}(h:BSt w M B l m0 m1 m2 bs)(x)(Z:l.length<=1000)(hm:m1<=1000):
  Calls prog 75 #[aN B 0,VK x] w fun e w'=>e=.returned (.int .i64 (if eu l x.name=0 then (if (okZ x.z1&&okZ x.z0)=ε then 0 else 2) else eu l x.name))/\Below M w w'/\((if eu l x.name=0 then (if (okZ x.z1&&okZ x.z0)=ε then 0 else 2) else eu l x.name)=0->BSt w' M B (l++[x.name]) m0 (m1+1) m2 bs):=by
 have HB:=aW (h.ext (Ext.new w (.cells #[x.name,x.z1.r,x.z1.x,x.z0.r,x.z0.x] 63)));generalize hr:(if eu l x.name=0 then (if (okZ x.z1&&okZ x.z0)=ε then 0 else 2) else eu l x.name)=en;have HE:=aW hr;clear hr;generalize O:eu l x.name=ne at HE;have YS:=aW O;have F:=h.ord;have Zx:B<w.heap.size:=by obtain⟨_,_,_,_,_,_,hb,_⟩:=h;exact hb.lt
 have Zj:Hid (Below M w (aL w #[x.name,x.z1.r,x.z1.x,x.z0.r,x.z0.x] 63)):=aW ((Ext.new _ _).mono aa);obtain⟨-,YL⟩:=an1 w 63 #[x.name,x.z1.r,x.z1.x,x.z0.r,x.z0.x];have YC:=aW YL;clear YL;unfold VK;by_cases h0:ne=0
 rotate_left
 .have q0:((ne:Int) !=0)=ε:=by simp;exact h0
  have T:Hid (en=ne):=aW (by rw[<-HE.o,θ h0]);have HN:=aW h0;clear h O h0;go_enter adl,adb;exact AcA
 subst h0;have YN:=tK (xD O);have T:Hid (en=if (okZ x.z1&&okZ x.z0)=ε then 0 else 2):=aW AdC;clear O HE;cases H:okZ x.z1
 .have C:=aW H;clear H;have Q:Hid (en=2):=aW (by rw[T.o,C.o];rfl);clear h;go_enter adl,adb;go_wp2_with fail;refine(jh HB.o x.name).mono ?_;rintro e w1 ⟨rfl,rfl⟩;rw[YS.o];go_wp2_with fail;refine(bZ x.z1 _).mono ?_;rintro e w1 ⟨rfl,rfl⟩;rw[C.o];exact AdB
 cases YJ:okZ x.z0
 .have C:=aW H;have N:=aW YJ;clear H YJ;have Q:Hid (en=2):=aW (by rw[T.o,C.o,N.o];rfl);clear h;go_enter adl,adb;go_wp2_with fail;refine(jh HB.o x.name).mono ?_;rintro e w1 ⟨rfl,rfl⟩;rw[YS.o];go_wp2_with fail;refine(bZ x.z1 _).mono ?_;rintro e w1 ⟨rfl,rfl⟩;rw[C.o];go_wp2_with fail;refine(bZ x.z0 _).mono ?_;rintro e w1 ⟨rfl,rfl⟩;rw[N.o];exact Adx
 have C:=aW H;have N:=aW YJ;clear H YJ;have Q:Hid (en=0):=aW (by rw[T.o,C.o,N.o];rfl);have j:Ext w (aL (aL (aL w #[x.name,x.z1.r,x.z1.x,x.z0.r,x.z0.x] 63) #[x.z1.r,x.z1.x] 54) #[x.z0.r,x.z0.x] 54):=(Ext.new _ _).trans (show Ext (aL w #[x.name,x.z1.r,x.z1.x,x.z0.r,x.z0.x] 63) (aL (aL (aL w #[x.name,x.z1.r,x.z1.x,x.z0.r,x.z0.x] 63) #[x.z1.r,x.z1.x] 54) #[x.z0.r,x.z0.x] 54) from ((Ext.new _ _).alloc _));have Zd:Hid (Below M w (aL (aL (aL w #[x.name,x.z1.r,x.z1.x,x.z0.r,x.z0.x] 63) #[x.z1.r,x.z1.x] 54) #[x.z0.r,x.z0.x] 54)):=aW (j.mono aa);have YW:=aW (YC.ext (show Ext (aL w #[x.name,x.z1.r,x.z1.x,x.z0.r,x.z0.x] 63) (aL (aL (aL w #[x.name,x.z1.r,x.z1.x,x.z0.r,x.z0.x] 63) #[x.z1.r,x.z1.x] 54) #[x.z0.r,x.z0.x] 54) from ((Ext.new _ _).alloc _)));obtain⟨_,hN,v0,v1,v2,v3,hb,⟨x0,r0⟩,⟨x1,r1⟩,⟨x2,r2⟩,r3⟩:=h;have YZ:Hid (∀g,v1.ownBlock=γ g->g<w.heap.size):=aW (fun g e=>(r1.lt g e).2);replace hN:=hN.ext j;replace hb:=hb.ext j;replace r0:=eH r0 j;replace r1:=eH r1 j;replace r2:=eH r2 j;replace r3:=eH r3 j;obtain⟨D,d1,d2,d3⟩:=hN;have Zi:=aW hb;have R0:=aW r0;have R1:=aW r1;have R2:=aW r2;have R3:=aW r3;have D1:=aW d1;have D2:=aW d2;have D3:=aW d3;have Zg:=hb.lt;have Y1:=aX.blk hb;have Y2:=aX.blk YW.o;clear hb r0 r1 r2 r3 d1 d2 d3;go_enter adl,adb;go_wp2_with fail;refine(jh HB.o x.name).mono ?_;rintro e w1 ⟨rfl,rfl⟩;rw[YS.o];go_wp2_with fail;refine(bZ x.z1 _).mono ?_;rintro e w1 ⟨rfl,rfl⟩;rw[C.o];go_wp2_with fail;refine(bZ x.z0 _).mono ?_;rintro e w1 ⟨rfl,rfl⟩;rw[N.o];go_wp2_with fail;refine bM 6 [(ε,0),(ε,4),(ε,5),(ζ,1),(ε,2),(ε,3)] ah ah ?_;refine bC [0,4,5] [(ζ,1),(ε,2),(ε,3)] _ ah ?_;refine Gq ?_;refine bz 1 [(ε,2),(ε,3)] ah ?_;intro K I;simp only[bG];go_wp2_with fail;refine I _ _ ⟨⟨_,(Ext.refl _).drew⟩,rfl⟩ ?_;clear I K;refine bC [2,3] [] _ ah ?_;refine Gq ?_;simp only[cK,ξ,τ];clear Y1 Y2;(go_wp2_with (first|(at_mapUpdate;refine abP _ rfl _ _ _ 183 rfl 9 4 BR aby (plainElem prog 4) M l.length D rfl D1.drew AdA _ _ (.string x.name.data.toList) rfl rfl (Te YN) (.lit (.bool ε)) [] (ab5 aaP ε) ?_)));intro w2 Yw V;have YF:=gN V (Zi.drew) AbP;have P:=gN V (YW.drew) AbP;have G2:Hid ((((w.alloc (.cells #[x.name,x.z1.r,x.z1.x,x.z0.r,x.z0.x] 63)).alloc (.cells #[x.z1.r,x.z1.x] 54)).alloc (.cells #[x.z0.r,x.z0.x] 54)).grownBy w2 (γ M)):=aW ⟨V.os,V.tape,V.output,V.size,V.block⟩;have r2:w2.ownsRow (B+1) 63 5 v1 m1 x1:=R1.kept G2.o (.inr (fun e=>by have:=(R1.lt M e).1;omega));have RR:=aW r2;have Za:=aW Yw;have R:=YF.lt;have J:=P.lt;have Y1:=fun(x:oH w2 [B,w.heap.size])=>x.blk YF ag;have Y2:=fun(x:oH w2 [B,w.heap.size])=>x.blk P ag;have U:=aW YF;have W:=aW P;clear YF P r2 Yw V;go_wp2_with fail;refine oI 9 7 (fun w'=>∃x:oH w2 [B,w.heap.size],w'=x.val) [(ε,0),(ε,1),(ε,6),(ζ,2),(ε,3),(ε,4),(ε,5)] [(ζ,8)] ah ah ⟨⟨w2.drew,fun _ _=>rfl⟩,rfl⟩ ?_;refine gJ [0,1,6] [(ζ,2),(ε,3),(ε,4),(ε,5)] _ ah ?_;refine Gq ?_;refine nL 2 [(ε,3),(ε,4),(ε,5)] ah ah ?pA ?pB
 case' pA=>
  intro K I;simp only[bG];go_wp2_with fail;refine I _ _ ⟨⟨w2.drew,fun _ _=>rfl⟩,rfl⟩ ?_;clear I K;refine gJ [3,4,5] [] _ ah ?_;refine Gq ?_;refine qx ah ?_;intro K I;simp only[bG];go_wp2_with fail;refine I _ _ ⟨⟨w2.drew.alloc (.cells #[x.name,x.z1.r,x.z1.x,x.z0.r,x.z0.x] 63),fun b hb=>aas _ _ b Ac2⟩,rfl⟩ ?_;clear I K
 case' pB=>
  intro K I;simp only[bG];go_wp2_with fail;refine I _ _ ⟨⟨w2.drew.alloc (.cells #[x.name,x.z1.r,x.z1.x,x.z0.r,x.z0.x] 63),fun b hb=>aas _ _ b Ac2⟩,rfl⟩ ?_;clear I K;show cK _ _ _ _ [(ζ,2),(ε,3),(ε,4),(ε,5),(ζ,8)] _ _;refine bz 2 [(ε,3),(ε,4),(ε,5),(ζ,8)] ah ?_;intro K I;simp only[bG];go_wp2_with fail;refine I _ _ ⟨⟨w2.drew.alloc (.cells #[x.name,x.z1.r,x.z1.x,x.z0.r,x.z0.x] 63),fun b hb=>aas _ _ b Ac2⟩,rfl⟩ ?_;clear I K;refine bC [3,4,5] [(ζ,8)] _ ah ?_;refine Gq ?_
 all_goals
  refine bz 8 [] ah ?_;intro K I;simp only[bG];(go_wp2_with (at_builtin;refine eX O8 rfl (.tmp 34) (.tmp 36) rfl (B+1) _ m1 _ rf (acC (w:=w2.drew) RR.o _) w2.heap.size 1 1 [.string x.name,.int .i64 x.z1.r,.int .i64 x.z1.x,.int .i64 x.z0.r,.int .i64 x.z0.x] rf (Blk.new w2.drew _ _) rfl AaB aa aa aa Adr ?_));intro g G w3 Yt L YT Yp;have Y:=gN L ((U.drew).alloc _) (kG RR.o (abp _));have Yq:=gN L ((W.drew).alloc _) (fun e=>by have:=YZ.o _ e;omega);have k3:=Y.cell;have f3:=Y.frozen;have Zc:=Y.lt;have Yu:=aW Y;have Yx:=aW Yq;have G3:Hid ((w2.alloc (.cells #[x.name,x.z1.r,x.z1.x,x.z0.r,x.z0.x] 63)).grownBy w3 v1.ownBlock):=aW ⟨L.os,L.tape,L.output,L.size,L.block⟩;have YU:=aW Yt;clear Y Yq L Yt YT Yp;go_wp2_with fail;refine I _ _ ⟨⟨w3,fun b hb=>by
   simp at hb;rcases hb with rfl|rfl
   .exact(Yu.o).trans U.symm
   .exact(Yx.o).trans W.symm⟩,rfl⟩ ?_
  clear I K Y1 Y2;simp only[cK,ξ,τ];go_wp2;go_ret;have hm:=step_mod (B:=B) (i:=2) (u:=.slice (γ (aM g 0)) (m1+1) G) G2.o G3.o;refine⟨aY Q.symm,Zd.trans (sD R1.o F Zg hm),fun _=>⟨F,?_,_,_,_,_,Yu.mM 2 _,⟨_,oL R0.o R1.o aj F hm⟩,⟨_,mJ YU.o (Mod.only (S:=fun k=>k=B) (Only.set _ _ _ _) rfl) (fun g' YH=>by have:=(YU.lt g' YH).1;omega)⟩,⟨_,oL R2.o R1.o aj F hm⟩,oL R3.o R1.o aj F hm⟩⟩;have hn:=xY (B:=B) (i:=2) (u:=.slice (γ (aM g 0)) (m1+1) G) (Nam.put D1.o D2.o D3.o Za.o) RR.o F G3.o;simpa using hn
theorem KE{w M B m0 m1 m2}{l:List ByteArray}{bs:List (il×Hd)}(h:BSt w M B l m0 m1 m2 bs)(x)(Z:l.length<=1000)(hm:m2<=1000):
  Calls prog 77 #[aN B 0,Uh x] w fun e w'=>e=.returned (.int .i64 (if eu l x.name=0 then (if jr x=ε then 0 else 2) else eu l x.name))/\Below M w w'/\((if eu l x.name=0 then (if jr x=ε then 0 else 2) else eu l x.name)=0->BSt w' M B (l++[x.name]) m0 m1 (m2+1) bs):=by
 have HB:=aW (h.ext (Ext.new w (.cells #[x.name,x.emf,x.z1.r,x.z1.x,x.z0.r,x.z0.x] 83)));generalize hr:(if eu l x.name=0 then (if jr x=ε then 0 else 2) else eu l x.name)=en;have HE:=aW hr;clear hr;generalize O:eu l x.name=ne at HE;have YS:=aW O;have J:=h.ord;have Zx:B<w.heap.size:=by obtain⟨_,_,_,_,_,_,hb,_⟩:=h;exact hb.lt
 have Zj:Hid (Below M w (aL w #[x.name,x.emf,x.z1.r,x.z1.x,x.z0.r,x.z0.x] 83)):=aW ((Ext.new _ _).mono aa);obtain⟨-,YL⟩:=an1 w 83 #[x.name,x.emf,x.z1.r,x.z1.x,x.z0.r,x.z0.x];have YC:=aW YL;clear YL;unfold Uh;by_cases h0:ne=0
 rotate_left
 .have q0:((ne:Int) !=0)=ε:=by simp;exact h0
  have T:Hid (en=ne):=aW (by rw[<-HE.o,θ h0]);have HN:=aW h0;clear h O h0;go_enter acH,acv;exact AcA
 subst h0;have YN:=tK (xD O);have T:Hid (en=if jr x=ε then 0 else 2):=aW AdC;clear O HE;cases H:btw x.emf 1 1000000
 .have C:=aW H;clear H;have Q:Hid (en=2):=aW (by rw[T.o];unfold jr;rw[C.o];rfl);clear h;go_enter acH,acv;go_wp2_with fail;refine(jh HB.o x.name).mono ?_;rintro e w1 ⟨rfl,rfl⟩;rw[YS.o];go_wp2_with fail;refine(dL _ _ _ _).mono ?_;rintro e w1 ⟨rfl,rfl⟩;rw[C.o];exact Adf
 cases N:okZ x.z1
 .have C:=aW H;have F:=aW N;clear H N;have Q:Hid (en=2):=aW (by rw[T.o];unfold jr;rw[C.o,F.o];rfl);clear h;go_enter acH,acv;go_wp2_with fail;refine(jh HB.o x.name).mono ?_;rintro e w1 ⟨rfl,rfl⟩;rw[YS.o];go_wp2_with fail;refine(dL _ _ _ _).mono ?_;rintro e w1 ⟨rfl,rfl⟩;rw[C.o];go_wp2_with fail;refine(bZ x.z1 _).mono ?_;rintro e w1 ⟨rfl,rfl⟩;rw[F.o];exact AdB
 cases YJ:okZ x.z0
 .have C:=aW H;have F:=aW N;have YM:=aW YJ;clear H N YJ;have Q:Hid (en=2):=aW (by rw[T.o];unfold jr;rw[C.o,F.o,YM.o];rfl);clear h;go_enter acH,acv;go_wp2_with fail;refine(jh HB.o x.name).mono ?_;rintro e w1 ⟨rfl,rfl⟩;rw[YS.o];go_wp2_with fail;refine(dL _ _ _ _).mono ?_;rintro e w1 ⟨rfl,rfl⟩;rw[C.o];go_wp2_with fail;refine(bZ x.z1 _).mono ?_;rintro e w1 ⟨rfl,rfl⟩;rw[F.o];go_wp2_with fail;refine(bZ x.z0 _).mono ?_;rintro e w1 ⟨rfl,rfl⟩;rw[YM.o];exact Adx
 have C:=aW H;have F:=aW N;have YM:=aW YJ;clear H N YJ;have Q:Hid (en=0):=aW (by rw[T.o];unfold jr;rw[C.o,F.o,YM.o];rfl);have j:Ext w (aL (aL (aL w #[x.name,x.emf,x.z1.r,x.z1.x,x.z0.r,x.z0.x] 83) #[x.z1.r,x.z1.x] 54) #[x.z0.r,x.z0.x] 54):=(Ext.new _ _).trans (show Ext (aL w #[x.name,x.emf,x.z1.r,x.z1.x,x.z0.r,x.z0.x] 83) (aL (aL (aL w #[x.name,x.emf,x.z1.r,x.z1.x,x.z0.r,x.z0.x] 83) #[x.z1.r,x.z1.x] 54) #[x.z0.r,x.z0.x] 54) from ((Ext.new _ _).alloc _));have Zd:Hid (Below M w (aL (aL (aL w #[x.name,x.emf,x.z1.r,x.z1.x,x.z0.r,x.z0.x] 83) #[x.z1.r,x.z1.x] 54) #[x.z0.r,x.z0.x] 54)):=aW (j.mono aa);have YW:=aW (YC.ext (show Ext (aL w #[x.name,x.emf,x.z1.r,x.z1.x,x.z0.r,x.z0.x] 83) (aL (aL (aL w #[x.name,x.emf,x.z1.r,x.z1.x,x.z0.r,x.z0.x] 83) #[x.z1.r,x.z1.x] 54) #[x.z0.r,x.z0.x] 54) from ((Ext.new _ _).alloc _)));obtain⟨_,hN,v0,v1,v2,v3,hb,⟨x0,r0⟩,⟨x1,r1⟩,⟨x2,r2⟩,r3⟩:=h;have YZ:Hid (∀g,v2.ownBlock=γ g->g<w.heap.size):=aW (fun g e=>(r2.lt g e).2);replace hN:=hN.ext j;replace hb:=hb.ext j;replace r0:=eH r0 j;replace r1:=eH r1 j;replace r2:=eH r2 j;replace r3:=eH r3 j;obtain⟨D,d1,d2,d3⟩:=hN;have Zi:=aW hb;have R0:=aW r0;have R1:=aW r1;have R2:=aW r2;have R3:=aW r3;have D1:=aW d1;have D2:=aW d2;have D3:=aW d3;have Zg:=hb.lt;have Y1:=aX.blk hb;have Y2:=aX.blk YW.o;clear hb r0 r1 r2 r3 d1 d2 d3;go_enter acH,acv;go_wp2_with fail;refine(jh HB.o x.name).mono ?_;rintro e w1 ⟨rfl,rfl⟩;rw[YS.o];go_wp2_with fail;refine(dL _ _ _ _).mono ?_;rintro e w1 ⟨rfl,rfl⟩;rw[C.o];go_wp2_with fail;refine(bZ x.z1 _).mono ?_;rintro e w1 ⟨rfl,rfl⟩;rw[F.o];go_wp2_with fail;refine(bZ x.z0 _).mono ?_;rintro e w1 ⟨rfl,rfl⟩;rw[YM.o];go_wp2_with fail;refine bM 6 [(ε,0),(ε,4),(ε,5),(ζ,1),(ε,2),(ε,3)] ah ah ?_;refine bC [0,4,5] [(ζ,1),(ε,2),(ε,3)] _ ah ?_;refine Gq ?_;refine bz 1 [(ε,2),(ε,3)] ah ?_;intro K I;simp only[bG];go_wp2_with fail;refine I _ _ ⟨⟨_,(Ext.refl _).drew⟩,rfl⟩ ?_;clear I K;refine bC [2,3] [] _ ah ?_;refine Gq ?_;simp only[cK,ξ,τ];clear Y1 Y2;(go_wp2_with (first|(at_mapUpdate;refine abP _ rfl _ _ _ 183 rfl 9 4 BR aby (plainElem prog 4) M l.length D rfl D1.drew AdA _ _ (.string x.name.data.toList) rfl rfl (Te YN) (.lit (.bool ε)) [] (ab5 aaP ε) ?_)));intro w2 Yw V;have YF:=gN V (Zi.drew) AbP;have P:=gN V (YW.drew) AbP;have G2:Hid ((((w.alloc (.cells #[x.name,x.emf,x.z1.r,x.z1.x,x.z0.r,x.z0.x] 83)).alloc (.cells #[x.z1.r,x.z1.x] 54)).alloc (.cells #[x.z0.r,x.z0.x] 54)).grownBy w2 (γ M)):=aW ⟨V.os,V.tape,V.output,V.size,V.block⟩;have r2:w2.ownsRow (B+1) 83 6 v2 m2 x2:=R2.kept G2.o (.inr (fun e=>by have:=(R2.lt M e).1;omega));have RR:=aW r2;have Za:=aW Yw;have Yz:=YF.lt;have R:=P.lt;have Y1:=fun(x:oH w2 [B,w.heap.size])=>x.blk YF ag;have Y2:=fun(x:oH w2 [B,w.heap.size])=>x.blk P ag;have U:=aW YF;have W:=aW P;clear YF P r2 Yw V;go_wp2_with fail;refine oI 9 7 (fun w'=>∃x:oH w2 [B,w.heap.size],w'=x.val) [(ε,0),(ε,1),(ε,6),(ζ,2),(ε,3),(ε,4),(ε,5)] [(ζ,8)] ah ah ⟨⟨w2.drew,fun _ _=>rfl⟩,rfl⟩ ?_;refine gJ [0,1,6] [(ζ,2),(ε,3),(ε,4),(ε,5)] _ ah ?_;refine Gq ?_;refine nL 2 [(ε,3),(ε,4),(ε,5)] ah ah ?pA ?pB
 case' pA=>
  intro K I;simp only[bG];go_wp2_with fail;refine I _ _ ⟨⟨w2.drew,fun _ _=>rfl⟩,rfl⟩ ?_;clear I K;refine gJ [3,4,5] [] _ ah ?_;refine Gq ?_;refine qx ah ?_;intro K I;simp only[bG];go_wp2_with fail;refine I _ _ ⟨⟨w2.drew.alloc (.cells #[x.name,x.emf,x.z1.r,x.z1.x,x.z0.r,x.z0.x] 83),fun b hb=>aas _ _ b Ac1⟩,rfl⟩ ?_;clear I K
 case' pB=>
  intro K I;simp only[bG];go_wp2_with fail;refine I _ _ ⟨⟨w2.drew.alloc (.cells #[x.name,x.emf,x.z1.r,x.z1.x,x.z0.r,x.z0.x] 83),fun b hb=>aas _ _ b Ac1⟩,rfl⟩ ?_;clear I K;show cK _ _ _ _ [(ζ,2),(ε,3),(ε,4),(ε,5),(ζ,8)] _ _;refine bz 2 [(ε,3),(ε,4),(ε,5),(ζ,8)] ah ?_;intro K I;simp only[bG];go_wp2_with fail;refine I _ _ ⟨⟨w2.drew.alloc (.cells #[x.name,x.emf,x.z1.r,x.z1.x,x.z0.r,x.z0.x] 83),fun b hb=>aas _ _ b Ac1⟩,rfl⟩ ?_;clear I K;refine bC [3,4,5] [(ζ,8)] _ ah ?_;refine Gq ?_
 all_goals
  refine bz 8 [] ah ?_;intro K I;simp only[bG];(go_wp2_with (at_builtin;refine eX Jq rfl (.tmp 40) (.tmp 42) rfl (B+1) _ m2 _ rf (acC (w:=w2.drew) RR.o _) w2.heap.size 1 1 [.string x.name,.int .i64 x.emf,.int .i64 x.z1.r,.int .i64 x.z1.x,.int .i64 x.z0.r,.int .i64 x.z0.x] rf (Blk.new w2.drew _ _) rfl AaB aa aa aa Adr ?_));intro g G w3 Yt L YT Yp;have Y:=gN L ((U.drew).alloc _) (kG RR.o (abp _));have Yq:=gN L ((W.drew).alloc _) (fun e=>by have:=YZ.o _ e;omega);have k3:=Y.cell;have f3:=Y.frozen;have Zc:=Y.lt;have Yu:=aW Y;have Yx:=aW Yq;have G3:Hid ((w2.alloc (.cells #[x.name,x.emf,x.z1.r,x.z1.x,x.z0.r,x.z0.x] 83)).grownBy w3 v2.ownBlock):=aW ⟨L.os,L.tape,L.output,L.size,L.block⟩;have YU:=aW Yt;clear Y Yq L Yt YT Yp;go_wp2_with fail;refine I _ _ ⟨⟨w3,fun b hb=>by
   simp at hb;rcases hb with rfl|rfl
   .exact(Yu.o).trans U.symm
   .exact(Yx.o).trans W.symm⟩,rfl⟩ ?_
  clear I K Y1 Y2;simp only[cK,ξ,τ];go_wp2;go_ret;have hm:=step_mod (B:=B) (i:=3) (u:=.slice (γ (aM g 0)) (m2+1) G) G2.o G3.o;refine⟨aY Q.symm,Zd.trans (sD R2.o J Zg hm),fun _=>⟨J,?_,_,_,_,_,Yu.mM 3 _,⟨_,oL R0.o R2.o aj J hm⟩,⟨_,oL R1.o R2.o aj J hm⟩,⟨_,mJ YU.o (Mod.only (S:=fun k=>k=B) (Only.set _ _ _ _) rfl) (fun g' YH=>by have:=(YU.lt g' YH).1;omega)⟩,oL R3.o R2.o aj J hm⟩⟩;have hn:=xY (B:=B) (i:=3) (u:=.slice (γ (aM g 0)) (m2+1) G) (Nam.put D1.o D2.o D3.o Za.o) RR.o J G3.o;simpa using hn
theorem JP{w M B m0 m1 m2}{l:List ByteArray}{bs:List (il×Hd)}(h:BSt w M B l m0 m1 m2 bs)(b A n c)(hL:Lks w A n b.links)(hm:m0<=1000):
    CE 118 #[aN B 0,Ac b A n c] w (.int .i64 (iI m0 b)):=by
  have Z:=hL.1;have HL:=aW hL;clear hL;have H:=aW Z;clear Z;obtain⟨_,_,v0,v1,v2,v3,hb,⟨x0,r0⟩,_⟩:=h;obtain⟨A0,c0,rfl,_,_,_⟩:=jD r0;have Zg:=hb.lt;have Zi:=aW hb;clear r0 hb;unfold Ac;by_cases h1:n<1
  · have d1:decide ((n:Int)<1)=ε:=ae;have T:Hid (iI m0 b=3):=aW (rR (Or.inl Ady));exact AcB
  have d1:decide ((n:Int)<1)=ζ:=ae;by_cases h2:2<n
  · have d2:decide ((2:Int)<n)=ε:=ae;have T:Hid (iI m0 b=3):=aW (rR (Or.inr (Or.inl Ady)));exact AcB
  have d2:decide ((2:Int)<n)=ζ:=ae;by_cases h3:b.kind=3/\n≠2
  · obtain⟨hk,Zh⟩:=h3;have d3:((b.kind:Int)==3)=ε:=by simp[hk]
    have d4:((n:Int) !=2)=ε:=ae;have T:Hid (iI m0 b=3):=aW (rR (Or.inr (Or.inr ⟨hk,by have:=H.o;omega⟩)));clear Zh hk;exact AcB
  have T:Hid (iI m0 b=dA (iQ m0 b) n):=aW (by
    have hh:=H.o;have e:=EN (nb:=m0) (x:=b) aa aa (fun hk=>by
      by_cases e:n=2
      · omega
      · exact absurd (And.intro hk e) h3)
    rw[hh] at e;exact e)
  have H3:=aW h3;clear h3;have hd:(∃k3:Bool,((b.kind:Int)==3)=k3/\(k3=ε->((n:Int) !=2)=ζ)):=⟨_,rfl,fun h=>by
    have hk:b.kind=3:=by simpa using h
    have:=H3.o;simp;omega⟩
  obtain⟨k3,d3,d4⟩:=hd;cases k3
  (all_goals (first|(replace d4:=d4 rfl)|clear d4));all_goals
    obtain⟨W,B3⟩:=an1 w 57 #[b.name,b.kind,b.obj,b.en,b.z.r,b.z.x,aO A n c,b.closed,b.ct,b.vt,b.sat,b.travel];have U:=aW (Zi.ext W);have Yu:=aW B3;have D:=aW W;clear B3 W;go_enter func118,ntmps118;go_wp2_with fail
    go_loopw [29] (fun i wr=>∃k:Nat,k<=n/\i=.int .i64 (k:Int)/\(∀j,j<k->iQ m0 b j=0)/\Ext (aL w #[b.name,b.kind,b.obj,b.en,b.z.r,b.z.x,aO A n c,b.closed,b.ct,b.vt,b.sat,b.travel] 57) wr) (aT n)
    case atStart=>exact⟨0,aa,rfl,by intros;omega,Ext.refl _⟩
    case round=>
      obtain⟨k,hk,rfl,hz,J⟩:=hrel;have HZ:=aW hz;have HX:=aW J;have YF:=U.ext J;have Y:=Yu.ext J;have k2:=YF.cell;have k3:=Y.cell;have YY:B<wr.heap.size:=YF.lt;have YQ:w.heap.size<wr.heap.size:=Y.lt;clear hz J YF Y;by_cases Yp:k<n
      · have hd:decide ((k:Int)<n)=ε:=ae;obtain⟨lb,lo,hA,hb,hc⟩:=(HL.ext (D.trans HX.o)).2.at_ Yp;subst hA;have e0:wr.cell? (aM lb (lo+k*2))=γ (.int .i64 (b.links.getD k η).bus):=hc 0 _ rfl;have e1:=hc 1 _ rfl;clear hc;have C:Hid (iQ m0 b k=if btw (b.links.getD k η).bus 0 ((m0:Int)-1)=ε then
    (if (b.links.getD k η).pos≠1/\((b.links.getD k η).pos≠0\/b.kind=3) then 16
     else if 0<k/\(b.links.getD (k-1) η).bus=(b.links.getD k η).bus then 12 else 0)
  else 9):=aW rfl
        generalize b.links.getD k η=lk at e0 e1 C;obtain⟨bus,pos⟩:=lk;dsimp only at e0 e1 C;have F:IntKind.i64.wrap ((m0:Int)-1)=(m0:Int)-1:=aa5 _ aa;by_cases Yw:btw bus 0 ((m0:Int)-1)=ε
        rotate_left
        · have O:btw bus 0 ((m0:Int)-1)=ζ:=by simpa using Yw
          have R:=aW O;clear O;have HE:Hid (iQ m0 b k=9):=aW (by rw[C.o,θ Yw]);clear Yw;have HW:=aW (fun w:World=>(dL bus 0 ((m0:Int)-1) w).mono (fun e w1 hh=>And.intro hh.1 hh.2.symm));rw[R.o] at HW;exact Aap
        have HW:=aW (fun w:World=>(dL bus 0 ((m0:Int)-1) w).mono (fun e w1 hh=>And.intro hh.1 hh.2.symm));rw[Yw] at HW;have G:Hid (¬(pos≠1/\(pos≠0\/b.kind=3))->iQ m0 b k=if 0<k/\(b.links.getD (k-1) η).bus=bus then 12 else 0):=aW (fun h=>by
          rw[C.o,ι Yw,θ h])
        have L:Hid ((pos≠1/\(pos≠0\/b.kind=3))->iQ m0 b k=16):=aW (fun h=>by
          rw[C.o,ι Yw,ι h])
        clear C Yw;by_cases hp:pos=1
        · subst hp;by_cases Ze:k=0
          · subst Ze;rw[aaV,I4] at e0 e1;have HE:Hid (iQ m0 b 0=0):=aW (by rw[G.o ag,θ aa]);go_wp2_with fail;go_quiet ((go_at_call 116;exact aaI (HW.o _)));clear F;go_wp2_with fail;go_quiet (fail);go_wp2;go_roundw
            case rel=>exact⟨1,aa,rfl,gQ HZ.o HE.o,(HX.alloc _).drewN _⟩
            case measure=>exact aV
          · obtain rfl:k=1:=aa;obtain⟨K,N,hA,Q,hc⟩:=(HL.ext (D.trans HX.o)).2.at_ (show 0<n by omega);simp only[aay,acf,ac4] at hA;obtain⟨rfl,rfl⟩:=hA;have f0:wr.cell? (aM lb lo)=γ (.int .i64 (b.links.getD 0 η).bus):=by
              exact Adh
            clear hc;rw[show lo+1*2=lo+2 from rfl] at e0 e1;by_cases YB:(b.links.getD 0 η).bus=bus
            · have HE:Hid (iQ m0 b 1=12):=aW (by rw[G.o ag,ι ⟨aa,YB⟩]);exact AbO
            · have HE:Hid (iQ m0 b 1=0):=aW (by rw[G.o ag,θ (fun h=>YB h.2)]);generalize (b.links.getD 0 η).bus=b0 at f0 YB;have q5:((b0:Int)==bus)=ζ:=ae;clear YB;go_wp2_with fail;go_quiet ((go_at_call 116;exact aaI (HW.o _)));clear F;go_wp2_with fail;go_quiet (fail);go_wp2;go_roundw
              case rel=>exact⟨2,aa,rfl,gQ HZ.o HE.o,(HX.alloc _).drewN _⟩
              case measure=>exact aV
        by_cases I:pos=0
        · subst I;by_cases YK:b.kind=3
          · first
            |(exfalso;simp[YK] at d3;done)
            |
              skip;have HE:Hid (iQ m0 b k=16):=aW (L.o ⟨aj,Or.inr YK⟩);exact Aap
          · first
            |(exfalso;simp at d3;exact YK d3)
            |
              skip;by_cases Ze:k=0
              · subst Ze;rw[aaV,I4] at e0 e1;have HE:Hid (iQ m0 b 0=0):=aW (by rw[G.o (by simp;exact YK),θ aa]);go_wp2_with fail;go_quiet ((go_at_call 116;exact aaI (HW.o _)));clear F;go_wp2_with fail;go_quiet (fail);go_wp2;go_roundw
                case rel=>exact⟨1,aa,rfl,gQ HZ.o HE.o,(HX.alloc _).drewN _⟩
                case measure=>exact aV
              · obtain rfl:k=1:=aa;obtain⟨K,N,hA,Q,hc⟩:=(HL.ext (D.trans HX.o)).2.at_ (show 0<n by omega);simp only[aay,acf,ac4] at hA;obtain⟨rfl,rfl⟩:=hA;have f0:wr.cell? (aM lb lo)=γ (.int .i64 (b.links.getD 0 η).bus):=by
                  exact Adh
                clear hc;rw[show lo+1*2=lo+2 from rfl] at e0 e1;by_cases YB:(b.links.getD 0 η).bus=bus
                · have HE:Hid (iQ m0 b 1=12):=aW (by rw[G.o (by simp;exact YK),ι ⟨aa,YB⟩]);exact AbO
                · have HE:Hid (iQ m0 b 1=0):=aW (by rw[G.o (by simp;exact YK),θ (fun h=>YB h.2)]);generalize (b.links.getD 0 η).bus=b0 at f0 YB;have q5:((b0:Int)==bus)=ζ:=ae;clear YB;go_wp2_with fail;go_quiet ((go_at_call 116;exact aaI (HW.o _)));clear F;go_wp2_with fail;go_quiet (fail);go_wp2;go_roundw
                  case rel=>exact⟨2,aa,rfl,gQ HZ.o HE.o,(HX.alloc _).drewN _⟩
                  case measure=>exact aV
        · have q6:((pos:Int)==1)=ζ:=by simp;exact hp
          have P:((pos:Int) !=1)=ε:=by simp;exact hp
          have V:((pos:Int)==0)=ζ:=by simp;exact I
          have S:((pos:Int) !=0)=ε:=by simp;exact I
          have HE:Hid (iQ m0 b k=16):=aW (L.o ⟨hp,Or.inl I⟩);clear hp I;exact Aap
      · obtain rfl:k=n:=aa;go_wp2;go_ret;exact⟨aY (by rw[T.o];exact(dE HZ.o).symm),D.trans HX.o⟩
def QV:Elem prog 25 57 12 120:=afa underlying25 (z:=.agg #[ByteArray.empty,aJ,aJ,aJ,aJ,aJ,(),ζ,aJ,aJ,aJ,aJ]) ah rfl aa
def ES (l:List ByteArray) (m0 m1 m2:Nat) (bs:List (il×Hd)) (b:il):Int:=
 if eu l b.name=0 then (if jH m1 m2 b=0 then (if dz b=ε then (if oP (bs.map Prod.fst) b=ε then 12 else iI m0 b) else 2) else jH m1 m2 b) else eu l b.name
def TW(bs:List (il×Hd)){k t}(j:k<bs.length)(l:t<12):(bs.flatMap fun x=>j6 x.1 x.2)[k*12+t]? =(j6 (bs[k]).1 (bs[k]).2)[t]? :=by
 induction bs generalizing k with
 |nil=>simp at j
 |cons x bs ih=>
  rw[List.flatMap_cons];have Z:(j6 x.1 x.2).length=12:=rfl;cases k with
  |zero=>
   rw[Λ (by rw[Z];omega)];simp
  |succ k=>
   rw[kC (by rw[Z];omega),Z,show(k+1)*12+t-12=k*12+t by omega];rw[ih (by simpa using j)];rfl
theorem Vq{w:World}{B n}{v:Value}{bs:List (il×Hd)}(h:w.ownsRow B 57 12 v n (bs.flatMap fun x=>j6 x.1 x.2))(hn:n=bs.length){k}(C:k<bs.length):
  ∃g,v.ownBlock=γ g/\g<w.heap.size/\(∃c,v=.slice (γ (aM g 0)) n c)/\∀t u,t<12->(j6 (bs[k]).1 (bs[k]).2)[t]? =γ u->w.cell? (aM g (k*12+t))=γ u:=by
 subst hn;rcases h.2 with ⟨_,F⟩|⟨g,G,cur,rfl,hb,l,_⟩
 .omega
 .refine⟨g,rfl,(aaK.1 l).1,⟨G,rfl⟩,fun t u j D=> ?_⟩;have:=h.cells (g:=g) rfl (k*12+t) u ((TW bs C j).trans D);rwa[show(Addr.add ⟨g,0,δ⟩ (k*12+t))=⟨g,k*12+t,δ⟩ by unfold Addr.add;split<;>simp_all] at this
theorem U5{bs:List (il×Hd)}{b}(h:∀j (l:j<bs.length),mQ b (bs[j]).1=ζ):oP (bs.map Prod.fst) b=ζ:=by
 unfold oP;have:(bs.map Prod.fst).any (mQ b)=ζ:=by
  rw[List.any_eq_false];intro x J;obtain⟨y,R,rfl⟩:=Nq.1 J;obtain⟨j,l,rfl⟩:=acD R;rw[h j l];decide
 rw[this,Bool.and_false]
theorem Qx{bs:List (il×Hd)}{b}(B:b.kind≠3){j}(l:j<bs.length)(h:mQ b (bs[j]).1=ε):oP (bs.map Prod.fst) b=ε:=by
 unfold oP;have:(bs.map Prod.fst).any (mQ b)=ε:=by
  rw[List.any_eq_true];exact⟨(bs[j]).1,aaB (abq l),h⟩
 rw[this,Bool.and_true,Δ B]
theorem UV{w M B m0 m1 m2}{l:List ByteArray}{bs:List (il×Hd)}(h:BSt w M B l m0 m1 m2 bs)(b hd)(hL:Lks w hd.A hd.n b.links)(Z:l.length<=1000)(hm:m0<=1000/\m1<=1000/\m2<=1000/\bs.length<=1000):
    Calls prog 79 #[aN B 0,Ac b hd.A hd.n hd.c] w fun e w'=>e=.returned (.int .i64 (ES l m0 m1 m2 bs b))/\Below M w w'/\(ES l m0 m1 m2 bs b=0->BSt w' M B (l++[b.name]) m0 m1 m2 (bs++[(b,hd)])):=by
  obtain⟨Ze,Zm,YD,ZF⟩:=hm;have HL:=aW hL;clear hL;have H:=aW h;have HB:=aW (h.ext (Ext.new w (.cells #[b.name,b.kind,b.obj,b.en,b.z.r,b.z.x,aO hd.A hd.n hd.c,b.closed,b.ct,b.vt,b.sat,b.travel] 57)));generalize hr:ES l m0 m1 m2 bs b=en;unfold ES at hr;have HE:=aW hr;clear hr;generalize O:eu l b.name=ne at HE;have YS:=aW O;have Yv:=h.ord;obtain⟨_,_,v0,v1,v2,v3,hb,⟨x0,r0⟩,⟨x1,r1⟩,⟨x2,r2⟩,r3⟩:=h;obtain⟨A1,c1,rfl,_,_,_⟩:=jD r1;obtain⟨A2,c2,rfl,_,_,_⟩:=jD r2;have Zx:B<w.heap.size:=hb.lt;have YE:=hb.ext (Ext.new w (.cells #[b.name,b.kind,b.obj,b.en,b.z.r,b.z.x,aO hd.A hd.n hd.c,b.closed,b.ct,b.vt,b.sat,b.travel] 57));have kB:=YE.cell;have Zi:=aW YE;have R3:=aW r3;have Zj:Hid (Below M w (aL w #[b.name,b.kind,b.obj,b.en,b.z.r,b.z.x,aO hd.A hd.n hd.c,b.closed,b.ct,b.vt,b.sat,b.travel] 57)):=aW ((Ext.new _ _).mono aa);have YG:Hid (Ext w (aL w #[b.name,b.kind,b.obj,b.en,b.z.r,b.z.x,aO hd.A hd.n hd.c,b.closed,b.ct,b.vt,b.sat,b.travel] 57)):=aW (Ext.new _ _);obtain⟨-,YL⟩:=an1 w 57 #[b.name,b.kind,b.obj,b.en,b.z.r,b.z.x,aO hd.A hd.n hd.c,b.closed,b.ct,b.vt,b.sat,b.travel];have YC:=aW YL;clear YL hb YE r0 r1 r2 r3;unfold Ac;have NM:=aW (jh HB.o b.name);rw[YS.o] at NM;by_cases h0:ne=0
  rotate_left
  · have q0:((ne:Int) !=0)=ε:=by simp;exact h0
    have T:Hid (en=ne):=aW (by rw[<-HE.o,θ h0]);have HN:=aW h0;clear O h0;go_enter acI,acw;go_wp2_with fail;refine NM.mono ?_;rintro e w1 ⟨rfl,rfl⟩;go_wp2;go_ret;exact⟨aY T.symm,Zj.o,fun e=>absurd (T.symm.trans e) HN.o⟩
  subst h0;have YN:=tK (xD O);have T:Hid (en=(if jH m1 m2 b=0 then (if dz b=ε then (if oP (bs.map Prod.fst) b=ε then 12 else iI m0 b) else 2) else jH m1 m2 b)):=aW AdC;clear O HE;by_cases h1:b.kind=1\/b.kind=2\/b.kind=3
  rotate_left
  · have q1:((b.kind:Int)==1)=ζ:=ae;have q2:((b.kind:Int)==2)=ζ:=ae;have q3:((b.kind:Int)==3)=ζ:=ae;have ho:jH m1 m2 b=10:=by unfold jH;rw[θ aa,θ aa,θ aa]
    have Q:Hid (en=10):=aW (by rw[T.o,ho];rfl);clear ho h1;go_enter acI,acw;go_wp2_with fail;refine NM.mono ?_;rintro e w1 ⟨rfl,rfl⟩;exact Adf
  have Zy:∃(cnt:Nat) (C k2 k3:Bool),cnt<=1000/\((b.kind:Int)==1)=C/\((b.kind:Int)==2)=k2/\((b.kind:Int)==3)=k3/\((b.kind:Int) !=3)= !k3/\jH m1 m2 b=(if btw b.obj 0 ((cnt:Int)-1)=ε then 0 else 9)/\(k3=decide (b.kind=3))/\
      ((C=ε/\k3=ζ/\cnt=m1)\/(C=ζ/\k2=ε/\k3=ζ/\cnt=m2)\/(C=ζ/\k2=ζ/\k3=ε/\cnt=1)):=by
    rcases h1 with h1|h1|h1
    · exact⟨m1,ε,ζ,ζ,Zm,by simp[h1],by simp[h1],by simp[h1],by simp[h1],by unfold jH;rw[ι h1],by simp[h1],.inl ⟨rfl,rfl,rfl⟩⟩
    · exact⟨m2,ζ,ε,ζ,YD,by simp[h1],by simp[h1],by simp[h1],by simp[h1],by unfold jH;rw[θ aa,ι h1],by simp[h1],.inr (.inl ⟨rfl,rfl,rfl,rfl⟩)⟩
    · exact⟨1,ζ,ζ,ε,aa,by simp[h1],by simp[h1],by simp[h1],by simp[h1],by
        unfold jH;rw[θ aa,θ aa,ι h1];by_cases h0:b.obj=0
        · rw[ι h0,ι Acz]
        · rw[θ h0,θ Acz],by simp[h1],.inr (.inr ⟨rfl,rfl,rfl,rfl⟩)⟩
  obtain⟨cnt,C,k2,k3,Zw,q1,q2,q3,q4,ho,YK,YR⟩:=Zy;clear h1;have HO:=aW ho;clear ho;have HW:=aW (fun w:World=>dL b.obj 0 ((cnt:Int)-1) w);have HR:=aW (fun w:World=>JX b hd.A hd.n hd.c w);generalize Yy:btw b.obj 0 ((cnt:Int)-1)=bo at HO HW;have Zv:=aW YK;clear YK Yy;generalize YX:dz b=rg at T HR;clear YX;rcases YR with ⟨rfl,rfl,rfl⟩|⟨rfl,rfl,rfl,rfl⟩|⟨rfl,rfl,rfl,rfl⟩
  all_goals
    cases bo
    · have Q:Hid (en=9):=aW (by rw[T.o,HO.o];rfl);go_enter acI,acw;go_wp2_with fail;refine NM.mono ?_;rintro e w1 ⟨rfl,rfl⟩;go_wp2_with fail;refine(HW.o _).mono ?_;rintro e w1 ⟨rfl,rfl⟩;exact Adf
    cases rg
    · have Q:Hid (en=2):=aW (by rw[T.o,HO.o];rfl);go_enter acI,acw;go_wp2_with fail;refine NM.mono ?_;rintro e w1 ⟨rfl,rfl⟩;go_wp2_with fail;refine(HW.o _).mono ?_;rintro e w1 ⟨rfl,rfl⟩;go_wp2_with fail;refine(HR.o _).mono ?_;rintro e w2 ⟨rfl,J⟩;have HX:=aW J;clear J;go_wp2;go_ret;exact⟨aY Q.symm,Zj.trans (HX.mono ae),fun e=>absurd (Q.symm.trans e) aj⟩
    have Q:Hid (en=if oP (bs.map Prod.fst) b=ε then 12 else iI m0 b):=aW (by rw[T.o,HO.o];rfl);go_enter acI,acw;go_wp2_with fail;refine NM.mono ?_;rintro e w1 ⟨rfl,rfl⟩;go_wp2_with fail;refine(HW.o _).mono ?_;rintro e w1 ⟨rfl,rfl⟩;go_wp2_with fail;refine(HR.o _).mono ?_;rintro e w2 ⟨rfl,J⟩;have HX:=aW J;have ZA:=(Zi.ext J).cell;clear kB J T HO HW HR NM YS;obtain⟨A3,c3,Zr,_,_,_⟩:=jD R3.o;have Zq:=aW Zr;rw[Zr] at ZA;clear Zr;go_wp2_with fail;clear ZA;go_loopw [52] (fun i wr=>∃k:Nat,k<=bs.length/\i=.int .i64 (k:Int)/\(b.kind≠3->∀j (hj:j<bs.length),j<k->mQ b (bs[j]).1=ζ)/\Ext (aL w #[b.name,b.kind,b.obj,b.en,b.z.r,b.z.x,aO hd.A hd.n hd.c,b.closed,b.ct,b.vt,b.sat,b.travel] 57) wr) (aT bs.length)
    case atStart=>exact⟨0,aa,rfl,by intros;omega,HX.o⟩
    case round=>
      clear HX;obtain⟨k,hk,rfl,hz,J⟩:=hrel;have HZ:=aW hz;have HX:=aW J;have Zo:=YC.ext J;have kX:=Zo.cell;have YQ:w.heap.size<wr.heap.size:=Zo.lt;clear hz J Zo;by_cases Yp:k<bs.length
      · have YY:decide (k<bs.length)=ε:=ae;obtain⟨g,YI,V,⟨cc,L⟩,hc⟩:=Vq (eH R3.o (YG.trans HX.o)) rfl Yp;rw[Zq.o] at L;injection L with ac _ _;subst ac;have e0:wr.cell? (aM g (k*12))=γ (.string (bs[k]).1.name):=hc 0 _ aa rfl;have e1:wr.cell? (aM g (k*12+1))=γ (.int .i64 (bs[k]).1.kind):=hc 1 _ aa rfl;have e2:wr.cell? (aM g (k*12+2))=γ (.int .i64 (bs[k]).1.obj):=hc 2 _ aa rfl;have e3:wr.cell? (aM g (k*12+3))=γ (.int .i64 (bs[k]).1.en):=hc 3 _ aa rfl;have e4:wr.cell? (aM g (k*12+4))=γ (.int .i64 (bs[k]).1.z.r):=hc 4 _ aa rfl;have e5:wr.cell? (aM g (k*12+5))=γ (.int .i64 (bs[k]).1.z.x):=hc 5 _ aa rfl;have e6:wr.cell? (aM g (k*12+6))=γ (.slice (bs[k]).2.A (bs[k]).2.n (bs[k]).2.c):=hc 6 _ aa rfl;have e7:wr.cell? (aM g (k*12+7))=γ (.bool (bs[k]).1.closed):=hc 7 _ aa rfl;have e8:wr.cell? (aM g (k*12+8))=γ (.int .i64 (bs[k]).1.ct):=hc 8 _ aa rfl;have e9:wr.cell? (aM g (k*12+9))=γ (.int .i64 (bs[k]).1.vt):=hc 9 _ aa rfl;have YJ:wr.cell? (aM g (k*12+10))=γ (.int .i64 (bs[k]).1.sat):=hc 10 _ aa rfl;have YM:wr.cell? (aM g (k*12+11))=γ (.int .i64 (bs[k]).1.travel):=hc 11 _ aa rfl;have ZB:=aW (rfl:(bs[k]).1=(bs[k]).1);clear hc YI;generalize R:(bs[k]).1=y at e0 e1 e2 e3 e4 e5 e7 e8 e9 YJ YM;generalize (bs[k]).2=ZE at e6;have HY:=aW R;clear R ZB;by_cases g1:b.kind=y.kind
        rotate_left
        · have t1:((b.kind:Int)==y.kind)=ζ:=by simp;exact g1
          have HN:Hid (mQ b (bs[k]).1=ζ):=aW (by rw[HY.o];exact rG (.inl g1));clear g1
          first
          |
            have YK:b.kind≠3:=by simpa using q3
            skip;(
             have Zh:=aW YK;clear YK;go_wp2_with fail
             go_roundw
             case rel=>exact⟨k+1,aa,au,fun h j hj YP=>by
               by_cases e:j=k
               · subst e;exact HN.o
               · exact HZ.o h j hj aa,HX.alloc _⟩
             case measure=>simp[aT,intOf];omega)
          |(have YK:b.kind=3:=Adz;have Zh:=aW YK;clear YK;go_wp2_with fail;go_roundw;(case rel=>exact⟨k+1,aa,au,fun h=>absurd Zh.o h,HX.alloc _⟩);(case measure=>simp[aT,intOf];omega))
        have t1:((b.kind:Int)==y.kind)=ε:=by simp;exact g1
        by_cases g2:b.obj=y.obj
        rotate_left
        · have t2:((b.obj:Int)==y.obj)=ζ:=by simp;exact g2
          have HN:Hid (mQ b (bs[k]).1=ζ):=aW (by rw[HY.o];exact rG (.inr (.inl g2)));clear g1 g2
          first
          |
            have YK:b.kind≠3:=by simpa using q3
            skip;(
             have Zh:=aW YK;clear YK;go_wp2_with fail
             go_roundw
             case rel=>exact⟨k+1,aa,au,fun h j hj YP=>by
               by_cases e:j=k
               · subst e;exact HN.o
               · exact HZ.o h j hj aa,HX.alloc _⟩
             case measure=>simp[aT,intOf];omega)
          |(have YK:b.kind=3:=Adz;have Zh:=aW YK;clear YK;go_wp2_with fail;go_roundw;(case rel=>exact⟨k+1,aa,au,fun h=>absurd Zh.o h,HX.alloc _⟩);(case measure=>simp[aT,intOf];omega))
        have t2:((b.obj:Int)==y.obj)=ε:=by simp;exact g2
        by_cases g3:b.en=y.en
        rotate_left
        · have t3:((b.en:Int)==y.en)=ζ:=by simp;exact g3
          have HN:Hid (mQ b (bs[k]).1=ζ):=aW (by rw[HY.o];exact rG (.inr (.inr g3)));clear g1 g2 g3
          first
          |
            have YK:b.kind≠3:=by simpa using q3
            skip;(
             have Zh:=aW YK;clear YK;go_wp2_with fail
             go_roundw
             case rel=>exact⟨k+1,aa,au,fun h j hj YP=>by
               by_cases e:j=k
               · subst e;exact HN.o
               · exact HZ.o h j hj aa,HX.alloc _⟩
             case measure=>simp[aT,intOf];omega)
          |(have YK:b.kind=3:=Adz;have Zh:=aW YK;clear YK;go_wp2_with fail;go_roundw;(case rel=>exact⟨k+1,aa,au,fun h=>absurd Zh.o h,HX.alloc _⟩);(case measure=>simp[aT,intOf];omega))
        have t3:((b.en:Int)==y.en)=ε:=by simp;exact g3
        have HN:Hid (mQ b (bs[k]).1=ε):=aW (by rw[HY.o];exact Eh g1 g2 g3);clear g1 g2 g3
        first
        |(have YK:b.kind≠3:=Adz;have HC:Hid (en=12):=aW (by rw[Q.o,ι (Qx YK Yp HN.o)]);clear YK;go_wp2_with fail;go_ret;exact⟨aY HC.symm,Zj.trans ((HX.alloc _).mono ae),fun e=>absurd (HC.symm.trans e) aj⟩)
        |(have YK:b.kind=3:=Adz;have Zh:=aW YK;clear YK;go_wp2_with fail;go_roundw;(case rel=>exact⟨k+1,aa,au,fun h=>absurd Zh.o h,HX.alloc _⟩);(case measure=>simp[aT,intOf];omega))
      · obtain rfl:bs.length=k:=aa;have HC:Hid (en=iI m0 b):=aW (by
          rw[Q.o,θ];by_cases YK:b.kind=3
          · unfold oP;rw[π (fun h=>h YK)];simp
          · rw[U5 (fun j hj=>HZ.o YK j hj hj)];decide)
        clear Yp Q;go_wp2_with fail;refine(JP (HB.ext HX.o) b hd.A hd.n hd.c (HL.ext (YG.trans HX.o)) Ze).mono ?_;rintro e w4 ⟨rfl,J⟩;rw[<-HC.o];have Yr:=YG.trans (HX.trans J);have YO:=aW (HX.trans J);clear J;by_cases Zp:en=0
        rotate_left
        · have q0:((en:Int) !=0)=ε:=by simp;exact Zp
          have HN:=aW Zp;clear Zp;have YV:=aW Yr;clear Yr;go_wp2_with fail;go_ret;exact⟨rfl,YV.mono aa,fun e=>absurd e HN.o⟩
        · subst Zp;clear kX;obtain⟨_,hN,Zn,Zl,ZC,Zt,YA,⟨y0,r0⟩,⟨y1,r1⟩,⟨y2,r2⟩,r3⟩:=H.o;have YZ:Hid (∀g,Zt.ownBlock=γ g->g<w.heap.size):=aW (fun g e=>(r3.lt g e).2);replace hN:=hN.ext Yr;replace YA:=YA.ext Yr;replace r0:=eH r0 Yr;replace r1:=eH r1 Yr;replace r2:=eH r2 Yr;replace r3:=eH r3 Yr;obtain⟨D,d1,d2,d3⟩:=hN;have N:=YC.ext YO.o;have Zd:Hid (Below M w w4):=aW (Yr.mono aa);have YW:=aW N;have Zz:=aW YA;have R0:=aW r0;have R1:=aW r1;have R2:=aW r2;have Zk:=aW r3;have D1:=aW d1;have D2:=aW d2;have D3:=aW d3;have Zg:=YA.lt;have Y1:=aX.blk YA;have Y2:=aX.blk N;clear YA N r0 r1 r2 r3 d1 d2 d3 Yr;go_wp2_with fail;refine bM 6 [(ε,0),(ε,4),(ε,5),(ζ,1),(ε,2),(ε,3)] ah ah ?_;refine bC [0,4,5] [(ζ,1),(ε,2),(ε,3)] _ ah ?_;refine Gq ?_;refine bz 1 [(ε,2),(ε,3)] ah ?_;intro K I;simp only[bG];go_wp2_with fail;refine I _ _ ⟨⟨_,(Ext.refl _).drew⟩,rfl⟩ ?_;clear I K;refine bC [2,3] [] _ ah ?_;refine Gq ?_;simp only[cK,ξ,τ];clear Y1 Y2;(go_wp2_with (first|(at_mapUpdate;refine abP _ rfl _ _ _ 183 rfl 9 4 BR aby (plainElem prog 4) M l.length D rfl D1.drew AdA _ _ (.string b.name.data.toList) rfl rfl (Te YN) (.lit (.bool ε)) [] (ab5 aaP ε) ?_)));intro w2 Yw V;have YF:=gN V (Zz.drew) AbP;have P:=gN V (YW.drew) AbP;have G2:Hid (w4.grownBy w2 (γ M)):=aW ⟨V.os,V.tape,V.output,V.size,V.block⟩;have r2:w2.ownsRow (B+1) 57 12 Zt bs.length (bs.flatMap fun x=>j6 x.1 x.2):=Zk.kept G2.o (.inr (fun e=>by have:=(Zk.lt M e).1;omega));have RR:=aW r2;have Za:=aW Yw;have Yz:=YF.lt;have YB:=P.lt;have Y1:=fun(x:oH w2 [B,w.heap.size])=>x.blk YF ag;have Y2:=fun(x:oH w2 [B,w.heap.size])=>x.blk P ag;have U:=aW YF;have W:=aW P;clear YF P r2 Yw V;go_wp2_with fail;refine oI 9 7 (fun w'=>∃x:oH w2 [B,w.heap.size],w'=x.val) [(ε,0),(ε,1),(ε,6),(ζ,2),(ε,3),(ε,4),(ε,5)] [(ζ,8)] ah ah ⟨⟨w2.drew,fun _ _=>rfl⟩,rfl⟩ ?_;refine gJ [0,1,6] [(ζ,2),(ε,3),(ε,4),(ε,5)] _ ah ?_;refine Gq ?_;refine nL 2 [(ε,3),(ε,4),(ε,5)] ah ah ?_ ?_;all_goals
            first
            |
              intro K I;simp only[bG];go_wp2_with fail;refine I _ _ ⟨⟨w2.drew,fun _ _=>rfl⟩,rfl⟩ ?_;clear I K;refine gJ [3,4,5] [] _ ah ?_;refine Gq ?_;refine qx ah ?_;intro K I;simp only[bG];go_wp2_with fail;refine I _ _ ⟨⟨w2.drew.alloc (.cells #[b.name,b.kind,b.obj,b.en,b.z.r,b.z.x,aO hd.A hd.n hd.c,b.closed,b.ct,b.vt,b.sat,b.travel] 57),fun b hb=>aas _ _ b AcZ⟩,rfl⟩ ?_;clear I K
            |
              intro K I;simp only[bG];go_wp2_with fail;refine I _ _ ⟨⟨w2.drew.alloc (.cells #[b.name,b.kind,b.obj,b.en,b.z.r,b.z.x,aO hd.A hd.n hd.c,b.closed,b.ct,b.vt,b.sat,b.travel] 57),fun b hb=>aas _ _ b AcZ⟩,rfl⟩ ?_;clear I K;show cK _ _ _ _ [(ζ,2),(ε,3),(ε,4),(ε,5),(ζ,8)] _ _;refine bz 2 [(ε,3),(ε,4),(ε,5),(ζ,8)] ah ?_;intro K I;simp only[bG];go_wp2_with fail;refine I _ _ ⟨⟨w2.drew.alloc (.cells #[b.name,b.kind,b.obj,b.en,b.z.r,b.z.x,aO hd.A hd.n hd.c,b.closed,b.ct,b.vt,b.sat,b.travel] 57),fun b hb=>aas _ _ b AcZ⟩,rfl⟩ ?_;clear I K;refine bC [3,4,5] [(ζ,8)] _ ah ?_;refine Gq ?_
            refine bz 8 [] ah ?_;intro K I;simp only[bG];(go_wp2_with (at_builtin;refine eX QV rfl (.tmp 98) (.tmp 100) rfl (B+1) _ bs.length _ rf (acC (w:=w2.drew) RR.o _) w2.heap.size 1 1 [.string b.name,.int .i64 b.kind,.int .i64 b.obj,.int .i64 b.en,.int .i64 b.z.r,.int .i64 b.z.x,.slice hd.A hd.n hd.c,.bool b.closed,.int .i64 b.ct,.int .i64 b.vt,.int .i64 b.sat,.int .i64 b.travel] rf (Blk.new w2.drew _ _) rfl AaB aa aa aa Adr ?_));intro g G w3 Yt L YT Yp;have Y:=gN L ((U.drew).alloc _) (kG RR.o (abp _));have Yq:=gN L ((W.drew).alloc _) (fun e=>by have:=YZ.o _ e;omega);have k3:=Y.cell;have f3:=Y.frozen;have Zc:=Y.lt;have Yu:=aW Y;have Yx:=aW Yq;have G3:Hid ((w2.alloc (.cells #[b.name,b.kind,b.obj,b.en,b.z.r,b.z.x,aO hd.A hd.n hd.c,b.closed,b.ct,b.vt,b.sat,b.travel] 57)).grownBy w3 Zt.ownBlock):=aW ⟨L.os,L.tape,L.output,L.size,L.block⟩;have YU:=aW Yt;clear Y Yq L Yt YT Yp;go_wp2_with fail;refine I _ _ ⟨⟨w3,fun b hb=>by
              simp at hb;rcases hb with rfl|rfl
              · exact(Yu.o).trans U.symm
              · exact(Yx.o).trans W.symm⟩,rfl⟩ ?_
            clear I K Y1 Y2;simp only[cK,ξ,τ];go_wp2;go_ret;have Zf:=step_mod (B:=B) (i:=4) (u:=.slice (γ (aM g 0)) (bs.length+1) G) G2.o G3.o;have F:=mJ YU.o (Mod.only (S:=fun k=>k=B) (Only.set _ B 4 (.slice (γ (aM g 0)) (bs.length+1) G)) rfl) (fun g' YH=>by have:=(YU.lt g' YH).1;omega);refine⟨rfl,Zd.trans (sD Zk.o Yv Zg Zf),⟨Yv,?_,_,_,_,_,Yu.mM 4 _,⟨_,oL R0.o Zk.o aj Yv Zf⟩,⟨_,oL R1.o Zk.o aj Yv Zf⟩,⟨_,oL R2.o Zk.o aj Yv Zf⟩,?_⟩⟩
            · have hn:=xY (B:=B) (i:=4) (u:=.slice (γ (aM g 0)) (bs.length+1) G) (Nam.put D1.o D2.o D3.o Za.o) RR.o Yv G3.o;simpa using hn
            · rw[adI,nH];exact F
def mZ (s:StD) (L:Nat->Hd) (k:Nat):List (il×Hd):=(List.range k).map fun i=>(s.bays.getD i η,L i)
theorem zQ(s L k):mZ s L (k+1)=mZ s L k++[(s.bays.getD k η,L k)]:=by
 unfold mZ;rw[abW,aad];rfl
theorem JM(s L k):(mZ s L k).length=k:=by unfold mZ;simp
def Dj{s L}:∀{k:Nat},k<=s.bays.length->(mZ s L k).map Prod.fst=s.bays.take k
 |0,_=>by simp[mZ]
 |k+1,h=>by
  rw[zQ,aad,Dj aa,kU aa];rfl
def KV{w0 w M B A0 n0 c0 A1 n1 c1 A2 n2 c2 A3 n3 c3 L s}(hs:j5 w0 A0 n0 c0 A1 n1 c1 A2 n2 c2 A3 n3 c3 L s)(G:Below M w0 w)(hM:w0.heap.size<=M)(g0:n0<=4)(g1:n1<=6)(g2:n2<=4)(g3:n3<=16)(T:BSt w M B (nms s 0 0 0 0) 0 0 0 []):
  Calls prog 72 #[aO A0 n0 c0,.func (Fn.func 73) #[aN B 0] #[]] w fun e w'=>e=.returned (.int .i64 (dA (sJ s) n0))/\Below M w w'/\(dA (sJ s) n0=0->BSt w' M B (nms s n0 0 0 0) n0 0 0 []):=by
 have N:s.buses.length=n0:=hs.buses.len;have S:=hs.l1;have YL:=hs.l2;have Yz:=hs.l3;have YN:=hs.mx;have HS:=aW hs;have HB:=aW T;have H:=aW G;have Ze:=aW N;have R:=aW S;have YE:=aW YL;have Z:=aW Yz;obtain⟨m0,m1,m2,m3⟩:=YN;have I:M<w.heap.size:=T.nm.lt;clear hs T G N S YL Yz;go_enter func72,ntmps72;go_wp2_with fail
 go_loopw [10] (fun i wr=>∃k:Nat,k<=n0/\i=.int .i64 (k:Int)/\(∀j,j<k->sJ s j=0)/\BSt wr M B (nms s k 0 0 0) k 0 0 []/\Below M w wr) (aT n0)
 case atStart=>exact⟨0,aa,rfl,by intros;omega,HB.o,acl _ _⟩
 case round=>
  clear HB;obtain⟨k,hk,rfl,hz,T,J⟩:=hrel;have HZ:=aW hz;have HB:=aW T;have HX:=aW J;have Q:M<wr.heap.size:=T.nm.lt;have YZ:B<wr.heap.size:=by obtain⟨_,_,_,_,_,_,hb,_⟩:=T;exact hb.lt
  have l:=aW (HS.ext (w':=wr) ((H.trans J).mono hM));clear hz T J;by_cases Yp:k<n0
  .have hd:decide (k<n0)=ε:=ae;obtain⟨ad,hA,hb,e0⟩:=l.buses.getD Yp;have HN:Hid (nms s (k+1) 0 0 0=nms s k 0 0 0++[s.buses.getD k η]):=aW (by
    rw[Qn,Qn];exact kU Ac6)
   have C:Hid (sJ s k=eu (nms s k 0 0 0) (s.buses.getD k η)):=aW rfl;generalize s.buses.getD k η=x at e0 C HN;subst hA;go_wp2_with fail;refine(TK HB.o x (by rw[Aj Ac6 (q9 _) (q9 _) (q9 _)];omega) aa).mono ?_;rintro e w2 ⟨rfl,P,V⟩;rw[<-C.o];rw[<-C.o,<-HN.o] at V;have W:=aW (HX.trans P);have U:=aW V;clear P V;generalize D:sJ s k=K at C U;have F:=aW D;clear D C;by_cases O:K=0
   rotate_left
   .have q0:((K:Int) !=0)=ε:=by simp;exact O
    have HE:=aW O;clear O;have Y:Hid (K=dA (sJ s) n0):=aW (dK HZ.o F.o HE.o Yp);exact AaO
   .subst O;have YF:=U.o rfl;have YU:=aW YF;clear YF U;go_wp2_with fail
    go_roundw
    case rel=>exact⟨k+1,aa,au,gQ HZ.o F.o,YU.o,W.o⟩
    case measure=>exact aV
  .obtain rfl:n0=k:=aa;exact AbS
def Kg{w0 w M B A0 n0 c0 A1 n1 c1 A2 n2 c2 A3 n3 c3 L s}(hs:j5 w0 A0 n0 c0 A1 n1 c1 A2 n2 c2 A3 n3 c3 L s)(G:Below M w0 w)(hM:w0.heap.size<=M)(g0:n0<=4)(g1:n1<=6)(g2:n2<=4)(g3:n3<=16)(T:BSt w M B (nms s n0 0 0 0) n0 0 0 []):
  Calls prog 74 #[aO A1 n1 c1,.func (Fn.func 75) #[aN B 0] #[]] w fun e w'=>e=.returned (.int .i64 (dA (kW s) n1))/\Below M w w'/\(dA (kW s) n1=0->BSt w' M B (nms s n0 n1 0 0) n0 n1 0 []):=by
 have N:s.buses.length=n0:=hs.buses.len;have S:=hs.l1;have YL:=hs.l2;have Yz:=hs.l3;have YN:=hs.mx;have HS:=aW hs;have HB:=aW T;have H:=aW G;have Ze:=aW N;have R:=aW S;have YE:=aW YL;have Z:=aW Yz;obtain⟨m0,m1,m2,m3⟩:=YN;have I:M<w.heap.size:=T.nm.lt;clear hs T G N S YL Yz;go_enter func74,ntmps74;go_wp2_with fail
 go_loopw [10] (fun i wr=>∃k:Nat,k<=n1/\i=.int .i64 (k:Int)/\(∀j,j<k->kW s j=0)/\BSt wr M B (nms s n0 k 0 0) n0 k 0 []/\Below M w wr) (aT n1)
 case atStart=>exact⟨0,aa,rfl,by intros;omega,HB.o,acl _ _⟩
 case round=>
  clear HB;obtain⟨k,hk,rfl,hz,T,J⟩:=hrel;have HZ:=aW hz;have HB:=aW T;have HX:=aW J;have Q:M<wr.heap.size:=T.nm.lt;have YZ:B<wr.heap.size:=by obtain⟨_,_,_,_,_,_,hb,_⟩:=T;exact hb.lt
  have l:=aW (HS.ext (w':=wr) ((H.trans J).mono hM));clear hz T J;by_cases Yp:k<n1
  .have hd:decide (k<n1)=ε:=ae;obtain⟨lb,lo,hA,hb,hc⟩:=l.lines.at_ Yp;have e0:wr.cell? (aM lb (lo+k*5))=γ (.string (s.lines.getD k η).name):=hc 0 _ rfl;have e1:=hc 1 _ rfl;have e2:=hc 2 _ rfl;have e3:=hc 3 _ rfl;have e4:=hc 4 _ rfl;clear hc;have HN:Hid (nms s n0 (k+1) 0 0=nms s n0 k 0 0++[(s.lines.getD k η).name]):=aW (Vx Adp);have C:Hid (kW s k=if eu (nms s n0 k 0 0) (s.lines.getD k η).name=0 then (if (okZ (s.lines.getD k η).z1&&okZ (s.lines.getD k η).z0)=ε then 0 else 2) else eu (nms s n0 k 0 0) (s.lines.getD k η).name):=aW (by rw[<-Ze.o];rfl);generalize s.lines.getD k η=x at e0 e1 e2 e3 e4 C HN;subst hA;go_wp2_with fail;refine(SL (HB.ext (Ext.new _ _)) x (by rw[Aj Ac6 Adp (q9 _) (q9 _)];omega) aa).mono ?_;rintro e w2 ⟨rfl,P,V⟩;rw[<-C.o];rw[<-C.o,<-HN.o] at V;have W:=aW ((HX.trans ((Ext.new wr _).mono aa)).trans P);have U:=aW V;clear P V;generalize D:kW s k=K at C U;have F:=aW D;clear D C;by_cases O:K=0
   rotate_left
   .have q0:((K:Int) !=0)=ε:=by simp;exact O
    have HE:=aW O;clear O;have Y:Hid (K=dA (kW s) n1):=aW (dK HZ.o F.o HE.o Yp);exact AaO
   .subst O;have YF:=U.o rfl;have YU:=aW YF;clear YF U;go_wp2_with fail
    go_roundw
    case rel=>exact⟨k+1,aa,au,gQ HZ.o F.o,YU.o,W.o⟩
    case measure=>exact aV
  .obtain rfl:n1=k:=aa;exact AbS
def LC{w0 w M B A0 n0 c0 A1 n1 c1 A2 n2 c2 A3 n3 c3 L s}(hs:j5 w0 A0 n0 c0 A1 n1 c1 A2 n2 c2 A3 n3 c3 L s)(G:Below M w0 w)(hM:w0.heap.size<=M)(g0:n0<=4)(g1:n1<=6)(g2:n2<=4)(g3:n3<=16)(T:BSt w M B (nms s n0 n1 0 0) n0 n1 0 []):
  Calls prog 76 #[aO A2 n2 c2,.func (Fn.func 77) #[aN B 0] #[]] w fun e w'=>e=.returned (.int .i64 (dA (rq s) n2))/\Below M w w'/\(dA (rq s) n2=0->BSt w' M B (nms s n0 n1 n2 0) n0 n1 n2 []):=by
 have N:s.buses.length=n0:=hs.buses.len;have S:=hs.l1;have YL:=hs.l2;have Yz:=hs.l3;have YN:=hs.mx;have HS:=aW hs;have HB:=aW T;have H:=aW G;have Ze:=aW N;have R:=aW S;have YE:=aW YL;have Z:=aW Yz;obtain⟨m0,m1,m2,m3⟩:=YN;have I:M<w.heap.size:=T.nm.lt;clear hs T G N S YL Yz;go_enter func76,ntmps76;go_wp2_with fail
 go_loopw [10] (fun i wr=>∃k:Nat,k<=n2/\i=.int .i64 (k:Int)/\(∀j,j<k->rq s j=0)/\BSt wr M B (nms s n0 n1 k 0) n0 n1 k []/\Below M w wr) (aT n2)
 case atStart=>exact⟨0,aa,rfl,by intros;omega,HB.o,acl _ _⟩
 case round=>
  clear HB;obtain⟨k,hk,rfl,hz,T,J⟩:=hrel;have HZ:=aW hz;have HB:=aW T;have HX:=aW J;have Q:M<wr.heap.size:=T.nm.lt;have YZ:B<wr.heap.size:=by obtain⟨_,_,_,_,_,_,hb,_⟩:=T;exact hb.lt
  have l:=aW (HS.ext (w':=wr) ((H.trans J).mono hM));clear hz T J;by_cases Yp:k<n2
  .have hd:decide (k<n2)=ε:=ae;obtain⟨lb,lo,hA,hb,hc⟩:=l.srcs.at_ Yp;have e0:wr.cell? (aM lb (lo+k*6))=γ (.string (s.srcs.getD k η).name):=hc 0 _ rfl;have e1:=hc 1 _ rfl;have e2:=hc 2 _ rfl;have e3:=hc 3 _ rfl;have e4:=hc 4 _ rfl;have e5:=hc 5 _ rfl;clear hc;have HN:Hid (nms s n0 n1 (k+1) 0=nms s n0 n1 k 0++[(s.srcs.getD k η).name]):=aW (VA (by have:=YE.o;omega));have C:Hid (rq s k=if eu (nms s n0 n1 k 0) (s.srcs.getD k η).name=0 then (if jr (s.srcs.getD k η)=ε then 0 else 2) else eu (nms s n0 n1 k 0) (s.srcs.getD k η).name):=aW (by rw[<-Ze.o,<-R.o];rfl);generalize s.srcs.getD k η=x at e0 e1 e2 e3 e4 e5 C HN;subst hA;go_wp2_with fail;refine(KE (HB.ext (Ext.new _ _)) x (by rw[Aj Ac6 Adp (by have:=YE.o;omega) (q9 _)];omega) aa).mono ?_;rintro e w2 ⟨rfl,P,V⟩;rw[<-C.o];rw[<-C.o,<-HN.o] at V;have W:=aW ((HX.trans ((Ext.new wr _).mono aa)).trans P);have U:=aW V;clear P V;generalize D:rq s k=K at C U;have F:=aW D;clear D C;by_cases O:K=0
   rotate_left
   .have q0:((K:Int) !=0)=ε:=by simp;exact O
    have HE:=aW O;clear O;have Y:Hid (K=dA (rq s) n2):=aW (dK HZ.o F.o HE.o Yp);exact AaO
   .subst O;have YF:=U.o rfl;have YU:=aW YF;clear YF U;go_wp2_with fail
    go_roundw
    case rel=>exact⟨k+1,aa,au,gQ HZ.o F.o,YU.o,W.o⟩
    case measure=>exact aV
  .obtain rfl:n2=k:=aa;exact AbS
theorem KM{w0 w M B A0 n0 c0 A1 n1 c1 A2 n2 c2 A3 n3 c3 L s}(hs:j5 w0 A0 n0 c0 A1 n1 c1 A2 n2 c2 A3 n3 c3 L s)(G:Below M w0 w)(hM:w0.heap.size<=M)(g0:n0<=4)(g1:n1<=6)(g2:n2<=4)(g3:n3<=16)(V:BSt w M B (nms s n0 n1 n2 0) n0 n1 n2 (mZ s L 0)):
  Calls prog 78 #[aO A3 n3 c3,.func (Fn.func 79) #[aN B 0] #[]] w fun e w'=>e=.returned (.int .i64 (dA (tY s) n3))/\Below M w w'/\(dA (tY s) n3=0->BSt w' M B (nms s n0 n1 n2 n3) n0 n1 n2 (mZ s L n3)):=by
 have N:s.buses.length=n0:=hs.buses.len;have S:=hs.l1;have YL:=hs.l2;have Yz:=hs.l3;have YN:=hs.mx;have HS:=aW hs;have HB:=aW V;have H:=aW G;have Ze:=aW N;have R:=aW S;have YE:=aW YL;have Z:=aW Yz;obtain⟨m0,m1,m2,m3⟩:=YN;have I:M<w.heap.size:=V.nm.lt;clear hs V G N S YL Yz;go_enter func78,ntmps78;go_wp2_with fail
 go_loopw [10] (fun i wr=>∃k:Nat,k<=n3/\i=.int .i64 (k:Int)/\(∀j,j<k->tY s j=0)/\BSt wr M B (nms s n0 n1 n2 k) n0 n1 n2 (mZ s L k)/\Below M w wr) (aT n3)
 case atStart=>exact⟨0,aa,rfl,by intros;omega,HB.o,acl _ _⟩
 case round=>
  clear HB;obtain⟨k,hk,rfl,hz,V,J⟩:=hrel;have HZ:=aW hz;have HB:=aW V;have HX:=aW J;have Q:M<wr.heap.size:=V.nm.lt;have YZ:B<wr.heap.size:=by obtain⟨_,_,_,_,_,_,hb,_⟩:=V;exact hb.lt
  have l:=aW (HS.ext (w':=wr) ((H.trans J).mono hM));clear hz V J;by_cases Yp:k<n3
  .have hd:decide (k<n3)=ε:=ae;obtain⟨lb,lo,hA,hb,e0,e1,e2,e3,e4,e5,e6,e7,e8,e9,YJ,YM⟩:=l.bays.bay Yp;have YO:=aW (l.links k Yp);have HN:Hid (nms s n0 n1 n2 (k+1)=nms s n0 n1 n2 k++[(s.bays.getD k η).name]):=aW (VO AcF);have T:Hid (tY s k=ES (nms s n0 n1 n2 k) n0 n1 n2 (mZ s L k) (s.bays.getD k η)):=aW (by
    have h3:=Z.o;unfold ES;rw[Dj aa,<-Ze.o,<-R.o,<-YE.o];rfl)
   have C:Hid (mZ s L (k+1)=mZ s L k++[(s.bays.getD k η,L k)]):=aW (zQ s L k);generalize s.bays.getD k η=x at e0 e1 e2 e3 e4 e5 e6 e7 e8 e9 YJ YM T HN YO C;generalize L k=hh at e0 e1 e2 e3 e4 e5 e6 e7 e8 e9 YJ YM YO C;subst hA;go_wp2_with fail;refine(UV (HB.ext (Ext.new _ _)) x hh (YO.ext (Ext.new _ _)) (by rw[Aj Ac6 Adp (by have:=YE.o;omega) AcF];omega) ⟨aa,aa,aa,by rw[JM];omega⟩).mono ?_;rintro e w2 ⟨rfl,P,Yy⟩;rw[<-T.o];rw[<-T.o,<-HN.o,<-C.o] at Yy;have W:=aW ((HX.trans ((Ext.new wr _).mono aa)).trans P);have U:=aW Yy;clear P Yy;generalize D:tY s k=K at T U;have F:=aW D;clear D T;by_cases O:K=0
   rotate_left
   .have q0:((K:Int) !=0)=ε:=by simp;exact O
    have HE:=aW O;clear O;have Y:Hid (K=dA (tY s) n3):=aW (dK HZ.o F.o HE.o Yp);exact AaO
   .subst O;have YF:=U.o rfl;have YU:=aW YF;clear YF U;go_wp2_with fail
    go_roundw
    case rel=>exact⟨k+1,aa,au,gQ HZ.o F.o,YU.o,W.o⟩
    case measure=>exact aV
  .obtain rfl:n3=k:=aa;exact AbS
def WU(w):Calls prog 71 #[] w fun e w'=>∃M,w.heap.size=M/\e=.returned (.pointer (γ (aM (M+1) 0)))/\BSt w' M (M+1) [] 0 0 0 []/\Ext w w':=
 (Bi w).mono fun e w' ⟨l,j,B⟩=>⟨_,rfl,l,j,B⟩
theorem zO{A0 n0 c0 A1 n1 c1 A2 n2 c2 A3 n3 c3 L s}(w)(hs:j5 w A0 n0 c0 A1 n1 c1 A2 n2 c2 A3 n3 c3 L s):
  CE 40 #[stV s.name A0 n0 c0 A1 n1 c1 A2 n2 c2 A3 n3 c3] w (.int .i64 (chk s)):=by
 have R:∀(fn:Fn) (first G:Array Value) (w:World),(Instr.makeFunc fn first G).run prog w=.ok (.func fn first G) w:=fun _ _ _ _=>rfl;have F:∀w:World,Calls prog 70 #[s.name] w fun e w'=>e=.returned (.bool (fJ s.name))/\w=w':=fun w=>(JE s.name w).mono (fun e w' hh=>⟨hh.1,hh.2.symm⟩);have NM:=aW F;clear F;have N:s.buses.length=n0:=hs.buses.len;have S:=hs.l1;have YL:=hs.l2;have Yz:=hs.l3;have HS:=aW (hs.ext (Ext.new w (.cells #[s.name,aO A0 n0 c0,aO A1 n1 c1,aO A2 n2 c2,aO A3 n3 c3] 27)));clear hs;unfold stV;have D:Hid (Ext w (aL w #[s.name,aO A0 n0 c0,aO A1 n1 c1,aO A2 n2 c2,aO A3 n3 c3] 27)):=aW (Ext.new _ _);cases hn:fJ s.name
 .have T:Hid (chk s=7):=aW (Rn hn);rw[hn] at NM;clear N S YL Yz;exact Aat
 rw[hn] at NM;cases hc:lu s
 .have T:Hid (chk s=3):=aW (QH hn hc);have YH:¬(1<=n0/\n0<=4/\n1<=6/\n2<=4/\n3<=16):=by
   exact Adi
  clear N S YL Yz hc;have HC:=aW YH;clear YH;by_cases O:n0=0
  .have d0:((n0:Int)==0)=ε:=ae;clear O;exact Aat
  have d0:((n0:Int)==0)=ζ:=ae;by_cases t1:4<n0
  .have d1:decide ((4:Int)<n0)=ε:=ae;clear t1;exact Aat
  have d1:decide ((4:Int)<n0)=ζ:=ae;by_cases t2:6<n1
  .have d2:decide ((6:Int)<n1)=ε:=ae;clear t2;exact Aat
  have d2:decide ((6:Int)<n1)=ζ:=ae;by_cases t3:4<n2
  .have d3:decide ((4:Int)<n2)=ε:=ae;clear t3;exact Aat
  have d3:decide ((4:Int)<n2)=ζ:=ae;by_cases t4:16<n3
  .have d4:decide ((16:Int)<n3)=ε:=ae;clear t4;exact Aat
  exact Adu
 have T:=aW (Ry hn hc);have YR:1<=n0/\n0<=4/\n1<=6/\n2<=4/\n3<=16:=by
  unfold lu at hc;rw[N,S,YL,Yz] at hc;simp at hc;omega
 obtain⟨g0,B,g1,g2,g3⟩:=YR;clear hc;rw[N,S,YL,Yz] at T;clear N S YL Yz;have d0:((n0:Int)==0)=ζ:=ae;have d1:decide ((4:Int)<n0)=ζ:=ae;have d2:decide ((6:Int)<n1)=ζ:=ae;have d3:decide ((4:Int)<n2)=ζ:=ae;have d4:decide ((16:Int)<n3)=ζ:=ae;obtain⟨-,Yr⟩:=ah1 w 27 #[s.name,aO A0 n0 c0,aO A1 n1 c1,aO A2 n2 c2,aO A3 n3 c3];go_enter func40,ntmps40;go_wp2_with fail;refine(NM.o _).mono ?_;rintro e w1 ⟨rfl,rfl⟩;go_wp2_with fail;refine(WU _).mono ?_;rintro e w1 ⟨M,hM,rfl,W,J⟩;have HM:=aW hM;have U:Hid (Below M (aL w #[s.name,aO A0 n0 c0,aO A1 n1 c1,aO A2 n2 c2,aO A3 n3 c3] 27) w1):=aW (hM ▸ J);have V:=aW W;have I:w.heap.size<M:=by rw[<-hM];simp
 have C:=(Yr.ext J).cell;clear hM J W d0 d1 d2 d3 d4;go_wp2_with fail;refine(KV HS.o U.o AcI B g1 g2 g3 V.o).mono ?_;rintro e w2 ⟨rfl,J,W⟩;generalize Y:dA (sJ s) n0=en at W;have H:=aW Y;clear Y;have j:=aW (U.trans J);have l:=aW W;clear J W U C;have U:=j;clear j;have C:=(show Blk w2 w.heap.size 27 #[s.name,aO A0 n0 c0,aO A1 n1 c1,aO A2 n2 c2,aO A3 n3 c3] from Yr.below U.o I).cell;by_cases h0:en=0
 rotate_left
 .have q0:((en:Int)==0)=ζ:=by simp;exact h0
  have Q:Hid (chk s=en):=aW (by
   rw[T.o];rw[θ (by rw[H.o];exact h0),H.o])
  exact AbT
 subst h0;have Z:=l.o rfl;clear V l;have V:=aW Z;clear Z;go_wp2_with fail;refine(Kg HS.o U.o AcI B g1 g2 g3 V.o).mono ?_;rintro e w2 ⟨rfl,J,W⟩;generalize Y:dA (kW s) n1=en at W;have K:=aW Y;clear Y;have j:=aW (U.trans J);have l:=aW W;clear J W U C;have U:=j;clear j;have C:=(show Blk w2 w.heap.size 27 #[s.name,aO A0 n0 c0,aO A1 n1 c1,aO A2 n2 c2,aO A3 n3 c3] from Yr.below U.o I).cell;by_cases h0:en=0
 rotate_left
 .have q0:((en:Int)==0)=ζ:=by simp;exact h0
  have Q:Hid (chk s=en):=aW (by
   rw[T.o];rw[ι H.o];rw[θ (by rw[K.o];exact h0),K.o])
  exact AbT
 subst h0;have Z:=l.o rfl;clear V l;have V:=aW Z;clear Z;go_wp2_with fail;refine(LC HS.o U.o AcI B g1 g2 g3 V.o).mono ?_;rintro e w2 ⟨rfl,J,W⟩;generalize Y:dA (rq s) n2=en at W;have P:=aW Y;clear Y;have j:=aW (U.trans J);have l:=aW W;clear J W U C;have U:=j;clear j;have C:=(show Blk w2 w.heap.size 27 #[s.name,aO A0 n0 c0,aO A1 n1 c1,aO A2 n2 c2,aO A3 n3 c3] from Yr.below U.o I).cell;by_cases h0:en=0
 rotate_left
 .have q0:((en:Int)==0)=ζ:=by simp;exact h0
  have Q:Hid (chk s=en):=aW (by
   rw[T.o];rw[ι H.o];rw[ι K.o];rw[θ (by rw[P.o];exact h0),P.o])
  exact AbT
 subst h0;have Z:=l.o rfl;clear V l;have V:=aW Z;clear Z;go_wp2_with fail;refine(KM HS.o U.o AcI B g1 g2 g3 V.o).mono ?_;rintro e w2 ⟨rfl,J,W⟩;generalize Y:dA (tY s) n3=en at W;have F3:=aW Y;clear Y;have j:=aW (U.trans J);have l:=aW W;clear J W U C;have U:=j;clear j;have C:=(show Blk w2 w.heap.size 27 #[s.name,aO A0 n0 c0,aO A1 n1 c1,aO A2 n2 c2,aO A3 n3 c3] from Yr.below U.o I).cell;go_wp2;go_ret;exact⟨aY (by rw[T.o,ι H.o,ι K.o,ι P.o,F3.o]),D.trans (U.mono (by rw[<-HM.o];exact κ _))⟩
def nX (f:dY):Value:=.agg #[f.kind,f.line,f.obj,f.num,f.den,f.r]
section
variable {nb nl:Nat} {f:dY}
theorem Ro(h:f.kind=0/\f.line=ζ/\f.obj=0/\f.num=0/\f.den=0/\f.r=0):fu nb nl f=0:=by
 have:f=⟨0,ζ,0,0,0,0⟩:=by obtain⟨a,b,c,d,e,g⟩:=f;simp at h⊢;exact h
 unfold fu;rw[ι this]
theorem mh(j:¬(f.kind=0/\f.line=ζ/\f.obj=0/\f.num=0/\f.den=0/\f.r=0))(h:¬(1<=f.kind/\f.kind<=10)):fu nb nl f=10:=by
 unfold fu;rw[θ (fun e=>j (by rw[e];simp)),θ (by rw[fw];exact h)]
theorem Af(j:1<=f.kind/\f.kind<=10):fu nb nl f=(if btw f.obj 0 ((if f.line=ε then (nl:Int) else (nb:Int))-1)=ε then
   if f.line=ε/\(f.den<2\/16<f.den\/f.num<1\/f.den-1<f.num) then 2
   else if f.line=ζ/\(f.num≠0\/f.den≠0) then 2
   else if btw f.r 0 1000=ε then 0 else 2
  else 9):=by
 have l:f≠⟨0,ζ,0,0,0,0⟩:=fun e=>by rw[e] at j;simp at j
 unfold fu;rw[θ l,ι (by rw[fw];exact j)]
def uK(j:1<=f.kind/\f.kind<=10)(cnt:Nat)(hc:(if f.line=ε then (nl:Int) else (nb:Int))=(cnt:Int))(h:f.obj<0\/(cnt:Int)<=f.obj):fu nb nl f=9:=by
 rw[Af j,hc,θ Acz]
def uJ(j:1<=f.kind/\f.kind<=10)(Z:f.line=ε)(l:¬(f.obj<0\/(nl:Int)<=f.obj))(h:f.den<2\/16<f.den\/f.num<1\/f.den-1<f.num):fu nb nl f=2:=by
 rw[Af j,ι (by rw[ι Z,fw];omega),ι ⟨Z,h⟩]
def FO(j:1<=f.kind/\f.kind<=10)(Z:f.line=ζ)(l:¬(f.obj<0\/(nb:Int)<=f.obj))(h:f.num≠0\/f.den≠0):fu nb nl f=2:=by
 rw[Af j,ι (by rw[θ (by rw[Z];decide),fw];omega),θ (fun e=>by rw[Z] at e;cases e.1),ι ⟨Z,h⟩]
def Gl(j:1<=f.kind/\f.kind<=10)(cnt:Nat)(hc:(if f.line=ε then (nl:Int) else (nb:Int))=(cnt:Int))(C:¬(f.obj<0\/(cnt:Int)<=f.obj))(B:f.line=ε->¬(f.den<2\/16<f.den\/f.num<1\/f.den-1<f.num))(l:f.line=ζ->¬(f.num≠0\/f.den≠0)):
  fu nb nl f=if f.r<0\/1000<f.r then 2 else 0:=by
 rw[Af j,hc,ι Acz,θ (fun e=>B e.1 e.2),θ (fun e=>l e.1 e.2)];by_cases h:f.r<0\/1000<f.r
 .rw[ι h,θ Acz]
 .rw[θ h,ι Acz]
end
theorem Cz(nm){A0 n0 c0 A1 n1 c1 A2 n2 c2 A3 n3 c3}(f w):
  CE 41 #[stV nm A0 n0 c0 A1 n1 c1 A2 n2 c2 A3 n3 c3,nX f] w (.int .i64 (fu n0 n1 f)):=by
 unfold stV nX;by_cases z1:f.kind=0
 .have q1:((f.kind:Int)==0)=ε:=by simp[z1]
  have l:decide (f.kind<1)=ε:=ae;have S:=aW z1;clear z1;cases V:f.line
  rotate_left
  .have C:¬(f.kind=0/\f.line=ζ/\f.obj=0/\f.num=0/\f.den=0/\f.r=0):=fun e=>by rw[V] at e;cases e.2.1
   clear V;exact Acw
  have Z2:=aW V;clear V;by_cases T:f.obj=0
  rotate_left
  .have q3:((f.obj:Int)==0)=ζ:=by simp;exact T
   have C:¬(f.kind=0/\f.line=ζ/\f.obj=0/\f.num=0/\f.den=0/\f.r=0):=fun e=>T aa;clear T;exact Acw
  have q3:((f.obj:Int)==0)=ε:=by simp[T]
  have Z3:=aW T;clear T;by_cases H:f.num=0
  rotate_left
  .have q4:((f.num:Int)==0)=ζ:=by simp;exact H
   have C:¬(f.kind=0/\f.line=ζ/\f.obj=0/\f.num=0/\f.den=0/\f.r=0):=fun e=>H aa;clear H;exact Acw
  have q4:((f.num:Int)==0)=ε:=by simp[H]
  have B:=aW H;clear H;by_cases G:f.den=0
  rotate_left
  .have q5:((f.den:Int)==0)=ζ:=by simp;exact G
   have C:¬(f.kind=0/\f.line=ζ/\f.obj=0/\f.num=0/\f.den=0/\f.r=0):=fun e=>G aa;clear G;exact Acw
  have q5:((f.den:Int)==0)=ε:=by simp[G]
  have I:=aW G;clear G;by_cases O:f.r=0
  rotate_left
  .have q6:((f.r:Int)==0)=ζ:=by simp;exact O
   have C:¬(f.kind=0/\f.line=ζ/\f.obj=0/\f.num=0/\f.den=0/\f.r=0):=fun e=>O aa;clear O;exact Acw
  have q6:((f.r:Int)==0)=ε:=by simp[O]
  have M:=aW O;clear O;have Q:Hid (fu n0 n1 f=0):=aW (Ro ⟨S.o,Z2.o,Z3.o,B.o,I.o,M.o⟩);exact Aag
 have q1:((f.kind:Int)==0)=ζ:=by simp;exact z1
 have C:¬(f.kind=0/\f.line=ζ/\f.obj=0/\f.num=0/\f.den=0/\f.r=0):=fun e=>z1 e.1;by_cases a1:f.kind<1
 .have d1:decide (f.kind<1)=ε:=ae;have Q:Hid (fu n0 n1 f=10):=aW (mh C aa);exact Aag
 have d1:decide (f.kind<1)=ζ:=ae;by_cases a2:10<f.kind
 .have d2:decide (10<f.kind)=ε:=ae;have Q:Hid (fu n0 n1 f=10):=aW (mh C aa);exact Aag
 have d2:decide (10<f.kind)=ζ:=ae;have hk:1<=f.kind/\f.kind<=10:=⟨aa,aa⟩;have j:=aW hk;clear hk C;cases Z:f.line
 rotate_left
 .have J:Hid (f.line=ε):=aW Z;have P:Hid ((if f.line=ε then (n1:Int) else (n0:Int))=(n1:Nat)):=aW (by rw[Z];rfl);clear Z;by_cases b1:f.obj<0
  .have d3:decide (f.obj<0)=ε:=ae;have Q:Hid (fu n0 n1 f=9):=aW (uK j.o n1 P.o (.inl b1));exact Aag
  have d3:decide (f.obj<0)=ζ:=ae;by_cases b2:(n1:Int)<=f.obj
  .have d4:decide ((n1:Int)<=f.obj)=ε:=ae;have Q:Hid (fu n0 n1 f=9):=aW (uK j.o n1 P.o (.inr b2));exact Aag
  have d4:decide ((n1:Int)<=f.obj)=ζ:=ae;have U:¬(f.obj<0\/(n1:Int)<=f.obj):=aa;have D:=aW U;clear U;by_cases N:f.den<2
  .have W:decide (f.den<2)=ε:=ae;have Q:Hid (fu n0 n1 f=2):=aW (uJ j.o J.o D.o (.inl N));exact Aag
  have W:decide (f.den<2)=ζ:=ae;by_cases L:16<f.den
  .have Y:decide (16<f.den)=ε:=ae;have Q:Hid (fu n0 n1 f=2):=aW (uJ j.o J.o D.o (.inr (.inl L)));exact Aag
  have Y:decide (16<f.den)=ζ:=ae;by_cases e3:f.num<1
  .have d7:decide (f.num<1)=ε:=ae;have Q:Hid (fu n0 n1 f=2):=aW (uJ j.o J.o D.o (.inr (.inr (.inl e3))));exact Aag
  have d7:decide (f.num<1)=ζ:=ae;by_cases e4:f.den-1<f.num
  .have d8:decide (f.den-1<f.num)=ε:=ae;have d9:decide (f.den<=f.num)=ε:=ae;have Q:Hid (fu n0 n1 f=2):=aW (uJ j.o J.o D.o (.inr (.inr (.inr e4))));exact Aag
  have d8:decide (f.den-1<f.num)=ζ:=ae;have d9:decide (f.den<=f.num)=ζ:=ae;have R:=aW (Gl j.o n1 P.o D.o (fun _=>aa) (fun e=>by rw[J.o] at e;cases e));exact AbN
 .have J:Hid (f.line=ζ):=aW Z;have P:Hid ((if f.line=ε then (n1:Int) else (n0:Int))=(n0:Nat)):=aW (by rw[Z];rfl);clear Z;by_cases b1:f.obj<0
  .have d3:decide (f.obj<0)=ε:=ae;have Q:Hid (fu n0 n1 f=9):=aW (uK j.o n0 P.o (.inl b1));exact Aag
  have d3:decide (f.obj<0)=ζ:=ae;by_cases b2:(n0:Int)<=f.obj
  .have d4:decide ((n0:Int)<=f.obj)=ε:=ae;have Q:Hid (fu n0 n1 f=9):=aW (uK j.o n0 P.o (.inr b2));exact Aag
  have d4:decide ((n0:Int)<=f.obj)=ζ:=ae;have U:¬(f.obj<0\/(n0:Int)<=f.obj):=aa;have D:=aW U;clear U;by_cases N:f.num=0
  rotate_left
  .have W:((f.num:Int) !=0)=ε:=by simp;exact N
   have HE:=aW N;clear N;have Q:Hid (fu n0 n1 f=2):=aW (FO j.o J.o D.o (.inl HE.o));exact Aag
  have W:((f.num:Int) !=0)=ζ:=by simp[N]
  have E1:=aW N;clear N;by_cases L:f.den=0
  rotate_left
  .have Y:((f.den:Int) !=0)=ε:=by simp;exact L
   have HE:=aW L;clear L;have Q:Hid (fu n0 n1 f=2):=aW (FO j.o J.o D.o (.inr HE.o));exact Aag
  have Y:((f.den:Int) !=0)=ζ:=by simp[L]
  have E2:=aW L;clear L;have R:=aW (Gl j.o n0 P.o D.o (fun e=>by rw[J.o] at e;cases e) (fun _=>by have:=E1.o;have:=E2.o;omega));exact AbN
theorem Je{A0 n0 c0 A1 n1 c1 A2 n2 c2 A3 n3 c3 L s}(w)(hs:j5 w A0 n0 c0 A1 n1 c1 A2 n2 c2 A3 n3 c3 L s)(f):
  CE 10 #[stV s.name A0 n0 c0 A1 n1 c1 A2 n2 c2 A3 n3 c3,nX f] w (.int .i64 (xu s f)):=by
 have N:s.buses.length=n0:=hs.buses.len;have S:=hs.l1;have D:Hid (Ext w (aL (aL w #[s.name,aO A0 n0 c0,aO A1 n1 c1,aO A2 n2 c2,aO A3 n3 c3] 27) #[f.kind,f.line,f.obj,f.num,f.den,f.r] 33)):=aW ((Ext.new _ _).trans (Ext.new _ _));have F:=aW (hs.ext D.o);clear hs;obtain⟨-,l,U⟩:=ah2 w 27 #[s.name,aO A0 n0 c0,aO A1 n1 c1,aO A2 n2 c2,aO A3 n3 c3] 33 #[f.kind,f.line,f.obj,f.num,f.den,f.r];have T:Hid (xu s f=if chk s=0 then fu n0 n1 f else chk s):=aW (by rw[<-N,<-S];rfl);clear N S;unfold stV nX;go_enter func10,ntmps10;go_wp2_with fail;refine(zO _ F.o).mono ?_;rintro e w1 ⟨rfl,J⟩;generalize chk s=en at T;have C:=(l.ext J).cell;have G:=(U.ext J).cell;have B:=aW J;clear J;by_cases j:en=0
 .subst j;have Q:Hid (xu s f=fu n0 n1 f):=aW (by rw[T.o,ι rfl]);go_wp2_with fail;refine(Cz s.name f _).mono ?_;rintro e w2 ⟨rfl,J⟩;go_wp2;go_ret;exact⟨aY Q.symm,(D.trans B.o).trans J⟩
 .have q0:((en:Int) !=0)=ε:=by simp;exact j
  have Q:Hid (xu s f=en):=aW (by rw[T.o,θ j]);clear j;go_wp2;go_ret;exact⟨aY Q.symm,D.trans B.o⟩
theorem GX{A0 n0 c0 A1 n1 c1 A2 n2 c2 A3 n3 c3 L s}(w)(hs:j5 w A0 n0 c0 A1 n1 c1 A2 n2 c2 A3 n3 c3 L s)(f):
  CE 16 #[stV s.name A0 n0 c0 A1 n1 c1 A2 n2 c2 A3 n3 c3,nX f] w (.int .i64 (xu s f)):=by
 have N:s.buses.length=n0:=hs.buses.len;have S:=hs.l1;have D:Hid (Ext w (aL (aL w #[s.name,aO A0 n0 c0,aO A1 n1 c1,aO A2 n2 c2,aO A3 n3 c3] 27) #[f.kind,f.line,f.obj,f.num,f.den,f.r] 33)):=aW ((Ext.new _ _).trans (Ext.new _ _));have HS:=aW (hs.ext D.o);clear hs;obtain⟨-,R,U⟩:=ah2 w 27 #[s.name,aO A0 n0 c0,aO A1 n1 c1,aO A2 n2 c2,aO A3 n3 c3] 33 #[f.kind,f.line,f.obj,f.num,f.den,f.r];have T:Hid (xu s f=if chk s=0 then fu n0 n1 f else chk s):=aW (by rw[<-N,<-S];rfl);have P:=aW (uo _ HS.o);clear N S;unfold stV nX;generalize chk s=en at T P;by_cases h0:en=0
 rotate_left
 .have q0:((en:Int) !=0)=ε:=by simp;exact h0
  have Q:Hid (xu s f=en):=aW (by rw[T.o,θ h0]);clear h0;go_enter func16,ntmps16;go_wp2_with fail;refine P.mono ?_;rintro e w1 ⟨rfl,J⟩;have C:=(R.ext J).cell;have Y:=(U.ext J).cell;have W:=aW J;clear J;go_wp2;go_ret;exact⟨aY Q.symm,D.trans W.o⟩
 subst h0;have V:Hid (xu s f=fu n0 n1 f):=aW (by rw[T.o,ι rfl]);clear T;by_cases z1:f.kind=0
 .have q1:((f.kind:Int)==0)=ε:=by simp[z1]
  have l:decide (f.kind<1)=ε:=ae;have Z1:=aW z1;clear z1;cases z2:f.line
  rotate_left
  .rw[z2] at R U P D;have hz:¬(f.kind=0/\f.line=ζ/\f.obj=0/\f.num=0/\f.den=0/\f.r=0):=fun e=>by rw[z2] at e;cases e.2.1
   clear z2;exact Acv
  rw[z2] at R U P D;have Z2:=aW z2;clear z2;by_cases z3:f.obj=0
  rotate_left
  .have q3:((f.obj:Int)==0)=ζ:=by simp;exact z3
   have hz:¬(f.kind=0/\f.line=ζ/\f.obj=0/\f.num=0/\f.den=0/\f.r=0):=fun e=>z3 aa;clear z3;exact Acv
  have q3:((f.obj:Int)==0)=ε:=by simp[z3]
  have Z3:=aW z3;clear z3;by_cases H:f.num=0
  rotate_left
  .have q4:((f.num:Int)==0)=ζ:=by simp;exact H
   have hz:¬(f.kind=0/\f.line=ζ/\f.obj=0/\f.num=0/\f.den=0/\f.r=0):=fun e=>H aa;clear H;exact Acv
  have q4:((f.num:Int)==0)=ε:=by simp[H]
  have B:=aW H;clear H;by_cases G:f.den=0
  rotate_left
  .have q5:((f.den:Int)==0)=ζ:=by simp;exact G
   have hz:¬(f.kind=0/\f.line=ζ/\f.obj=0/\f.num=0/\f.den=0/\f.r=0):=fun e=>G aa;clear G;exact Acv
  have q5:((f.den:Int)==0)=ε:=by simp[G]
  have I:=aW G;clear G;by_cases O:f.r=0
  rotate_left
  .have q6:((f.r:Int)==0)=ζ:=by simp;exact O
   have hz:¬(f.kind=0/\f.line=ζ/\f.obj=0/\f.num=0/\f.den=0/\f.r=0):=fun e=>O aa;clear O;exact Acv
  have q6:((f.r:Int)==0)=ε:=by simp[O]
  have M:=aW O;clear O;have Q:Hid (fu n0 n1 f=0):=aW (Ro ⟨Z1.o,Z2.o,Z3.o,B.o,I.o,M.o⟩);exact Aac
 have q1:((f.kind:Int)==0)=ζ:=by simp;exact z1
 have hz:¬(f.kind=0/\f.line=ζ/\f.obj=0/\f.num=0/\f.den=0/\f.r=0):=fun e=>z1 e.1;by_cases a1:f.kind<1
 .have d1:decide (f.kind<1)=ε:=ae;have Q:Hid (fu n0 n1 f=10):=aW (mh hz aa);exact Aac
 have d1:decide (f.kind<1)=ζ:=ae;by_cases a2:10<f.kind
 .have d2:decide (10<f.kind)=ε:=ae;have Q:Hid (fu n0 n1 f=10):=aW (mh hz aa);exact Aac
 have d2:decide (10<f.kind)=ζ:=ae;have hk:1<=f.kind/\f.kind<=10:=⟨aa,aa⟩;have j:=aW hk;clear hk hz;cases Z:f.line
 rotate_left
 .rw[Z] at R U P D;have HL:Hid (f.line=ε):=aW Z;have HC:Hid ((if f.line=ε then (n1:Int) else (n0:Int))=(n1:Nat)):=aW (by rw[Z];rfl);clear Z;by_cases b1:f.obj<0
  .have d3:decide (f.obj<0)=ε:=ae;have Q:Hid (fu n0 n1 f=9):=aW (uK j.o n1 HC.o (.inl b1));exact Aac
  have d3:decide (f.obj<0)=ζ:=ae;by_cases b2:(n1:Int)<=f.obj
  .have d4:decide ((n1:Int)<=f.obj)=ε:=ae;have Q:Hid (fu n0 n1 f=9):=aW (uK j.o n1 HC.o (.inr b2));exact Aac
  have d4:decide ((n1:Int)<=f.obj)=ζ:=ae;have ho:¬(f.obj<0\/(n1:Int)<=f.obj):=aa;have HO:=aW ho;clear ho;by_cases e1:f.den<2
  .have d5:decide (f.den<2)=ε:=ae;have Q:Hid (fu n0 n1 f=2):=aW (uJ j.o HL.o HO.o (.inl e1));exact Aac
  have d5:decide (f.den<2)=ζ:=ae;by_cases e2:16<f.den
  .have d6:decide (16<f.den)=ε:=ae;have Q:Hid (fu n0 n1 f=2):=aW (uJ j.o HL.o HO.o (.inr (.inl e2)));exact Aac
  have d6:decide (16<f.den)=ζ:=ae;by_cases e3:f.num<1
  .have d7:decide (f.num<1)=ε:=ae;have Q:Hid (fu n0 n1 f=2):=aW (uJ j.o HL.o HO.o (.inr (.inr (.inl e3))));exact Aac
  have d7:decide (f.num<1)=ζ:=ae;by_cases e4:f.den-1<f.num
  .have d8:decide (f.den-1<f.num)=ε:=ae;have d9:decide (f.den<=f.num)=ε:=ae;have Q:Hid (fu n0 n1 f=2):=aW (uJ j.o HL.o HO.o (.inr (.inr (.inr e4))));exact Aac
  have d8:decide (f.den-1<f.num)=ζ:=ae;have d9:decide (f.den<=f.num)=ζ:=ae;have HR:=aW (Gl j.o n1 HC.o HO.o (fun _=>aa) (fun e=>by rw[HL.o] at e;cases e));exact AbM
 .rw[Z] at R U P D;have HL:Hid (f.line=ζ):=aW Z;have HC:Hid ((if f.line=ε then (n1:Int) else (n0:Int))=(n0:Nat)):=aW (by rw[Z];rfl);clear Z;by_cases b1:f.obj<0
  .have d3:decide (f.obj<0)=ε:=ae;have Q:Hid (fu n0 n1 f=9):=aW (uK j.o n0 HC.o (.inl b1));exact Aac
  have d3:decide (f.obj<0)=ζ:=ae;by_cases b2:(n0:Int)<=f.obj
  .have d4:decide ((n0:Int)<=f.obj)=ε:=ae;have Q:Hid (fu n0 n1 f=9):=aW (uK j.o n0 HC.o (.inr b2));exact Aac
  have d4:decide ((n0:Int)<=f.obj)=ζ:=ae;have ho:¬(f.obj<0\/(n0:Int)<=f.obj):=aa;have HO:=aW ho;clear ho;by_cases e1:f.num=0
  rotate_left
  .have d5:((f.num:Int) !=0)=ε:=by simp;exact e1
   have HE:=aW e1;clear e1;have Q:Hid (fu n0 n1 f=2):=aW (FO j.o HL.o HO.o (.inl HE.o));exact Aac
  have d5:((f.num:Int) !=0)=ζ:=by simp[e1]
  have E1:=aW e1;clear e1;by_cases e2:f.den=0
  rotate_left
  .have d6:((f.den:Int) !=0)=ε:=by simp;exact e2
   have HE:=aW e2;clear e2;have Q:Hid (fu n0 n1 f=2):=aW (FO j.o HL.o HO.o (.inr HE.o));exact Aac
  have d6:((f.den:Int) !=0)=ζ:=by simp[e2]
  have E2:=aW e2;clear e2;have HR:=aW (Gl j.o n0 HC.o HO.o (fun e=>by rw[HL.o] at e;cases e) (fun _=>by have:=E1.o;have:=E2.o;omega));exact AbM
def lG (PA:Option Addr) (j l:Nat) (PB:Option Addr) (V qc:Nat):Value:=.agg #[aO PA j l,aO PB V qc]
structure iN (w:World) (PA:Option Addr) (pn:Nat) (PB:Option Addr) (qn:Nat) (K:Nat->Hd) (p:dH):Prop where
 lc:p.closed.length=pn
 closed:Arr w PA pn 1 (fun i=>[.bool (p.closed.getD i ζ)])
 ll:p.links.length=qn
 rows:Arr w PB qn 1 (fun i=>[(K i).v])
 lens:∀i,i<qn->(p.links.getD i []).length=(K i).n
 ints:∀i,i<qn->Arr w (K i).A (K i).n 1 (fun k=>[.int .i64 ((p.links.getD i []).getD k 0)])
 mx:pn<=9223372036854775807/\qn<=9223372036854775807/\∀i,i<qn->(K i).n<=9223372036854775807
def iN.ext{w w' PA j PB V K p}(h:iN w PA j PB V K p)(x:Ext w w'):iN w' PA j PB V K p:=
 ⟨h.lc,h.closed.ext x,h.ll,h.rows.ext x,h.lens,fun i hi=>(h.ints i hi).ext x,h.mx⟩
def Arr.one{w:World}{A:Option Addr}{n i:Nat}{f:Nat->Value}(h:Arr w A n 1 (fun i=>[f i]))(hi:i<n):∃b o,A=γ ⟨b,o,δ⟩/\b<w.heap.size/\w.cell? (aM b (o+i))=γ (f i):=by
 obtain⟨b,o,e,hb,hc⟩:=h.at_ hi;have:=hc 0 _ rfl;rw[aaq,I4] at this;exact⟨b,o,e,hb,this⟩
section
variable {s:StD} {p:dH} {n:Nat}
theorem xE(hn:s.bays.length=n)(h:p.closed.length≠n\/p.links.length≠n):jq s p=3:=by
 unfold jq;rw[θ (by rw[hn];omega)]
theorem Ih(hn:s.bays.length=n)(l:p.closed.length=n)(j:p.links.length=n){i}(hi:i<n)(h:(p.links.getD i []).length≠(s.bays.getD i η).links.length):jq s p=3:=by
 unfold jq;rw[ι (by rw[hn];exact⟨l,j⟩),θ];intro e;have:=qb.1 e i (aav.2 aa);exact h (aa0 this)
theorem Mo(hn:s.bays.length=n)(l:p.closed.length=n)(j:p.links.length=n)(h:∀i,i<n->(p.links.getD i []).length=(s.bays.getD i η).links.length):
  jq s p=if (List.range n).all (fun i=>(p.links.getD i []).all (lT s i))=ε then 0 else 16:=by
 unfold jq;rw[ι (by rw[hn];exact⟨l,j⟩),ι (by
  rw[qb];intro i hi;exact Δ (h i (by have:=aav.1 hi;omega))),hn]
def uH(hn:s.bays.length=n)(C:p.closed.length=n)(B:p.links.length=n)(h:∀i,i<n->(p.links.getD i []).length=(s.bays.getD i η).links.length){i k}(hi:i<n)(j:k<(p.links.getD i []).length)(hv:lT s i ((p.links.getD i []).getD k 0)=ζ):jq s p=16:=by
 rw[Mo hn C B h,θ];intro e;have:=qb.1 (qb.1 e i (aav.2 hi)) ((p.links.getD i []).getD k 0) (by
  generalize p.links.getD i []=l at j⊢;rw[σ,ν j];exact abq j)
 rw[hv] at this;cases this
def Mj(hn:s.bays.length=n)(B:p.closed.length=n)(l:p.links.length=n)(h:∀i,i<n->(p.links.getD i []).length=(s.bays.getD i η).links.length)(hv:∀i,i<n->∀k,k<(p.links.getD i []).length->lT s i ((p.links.getD i []).getD k 0)=ε):jq s p=0:=by
 rw[Mo hn B l h,ι];rw[qb];intro i hi;rw[qb];intro x J;obtain⟨k,j,rfl⟩:=acD J;have:=hv i (aav.1 hi) k j;rwa[σ,ν j] at this
theorem GK{i x}(h:x=1):lT s i x=ε:=by unfold lT;simp[h]
theorem EY{i x}(j:(s.bays.getD i η).kind≠3)(h:x=0\/x=2):lT s i x=ε:=by
 unfold lT;rw[Δ j];rcases h with h|h<;>simp[h]
theorem uw{i x}(j:x≠1)(h:(s.bays.getD i η).kind=3\/(x≠0/\x≠2)):lT s i x=ζ:=by
 unfold lT;rw[π j];rcases h with h|⟨h,K⟩
 .rw[π (fun e=>e h)];simp
 .rw[π h,π K];simp
end
theorem zT(nm){A0 n0 c0 A1 n1 c1 A2 n2 c2 A3 n3 c3 L s PA pn pc PB V qc K p}(w)(hs:j5 w A0 n0 c0 A1 n1 c1 A2 n2 c2 A3 n3 c3 L s)(hp:iN w PA pn PB V K p):
  CE 80 #[stV nm A0 n0 c0 A1 n1 c1 A2 n2 c2 A3 n3 c3,lG PA pn pc PB V qc] w (.int .i64 (jq s p)):=by
 have Yz:=hs.l3;have ZL:=hp.lc;have ZJ:=hp.ll;have YN:=hs.mx;have B:=hp.mx;obtain⟨m0,m1,m2,m3⟩:=YN;obtain⟨x0,x1,x2⟩:=B;have W:=aW x2;clear x2;have D:Hid (Ext w (aL (aL w #[nm,aO A0 n0 c0,aO A1 n1 c1,aO A2 n2 c2,aO A3 n3 c3] 27) #[aO PA pn pc,aO PB V qc] 31)):=aW ((Ext.new _ _).trans (Ext.new _ _));have HS:=aW (hs.ext D.o);have HP:=aW (hp.ext D.o);clear hs hp;obtain⟨-,Yr,U⟩:=ah2 w 27 #[nm,aO A0 n0 c0,aO A1 n1 c1,aO A2 n2 c2,aO A3 n3 c3] 31 #[aO PA pn pc,aO PB V qc];have H3:=aW Yz;have HC:=aW ZL;have HL:=aW ZJ;unfold stV lG;by_cases t1:pn=n3
 rotate_left
 .have d1:((pn:Int) !=n3)=ε:=ae;have Q:Hid (jq s p=3):=aW (xE Yz (.inl aa));clear Yz ZL ZJ t1;exact AbE
 have d1:((pn:Int) !=n3)=ζ:=ae;by_cases t2:V=n3
 rotate_left
 .have d2:((V:Int) !=n3)=ε:=ae;have Q:Hid (jq s p=3):=aW (xE Yz (.inr aa));clear Yz ZL ZJ t1 t2;exact AbE
 have d2:((V:Int) !=n3)=ζ:=ae;have Yy:Hid (p.closed.length=n3):=aW aa;have YI:Hid (p.links.length=n3):=aW aa;have l:=aW t2;clear Yz ZL ZJ t1 t2;go_enter func80,ntmps80;go_wp2_with fail;clear d1 d2;go_loopw [30] (fun i wr=>∃k:Nat,k<=n3/\i=.int .i64 (k:Int)/\(∀j,j<k->(p.links.getD j []).length=(s.bays.getD j η).links.length)/\Ext (aL (aL w #[nm,aO A0 n0 c0,aO A1 n1 c1,aO A2 n2 c2,aO A3 n3 c3] 27) #[aO PA pn pc,aO PB V qc] 31) wr) (aT n3)
 case atStart=>exact⟨0,aa,rfl,by intros;omega,Ext.refl _⟩
 case round=>
  obtain⟨k,hk,rfl,hz,J⟩:=hrel;have HZ:=aW hz;have HX:=aW J;have YE:=Yr.ext J;have YF:=U.ext J;have C:=YE.cell;have k2:=YF.cell;have YQ:w.heap.size<wr.heap.size:=YE.lt;have YY:w.heap.size+1<wr.heap.size:=YF.lt;clear hz J YE YF;by_cases H:k<n3
  .have hd:decide (k<n3)=ε:=ae;obtain⟨lb,lo,hA,hb,e0,e1,e2,e3,e4,e5,e6,e7,e8,e9,YJ,YM⟩:=(HS.ext HX.o).bays.bay H;obtain⟨pb,YT,M,YO,f0⟩:=(HP.ext HX.o).rows.one (show k<V by have:=l.o;omega);have G:k<V:=by have:=l.o;omega
   have Z:Hid ((p.links.getD k []).length=(K k).n):=aW (HP.lens k (by have:=l.o;omega));have YV:Hid ((s.bays.getD k η).links.length=(L k).n):=aW (HS.links k H).1;unfold Hd.v at f0;generalize K k=kh at f0 Z;generalize L k=N at e6 YV;have YU:=aW (rfl:s.bays.getD k η=s.bays.getD k η);generalize YB:s.bays.getD k η=b at e0 e1 e2 e3 e4 e5 e6 e7 e8 e9 YJ YM YV;have Zd:=aW YB;clear YB YU;subst hA M;by_cases O:kh.n=N.n
   .have q1:((kh.n:Int) !=(N.n:Int))=ζ:=ae;have HE:=aW O;clear O;go_wp2_with fail;go_quiet (fail);go_wp2_with fail
    go_roundw
    case rel=>exact⟨k+1,aa,au,(fun j hj=>by
     by_cases e:j=k
     .rw[e,Z.o,Zd.o,YV.o,HE.o]
     .exact HZ.o j aa),(HX.alloc _).drewN _⟩
    case measure=>exact aV
   .have q1:((kh.n:Int) !=(N.n:Int))=ε:=ae;have Q:Hid (jq s p=3):=aW (Ih H3.o Yy.o YI.o H (by rw[Z.o,Zd.o,YV.o];exact O));clear O;go_wp2_with fail;go_quiet (fail);go_wp2_with fail;go_ret;exact⟨aY Q.symm,((D.trans HX.o).alloc _).drewN _⟩
  .obtain rfl:n3=k:=aa;clear H;go_wp2_with fail;clear C k2;go_loopw [49] (fun i wr=>∃k:Nat,k<=n3/\i=.int .i64 (k:Int)/\(∀j,j<k->∀t,t<(p.links.getD j []).length->lT s j ((p.links.getD j []).getD t 0)=ε)/\Ext (aL (aL w #[nm,aO A0 n0 c0,aO A1 n1 c1,aO A2 n2 c2,aO A3 n3 c3] 27) #[aO PA pn pc,aO PB V qc] 31) wr) (aT n3)
   case atStart=>exact⟨0,aa,rfl,by intros;omega,HX.o⟩
   case round=>
    clear HX YQ YY;obtain⟨k,hk,rfl,hz,J⟩:=hrel;have Za:=aW hz;have HX:=aW J;have YE:=Yr.ext J;have YF:=U.ext J;have C:=YE.cell;have k2:=YF.cell;have YQ:w.heap.size<wr.heap.size:=YE.lt;have YY:w.heap.size+1<wr.heap.size:=YF.lt;clear hz J YE YF;by_cases H:k<n3
    .have hd:decide (k<n3)=ε:=ae;obtain⟨lb,lo,hA,hb,e0,e1,e2,e3,e4,e5,e6,e7,e8,e9,YJ,YM⟩:=(HS.ext HX.o).bays.bay H;have G:k<V:=by have:=l.o;omega
     obtain⟨pb,YT,M,YO,f0⟩:=(HP.ext HX.o).rows.one G;have Z:Hid ((p.links.getD k []).length=(K k).n):=aW (HP.lens k G);have Yu:=aW ((HP.ext HX.o).ints k G);have S:=W.o k G;unfold Hd.v at f0;generalize K k=kh at f0 Z Yu S;generalize L k=N at e6;generalize YB:s.bays.getD k η=b at e0 e1 e2 e3 e4 e5 e6 e7 e8 e9 YJ YM;have Zd:=aW YB;clear YB;subst hA M;obtain⟨-,YL⟩:=an1 wr 57 #[b.name,b.kind,b.obj,b.en,b.z.r,b.z.x,aO N.A N.n N.c,b.closed,b.ct,b.vt,b.sat,b.travel];have YC:=aW YL;clear YL;have F:=aW (Yu.ext (Ext.new wr (.cells #[b.name,b.kind,b.obj,b.en,b.z.r,b.z.x,aO N.A N.n N.c,b.closed,b.ct,b.vt,b.sat,b.travel] 57)));have YG:=aW (HX.alloc (.cells #[b.name,b.kind,b.obj,b.en,b.z.r,b.z.x,aO N.A N.n N.c,b.closed,b.ct,b.vt,b.sat,b.travel] 57));go_wp2_with fail;clear C k2 e0 e1 e2 e3 e4 e5 e6 e7 e8 e9 YJ YM f0;generalize wr.alloc (.cells #[b.name,b.kind,b.obj,b.en,b.z.r,b.z.x,aO N.A N.n N.c,b.closed,b.ct,b.vt,b.sat,b.travel] 57)=w5 at YC F YG⊢;generalize wr.heap.size=g5 at YC YQ YY hb YO⊢;have kb:=YC.cell;go_loop [60] (fun i=>∃t:Nat,t<=kh.n/\i=.int .i64 (t:Int)/\(∀u,u<t->lT s k ((p.links.getD k []).getD u 0)=ε)) (fun i=>kh.n-(intOf i).toNat)
     case atStart=>exact⟨0,aa,rfl,by intros;omega⟩
     case round=>
      obtain⟨t,ht,rfl,hz⟩:=hrel;have YX:=aW hz;clear hz;by_cases I:t<kh.n
      .have Z9:decide (t<kh.n)=ε:=ae;obtain⟨R,Y,hI,P,g0⟩:=F.one I;rw[hI];generalize T:(p.links.getD k []).getD t 0=x at g0;have Yv:=aW T;clear T;by_cases h1:x=1
       .have q1:((x:Int)==1)=ε:=by simp[h1]
        have HO:Hid (lT s k x=ε):=aW (GK h1);clear h1;go_wp2;go_round
        case rel=>exact⟨t+1,aa,au,fun u hu=>by
         by_cases e:u=t
         .rw[e,Yv.o];exact HO.o
         .exact YX.o u aa⟩
        case measure=>exact aV
       have q1:((x:Int)==1)=ζ:=by simp;exact h1
       by_cases h3:b.kind=3
       .have q2:((b.kind:Int) !=3)=ζ:=by simp[h3]
        have Q:Hid (jq s p=16):=aW (uH H3.o Yy.o YI.o HZ.o H (by rw[Z.o];exact I) (by rw[Yv.o];exact uw h1 (.inl AcK)));clear h1 h3;go_wp2;go_ret;exact⟨aY Q.symm,D.trans YG.o⟩
       have q2:((b.kind:Int) !=3)=ε:=by simp;exact h3
       by_cases h0:x=0
       .have q3:((x:Int)==0)=ε:=by simp[h0]
        have HO:Hid (lT s k x=ε):=aW (EY AcK (.inl h0));clear h0 h1 h3;go_wp2;go_round
        case rel=>exact⟨t+1,aa,au,fun u hu=>by
         by_cases e:u=t
         .rw[e,Yv.o];exact HO.o
         .exact YX.o u aa⟩
        case measure=>exact aV
       have q3:((x:Int)==0)=ζ:=by simp;exact h0
       by_cases h2:x=2
       .have q4:((x:Int)==2)=ε:=by simp[h2]
        have HO:Hid (lT s k x=ε):=aW (EY AcK (.inr h2));clear h0 h1 h2 h3;go_wp2;go_round
        case rel=>exact⟨t+1,aa,au,fun u hu=>by
         by_cases e:u=t
         .rw[e,Yv.o];exact HO.o
         .exact YX.o u aa⟩
        case measure=>exact aV
       have q4:((x:Int)==2)=ζ:=by simp;exact h2
       have Q:Hid (jq s p=16):=aW (uH H3.o Yy.o YI.o HZ.o H (by rw[Z.o];exact I) (by rw[Yv.o];exact uw h1 (.inr ⟨h0,h2⟩)));clear h0 h1 h2 h3;go_wp2;go_ret;exact⟨aY Q.symm,D.trans YG.o⟩
      .obtain rfl:kh.n=t:=aa;clear I kb;go_wp2_with fail
       go_roundw
       case rel=>exact⟨k+1,aa,au,(fun j hj=>by
        by_cases e:j=k
        .subst e;intro u hu;exact YX.o u (by rw[<-Z.o];exact hu)
        .exact Za.o j aa),YG.o⟩
       case measure=>exact aV
    .exact Ab3
theorem G5(nm){A0 n0 c0 A1 n1 c1 A2 n2 c2 A3 n3 c3 L s PA pn pc PB V qc K p}(w)(hs:j5 w A0 n0 c0 A1 n1 c1 A2 n2 c2 A3 n3 c3 L s)(hp:iN w PA pn PB V K p):
  CE 39 #[stV nm A0 n0 c0 A1 n1 c1 A2 n2 c2 A3 n3 c3,lG PA pn pc PB V qc] w (.int .i64 (jq s p)):=by
 have Z:=hs.l3;have ZL:=hp.lc;have ZJ:=hp.ll;have YN:=hs.mx;have B:=hp.mx;obtain⟨m0,m1,m2,m3⟩:=YN;obtain⟨x0,x1,x2⟩:=B;have W:=aW x2;clear x2;have D:Hid (Ext w (aL (aL w #[nm,aO A0 n0 c0,aO A1 n1 c1,aO A2 n2 c2,aO A3 n3 c3] 27) #[aO PA pn pc,aO PB V qc] 31)):=aW ((Ext.new _ _).trans (Ext.new _ _));have HS:=aW (hs.ext D.o);have HP:=aW (hp.ext D.o);clear hs hp;obtain⟨-,Yr,U⟩:=ah2 w 27 #[nm,aO A0 n0 c0,aO A1 n1 c1,aO A2 n2 c2,aO A3 n3 c3] 31 #[aO PA pn pc,aO PB V qc];have H3:=aW Z;have HC:=aW ZL;have HL:=aW ZJ;unfold stV lG;by_cases t1:pn=n3
 rotate_left
 .have d1:((pn:Int) !=n3)=ε:=ae;have Q:Hid (jq s p=3):=aW (xE Z (.inl aa));clear Z ZL ZJ t1;exact Ade
 have d1:((pn:Int) !=n3)=ζ:=ae;by_cases t2:V=n3
 rotate_left
 .have d2:((V:Int) !=n3)=ε:=ae;have Q:Hid (jq s p=3):=aW (xE Z (.inr aa));clear Z ZL ZJ t1 t2;exact Ade
 have d2:((V:Int) !=n3)=ζ:=ae;have Yy:Hid (p.closed.length=n3):=aW aa;have YI:Hid (p.links.length=n3):=aW aa;have l:=aW t2;clear Z ZL ZJ t1 t2;go_enter func39,ntmps39;go_wp2_with fail;clear d1 d2;go_loopw [5] (fun i wr=>∃k:Nat,k<=n3/\i=.int .i64 (k:Int)/\(∀j,j<k->(p.links.getD j []).length=(s.bays.getD j η).links.length)/\Ext (aL (aL w #[nm,aO A0 n0 c0,aO A1 n1 c1,aO A2 n2 c2,aO A3 n3 c3] 27) #[aO PA pn pc,aO PB V qc] 31) wr) (aT n3)
 case atStart=>exact⟨0,aa,rfl,by intros;omega,Ext.refl _⟩
 case round=>
  obtain⟨k,hk,rfl,hz,J⟩:=hrel;have HZ:=aW hz;have HX:=aW J;have YE:=Yr.ext J;have YF:=U.ext J;have C:=YE.cell;have k2:=YF.cell;clear hz J YE YF;by_cases F:k<n3
  .have hd:decide (k<n3)=ε:=ae;obtain⟨lb,lo,hA,hb,e0,e1,e2,e3,e4,e5,e6,e7,e8,e9,YJ,YM⟩:=(HS.ext HX.o).bays.bay F;obtain⟨pb,YT,M,YO,f0⟩:=(HP.ext HX.o).rows.one (show k<V by have:=l.o;omega);have G:k<V:=by have:=l.o;omega
   have H:Hid ((p.links.getD k []).length=(K k).n):=aW (HP.lens k (by have:=l.o;omega));have YV:Hid ((s.bays.getD k η).links.length=(L k).n):=aW (HS.links k F).1;unfold Hd.v at f0;clear e0 e1 e2 e3 e4 e5 e7 e8 e9 YJ YM;generalize K k=kh at f0 H;generalize L k=N at e6 YV;subst hA M;by_cases O:kh.n=N.n
   .have q1:((kh.n:Int) !=(N.n:Int))=ζ:=ae;have HE:=aW O;clear O;go_wp2_with fail;go_quiet (fail);go_wp2_with fail
    go_roundw
    case rel=>exact⟨k+1,aa,au,(fun j hj=>by
     by_cases e:j=k
     .rw[e,H.o,YV.o,HE.o]
     .exact HZ.o j aa),HX.drewN _⟩
    case measure=>exact aV
   .have q1:((kh.n:Int) !=(N.n:Int))=ε:=ae;have Q:Hid (jq s p=3):=aW (Ih H3.o Yy.o YI.o F (by rw[H.o,YV.o];exact O));clear O;go_wp2_with fail;go_quiet (fail);go_wp2_with fail;go_ret;exact⟨aY Q.symm,(D.trans HX.o).drewN _⟩
  .obtain rfl:n3=k:=aa;clear F;go_wp2_with fail;clear C k2;go_loop [6] (fun i=>∃k:Nat,k<=n3/\i=.int .i64 (k:Int)/\(∀j,j<k->∀t,t<(p.links.getD j []).length->lT s j ((p.links.getD j []).getD t 0)=ε)) (fun i=>n3-(intOf i).toNat)
   case atStart=>exact⟨0,aa,rfl,by intros;omega⟩
   case round=>
    obtain⟨k,hk,rfl,hz⟩:=hrel;have Za:=aW hz;have C:=(Yr.ext HX.o).cell;have k2:=(U.ext HX.o).cell;clear hz;by_cases F:k<n3
    .have hd:decide (k<n3)=ε:=ae;obtain⟨lb,lo,hA,hb,e0,e1,e2,e3,e4,e5,e6,e7,e8,e9,YJ,YM⟩:=(HS.ext HX.o).bays.bay F;clear e0 e2 e3 e4 e5 e6 e7 e8 e9 YJ YM;have G:k<V:=by have:=l.o;omega
     obtain⟨pb,YT,M,YO,f0⟩:=(HP.ext HX.o).rows.one G;have H:Hid ((p.links.getD k []).length=(K k).n):=aW (HP.lens k G);have Yu:=aW ((HP.ext HX.o).ints k G);have S:=W.o k G;unfold Hd.v at f0;generalize K k=kh at f0 H Yu S;generalize YB:s.bays.getD k η=b at e1;have Zd:=aW YB;clear YB;subst hA M;go_wp2_with fail
     go_loop [7] (fun i=>∃t:Nat,t<=kh.n/\i=.int .i64 (t:Int)/\(∀u,u<t->lT s k ((p.links.getD k []).getD u 0)=ε)) (fun i=>kh.n-(intOf i).toNat)
     case atStart=>exact⟨0,aa,rfl,by intros;omega⟩
     case round=>
      obtain⟨t,ht,rfl,hz⟩:=hrel;have YX:=aW hz;clear hz;by_cases I:t<kh.n
      .have Z9:decide (t<kh.n)=ε:=ae;obtain⟨R,Y,hI,P,g0⟩:=Yu.one I;rw[hI] at f0;generalize T:(p.links.getD k []).getD t 0=x at g0;have Yv:=aW T;clear T;by_cases h0:x<0
       .have q1:decide (x<0)=ε:=ae;exact AaY
       have q1:decide (x<0)=ζ:=ae;by_cases h2:2<x
       .have q2:decide (2<x)=ε:=ae;exact AaY
       have q2:decide (2<x)=ζ:=ae;by_cases h3:b.kind=3
       .have q3:((b.kind:Int)==3)=ε:=by simp[h3]
        by_cases h1:x=1
        .have q4:((x:Int) !=1)=ζ:=by simp[h1]
         have HO:Hid (lT s k x=ε):=aW (GK h1);clear h1 h3;go_wp2;go_round
         case rel=>exact⟨t+1,aa,au,fun u hu=>by
          by_cases e:u=t
          .rw[e,Yv.o];exact HO.o
          .exact YX.o u aa⟩
         case measure=>exact aV
        .have q4:((x:Int) !=1)=ε:=by simp;exact h1
         have Q:Hid (jq s p=16):=aW (uH H3.o Yy.o YI.o HZ.o F (by rw[H.o];exact I) (by rw[Yv.o];exact uw h1 (.inl AcK)));clear h1 h3;go_wp2;go_ret;exact⟨aY Q.symm,D.trans HX.o⟩
       have q3:((b.kind:Int)==3)=ζ:=by simp;exact h3
       have HO:Hid (lT s k x=ε):=aW (by
        by_cases h1:x=1
        .exact GK h1
        .exact EY AcK aa)
       clear h3;go_wp2;go_round
       case rel=>exact⟨t+1,aa,au,fun u hu=>by
        by_cases e:u=t
        .rw[e,Yv.o];exact HO.o
        .exact YX.o u aa⟩
       case measure=>exact aV
      .obtain rfl:kh.n=t:=aa;clear I;go_wp2_with fail
       go_round
       case rel=>exact⟨k+1,aa,au,(fun j hj=>by
        by_cases e:j=k
        .subst e;intro u hu;exact YX.o u (by rw[<-H.o];exact hu)
        .exact Za.o j aa)⟩
       case measure=>exact aV
    .exact Ab3
def Only.setRow(w g cs):Only g w (w.setRow g cs):=⟨rfl,rfl,rfl,ag,fun i _ j=>setRow_other w g i cs (fun e=>j (by rw[e]))⟩
def xw{P}{fn:Func}{R:Ending->World->Prop}{a:Act}{w}{t u:Nat}(l:fn.results= #[.tmp t,.tmp u])(hd:a.defers=[])(j:R (.returned (.tuple #[a.tmps.getD t undef,a.tmps.getD u undef])) w):bodyPost P fn R .ret a w:=
 aak (v:=.tuple #[a.tmps.getD t undef,a.tmps.getD u undef]) (by simp[results,l]) hd j
def mG{P:Program}{fn:Func}{R:Ending->World->Prop}{a:Act}{w:World}{t g:Nat}{T:TypeId}{cs:Array Value}{d:TypeDesc}(B:fn.results= #[.cell t T])(hd:a.defers=[])(hp:a.tmps[t]?.getD undef=.pointer (γ (aM g 0)))(hb:Blk w g T cs)(C:P.underlying T=γ d)(j:(match d with| .struct _| .array _ _=>ε|_=>ζ)=ε)(hi:(P.info? T).map (·.size)=γ cs.size)(l:R (.returned (.agg cs)) w):bodyPost P fn R .ret a w:=
 aak (v:=.agg cs) (by simp[results,B,hp,asAddr,adi w g T T cs (0,0) d hb C j hi]) hd l
def GN{P:Program}{fn:Func}{R:Ending->World->Prop}{a:Act}{w:World}{t u g:Nat}{T:TypeId}{cs:Array Value}{d:TypeDesc}(l:fn.results= #[.cell t T,.tmp u])(hd:a.defers=[])(hp:a.tmps[t]?.getD undef=.pointer (γ (aM g 0)))(hb:Blk w g T cs)(B:P.underlying T=γ d)(j:(match d with| .struct _| .array _ _=>ε|_=>ζ)=ε)(hi:(P.info? T).map (·.size)=γ cs.size)(C:R (.returned (.tuple #[.agg cs,a.tmps.getD u undef])) w):bodyPost P fn R .ret a w:=
 aak (v:=.tuple #[.agg cs,a.tmps.getD u undef]) (by simp[results,l,hp,asAddr,adi w g T T cs (0,0) d hb B j hi]) hd C
def C8:Elem prog 92 3 1 8:=afa acW (z:=.int .i64 0) ah rfl aa
def Ea:Elem prog 28 4 1 1:=afa acX (z:=.bool ζ) ah rfl aa
def DV:Elem prog 29 92 1 24:=afa underlying29 (z:=.slice δ 0 0) ah rfl aa
def Jv{α:Type}(f:α->Value)(l:List α)(d:α){i}(hi:i<l.length):(l.map f)[i]? =γ (f (l.getD i d)):=by
 rw[z8,ν hi,σ,ν hi];rfl
theorem Arr.reads{α:Type}{w A n}{f:α->Value}{l:List α}{d:α}(h:Arr w A n 1 (fun i=>[f (l.getD i d)]))(Z:l.length=n):Reads w w.heap.size 1 A n (l.map f):=by
 refine⟨by simp[Z],fun hn=> ?_⟩;obtain⟨b,o,e,hb,hc⟩:=h hn;refine⟨_,e,hb,fun j u B=> ?_⟩;have D:j<l.length:=by
  have:=(μ.1 B).1;simpa using this
 rw[Jv f l d D] at B;injection B with B;have:=hc j aa 0 u (by show γ (f (l.getD j d))=γ u;rw[B]);rw[aaq,I4] at this;rw[<-this];unfold Addr.add;by_cases C:j=0
 .subst C;simp
 .rw[θ C]
theorem afh{α:Type}{w B e n}{f:α->Value}{l:List α}{v}(d:α)(h:w.ownsRow B e 1 v n (l.map f)):∃A c,v=.slice A n c/\n<=c/\l.length=n/\Arr w A n 1 (fun i=>[f (l.getD i d)]):=by
 have Z:l.length=n:=by have:=h.1;simpa using this
 obtain⟨A,c,e,hc,_,J⟩:=jD h;refine⟨A,c,e,hc,Z,fun hn=> ?_⟩;rcases h.2 with ⟨hv,j⟩|⟨g,G,cur,hv,hb,H,_⟩
 .omega
 .rw[e] at hv;injection hv with I _ _;subst I;refine⟨g,0,rfl,(aaK.1 H).1,fun i hi t u D=> ?_⟩;cases t with
  |succ t=>simp at D
  |zero=>
   obtain⟨K,F,_,C⟩:=J.2 hn;injection F with F;subst F;have:=C i _ (Jv f l d aa);simp only[adg,aay] at D;rw[<-D,aaq,I4,<-this];unfold Addr.add;by_cases j:i=0
   .subst j;simp
   .rw[θ j]
def fE{w base g e t size n v xs cs}(h:w.ownsRow base e size v n xs)(hb:Blk w g t cs)(l:t≠e):v.ownBlock≠γ g:=by
 intro hv;rcases h.2 with ⟨rfl,_⟩|⟨g',G,cur,rfl,_,j,_⟩
 .cases hv
 .simp only[Value.ownBlock,aay] at hv;subst hv;rw[hb] at j;injection j with j;injection j with _ B;exact l B
def Rs(l:List Int):∀u∈l.map (Value.int .i64),u.oneCell'=ε:=by
 exact Abh
def NZ(l:List Bool):∀u∈l.map Value.bool,u.oneCell'=ε:=by
 exact Abh
def KD(A n c)(l:List Bool)(w:World)(h:Arr w A n 1 (fun i=>[.bool (l.getD i ζ)]))(Z:l.length=n)(hn:n<=1000000):
  CV 123 #[aO A n c] w fun v w'=>w'.ownsRow w.heap.size 4 1 v n (l.map (Value.bool)):=by
 have C:=Arr.reads (f:=Value.bool) h Z;have B:=aW C;clear C;cases A with
 |none=>
  have j:n=0:=by
   exact AcT
  subst j;obtain rfl:l=[]:=I5 Z;clear h Z B;have T:=aaS (P:=prog) (t:=28) (a:=δ) (n:=0) (c:=c) (n':=0) (c':=0) (h:=acX);go_enter func123,ntmps123;go_wp2;all_goals
   exact Aca
 |some ad=>
  clear h;have G:=aW Z;clear Z;have T:=aaS (P:=prog) (t:=28) (a:=γ ad) (n:=n) (c:=c) (n':=0) (c':=0) (h:=acX);go_enter func123,ntmps123;(go_wp2_with (at_builtin;refine jk Ea rfl (.tmp 5) (.tmp 6) rfl w.heap.size _ 0 [] rf (aaZ _ _ _ aa aa ag) _ n _ (l.map (Value.bool)) rf (B.ext (Ext.new w _)) (NZ l) aa aa ag ?_));exact AaR
def KJ(A n c)(l:List Int)(w:World)(h:Arr w A n 1 (fun i=>[.int .i64 (l.getD i 0)]))(Z:l.length=n)(hn:n<=1000000):
  CV 124 #[aO A n c] w fun v w'=>w'.ownsRow w.heap.size 3 1 v n (l.map (Value.int .i64)):=by
 have C:=Arr.reads (f:=Value.int .i64) h Z;have B:=aW C;clear C;cases A with
 |none=>
  have j:n=0:=by
   exact AcT
  subst j;obtain rfl:l=[]:=I5 Z;clear h Z B;have T:=aaS (P:=prog) (t:=92) (a:=δ) (n:=0) (c:=c) (n':=0) (c':=0) (h:=acW);go_enter func124,ntmps124;go_wp2;all_goals
   exact Aca
 |some ad=>
  clear h;have G:=aW Z;clear Z;have T:=aaS (P:=prog) (t:=92) (a:=γ ad) (n:=n) (c:=c) (n':=0) (c':=0) (h:=acW);go_enter func124,ntmps124;(go_wp2_with (at_builtin;refine jk C8 rfl (.tmp 5) (.tmp 6) rfl w.heap.size _ 0 [] rf (aaZ _ _ _ aa aa ag) _ n _ (l.map (Value.int .i64)) rf (B.ext (Ext.new w _)) (Rs l) aa aa ag ?_));exact AaR
def mv (c x:Int):Int:=if x=2 then c else x
def vT(c p i):(resolve c p).links.getD i []=(p.links.getD i []).map (mv c):=by
 show(p.links.map (List.map (mv c))).getD i []=_;rw[σ,σ,z8];cases p.links[i]? <;>rfl
def vX (f:Int->Int) (l:List Int) (t:Nat):List Int:=(l.take t).map f++l.drop t
def SI(f l):vX f l 0=l:=by simp[vX]
def Rx(f l t):(vX f l t).length=l.length:=by simp[vX];omega
def Jm{f l t}(h:l.length=t):vX f l t=l.map f:=by subst h;simp[vX]
theorem FP{f l t}(h:t<l.length):(vX f l t)[t]? =γ (l.getD t 0):=by
 unfold vX;rw[kC ae];simp only[aar,Be];rw[aao aa,aaW,Zb,I4,ν h,σ,ν h];rfl
theorem CU{f l t}(h:t<l.length):(vX f l t).set t (f (l.getD t 0))=vX f l (t+1):=by
 unfold vX;rw[abH _ _ ae];simp only[aar,Be];rw[aao aa,aaW,kU h];have e:l.drop t=l[t]::l.drop (t+1):=aaC h;rw[e,De,aad,HV];rfl
def Et{f l t}(h:t<l.length)(hv:f (l.getD t 0)=l.getD t 0):vX f l (t+1)=vX f l t:=by
 rw[<-CU h,hv];apply aam;intro j;by_cases e:j=t
 .subst e;rw[abB (by rw[Rx];exact h),FP h]
 .rw[aaf (fun h=>e h.symm)]
def Ma{w base g n G e xs}(h:w.ownsRow base e 1 (.slice (γ (aM g 0)) n G) n xs)(j u):
  (w.setCell ⟨g,j,δ⟩ u).ownsRow base e 1 (.slice (γ (aM g 0)) n G) n (xs.set j u)/\Mod (fun k=>k=g) w (w.setCell ⟨g,j,δ⟩ u):=
 ⟨(h.stored j u).1,Mod.grown (h.stored j u).2 (fun k l=>by injection l with l;exact l.symm)⟩
def Ext.mod{S w0 w w'}(h:Ext w0 w)(m:Mod S w w')(hs:∀k,S k->w0.heap.size<=k):Ext w0 w':=
 ⟨m.os.trans h.os,m.tape.trans h.tape,m.output.trans h.output,Ξ h.size m.size,fun k j=>(m.block k (ο j h.size) (fun e=>by have:=hs k e;omega)).trans (h.block k j)⟩
def FD{w:World}{base g n G e}{f:Int->Value}{l:List Int}(h:w.ownsRow base e 1 (.slice (γ (aM g 0)) n G) n (l.map f)){j x}(B:j<n)(J:l[j]? =γ x):
  w.cell? (aM g j)=γ (f x)/\w.frozen? ⟨g,j,δ⟩=ζ:=by
 refine⟨?_,h.frozenAt j⟩;rw[h.cellAt j aa,z8,J];rfl
def wR (w:World) (B k:Nat) (R:Nat->Hd) (f:Nat->List Int):Prop:=∀i,i<k->w.ownsRow B 3 1 (R i).v (R i).n ((f i).map (.int .i64))
def wR.ext{w w' B k R}{f:Nat->List Int}(h:wR w B k R f)(x:Ext w w'):wR w' B k R f:=fun i hi=>eH (h i hi) x
def yS (R:Nat->Hd) (k:Nat):List Value:=(List.range k).map fun i=>(R i).v
theorem Ez(R k):yS R (k+1)=yS R k++[(R k).v]:=by unfold yS;rw[abW,aad];rfl
theorem Cf{R j k}(h:∀i,i<k->R i=j i):yS R k=yS j k:=by
 unfold yS;exact acA fun i hi=>by rw[h i (aav.1 hi)]
theorem iN.made{w B l V v1 C R p}(J:w.ownsRow B 4 1 v1 l (p.closed.map Value.bool))(H:w.ownsRow B 92 1 C V (yS R V))(Z:p.links.length=V)(G:wR w B V R (fun i=>p.links.getD i []))(hp:l<=1000000)(hq:V<=1000000)(I:∀i,i<V->(R i).n<=1000000):∃PA F PB qc,v1=.slice PA l F/\C=.slice PB V qc/\iN w PA l PB V R p:=by
 obtain⟨PA,F,N,_,S,O⟩:=afh ζ J;have j:w.ownsRow B 92 1 C V ((List.range V).map fun i=>(R i).v):=H;obtain⟨PB,qc,M,_,_,P⟩:=afh 0 j;refine⟨PA,F,PB,qc,N,M,S,O,Z,P.congr fun i hi=> ?_,fun i hi=> ?_,fun i hi=> ?_,aa,aa,fun i hi=>by have:=I i hi;omega⟩
 .rw[σ,aaA hi];rfl
 .obtain⟨_,_,_,_,D,_⟩:=afh 0 (G i hi);exact D
 .obtain⟨A,c,e,_,_,K⟩:=afh 0 (G i hi);unfold Hd.v at e;injection e with L _ _;rw[L];exact K
open Go.RowKit Go.ChangeShapes Go.WideShapes Go.ChangeAt Go.Joins Go.Deep
def Tryz.own:ownKnob prog.godebug=δ:=ah
def afx:laidOutB prog=ε:=ah
section
variable {H:Type} {enc:TypeId×Value->H} {P:Program}
def xG(Z:laidOutB P=ε){W W'}(hb:Ext W W'){sp}:∀{j:List TypeId} {B:List Value} {F:List (DataW H)} {ps:List MemPlace},
  (∀t∈j,P.readableRec t=ε/\t<P.types.size)->(∀p∈ps,p.block<W.heap.size)->(∀p∈ps,sp p.block=ε)->
  DataW.TrodAll enc P W 0 (fun _=>ε) ε j B F ps->DataW.TrodAll enc P W' 0 sp ε j B F ps
 |[],_,_,_,_,_,_,h=>by
  obtain⟨rfl,rfl,rfl⟩:=trodAll_nil h;exact trodAll_mk0
 |t::j,_,_,_,ht,hlt,hsp,h=>by
  obtain⟨v,B,d,F,p,ps,rfl,rfl,rfl,C,l⟩:=trodAll_cons h;refine trodAll_cons_mk ?_ (xG Z hb (fun t h=>ht t (nC _ h)) (fun x J=>hlt x (by simp[J])) (fun x J=>hsp x (by simp[J])) l);exact WideElems.Trod_stays Z (ht t ag).1 (ht t ag).2 C (fun x J=>hb.same (hlt x (by simp[J]))) (fun x J=>hsp x (by simp[J]))
def Qc{f}{s:ChangeSpec}{apart N C M W W' args}{F:List (DataW H)}{l:List MemPlace}(Z:laidOutB P=ε)(hv:s.vars=[])(O:f.resultTypes= #[4])(T:P.underlying 4=γ .bool)(U:∀t∈f.params.toList,P.readableRec t=ε/\t<P.types.size)(R:DataW.Whole enc P f.params.toList s.vars apart W args.toList F [] l)(V:DataW.TrodAll enc P W 0 (fun _=>ε) ε f.params.toList args.toList F l)(e1:(s.fn H (F++[])).results=[.lit (.bool ε)])(Y:(s.fn H (F++[])).args=F)(e3:(s.fn H (F++[])).vars=[])(hb:Ext W W'):s.post enc P f apart N C M W args (.bool ε) W':=by
 have Q:∀p∈l,p.block<W.heap.size:=fun p hp=>R.lt p hp;have L:∀(b:Nat) (sp:Nat->Bool) (hd:Bool),DataW.TrodAll enc P W' b sp hd f.resultTypes.toList ((Value.bool ε).resultList f.resultTypes.size) (s.fn H (F++[])).results []:=by
  intro b sp hd;rw[e1,O];exact trodAll_mk1 (shut_bool T _)
 have I:∀sp:Nat->Bool,(∀p∈l,sp p.block=ε)->DataW.TrodAll enc P W' 0 sp ε f.params.toList args.toList (s.fn H (F++[])).args l:=by
  intro sp G;rw[Y];exact xG Z hb U Q G V
 have J:∀sp:Nat->Bool,(∀p∈l,sp p.block=ε)->DataW.TrodVars enc P W' sp s.vars (s.fn H (F++[])).vars []:=by
  intro sp _;rw[e3,hv];rfl
 have S:∀(j:Nat) (t:TypeId) (r:Value),f.resultTypes[j]? =γ t->((Value.bool ε).resultList f.resultTypes.size)[j]? =γ r->Value.okWide P W' .any 0 t r:=by
  exact ok_one O rfl (okWide_bool_mk T _)
 have K:∀p∈l,(fun b=>decide (b<W.heap.size)) p.block=ε:=fun p hp=>by simpa using Q p hp
 refine⟨F,[],l,[],l,[],R,L _ _ _,I _ K,J _ K,World.keptBut_mono (fun p hp=>⟨hp,?_⟩) (hb.frame (·∈l)),fun _=> ?_⟩
 .exact Or.inr (by simpa using hp)
 .obtain⟨_,_,_,_,_,hz,hn⟩:=R;refine⟨S,_,_,([]++l)++[],⟨[]++l,[],trodAll_append (I _ (fun _ _=>rfl)) (L _ _ _),J _ (fun _ _=>rfl),rfl,?_,?_⟩,?_⟩
  .intro b B hp;have D:MemPlace.cell b B∈l:=by simpa using hp
   rw[hb.frozen (Q _ D)];exact hz b B D
  .intro ha;simpa using hn ha
  .intro p hp _;simpa using hp
end
structure rZ (w:World) (A0:Option Addr) (n0 c0:Nat) (A1:Option Addr) (n1 c1:Nat) (A2:Option Addr) (n2 c2:Nat) (A3:Option Addr) (n3 c3:Nat) (L:Nat->Hd) (s:StD):Prop where
 buses:Strs w A0 n0 s.buses
 nc:n0<=c0
 mx:n0<=9223372036854775807/\n1<=9223372036854775807/\n2<=9223372036854775807/\n3<=9223372036854775807
 l1:s.lines.length=n1
 lines:Arr w A1 n1 5 (fun i=>ry (s.lines.getD i η))
 l2:s.srcs.length=n2
 srcs:Arr w A2 n2 6 (fun i=>oN (s.srcs.getD i η))
 l3:s.bays.length=n3
 bays:Arr w A3 n3 12 (fun i=>j6 (s.bays.getD i η) (L i))
 links:∀i,i<n3->Lks w (L i).A (L i).n (s.bays.getD i η).links
section
variable {w:World} {A0:Option Addr} {n0 c0:Nat} {A1:Option Addr} {n1 c1:Nat} {A2:Option Addr} {n2 c2:Nat} {A3:Option Addr} {n3 c3:Nat} {L:Nat->Hd} {s:StD}
def rZ.is_(h:rZ w A0 n0 c0 A1 n1 c1 A2 n2 c2 A3 n3 c3 L s)(j:n0<=1000000/\n1<=1000000/\n2<=1000000/\n3<=1000000):j5 w A0 n0 c0 A1 n1 c1 A2 n2 c2 A3 n3 c3 L s:=
 ⟨h.buses,h.nc,j,h.l1,h.lines,h.l2,h.srcs,h.l3,h.bays,h.links⟩
def rZ.ext{w'}(h:rZ w A0 n0 c0 A1 n1 c1 A2 n2 c2 A3 n3 c3 L s)(x:Ext w w'):rZ w' A0 n0 c0 A1 n1 c1 A2 n2 c2 A3 n3 c3 L s:=
 ⟨h.buses.ext x,h.nc,h.mx,h.l1,h.lines.ext x,h.l2,h.srcs.ext x,h.l3,h.bays.ext x,fun i hi=>(h.links i hi).ext x⟩
def rZ.ok(h:rZ w A0 n0 c0 A1 n1 c1 A2 n2 c2 A3 n3 c3 L s)(hc:chk s=0):j5 w A0 n0 c0 A1 n1 c1 A2 n2 c2 A3 n3 c3 L s:=by
 have k:=uf hc;have C:=h.buses.len;have B:=h.l1;have j:=h.l2;have D:=h.l3;have l:=k.nb;have g1:=k.nl;have g2:=k.ns;have g3:=k.nq;exact h.is_ ⟨aa,aa,aa,aa⟩
end
theorem UJ{w:World}{j v}(h:w.cell? j=γ v):∃b o,j=⟨b,o,δ⟩:=by
 have hs:j.spot=δ:=by
  unfold World.cell? at h;split at h
  .split at h
   .cases h
   .rename_i G;simpa using G
  .cases h
 obtain⟨b,o,sp⟩:=j;simp only at hs;subst hs;exact⟨b,o,rfl⟩
theorem VS(j:Addr):j.add 0=j:=by
 unfold Addr.add;split<;>simp_all
section
variable {H:Type} {enc:TypeId×Value->H} {P:Program} {w:World} {base:Nat} {spare:Nat->Bool} {held:Bool}
theorem open_arr{α:Type}[Inhabited α]{t e k}(C:α->List Value)(Q:α->Prop)(N:P.underlying t=γ (.slice e))(hk:P.cellsOf e=k)(W:0<k)(Y:∀d,(C d).length=k)(ho:∀j cs x,cs.length=k->DataW.trod enc P w base spare held j e cs=γ x->∃d,cs=C d/\Q d){j v}{x:DataW H×List MemPlace}(h:DataW.trod enc P w base spare held j t [v]=γ x):
  ∃(A:Option Addr) (n c:Nat) (l:List α),v=.slice A n c/\l.length=n/\Arr w A n k (fun i=>C (l.getD i η))/\(∀i,i<n->Q (l.getD i η))/\n<=c/\n<=9223372036854775807:=by
 rcases open_slice N h with ⟨J,_⟩|⟨a,len,G,m,nf,D,I,J,_,Z,hm,M,_,hi⟩
 .injection J with J;exact⟨δ,0,0,[],J,rfl,fun h=>absurd h aa,fun i hi=>absurd hi aa,κ _,aa⟩
 .injection J with J;have F:len<=m:=by rw[M];split<;>omega
  unfold maxLen at hm;rw[hk] at hi;obtain⟨d,hd⟩:=choose_lt (α:=α) (n:=len) (p:=fun i d=>(∀t u,(C d)[t]? =γ u->w.cell? ((a.add (i*k)).add t)=γ u)/\Q d) (fun i U=>by
   obtain⟨cs',h1,V⟩:=hi i aa;obtain⟨_,T,hc⟩:=World.cells?_some h1;obtain⟨d,rfl,hr⟩:=ho _ _ _ T V;refine⟨d,fun t u L=> ?_,hr⟩;have N:t<k:=by have:=(μ.1 L).1;rw[Y] at this;exact this
   rw[hc t N];exact L)
  have S:∀i,i<len->((List.range len).map d).getD i η=d i:=fun i hi=>by
   rw[σ,z8,aaA hi];rfl
  refine⟨γ a,len,G,(List.range len).map d,J,ag,fun hn=> ?_,fun i K=>by rw[S i K];exact(hd i K).2,Z,aa⟩;obtain⟨u0,R⟩:∃u,(C (d 0))[0]? =γ u:=⟨_,ν (by rw[Y];exact W)⟩;have B:=(hd 0 hn).1 0 u0 R;rw[aaV,VS,VS] at B;obtain⟨b,o,rfl⟩:=UJ B;refine⟨b,o,rfl,lt_of_cell B,fun i K t u L=> ?_⟩;have O:(C (((List.range len).map d).getD i η))[t]? =γ u:=L;rw[S i K] at O;have:=(hd i K).1 t u O;rw[add_plain,add_plain] at this;exact this
end
section
variable {H:Type} {enc:TypeId×Value->H} {w:World} {base:Nat} {spare:Nat->Bool} {held:Bool}
def ae5:prog.cellsOf 3=1:=ah
def afA:prog.cellsOf 4=1:=ah
def afd:prog.cellsOf 9=1:=ah
def afi:prog.cellsOf 54=2:=ah
def agi:prog.cellsOf 63=5:=ah
def aga:prog.cellsOf 83=6:=ah
def agj:prog.cellsOf 57=12:=ah
def agl:prog.cellsOf 137=2:=ah
def agh:prog.cellsOf 55=1:=ah
def af7:prog.cellsOf 23=1:=ah
def af6:prog.cellsOf 24=1:=ah
def af5:prog.cellsOf 25=1:=ah
def agd:prog.cellsOf 22=1:=ah
def agc:prog.cellsOf 27=5:=ah
def agk:prog.cellsOf 33=6:=ah
def kI{j c}{x:DataW H×List MemPlace}(h:DataW.trod enc prog w base spare held j 3 [c]=γ x):∃z:Int,c=.int .i64 z:=by
 obtain⟨z,e,_,_⟩:=DataW.trod_int underlying3 h;exact⟨z,by simpa using e⟩
def Q3{j c}{x:DataW H×List MemPlace}(h:DataW.trod enc prog w base spare held j 4 [c]=γ x):∃z:Bool,c=.bool z:=by
 obtain⟨z,e,_⟩:=DataW.trod_bool aaP h;exact⟨z,by simpa using e⟩
def AX{j c}{x:DataW H×List MemPlace}(h:DataW.trod enc prog w base spare held j 9 [c]=γ x):∃z:ByteArray,c=.string z:=by
 obtain⟨z,e,_,_⟩:=DataW.trod_string ada h;exact⟨z,by simpa using e⟩
def ug{j c0 c1}{x:DataW H×List MemPlace}(h:DataW.trod enc prog w base spare held j 54 [c0,c1]=γ x):∃z:Imp,c0=.int .i64 z.r/\c1=.int .i64 z.x:=by
 obtain⟨xs,n,_,J,_,T,l⟩:=aa1 underlying54 h
 match xs,T with
 |[y0,y1],_=>
  have B:DataW.trod enc prog w base spare held n 3 [c0]=γ y0:=by simpa[ae5] using l 0 _ rfl
  have g1:DataW.trod enc prog w base spare held n 3 [c1]=γ y1:=by simpa[ae5] using l 1 _ rfl
  obtain⟨a,rfl⟩:=kI B;obtain⟨b,rfl⟩:=kI g1;exact⟨⟨a,b⟩,rfl,rfl⟩
def OQ{j cs}{x:DataW H×List MemPlace}(Z:cs.length=5)(h:DataW.trod enc prog w base spare held j 63 cs=γ x):∃d:zR,cs=ry d:=by
 obtain⟨xs,n,_,J,_,T,l⟩:=aa1 underlying63 h
 match cs,Z,xs,T with
 |[c0,c1,c2,c3,c4],_,[y0,y1,y2],_=>
  have B:DataW.trod enc prog w base spare held n 9 [c0]=γ y0:=by simpa[afd] using l 0 _ rfl
  have g1:DataW.trod enc prog w base spare held n 54 [c1,c2]=γ y1:=by simpa[afi] using l 1 _ rfl
  have g2:DataW.trod enc prog w base spare held n 54 [c3,c4]=γ y2:=by simpa[afi] using l 2 _ rfl
  obtain⟨a,rfl⟩:=AX B;obtain⟨z1,rfl,rfl⟩:=ug g1;obtain⟨z0,rfl,rfl⟩:=ug g2;exact⟨⟨a,z1,z0⟩,rfl⟩
def QE{j cs}{x:DataW H×List MemPlace}(Z:cs.length=6)(h:DataW.trod enc prog w base spare held j 83 cs=γ x):∃d:qG,cs=oN d:=by
 obtain⟨xs,n,_,J,_,T,l⟩:=aa1 underlying83 h
 match cs,Z,xs,T with
 |[c0,c5,c1,c2,c3,c4],_,[y0,y3,y1,y2],_=>
  have B:DataW.trod enc prog w base spare held n 9 [c0]=γ y0:=by simpa[afd] using l 0 _ rfl
  have g3:DataW.trod enc prog w base spare held n 3 [c5]=γ y3:=by simpa[ae5] using l 1 _ rfl
  have g1:DataW.trod enc prog w base spare held n 54 [c1,c2]=γ y1:=by simpa[afi] using l 2 _ rfl
  have g2:DataW.trod enc prog w base spare held n 54 [c3,c4]=γ y2:=by simpa[afi] using l 3 _ rfl
  obtain⟨a,rfl⟩:=AX B;obtain⟨e,rfl⟩:=kI g3;obtain⟨z1,rfl,rfl⟩:=ug g1;obtain⟨z0,rfl,rfl⟩:=ug g2;exact⟨⟨a,e,z1,z0⟩,rfl⟩
def Pi{j cs}{x:DataW H×List MemPlace}(Z:cs.length=2)(h:DataW.trod enc prog w base spare held j 137 cs=γ x):∃d:qO,cs=Ml d:=by
 obtain⟨xs,n,_,J,_,T,l⟩:=aa1 underlying137 h
 match cs,Z,xs,T with
 |[c0,c1],_,[y0,y1],_=>
  have B:DataW.trod enc prog w base spare held n 3 [c0]=γ y0:=by simpa[ae5] using l 0 _ rfl
  have g1:DataW.trod enc prog w base spare held n 3 [c1]=γ y1:=by simpa[ae5] using l 1 _ rfl
  obtain⟨a,rfl⟩:=kI B;obtain⟨b,rfl⟩:=kI g1;exact⟨⟨a,b⟩,rfl⟩
def VW (w:World) (d:il×Hd):Prop:=Lks w d.2.A d.2.n d.1.links
instance:Inhabited Hd:=⟨⟨δ,0,0⟩⟩
def P6{j cs}{x:DataW H×List MemPlace}(Z:cs.length=12)(h:DataW.trod enc prog w base spare held j 57 cs=γ x):∃d:il×Hd,cs=j6 d.1 d.2/\VW w d:=by
 obtain⟨xs,n,_,J,_,T,I⟩:=aa1 ab9 h
 match cs,Z,xs,T with
 |[c0,c1,c2,c3,c4,c5,c6,c7,c8,c9,c10,c11],_,[y0,y1,y2,y3,y4,y5,y6,y7,y8,y9,y10],_=>
  have K:DataW.trod enc prog w base spare held n 9 [c0]=γ y0:=by simpa[afd] using I 0 _ rfl
  have g1:DataW.trod enc prog w base spare held n 3 [c1]=γ y1:=by simpa[ae5] using I 1 _ rfl
  have g2:DataW.trod enc prog w base spare held n 3 [c2]=γ y2:=by simpa[ae5] using I 2 _ rfl
  have g3:DataW.trod enc prog w base spare held n 3 [c3]=γ y3:=by simpa[ae5] using I 3 _ rfl
  have g4:DataW.trod enc prog w base spare held n 54 [c4,c5]=γ y4:=by simpa[afi] using I 4 _ rfl
  have g5:DataW.trod enc prog w base spare held n 55 [c6]=γ y5:=by simpa[agh] using I 5 _ rfl
  have g6:DataW.trod enc prog w base spare held n 4 [c7]=γ y6:=by simpa[afA] using I 6 _ rfl
  have g7:DataW.trod enc prog w base spare held n 3 [c8]=γ y7:=by simpa[ae5] using I 7 _ rfl
  have g8:DataW.trod enc prog w base spare held n 3 [c9]=γ y8:=by simpa[ae5] using I 8 _ rfl
  have g9:DataW.trod enc prog w base spare held n 3 [c10]=γ y9:=by simpa[ae5] using I 9 _ rfl
  have g10:DataW.trod enc prog w base spare held n 3 [c11]=γ y10:=by simpa[ae5] using I 10 _ rfl
  obtain⟨N,rfl⟩:=AX K;obtain⟨O,rfl⟩:=kI g1;obtain⟨P,rfl⟩:=kI g2;obtain⟨L,rfl⟩:=kI g3;obtain⟨z,rfl,rfl⟩:=ug g4;obtain⟨A,m,c,l,rfl,S,M,_,_,_⟩:=open_arr Ml (fun _=>True) underlying55 agl aa (fun _=>rfl) (fun f cs x Z h=>(Pi Z h).imp fun d e=>⟨e,trivial⟩) g5;obtain⟨G,rfl⟩:=Q3 g6;obtain⟨D,rfl⟩:=kI g7;obtain⟨C,rfl⟩:=kI g8;obtain⟨F,rfl⟩:=kI g9;obtain⟨B,rfl⟩:=kI g10;exact⟨(⟨N,O,P,L,z,l,G,D,C,F,B⟩,⟨A,m,c⟩),rfl,S,M⟩
theorem Gj{r:Reach}{b0:Nat}{v:Value}{d:DataW H}{p:List MemPlace}(hv:Value.okWide prog w r b0 27 v)(h:DataW.Trod enc prog w base spare held 27 v d p):
  ∃A0 n0 c0 A1 n1 c1 A2 n2 c2 A3 n3 c3 L s,v=stV s.name A0 n0 c0 A1 n1 c1 A2 n2 c2 A3 n3 c3/\rZ w A0 n0 c0 A1 n1 c1 A2 n2 c2 A3 n3 c3 L s:=by
 obtain⟨cs,rfl,G⟩:=okWide_struct acY hv;obtain⟨l⟩:=cs;rw[agc] at G;obtain⟨j,hf⟩:=h;obtain⟨xs,n,_,J,_,T,F⟩:=aa1 acY hf
 match l,G,xs,T with
 |[c0,c1,c2,c3,c4],_,[y0,y1,y2,y3,y4],_=>
  have g0:DataW.trod enc prog w base spare held n 9 [c0]=γ y0:=by simpa[Value.cells,afd] using F 0 _ rfl
  have g1:DataW.trod enc prog w base spare held n 22 [c1]=γ y1:=by simpa[Value.cells,agd] using F 1 _ rfl
  have g2:DataW.trod enc prog w base spare held n 23 [c2]=γ y2:=by simpa[Value.cells,af7] using F 2 _ rfl
  have g3:DataW.trod enc prog w base spare held n 24 [c3]=γ y3:=by simpa[Value.cells,af6] using F 3 _ rfl
  have g4:DataW.trod enc prog w base spare held n 25 [c4]=γ y4:=by simpa[Value.cells,af5] using F 4 _ rfl
  obtain⟨nm,rfl⟩:=AX g0;obtain⟨A0,n0,k0,l0,rfl,N,D,_,I,Q⟩:=open_arr (α:=ByteArray) (fun s=>[Value.string s]) (fun _=>True) underlying22 afd aa (fun _=>rfl) (fun f cs x Z h=>by
   match cs,Z with
   |[c],_=>obtain⟨z,rfl⟩:=AX h;exact⟨z,rfl,trivial⟩) g1
  obtain⟨A1,n1,C,l1,rfl,S,K,_,_,R⟩:=open_arr ry (fun _=>True) underlying23 agi aa (fun _=>rfl) (fun f cs x Z h=>(OQ Z h).imp fun d e=>⟨e,trivial⟩) g2;obtain⟨A2,n2,k2,l2,rfl,M,V,_,_,U⟩:=open_arr oN (fun _=>True) underlying24 aga aa (fun _=>rfl) (fun f cs x Z h=>(QE Z h).imp fun d e=>⟨e,trivial⟩) g3;obtain⟨A3,n3,k3,l3,rfl,W,Y,B,_,P⟩:=open_arr (fun d:il×Hd=>j6 d.1 d.2) (VW w) underlying25 agj aa (fun _=>rfl) (fun f cs x Z h=>P6 Z h) g4;have hb:∀i,i<n3->(l3.map (·.1)).getD i η=(l3.getD i η).1:=fun i hi=>by
   have O:i<l3.length:=aa;rw[σ,σ,z8,ν O];rfl
  refine⟨A0,n0,k0,A1,n1,C,A2,n2,k2,A3,n3,k3,fun i=>(l3.getD i η).2,⟨nm,l0,l1,l2,l3.map (·.1)⟩,rfl,⟨?_,I,⟨Q,R,U,P⟩,S,K,M,V,by simpa using W,?_,?_⟩⟩
  .exact Arr.reads (f:=Value.string) (d:=η) D N
  .exact Y.congr fun i hi=>by rw[hb i hi]
  .intro i hi;have:=B i hi;unfold VW at this;rw[<-hb i hi] at this;exact this
def JQ{r:Reach}{D:Nat}{v:Value}{d:DataW H}{p:List MemPlace}(hv:Value.okWide prog w r D 33 v)(h:DataW.Trod enc prog w base spare held 33 v d p):∃f:dY,v=nX f:=by
 obtain⟨cs,rfl,C⟩:=okWide_struct underlying33 hv;obtain⟨l⟩:=cs;rw[agk] at C;obtain⟨j,L⟩:=h;obtain⟨xs,n,_,J,_,T,B⟩:=aa1 underlying33 L
 match l,C,xs,T with
 |[c0,c1,c2,c3,c4,c5],_,[y0,y1,y2,y3,y4,y5],_=>
  have F:DataW.trod enc prog w base spare held n 3 [c0]=γ y0:=by simpa[Value.cells,ae5] using B 0 _ rfl
  have g1:DataW.trod enc prog w base spare held n 4 [c1]=γ y1:=by simpa[Value.cells,afA] using B 1 _ rfl
  have g2:DataW.trod enc prog w base spare held n 3 [c2]=γ y2:=by simpa[Value.cells,ae5] using B 2 _ rfl
  have g3:DataW.trod enc prog w base spare held n 3 [c3]=γ y3:=by simpa[Value.cells,ae5] using B 3 _ rfl
  have g4:DataW.trod enc prog w base spare held n 3 [c4]=γ y4:=by simpa[Value.cells,ae5] using B 4 _ rfl
  have g5:DataW.trod enc prog w base spare held n 3 [c5]=γ y5:=by simpa[Value.cells,ae5] using B 5 _ rfl
  obtain⟨M,rfl⟩:=kI F;obtain⟨N,rfl⟩:=Q3 g1;obtain⟨O,rfl⟩:=kI g2;obtain⟨G,rfl⟩:=kI g3;obtain⟨K,rfl⟩:=kI g4;obtain⟨I,rfl⟩:=kI g5;exact⟨⟨M,N,O,G,K,I⟩,rfl⟩
end
open Go.RowKit Go.Deep
def SmP (w:World) (n0 n1 n2 n3 V:Nat) (e:Ending) (w':World):Prop:=∃b,e=.returned (.bool b)/\Ext w w'/\(b=ε->n0<=3/\n1<=2/\n2<=2/\n3<=9/\V<=12)
def SmP.no{w w':World}{n0 n1 n2 n3 V:Nat}(x:Ext w w'):SmP w n0 n1 n2 n3 V (.returned (.bool ζ)) w':=⟨_,rfl,x,fun h=>by cases h⟩
def SmP.yes{w w':World}{n0 n1 n2 n3 V:Nat}(x:Ext w w')(h:n0<=3/\n1<=2/\n2<=2/\n3<=9/\V<=12):SmP w n0 n1 n2 n3 V (.returned (.bool ε)) w':=⟨_,rfl,x,fun _=>h⟩
theorem J5{A0:Option Addr}{n0 c0:Nat}{A1:Option Addr}{n1 c1:Nat}{A2:Option Addr}{n2 c2:Nat}{A3:Option Addr}{n3 c3:Nat}{L:Nat->Hd}{s:StD}{PA:Option Addr}{M Q:Nat}{PB:Option Addr}{V qc:Nat}{K:Nat->Hd}{p:dH}(w:World)(hs:rZ w A0 n0 c0 A1 n1 c1 A2 n2 c2 A3 n3 c3 L s)(hp:iN w PA M PB V K p):
  Calls prog 53 #[stV s.name A0 n0 c0 A1 n1 c1 A2 n2 c2 A3 n3 c3,lG PA M Q PB V qc] w (SmP w n0 n1 n2 n3 V):=by
 have R:=aW hs;have HP:=aW hp;clear hs hp;unfold stV lG;by_cases t1:3<n0
 .have W:decide ((3:Int)<n0)=ε:=ae;clear t1;exact AaD
 have W:decide ((3:Int)<n0)=ζ:=ae;by_cases t2:2<n1
 .have S:decide ((2:Int)<n1)=ε:=ae;clear t2;exact AaD
 have S:decide ((2:Int)<n1)=ζ:=ae;by_cases t3:2<n2
 .have d3:decide ((2:Int)<n2)=ε:=ae;clear t3;exact AaD
 have d3:decide ((2:Int)<n2)=ζ:=ae;by_cases Z:9<n3
 .have Y:decide ((9:Int)<n3)=ε:=ae;clear Z;exact AaD
 have Y:decide ((9:Int)<n3)=ζ:=ae;by_cases t5:12<V
 .have d5:decide ((12:Int)<V)=ε:=ae;clear t5;exact AaD
 have d5:decide ((12:Int)<V)=ζ:=ae;go_enter func53,ntmps53;go_wp2_with fail;clear W S d3 Y d5;have F:Ext w (aL (aL w #[s.name,aO A0 n0 c0,aO A1 n1 c1,aO A2 n2 c2,aO A3 n3 c3] 27) #[aO PA M Q,aO PB V qc] 31):=(Ext.new _ _).alloc _;obtain⟨-,U,-⟩:=ah2 w 27 #[s.name,aO A0 n0 c0,aO A1 n1 c1,aO A2 n2 c2,aO A3 n3 c3] 31 #[aO PA M Q,aO PB V qc];have G:=aW F;clear F;generalize aU _ _=w0 at G U⊢;generalize w.heap.size+1=g3;generalize w.heap.size=g2 at U⊢;have P:Hid (n0<=3/\n1<=2/\n2<=2/\n3<=9/\V<=12):=aW aa;clear t1 t2 t3 Z t5;go_loopw [42] (fun iv wr=>∃k:Nat,k<=n1/\iv=.int .i64 k/\Ext w0 wr) (aT n1)
 case atStart=>exact⟨0,aa,rfl,Ext.refl _⟩
 case round=>
  rename World=>wr;obtain⟨k,O,rfl,H⟩:=hrel;have l:=aW H;clear H;by_cases C:k<n1
  .have hd:decide ((k:Int)<n1)=ε:=ae;have q1:(0:Int)<=k:=aa;have q2:(k:Int)<n1:=aa;have B:Hid (wrap64 ((k:Int)+1)=(k:Int)+1):=aW (Aa _ (by have:=P.o;omega));obtain⟨lb,lo,N,hb,hc⟩:=(R.lines.ext (G.trans l.o)).at_ C;generalize s.lines.getD k η=j at hc;have J:=hc 0 _ rfl;have T:=hc 1 _ rfl;have e2:=hc 2 _ rfl;have e3:=hc 3 _ rfl;have e4:=hc 4 _ rfl;simp only[I4] at J;subst N;have D:=(U.ext l.o).cell;clear hb hc;go_wp2_with fail;all_goals first
    |(go_ret;exact SmP.no (G.trans (l.trans (Ext.new _ _))))
    |(refine⟨⟨k+1,aa,by rw[B.o];rfl,l.trans (Ext.new _ _)⟩,?_⟩;rw[B.o];simp[aT,intOf];omega)
  .have hd:decide ((k:Int)<n1)=ζ:=ae;obtain rfl:k=n1:=aa;have D:=(U.ext l.o).cell;go_wp2_with fail;clear D hd;have I:=l;clear l C O;go_loopw [72] (fun iv wr=>∃k:Nat,k<=n2/\iv=.int .i64 k/\Ext w0 wr) (aT n2)
   case atStart=>exact⟨0,aa,rfl,I.o⟩
   case round=>
    rename World=>wr;obtain⟨k,O,rfl,H⟩:=hrel;have l:=aW H;clear H;by_cases C:k<n2
    .have hd:decide ((k:Int)<n2)=ε:=ae;have q1:(0:Int)<=k:=aa;have q2:(k:Int)<n2:=aa;have B:Hid (wrap64 ((k:Int)+1)=(k:Int)+1):=aW (Aa _ (by have:=P.o;omega));obtain⟨lb,lo,N,hb,hc⟩:=(R.srcs.ext (G.trans l.o)).at_ C;generalize s.srcs.getD k η=j at hc;have J:=hc 0 _ rfl;have T:=hc 1 _ rfl;have e2:=hc 2 _ rfl;have e3:=hc 3 _ rfl;have e4:=hc 4 _ rfl;have e5:=hc 5 _ rfl;simp only[I4] at J;subst N;have D:=(U.ext l.o).cell;clear hb hc;go_wp2_with fail;all_goals first
      |(go_ret;exact SmP.no (G.trans (l.trans (Ext.new _ _))))
      |(refine⟨⟨k+1,aa,by rw[B.o];rfl,l.trans (Ext.new _ _)⟩,?_⟩;rw[B.o];simp[aT,intOf];omega)
    .have hd:decide ((k:Int)<n2)=ζ:=ae;obtain rfl:k=n2:=aa;have D:=(U.ext l.o).cell;go_wp2_with fail;clear D hd;have I:=l;clear l C O;go_loopw [102] (fun iv wr=>∃k:Nat,k<=n3/\iv=.int .i64 k/\Ext w0 wr) (aT n3)
     case atStart=>exact⟨0,aa,rfl,I.o⟩
     case round=>
      rename World=>wr;obtain⟨k,O,rfl,H⟩:=hrel;have l:=aW H;clear H;by_cases C:k<n3
      .have hd:decide ((k:Int)<n3)=ε:=ae;have q1:(0:Int)<=k:=aa;have q2:(k:Int)<n3:=aa;have B:Hid (wrap64 ((k:Int)+1)=(k:Int)+1):=aW (Aa _ (by have:=P.o;omega));obtain⟨lb,lo,N,hb,hc⟩:=(R.bays.ext (G.trans l.o)).at_ C;generalize s.bays.getD k η=j at hc;have J:=hc 0 _ rfl;have T:=hc 1 _ rfl;have e2:=hc 2 _ rfl;have e3:=hc 3 _ rfl;have e4:=hc 4 _ rfl;have e5:=hc 5 _ rfl;have e6:=hc 6 _ rfl;have e7:=hc 7 _ rfl;have e8:=hc 8 _ rfl;have e9:=hc 9 _ rfl;have YJ:=hc 10 _ rfl;have YM:=hc 11 _ rfl;simp only[I4] at J;subst N;have D:=(U.ext l.o).cell;clear hb hc;go_wp2_with fail;all_goals first
        |(go_ret;exact SmP.no (G.trans (l.trans (Ext.new _ _))))
        |(refine⟨⟨k+1,aa,by rw[B.o];rfl,l.trans (Ext.new _ _)⟩,?_⟩;rw[B.o];simp[aT,intOf];omega)
      .have hd:decide ((k:Int)<n3)=ζ:=ae;obtain rfl:k=n3:=aa;have D:=(U.ext l.o).cell;go_wp2_with fail;clear D hd;go_ret;exact SmP.yes (G.trans l.o) P.o
def VaP (w:World) (n0 n1 n2 n3 V:Nat) (s:StD) (p:dH) (f:dY) (e:Ending) (w':World):Prop:=∃b,e=.returned (.bool b)/\Ext w w'/\(b=ε->(n0<=3/\n1<=2/\n2<=2/\n3<=9/\V<=12)/\xu s f=0/\jq s p=0)
def VaP.no{w w':World}{n0 n1 n2 n3 V:Nat}{s:StD}{p:dH}{f:dY}(x:Ext w w'):VaP w n0 n1 n2 n3 V s p f (.returned (.bool ζ)) w':=⟨_,rfl,x,fun h=>by cases h⟩
def VaP.yes{w w':World}{n0 n1 n2 n3 V:Nat}{s:StD}{p:dH}{f:dY}(x:Ext w w')(b:Bool)(h:b=ε->(n0<=3/\n1<=2/\n2<=2/\n3<=9/\V<=12)/\xu s f=0/\jq s p=0):VaP w n0 n1 n2 n3 V s p f (.returned (.bool b)) w':=⟨_,rfl,x,h⟩
theorem Pj{A0:Option Addr}{n0 c0:Nat}{A1:Option Addr}{n1 c1:Nat}{A2:Option Addr}{n2 c2:Nat}{A3:Option Addr}{n3 c3:Nat}{L:Nat->Hd}{s:StD}{PA:Option Addr}{M O:Nat}{PB:Option Addr}{V qc:Nat}{K:Nat->Hd}{p:dH}(f:dY)(w:World)(hs:rZ w A0 n0 c0 A1 n1 c1 A2 n2 c2 A3 n3 c3 L s)(hp:iN w PA M PB V K p):
  Calls prog 17 #[stV s.name A0 n0 c0 A1 n1 c1 A2 n2 c2 A3 n3 c3,lG PA M O PB V qc,nX f] w (VaP w n0 n1 n2 n3 V s p f):=by
 have Y:=aW hs;have Z:=aW hp;clear hs hp;unfold stV lG nX;go_enter func17,ntmps17;go_wp2_with fail;have F:Ext w (aL (aL (aL w #[s.name,aO A0 n0 c0,aO A1 n1 c1,aO A2 n2 c2,aO A3 n3 c3] 27) #[aO PA M O,aO PB V qc] 31) #[f.kind,f.line,f.obj,f.num,f.den,f.r] 33):=((Ext.new _ _).alloc _).alloc _;obtain⟨-,G,U,-⟩:=ah3 w 27 #[s.name,aO A0 n0 c0,aO A1 n1 c1,aO A2 n2 c2,aO A3 n3 c3] 31 #[aO PA M O,aO PB V qc] 33 #[f.kind,f.line,f.obj,f.num,f.den,f.r];have H:Hid (Blk (aL (aL (aL w #[s.name,aO A0 n0 c0,aO A1 n1 c1,aO A2 n2 c2,aO A3 n3 c3] 27) #[aO PA M O,aO PB V qc] 31) #[f.kind,f.line,f.obj,f.num,f.den,f.r] 33) (w.heap.size+1+1) 33 #[f.kind,f.line,f.obj,f.num,f.den,f.r]):=aW (aeW _ _ ag);have Q:=aW F;clear F;generalize aU _ _=w0 at Q G U H⊢;generalize w.heap.size+1+1=g5 at H⊢;generalize w.heap.size+1=g4 at U⊢;generalize w.heap.size=g3 at G⊢;refine(J5 _ (Y.ext Q.o) (Z.ext Q.o)).mono ?_;rintro _ w1 ⟨b,rfl,F,hb⟩;have N:=aW (Q.trans F);replace G:=G.aA F;replace U:=U.aA F;replace H:=H.aA F;clear F Q;cases b
 .clear hb G U H;go_wp2_with fail;go_ret;exact VaP.no N.o
 have HT:=aW (hb rfl);clear hb;have I:=aW ((Y.ext N.o).is_ Adl);have J:=aW (Z.ext N.o);clear Y Z;have S:=G.cell;have k5:=H.cell;by_cases hr:100<f.r
 .have hd:decide (f.r<=100)=ζ:=ae;clear hr;go_wp2_with fail;go_ret;exact VaP.no N.o
 have hd:decide (f.r<=100)=ε:=ae;clear hr;go_wp2_with fail;clear S k5 hd;refine(GX _ I.o f).mono ?_;rintro _ w2 ⟨rfl,F⟩;have j:=aW (N.trans F);replace I:=I.aA F;replace J:=J.aA F;replace G:=G.aA F;replace U:=U.aA F;clear F N;obtain⟨W,P⟩:∃z,xu s f=z:=⟨_,rfl⟩;rw[P];by_cases R:W=0
 .subst R;have S:=G.cell;have k4:=U.cell;have T:=aW P;clear P;go_wp2_with fail;clear S k4;refine(G5 _ _ I.o J.o).mono ?_;rintro _ w3 ⟨rfl,F⟩;have B:=aW (j.trans F);clear F;obtain⟨D,l⟩:∃z,jq s p=z:=⟨_,rfl⟩;rw[l];have C:=aW l;clear l;go_wp2_with fail;go_ret;exact VaP.yes B.o _ (fun h=>⟨HT.o,T.o,by rw[C.o];simpa using h⟩)
 .have hd:decide (W=0)=ζ:=by simpa using R
  have Z9:(W==0)=ζ:=by simpa using R
  clear P R;go_wp2_with fail;go_ret;exact VaP.no j.o
def gL:StD:=⟨⟨#[115]⟩,[⟨#[65]⟩],[],[⟨⟨#[71]⟩,100,⟨0,10⟩,⟨0,10⟩⟩],[⟨⟨#[103]⟩,2,0,0,⟨0,0⟩,[⟨0,1⟩],ε,1,1,0,1⟩]⟩
def JZ:dH:=⟨[ε],[[1]]⟩
def uk:normal gL=JZ:=rfl
def yn:chk gL=0:=by decide+kernel
def one_pos:jq gL JZ=0:=by decide+kernel
def Ay{w g k t l f}(h:Blk w g t l.toArray)(j:f 0=l):Arr w (γ ⟨g,0,δ⟩) 1 k f:=fun _=>
 ⟨g,0,rfl,h.lt,fun i hi u v hv=>by
  obtain rfl:i=0:=aa;rw[j] at hv;have e:0+0*k+u=u:=aa;rw[e,h.cell u,Γ];exact hv⟩
def Xn(w):Calls prog 33 #[] w fun r w'=>∃A0 A2 A3 L,r=.returned (stV gL.name A0 1 1 δ 0 0 A2 1 1 A3 1 1)/\j5 w' A0 1 1 δ 0 0 A2 1 1 A3 1 1 L gL/\Ext w w':=by
 go_enter func33,ntmps33;go_wp2_with fail;refine mG rfl rfl rf ((((((Blk.new w _ _).alloc _).alloc _).alloc _).alloc _).alloc _) acY rfl ah ?_;refine⟨γ ⟨w.heap.size+1+1,0,δ⟩,γ ⟨w.heap.size+1+1+1,0,δ⟩,γ ⟨w.heap.size+1+1+1+1+1,0,δ⟩,fun _=>⟨γ ⟨w.heap.size+1+1+1+1,0,δ⟩,1,1⟩,rfl,⟨?_,κ _,aa,rfl,fun h=>absurd h aa,rfl,?_,rfl,?_,?_⟩,(((((Ext.new _ _).alloc _).alloc _).alloc _).alloc _).alloc _⟩
 .exact Arr.reads (f:=Value.string) (d:=η) (Ay (t:=9) (l:=[.string ⟨#[65]⟩]) ((((aeW _ _ ag).alloc _).alloc _).alloc _) rfl) rfl
 .exact Ay (t:=83) (l:=oN (gL.srcs.getD 0 η)) (((aeW _ _ ag).alloc _).alloc _) rfl
 .exact Ay (t:=57) (aeW _ _ ag) rfl
 .intro i hi;obtain rfl:i=0:=aa;exact⟨rfl,Ay (t:=137) (l:=Ml ⟨0,1⟩) ((aeW _ _ ag).alloc _) rfl⟩
theorem IP{A0:Option Addr}{n0 c0:Nat}{A1:Option Addr}{n1 c1:Nat}{A2:Option Addr}{n2 c2:Nat}{A3:Option Addr}{n3 c3:Nat}{s:StD}(w:World)(N:s.buses.length=n0)(S:s.lines.length=n1)(j:s.srcs.length=n2)(l:s.bays.length=n3)(hc:lu s=ζ):
  CE 31 #[stV s.name A0 n0 c0 A1 n1 c1 A2 n2 c2 A3 n3 c3] w (.int .i64 (chk s)):=by
 have F:∀w:World,Calls prog 63 #[s.name] w fun e w'=>e=.returned (.bool (fJ s.name))/\w=w':=fun w=>(yM s.name w).mono (fun e w' C=>⟨C.1,C.2.symm⟩);unfold stV;cases hn:fJ s.name
 .have T:Hid (chk s=7):=aW (Rn hn);clear N S j l hc;exact AbY
 .have T:Hid (chk s=3):=aW (QH hn hc);have B:¬(1<=n0/\n0<=4/\n1<=6/\n2<=4/\n3<=16):=by
   intro h;have:lu s=ε:=by
    unfold lu;rw[N,S,j,l];simp;omega
   rw[hc] at this;cases this
  clear N S j l hc;have K:=aW B;clear B;by_cases O:n0<1
  .have L:decide ((n0:Int)<1)=ε:=ae;clear O;exact Aaj
  have L:decide ((n0:Int)<1)=ζ:=ae;by_cases M:4<n0
  .have J:decide ((4:Int)<n0)=ε:=ae;clear M;exact Aaj
  have J:decide ((4:Int)<n0)=ζ:=ae;by_cases D:6<n1
  .have G:decide ((6:Int)<n1)=ε:=ae;clear D;exact Aaj
  have G:decide ((6:Int)<n1)=ζ:=ae;by_cases H:4<n2
  .have d3:decide ((4:Int)<n2)=ε:=ae;clear H;exact Aaj
  have d3:decide ((4:Int)<n2)=ζ:=ae;by_cases I:16<n3
  .have P:decide ((16:Int)<n3)=ε:=ae;clear I;exact Aaj
  have P:decide ((16:Int)<n3)=ζ:=ae;exact absurd ⟨aa,aa,aa,aa,aa⟩ K.o
def rY{w w' B B' n n' e F v L xs j}(G:w.ownsRow B e 1 v n xs)(h:w.ownsRow B' F 1 L n' j)(D:e≠F)(m:Mod (fun g=>v.ownBlock=γ g) w w'):w'.ownsRow B' F 1 L n' j:=
 mJ h m fun g H l=>by
  have l:v.ownBlock=γ g:=l;rcases uF G h D with C|C
  .rw[l] at C;cases C
  .exact C (l.trans H.symm)
def oG{w B n g j e t v u xs cs}(h:w.ownsRow B e 1 v n xs)(hb:Blk w g t cs)(l:t≠e):(w.setCell ⟨g,j,δ⟩ u).ownsRow B e 1 v n xs:=
 mJ h (Mod.only (S:=fun k=>k=g) (Only.set w g j u) rfl) fun k D C=>fE h hb l (by rw[D,show k=g from C])
structure NmS (w wr:World) (g1 g2 g3:Nat) (cs:Array Value) (i j:Nat) (v0 v1:Value) (K:Nat->Hd) (s:StD):Prop where
 b1:Blk wr g1 27 cs
 b2:Blk wr g2 31 #[(),()]
 b3:Blk wr g3 31 #[v0,v1]
 o0:wr.ownsRow w.heap.size 4 1 v0 i (((s.bays.take i).map il.closed).map Value.bool)
 o1:wr.ownsRow w.heap.size 92 1 v1 j (yS K j)
 ks:wR wr w.heap.size j K (fun j=>(s.bays.getD j η).links.map qO.pos)
 kn:∀k,k<j->(K k).n=(s.bays.getD k η).links.length
 x:Ext w wr
 lo:w.heap.size<=g1/\g1<g2/\g2<g3
section
variable {w wr wr':World} {g1 g2 g3 i j:Nat} {cs:Array Value} {v0 v1:Value} {K:Nat->Hd} {s:StD}
def NmS.ext(h:NmS w wr g1 g2 g3 cs i j v0 v1 K s)(x:Ext wr wr'):NmS w wr' g1 g2 g3 cs i j v0 v1 K s:=
 ⟨h.b1.ext x,h.b2.ext x,h.b3.ext x,eH h.o0 x,eH h.o1 x,h.ks.ext x,h.kn,h.x.trans x,h.lo⟩
def NmS.bool(h:NmS w wr g1 g2 g3 cs i j v0 v1 K s){l}(hi:i<s.bays.length)(F:wr.grownBy wr' v0.ownBlock)(D:wr'.ownsRow w.heap.size 4 1 l (i+1) (((s.bays.take i).map il.closed).map Value.bool++[.bool (s.bays.getD i η).closed])):
  NmS w (wr'.setCell ⟨g3,0,δ⟩ l) g1 g2 g3 cs (i+1) j l v1 K s:=by
 have m:Mod (fun g=>v0.ownBlock=γ g) wr wr':=Mod.grown F fun g e=>e;have b3:=h.b3.mod m (fE h.o0 h.b3 aj);have B:Mod (fun k=>k=g3) wr' (wr'.setCell ⟨g3,0,δ⟩ l):=Mod.only (Only.set _ _ _ _) rfl;have lo:=h.lo;refine⟨(h.b1.mod m (fE h.o0 h.b1 aj)).mod B aa,(h.b2.mod m (fE h.o0 h.b2 aj)).mod B aa,b3.mM 0 l,?_,oG (rY h.o0 h.o1 aj m) b3 aj,fun k C=>oG (rY h.o0 (h.ks k C) aj m) b3 aj,h.kn,(h.x.mod m fun k e=>(h.o0.lt k e).1).mod B (fun k e=>by have e:k=g3:=e;omega),h.lo⟩;rw[kU hi,aad,aad];exact oG D b3 aj
def NmS.row(h:NmS w wr g1 g2 g3 cs i j v0 v1 K s){l k}(hn:k.n=(s.bays.getD j η).links.length)(F:wr.ownsRow w.heap.size 3 1 k.v k.n (((s.bays.getD j η).links.map qO.pos).map (Value.int .i64)))(H:wr.grownBy wr' v1.ownBlock)(D:wr'.ownsRow w.heap.size 92 1 l (j+1) (yS K j++[k.v])):
  NmS w (wr'.setCell ⟨g3,1,δ⟩ l) g1 g2 g3 cs i (j+1) v0 l (fun t=>if t=j then k else K t) s:=by
 have m:Mod (fun g=>v1.ownBlock=γ g) wr wr':=Mod.grown H fun g e=>e;have b3:=h.b3.mod m (fE h.o1 h.b3 aj);have B:Mod (fun k=>k=g3) wr' (wr'.setCell ⟨g3,1,δ⟩ l):=Mod.only (Only.set _ _ _ _) rfl;have lo:=h.lo;have G:yS (fun t=>if t=j then k else K t) (j+1)=yS K j++[k.v]:=by
  rw[Ez,ι rfl];congr 1;exact Cf fun t C=>θ aa
 refine⟨(h.b1.mod m (fE h.o1 h.b1 aj)).mod B aa,(h.b2.mod m (fE h.o1 h.b2 aj)).mod B aa,b3.mM 1 l,oG (rY h.o1 h.o0 aj m) b3 aj,?_,fun t C=> ?_,fun t C=> ?_,(h.x.mod m fun k e=>(h.o1.lt k e).1).mod B (fun k e=>by have e:k=g3:=e;omega),h.lo⟩
 .rw[G];exact oG D b3 aj
 .show World.ownsRow _ _ _ _ (if t=j then k else K t).v (if t=j then k else K t).n _;by_cases e:t=j
  .subst e;rw[ι rfl];exact oG (rY h.o1 F aj m) b3 aj
  .rw[θ e];exact oG (rY h.o1 (h.ks t aa) aj m) b3 aj
 .show(if t=j then k else K t).n=_;by_cases e:t=j
  .subst e;rw[ι rfl];exact hn
  .rw[θ e];exact h.kn t aa
def Fe{i}:(normal s).links.getD i []=(s.bays.getD i η).links.map qO.pos:=by
 show(s.bays.map fun b=>b.links.map qO.pos).getD i []=_;rw[σ,σ,z8];cases s.bays[i]? <;>rfl
def NmS.Xp(h:NmS w wr g1 g2 g3 cs i i v0 v1 K s)(m:Mod (fun k=>k=g2) wr wr')(hi:i=s.bays.length)(hn:s.bays.length<=1000000)(F:∀j,j<i->(K j).n<=1000000):∃PA G PB qc,v0=.slice PA i G/\v1=.slice PB i qc/\iN wr' PA i PB i K (normal s):=by
 have n0:∀{e:TypeId} {n:Nat} {v:Value} {xs:List Value},wr.ownsRow w.heap.size e 1 v n xs->31≠e->wr'.ownsRow w.heap.size e 1 v n xs:=fun C l=>mJ C m fun k H D=>fE C h.b2 l (by rw[H,show k=g2 from D]);refine iN.made (B:=w.heap.size) (p:=normal s) ?_ (n0 h.o1 aj) (by show(s.bays.map _).length=_;rw[aar,hi]) (fun j I=> ?_) aa aa F
 .have:=n0 h.o0 aj;rw[hi,ach] at this;rw[hi];exact this
 .show wr'.ownsRow w.heap.size 3 1 (K j).v (K j).n (((normal s).links.getD j []).map (Value.int IntKind.i64));rw[Fe];exact n0 (h.ks j I) aj
def Mod.same{S}(w):Mod S w w:=ae1 (Ext.refl w)
def NmS.fin(h:NmS w wr g1 g2 g3 cs i i v0 v1 K s)(hi:i=s.bays.length)(hn:s.bays.length<=1000000)(D:∀j,j<i->(K j).n<=1000000):∃PA B PB qc,v0=.slice PA i B/\v1=.slice PB i qc/\∀wr',Mod (fun k=>k=g2) wr wr'->iN wr' PA i PB i K (normal s):=by
 obtain⟨PA,B,PB,qc,C,F,_⟩:=h.Xp (Mod.same wr) hi hn D;refine⟨PA,B,PB,qc,C,F,fun wr' m=> ?_⟩;obtain⟨T,G,I,H,f0,l,hp⟩:=h.Xp m hi hn D;rw[C] at f0;rw[F] at l;injection f0 with f0 _ _;injection l with l _ _;subst f0 l;exact hp
end
def TN{w:World}{base:Nat}{e:TypeId}{n c:Nat}{A:Option Addr}{xs:List Value}(h:w.ownsRow base e 1 (.slice A n c) n xs):∀b o,A=γ ⟨b,o,δ⟩->base<=b/\o=0/\∃cs,Blk w b e cs:=by
 rintro b o rfl;obtain⟨_,⟨B,_⟩|⟨g,G,cur,j,l,D,_⟩⟩:=h
 .cases B
 .injection j with j _ _;injection j with j;injection j with j C _;subst j C;exact⟨l,rfl,cur,D⟩
theorem KT{A0:Option Addr}{n0 c0:Nat}{A1:Option Addr}{n1 c1:Nat}{A2:Option Addr}{n2 c2:Nat}{A3:Option Addr}{n3 c3:Nat}{L:Nat->Hd}{s:StD}(w:World)(hs:j5 w A0 n0 c0 A1 n1 c1 A2 n2 c2 A3 n3 c3 L s)(hc:chk s=0):
  Calls prog 30 #[stV s.name A0 n0 c0 A1 n1 c1 A2 n2 c2 A3 n3 c3] w fun e w'=>∃PA pc PB qc K,e=.returned (lG PA n3 pc PB n3 qc)/\iN w' PA n3 PB n3 K (normal s)/\Ext w w'/\∀b o,PA=γ ⟨b,o,δ⟩->w.heap.size<=b/\o=0/\∃cs,Blk w' b 4 cs:=by
 have YC:=uf hc;have Yz:=hs.l3;have HS:=aW hs;have HC:=aW hc;have YH:=aW YC;have Z:=aW Yz;clear hs hc YC Yz;unfold stV;go_enter func30,ntmps30;go_wp2_with fail;have F:Ext w (aL (aL w #[s.name,aO A0 n0 c0,aO A1 n1 c1,aO A2 n2 c2,aO A3 n3 c3] 27) #[(),()] 31):=(Ext.new _ _).alloc _;obtain⟨-,Yr,U⟩:=ah2 w 27 #[s.name,aO A0 n0 c0,aO A1 n1 c1,aO A2 n2 c2,aO A3 n3 c3] 31 #[(),()];have HX:=aW F;clear F;(try simp only[World.heap_size_alloc,fZ]);generalize aU _ _=w_ at HX Yr U⊢;refine(uo _ (HS.ext HX.o)).mono ?_;rintro _ w1 ⟨rfl,F⟩;rw[HC.o];replace HX:=HX.aC F;replace Yr:=Yr.aA F;replace U:=U.aA F;clear F;have YE:Hid (w.heap.size+1<w1.heap.size):=aW U.lt;have C:=Yr.cell;go_wp2_with fail;clear C;have Yq:Ext w1 (aL w1 #[(),()] 31):=Ext.new _ _;have HN:Hid (NmS w (aL w1 #[(),()] 31) w.heap.size (w.heap.size+1) w1.heap.size #[s.name,aO A0 n0 c0,aO A1 n1 c1,aO A2 n2 c2,aO A3 n3 c3] 0 0 (.slice δ 0 0) (.slice δ 0 0) (fun _=>⟨δ,0,0⟩) s):=
  aW ⟨Yr.ext Yq,U.ext Yq,Blk.new _ _ _,PI _ _ _ _,PI _ _ _ _,fun j hj=>absurd hj aa,fun j hj=>absurd hj aa,HX.trans Yq,by have:=YE.o;omega⟩
 clear Yq HX Yr U YE;generalize aU _ _=w2 at HN⊢;generalize w1.heap.size=g3 at HN⊢;generalize w.heap.size+1=g2 at HN⊢;generalize YI:w.heap.size=g1 at HN⊢;clear YI;have W:n3<=16:=by have:=YH.nq;have:=Z.o;omega
 have D:=aW W;clear W;go_loopw [4] (fun iv wr=>∃i:Nat,i<=n3/\iv=.int .i64 i/\∃v0 v1 K,NmS w wr g1 g2 g3 #[s.name,aO A0 n0 c0,aO A1 n1 c1,aO A2 n2 c2,aO A3 n3 c3] i i v0 v1 K s) (aT n3)
 case atStart=>exact⟨0,aa,rfl,_,_,_,HN.o⟩
 case round=>
  clear HN;rename World=>wr;obtain⟨i,hi,rfl,v0,v1,K,hR⟩:=hrel;have HR:=aW hR;clear hR;by_cases Yp:i<n3
  .have hd:decide ((i:Int)<n3)=ε:=ae;have q1:(0:Int)<=i:=aa;have q2:(i:Int)<n3:=aa;have Zg:Hid (wrap64 ((i:Int)+1)=(i:Int)+1):=aW (Aa _ Acl);obtain⟨lb,lo,hA,hb,e0,e1,e2,e3,e4,e5,e6,e7,e8,e9,YJ,YM⟩:=((HS.ext HR.x).bays).bay Yp;have YO:=aW ((HS.links i Yp).ext HR.x);subst hA;have YP:=aW e6;have YQ:=aW e7;clear hb e0 e1 e2 e3 e4 e5 e6 e7 e8 e9 YJ YM;have hm:(s.bays.getD i η).links.length=(L i).n:=YO.o.1;have YD:(L i).n<=2:=by have:=(YH.link (i:=i) AcF).1.2;omega
   have Yu:=aW YD;have HM:=aW hm;clear hm YD;generalize YY:s.bays.getD i η=bd at YP YQ HM YO;have YT:=aW YY;clear YY;have C:=HR.b1.cell;go_wp2_with fail;clear C;have Zh:Hid (wr.ownsRow wr.heap.size 3 1 (.slice δ 0 0) 0 (((bd.links.take 0).map qO.pos).map (Value.int .i64))):=aW (PI _ _ _ _);go_loopw [5,6] (fun lv kv wq=>∃k:Nat,k<=(L i).n/\kv=.int .i64 k/\wq.ownsRow wr.heap.size 3 1 lv k (((bd.links.take k).map qO.pos).map (Value.int .i64))/\Ext wr wq) (fun _ kv _=>(L i).n-(intOf kv).toNat)
   case atStart=>exact⟨0,aa,rfl,Zh.o,Ext.refl _⟩
   case round=>
    clear Zh;rename World=>wq;obtain⟨k,hk,rfl,N,J⟩:=hrel;have HO:=aW N;have HX:=aW J;clear N J;by_cases G:k<(L i).n
    .have Zj:decide ((k:Int)<((L i).n:Int))=ε:=ae;have r1:(0:Int)<=k:=aa;have r2:(k:Int)<((L i).n:Int):=aa;have Zc:Hid (wrap64 ((k:Int)+1)=(k:Int)+1):=aW (Aa _ (by have:=Yu.o;omega));obtain⟨kb,ko,I,Zo,hc⟩:=(YO.o.2.ext HX.o).at_ G;have hp:=hc 1 _ rfl;generalize YW:bd.links.getD k η=lk at hp;have Zl:=aW YW;clear YW;have C:=(HR.b1.ext HX.o).cell;have k6:=HX.cell_ YP.o;rw[I] at k6;clear hc Zo;have YN:=HX.size;(go_wp2_with (at_builtin;refine eX C8 rfl (.tmp 30) (.tmp 41) rfl wr.heap.size _ k _ rf (eH HO.o (Ext.new wq _)) wq.heap.size 1 1 [.int .i64 lk.pos] rf (Blk.new _ _ _) rfl AaB aa (by have:=Yu.o;omega) (by have:=Yu.o;omega) ae ?_));intro gS B w5 H V YX O;have Yv:Ext wr w5:=((HX.trans (Ext.new wq _)).mod (Mod.grown (S:=fun g=>wr.heap.size<=g) V (fun g e=>(HO.lt g e).1)) (fun _ h=>h));have Zd:w5.ownsRow wr.heap.size 3 1 (.slice (γ (aM gS 0)) (k+1) B) (k+1) (((bd.links.take (k+1)).map qO.pos).map (Value.int .i64)):=by
      rw[kU (by have:=HM.o;omega),Zl.o];simpa using H
     have Zv:=aW Zd;have YK:=aW Yv;clear H Zd V YX O Yv C k6 hp;go_wp2_with fail;refine⟨⟨k+1,aa,by rw[Zc.o];rfl,Zv.o,YK.o⟩,?_⟩;rw[Zc.o];simp[aT,intOf];omega
    .have Zj:decide ((k:Int)<((L i).n:Int))=ζ:=ae;obtain rfl:k=(L i).n:=aa;have C:=(HR.b1.ext HX.o).cell;have k6:=HX.cell_ YP.o;go_wp2_with fail;have N:=HO.o;rw[<-HM.o,ach] at N;obtain⟨A5,c5,rfl,_,_,_⟩:=afh 0 N;rw[HM.o] at N;have l:=aW N;clear N HO C k6;have Q:=aW (HR.ext HX.o);have YS:=aX.blk Q.b1;have Zq:=aX.blk Q.b3;have ac:=aX.cell (HX.cell_ YQ.o);have ad:=aW HR.x.size;clear HR YO;refine iX 9 (fun j=>j==8) (fun j lo hi v w=>j=8->v=.slice (γ (aM lo 0)) 1 1/\lo<hi/\Blk w lo 4 #[bd.closed]) (fun j lo hi v w w' h x e=>⟨(h e).1,(h e).2.1,(h e).2.2.ext x⟩) ah ah ?_;refine Qd ?_;refine Qs ?_;refine eF rf rf rf ?_ ?_
     .intro R I;go_simp;exact⟨Ext.new _ _,rfl,ag,Blk.new _ _ _⟩
     intro v_ Zf ZE YG;obtain⟨R,Yy⟩:=YG;obtain⟨rfl,YV,-⟩:=Yy.get rfl;clear Yy R;refine Qp ?_;refine bP ?_;intro wE I;have b8:Blk wE Zf 4 _:=(I.at_ 8 rf rfl).2.2;have F:=I.ext;have YA:=aW b8;have YL:=aW (Q.ext F);have Ze:=aW (eH l.o F);have Yx:=aW (HX.trans F);clear I F YS Zq ac Q l HX b8 YV;refine eX Ea rfl (.tmp 44) (.tmp 51) rfl w.heap.size v0 i _ rf YL.o0 Zf 1 1 [.bool bd.closed] rf YA.o rfl AaB aa Acl Acl (by have:=YL.x.size;omega) ?_;intro gS B w5 H V YX O;refine Qp ?_;have M:i<s.bays.length:=by have:=Z.o;omega
     have P:=YL.bool M V (by rw[YT.o];exact H);have YR:=oG (u:=.slice (γ (aM gS 0)) (i+1) B) (j:=0) (rY YL.o0 Ze.o aj (Mod.grown V fun g e=>e)) (YL.b3.mod (Mod.grown (S:=fun g=>v0.ownBlock=γ g) V fun g e=>e) (fE YL.o0 YL.b3 aj)) aj;have Y:=YL.b3.mod (Mod.grown (S:=fun g=>v0.ownBlock=γ g) V fun g e=>e) (fE YL.o0 YL.b3 aj);have Yw:=aW P;have Za:=aW YR;have k3:=Y.cell;have f3:=Y.frozen;have Zt:=aW YL.x.size;have Zr:=Yx.size;clear P YR Y H V YX O YL Ze YA;have Yt:World.ownsRow (w5.setCell ⟨g3,0,δ⟩ (.slice (γ (aM gS 0)) (i+1) B)) w.heap.size 3 1 (Hd.v ⟨A5,(L i).n,c5⟩) (L i).n ((bd.links.map qO.pos).map (Value.int .i64)):=by
      exact Za.less (base':=w.heap.size) ad.o
     have YU:=aW Yt;clear Yt Za;rw[HM.o];(go_wp2_with (at_builtin;refine Hid.o ?_));refine aW ?_;refine eX DV rfl (.tmp 55) (.tmp 57) rfl w.heap.size v1 i _ rf (eH Yw.o1 (Ext.new _ _)) w5.heap.size 1 1 [.slice A5 (L i).n c5] rf (aeW _ _ ag) rfl AaB aa Acl Acl (by have:=Yw.x.size;have:=(Ext.new (w5.setCell ⟨g3,0,δ⟩ (.slice (γ (aM gS 0)) (i+1) B)) (.cells #[aO A5 (L i).n c5] 92)).size;omega) ?_;intro gT Zp w7 Zi Zn Zm Zy;have T:Ext (w5.setCell ⟨g3,0,δ⟩ (.slice (γ (aM gS 0)) (i+1) B)) (aL (w5.setCell ⟨g3,0,δ⟩ (.slice (γ (aM gS 0)) (i+1) B)) #[aO A5 (L i).n c5] 92):=Ext.new _ _;have YZ:=(Yw.ext T).row (k:=⟨A5,(L i).n,c5⟩) (by rw[YT.o,HM.o]) (by rw[YT.o];exact eH YU.o T) Zn Zi;have Y:=(Yw.ext T).b3.mod (Mod.grown (S:=fun g=>v1.ownBlock=γ g) Zn fun g e=>e) (fE (Yw.ext T).o1 (Yw.ext T).b3 aj);have k3:=Y.cell;have f3:=Y.frozen;have Zk:=aW YZ;clear YZ Y T Zi Zn Zm Zy;go_wp2_with fail;refine⟨⟨i+1,aa,by rw[Zg.o];rfl,_,_,_,Zk.o⟩,?_⟩;rw[Zg.o];simp[aT,intOf];omega
  .have hd:decide ((i:Int)<n3)=ζ:=ae;obtain rfl:i=n3:=aa;obtain⟨PA,pc,PB,qc,rfl,rfl,YB⟩:=HR.fin Z.symm (by have:=D.o;have:=Z.o;omega) (fun j hj=>by have:=HR.kn j hj;have:=(YH.link (i:=j) AcF).1.2;omega);have ZM:=aW YB;clear YB;have C:=HR.b1.cell;have k3:=HR.b3.cell;have k2:=HR.b2.cell;have f2:=HR.b2.frozen;go_wp2_with fail;have YF:=(HR.b2.mM 0 (.slice PA i pc)).mM 1 (.slice PB i qc);have m2:Mod (fun k=>k=g2) wr ((wr.setCell ⟨g2,0,δ⟩ (.slice PA i pc)).setCell ⟨g2,1,δ⟩ (.slice PB i qc)):=(Mod.only (S:=fun k=>k=g2) (Only.set _ _ _ _) rfl).trans (Mod.only (Only.set _ _ _ _) rfl);refine mG rfl rfl rf YF acZ rfl ah ⟨PA,pc,PB,qc,K,rfl,?_,HR.x.mod m2 (fun k e=>by have:=HR.lo;have e:k=g2:=e;omega),TN (mJ HR.o0 m2 (fun k e1 e0=>fE HR.o0 HR.b2 aj (by rw[e1,show k=g2 from e0])))⟩;exact ZM.o _ m2
def AZ{A0:Option Addr}{n0 c0:Nat}{A1:Option Addr}{n1 c1:Nat}{A2:Option Addr}{n2 c2:Nat}{A3:Option Addr}{n3 c3:Nat}{L:Nat->Hd}{s:StD}(w:World)(hs:j5 w A0 n0 c0 A1 n1 c1 A2 n2 c2 A3 n3 c3 L s)(hc:chk s=0):
  Calls prog 30 #[stV s.name A0 n0 c0 A1 n1 c1 A2 n2 c2 A3 n3 c3] w fun e w'=>∃PA j PB qc K,e=.returned (lG PA n3 j PB n3 qc)/\iN w' PA n3 PB n3 K (normal s)/\Ext w w':=
 (KT w hs hc).mono fun _ _ ⟨PA,j,PB,qc,K,B,l,C,_⟩=>⟨PA,j,PB,qc,K,B,l,C⟩
theorem LJ{A0:Option Addr}{n0 c0:Nat}{A1:Option Addr}{n1 c1:Nat}{A2:Option Addr}{n2 c2:Nat}{A3:Option Addr}{n3 c3:Nat}{s:StD}(w:World)(D:∀w',Ext w w'->CE 31 #[stV s.name A0 n0 c0 A1 n1 c1 A2 n2 c2 A3 n3 c3] w' (.int .i64 (chk s)))(hc:chk s≠0):
  CE 30 #[stV s.name A0 n0 c0 A1 n1 c1 A2 n2 c2 A3 n3 c3] w (lG δ 0 0 δ 0 0):=by
 have l:(chk s==0)=ζ:=by simpa using hc
 have C:=aW D;clear D;generalize chk s=H at C hc l;clear hc;unfold stV at C⊢;go_enter func30,ntmps30;go_wp2_with fail;have F:Ext w (aL (aL w #[s.name,aO A0 n0 c0,aO A1 n1 c1,aO A2 n2 c2,aO A3 n3 c3] 27) #[(),()] 31):=(Ext.new _ _).alloc _;obtain⟨-,-,U⟩:=ah2 w 27 #[s.name,aO A0 n0 c0,aO A1 n1 c1,aO A2 n2 c2,aO A3 n3 c3] 31 #[(),()];have B:=aW F;clear F;generalize aU _ _=I at B U⊢;refine(C.o _ B.o).mono ?_;rintro _ w1 ⟨rfl,F⟩;replace B:=B.aC F;replace U:=U.aA F;clear F;have G:decide (H=0)=ζ:=by simpa using l
 have K:=U.cell;have J:=U.frozen;go_wp2_with fail;have m2:Mod (fun k=>k=w.heap.size+1) w1 ((w1.setCell ⟨w.heap.size+1,0,δ⟩ (.slice δ 0 0)).setCell ⟨w.heap.size+1,1,δ⟩ (.slice δ 0 0)):=(Mod.only (S:=fun k=>k=w.heap.size+1) (Only.set _ _ _ _) rfl).trans (Mod.only (Only.set _ _ _ _) rfl);exact mG rfl rfl rf ((U.mM 0 (.slice δ 0 0)).mM 1 (.slice δ 0 0)) acZ rfl ah ⟨rfl,B.mod m2 (fun k e=>by have e:k=w.heap.size+1:=e;omega)⟩
def Vb(w):iN w δ 0 δ 0 (fun _=>⟨δ,0,0⟩) ⟨[],[]⟩:=
 ⟨rfl,fun h=>absurd h aa,rfl,fun h=>absurd h aa,fun i h=>absurd h aa,fun i h=>absurd h aa,aa,aa,fun i h=>absurd h aa⟩
def Ul{A B C S T g h A1 H I G j:Nat}(R:Nat.gcd (Nat.gcd C A) B=1)(hs:Nat.gcd T S=1)(N:g=Nat.gcd (Nat.gcd T A) B)(U:h=Nat.gcd C S)(O:0<g)(L:0<h)(l:T=g*j)(K:A=g*A1)(D:B=g*H)(F:C=h*I)(M:S=h*G):Nat.gcd (Nat.gcd (I*j) (A1*G)) (H*G)=1:=by
 have c1:Nat.gcd (Nat.gcd j A1) H=1:=by
  have e:Nat.gcd (Nat.gcd T A) B=g*Nat.gcd (Nat.gcd j A1) H:=by rw[l,K,D,abN,abN]
  rw[e] at N;exact abf O aa
 have c2:Nat.gcd I G=1:=by
  have e:Nat.gcd C S=h*Nat.gcd I G:=by rw[F,M,abN]
  rw[e] at U;exact abf L aa
 have V:Nat.Coprime (Nat.gcd A1 H) j:=by
  show Nat.gcd (Nat.gcd A1 H) j=1;rw[aaE,<-acg];exact c1
 have W:Nat.Coprime (Nat.gcd A1 H) I:=by
  have J:Nat.gcd (Nat.gcd A1 H) I∣Nat.gcd (Nat.gcd C A) B:=by
   refine acG (acG ?_ ?_) ?_
   .rw[F];exact aae (aah _ _) ⟨h,nG _ _⟩
   .rw[K];exact aae (aae (Ha _ _) (Ha _ _)) ⟨g,nG _ _⟩
   .rw[D];exact aae (aae (Ha _ _) (aah _ _)) ⟨g,nG _ _⟩
  rw[R] at J;exact Nat.dvd_one.1 J
 have P:Nat.Coprime G I:=by show Nat.gcd G I=1;rw[aaE];exact c2
 have Q:Nat.Coprime G j:=by
  have J:Nat.gcd G j∣Nat.gcd T S:=by
   refine acG ?_ ?_
   .rw[l];exact aae (aah _ _) ⟨g,nG _ _⟩
   .rw[M];exact aae (Ha _ _) ⟨h,nG _ _⟩
  rw[hs] at J;exact Nat.dvd_one.1 J
 have k:Nat.Coprime (Nat.gcd A1 H*G) (I*j):=Nat.Coprime.mul_left (adq W V) (adq P Q);rw[acg,acT,aaE];exact k
def nat_eq{x y z:Int}(h:x=y*z):x.natAbs=y.natAbs*z.natAbs:=by rw[h,Ej]
def NS{x y z:Int}(h:x=y*z)(J:0<x)(R:0<y):0<z:=by
 rcases acS z 0 with j|j|j
 .have:=ac1 R j;omega
 .subst j;simp at h;omega
 .exact j
theorem Ls(Q v1 v2 P fb D sa S u v t K)(I:K<=12800)(w)(hc:Calm w Q)(L:RG w v1 P fb D)(l:RG w v2 sa 0 S)(lf:Low P fb D)(B:Low sa 0 S)(sx:Sz K P fb D)(sy:Sz K sa 0 S)(E:(u,v,t)=nf (P*sa) (fb*sa) (D*S))(sz:Sz K u v t):
  CV 142 #[aN Q 0,v1,v2] w fun x w'=>RG w' x u v t:=by
 have hd:D≠0:=by have:=lf.1;omega
 have hd':S≠0:=by have:=B.1;omega
 obtain⟨g,t1,a1,b1,hg,N,G,ea,eb⟩:=tH (a:=S) (b:=P) (c:=fb) hd';obtain⟨h,d1,s1,z1,hh,Yt,U,M,ez⟩:=tH (a:=D) (b:=sa) (c:=0) hd;have YA:z1=0:=by
  rcases ack.1 ez.symm with h|h
  .exact absurd h Yt
  .exact h
 subst YA;have F:g.natAbs=Nat.gcd (Nat.gcd S.natAbs P.natAbs) fb.natAbs:=by rw[hg];simp[gD]
 have Z:h.natAbs=Nat.gcd D.natAbs sa.natAbs:=by rw[hh];simp[gD]
 have W:0<g:=by
  have:0<=g:=by rw[hg];omega
  omega
 have Yp:0<h:=by
  have:0<=h:=by rw[hh];omega
  omega
 have V:Nat.gcd (Nat.gcd D.natAbs P.natAbs) fb.natAbs=1:=lf.2;have Y:Nat.gcd S.natAbs sa.natAbs=1:=by have:=B.2;unfold g3 at this;simpa using this
 have C:=Ul V Y F Z aa aa (nat_eq G) (nat_eq ea) (nat_eq eb) (nat_eq U) (nat_eq M);have j:=NS U lf.1 Yp;have ac:=NS G B.1 W;have YC:Low (a1*s1) (b1*s1) (d1*t1):=⟨Int.mul_pos j ac,by unfold g3;rw[Ej,Ej,Ej];exact C⟩;have hD:d1*t1≠0:=by have:=YC.1;omega
 have E2:nf (P*sa) (fb*sa) (D*S)=nf (a1*s1) (b1*s1) (d1*t1):=by
  refine pW (nk hd hd') hD ?_ ?_
  .rw[ea,G,U,M];grind
  .rw[eb,G,U,M];grind
 rw[E2,BK YC] at E;injection E with e1 E;injection E with e2 e3;obtain⟨x1,x2,J⟩:=sx.pM I;obtain⟨y1,y2,y3⟩:=sy.pM I;obtain⟨z1,z2,z3⟩:=sz.pM I;have O:=gM N ea sx.a;have T:=gM N eb sx.b;have Yq:=gM N G sy.d;have R:=gM Yt M sy.a;have H:=gM Yt U sx.d;have bg:g.natAbs<2^K:=yP hd' ⟨_,G⟩ sy.d;have bh:h.natAbs<2^K:=yP hd ⟨_,U⟩ sx.d;have l0:(0:Int).natAbs<lim:=y2;exact Ce Q v1 P fb D v2 sa 0 S w hc L x1 x2 J l y1 y2 y3 g (aW hg) (bR bg aa) h (aW hh) (bR bh aa)
  a1 (aW (gz N ea)) (bR O aa) (aW N) (aW ⟨_,ea⟩) b1 (aW (gz N eb)) (bR T aa) (aW N) (aW ⟨_,eb⟩)
  s1 (aW (gz Yt M)) (bR R aa) (aW Yt) (aW ⟨_,M⟩) 0 (aW ag) l0 (aW Yt) (aW ⟨0,ag⟩)
  u (aW e1) z1 0 (aW ag) l0 u (aW ag) z1
  0 (aW ag) l0 v (aW e2) z2 v (aW ag) z2
  d1 (aW (gz Yt U)) (bR H aa) (aW Yt) (aW ⟨_,U⟩) t1 (aW (gz N G)) (bR Yq aa) (aW N) (aW ⟨_,G⟩)
  t (aW e3) z3 (aW (by rw[e3];exact hD)) u v t (aW (by rw[e1,e2,e3,BK YC])) z1 z2 z3
namespace GQ
def EA(x y:GQ):x+y=y+x:=by ext<;>simp only[cO,bY]<;>grind
def JL(x y z:GQ):x+y+z=x+(y+z):=by ext<;>simp only[cO,bY]<;>grind
def qD(x y z:GQ):x*(y+z)=x*y+x*z:=by ext<;>simp only[cO,bY,bL,bK]<;>grind
def jT(x y z:GQ):x*(y-z)=x*y-x*z:=by ext<;>simp only[dU,dV,bL,bK]<;>grind
def fC(x):i 0 0*x=i 0 0:=by ext<;>simp only[dM,dJ,bL,bK]<;>grind
def bQ(x):x*i 0 0=i 0 0:=by ext<;>simp only[dM,dJ,bL,bK]<;>grind
def kF(x):i 1 0*x=x:=by ext<;>simp only[dM,dJ,bL,bK]<;>grind
def pX(x):x*i 1 0=x:=by ext<;>simp only[dM,dJ,bL,bK]<;>grind
def fo(x):x-i 0 0=x:=by ext<;>simp only[dM,dJ,dU,dV]<;>grind
def OY(x):i 0 0-x= -x:=by ext<;>simp only[dM,dJ,dU,dV,lI,lM]<;>grind
def rD(x):x-x=i 0 0:=by ext<;>simp only[dM,dJ,dU,dV]<;>grind
def add_zero'(x):x+i 0 0=x:=by ext<;>simp only[dM,dJ,cO,bY]<;>grind
def KR{x y}(h:x+y=i 0 0):x= -y:=by
 have l:=congrArg GQ.re h;have j:=congrArg GQ.im h;simp only[cO,bY,dM,dJ] at l j;ext<;>simp only[lI,lM]<;>grind
def IA{x}(h:x+x=i 0 0):x=i 0 0:=by
 have j:=congrArg GQ.re h;have l:=congrArg GQ.im h;simp only[cO,bY,dM,dJ] at j l;ext<;>simp only[dM,dJ]<;>grind
theorem TI(x y:GQ):(x*y).nrm=x.nrm*y.nrm:=by unfold nrm;simp only[bL,bK];grind
theorem jc{x y}(J:x≠i 0 0)(R:y≠i 0 0):x*y≠i 0 0:=by
 intro h;have j:=TI x y;rw[h] at j;have l:(i 0 0).nrm=0:=by unfold nrm;simp only[dM,dJ];grind
 rw[l] at j;rcases abw.1 j.symm with h|h
 .exact Dh J h
 .exact Dh R h
end GQ
def dC (v:Nat->GQ) (D:List Nat->GQ):List Nat->GQ
 |[]=>GQ.i 0 0
 |c::cs=>v c*D cs-dC v (fun l=>D (c::l)) cs
def det:List (Nat->GQ)->List Nat->GQ
 |[],_=>GQ.i 1 0
 |v::R,cs=>dC v (det R) cs
def Dl(v a):∀(cs:List Nat) (D E:List Nat->GQ),dC v (fun l=>a*D l-E l) cs=a*dC v D cs-dC v E cs
 |[],D,E=>by simp only[dC,GQ.bQ,GQ.fo]
 |c::cs,D,E=>by
  simp only[dC,Dl v a cs];ext<;>simp only[GQ.dU,GQ.dV,GQ.bL,GQ.bK]<;>grind
def xZ(v u f):∀(cs:List Nat) (D:List Nat->GQ),dC (fun c=>v c-f*u c) D cs=dC v D cs-f*dC u D cs
 |[],D=>by simp only[dC,GQ.bQ,GQ.fo]
 |c::cs,D=>by
  simp only[dC,xZ v u f cs];ext<;>simp only[GQ.dU,GQ.dV,GQ.bL,GQ.bK]<;>grind
def nJ(v):∀(cs:List Nat),dC v (fun _=>GQ.i 0 0) cs=GQ.i 0 0
 |[]=>rfl
 |c::cs=>by simp only[dC,nJ v cs,GQ.bQ,GQ.fo]
def rA(v u):∀(cs:List Nat) (D:List Nat->GQ),dC v (dC u D) cs+dC u (dC v D) cs=GQ.i 0 0
 |[],D=>by simp only[dC,GQ.add_zero']
 |c::cs,D=>by
  have B:=rA v u cs (fun l=>D (c::l));have F:dC v (fun l=>dC u D (c::l)) cs=u c*dC v D cs-dC v (dC u (fun l=>D (c::l))) cs:=by
   rw[<-Dl];rfl
  have C:dC u (fun l=>dC v D (c::l)) cs=v c*dC u D cs-dC u (dC v (fun l=>D (c::l))) cs:=by
   rw[<-Dl];rfl
  have j:dC v (dC u D) (c::cs)=v c*dC u D cs-dC v (fun l=>dC u D (c::l)) cs:=rfl;have G:dC u (dC v D) (c::cs)=u c*dC v D cs-dC u (fun l=>dC v D (c::l)) cs:=rfl;rw[j,G,F,C];have i1:=congrArg GQ.re B;have M:=congrArg GQ.im B;simp only[GQ.cO,GQ.bY,GQ.dM,GQ.dJ] at i1 M;ext<;>simp only[GQ.cO,GQ.bY,GQ.dU,GQ.dV,GQ.bL,GQ.bK,GQ.dM,GQ.dJ]<;>grind
def xz(v u R cs):det (v::u::R) cs= -det (u::v::R) cs:=by
 have h:=rA v u cs (det R);exact GQ.KR h
def rF(v):∀(R:List (Nat->GQ)) (cs:List Nat),v∈R->det (v::R) cs=GQ.i 0 0
 |[],_,h=>by cases h
 |u::R,cs,h=>by
  by_cases e:v=u
  .subst e;apply GQ.IA;exact rA v v cs (det R)
  .have j:v∈R:=by
    rcases lh.1 h with h|h
    .exact absurd h e
    .exact h
   rw[xz];have B:det (v::R)=fun _=>GQ.i 0 0:=funext fun l=>rF v R l j;show-dC u (det (v::R)) cs=_;rw[B,nJ];ext<;>simp only[GQ.lI,GQ.lM,GQ.dM,GQ.dJ]<;>grind
def Says (x a:Nat->GQ) (P:List (Nat->GQ)):Prop:=∀cs,det (x::P) cs=det (a::P) cs
def Says.refl(a P):Says a a P:=fun _=>rfl
def Says.more{x a b P}(h:Says x a P):Says x a (b::P):=by
 intro cs;rw[xz,xz a];have:det (x::P)=det (a::P):=funext h;show-dC b (det (x::P)) cs= -dC b (det (a::P)) cs;rw[this]
def Says.step{x y a b P}(J:Says x a P)(R:Says y b P)(f):Says (fun c=>x c-f*y c) a (b::P):=by
 intro cs;have j:det ((fun c=>x c-f*y c)::b::P) cs=det (x::b::P) cs-f*det (y::b::P) cs:=xZ x y f cs (det (b::P));rw[j,J.more cs,R.more cs,rF b (b::P) cs (q8),GQ.bQ,GQ.fo]
def nI{x}:∀(cs:List Nat) (D:List Nat->GQ),(∀c∈cs,x c=GQ.i 0 0)->dC x D cs=GQ.i 0 0
 |[],_,_=>rfl
 |c::cs,D,h=>by
  show x c*D cs-dC x (fun l=>D (c::l)) cs=_;rw[h c (q8),nI cs _ (fun d hd=>h d (nC _ hd)),GQ.fC,GQ.fo]
def Says.entry{x a P q}(h:Says x a P)(C:∀c∈q,x c=GQ.i 0 0)(j):det (a::P) (j::q)=x j*det P q:=by
 rw[<-h];show x j*det P q-dC x _ q=_;rw[nI q _ C,GQ.fo]

def Wh (x:GQ) (B:Nat):Prop:=∃a b:Int,x=GQ.i a b/\a.natAbs+b.natAbs<=B
def Wh.mono{x B C}(h:Wh x B)(l:B<=C):Wh x C:=by
 obtain⟨a,b,e,h⟩:=h;exact⟨a,b,e,aa⟩
def Wh.mul{x y B C}(J:Wh x B)(R:Wh y C):Wh (x*y) (B*C):=by
 obtain⟨a,b,rfl,h⟩:=J;obtain⟨c,d,rfl,k⟩:=R;refine⟨a*c-b*d,a*d+b*c,?_,?_⟩
 .ext<;>simp only[GQ.bL,GQ.bK,GQ.dM,GQ.dJ,abV,aba,aac]
 .have l:=abD (a*c) (b*d);have j:=ab7 (a*d) (b*c);have F:(a.natAbs+b.natAbs)*(c.natAbs+d.natAbs)<=B*C:=aaa h k;have D:(a.natAbs+b.natAbs)*(c.natAbs+d.natAbs)=a.natAbs*c.natAbs+b.natAbs*d.natAbs+(a.natAbs*d.natAbs+b.natAbs*c.natAbs):=by
   exact Aco
  rw[Ej,Ej] at l j;omega
def Wh.sub{x y B C}(J:Wh x B)(R:Wh y C):Wh (x-y) (B+C):=by
 obtain⟨a,b,rfl,h⟩:=J;obtain⟨c,d,rfl,k⟩:=R;refine⟨a-c,b-d,?_,?_⟩
 .ext<;>simp only[GQ.dU,GQ.dV,GQ.dM,GQ.dJ,abV]
 .have l:=abD a c;have j:=abD b d;omega
def vV:Wh (GQ.i 1 0) 1:=⟨1,0,rfl,ag⟩
def iC(B):Wh (GQ.i 0 0) B:=⟨0,0,rfl,ag⟩
def fct:Nat->Nat
 |0=>1
 |n+1=>(n+1)*fct n
def sO{x}(s):∀(cs:List Nat) (D:List Nat->GQ),dC (fun c=>s*x c) D cs=s*dC x D cs
 |[],_=>(GQ.bQ s).symm
 |c::cs,D=>by
  show s*x c*D cs-dC (fun c=>s*x c) (fun l=>D (c::l)) cs=s*(x c*D cs-dC x (fun l=>D (c::l)) cs);rw[sO s cs,GQ.jT,GQ.dB]
def kE{x}(s):∀(cs:List Nat) (D:List Nat->GQ),dC x (fun l=>s*D l) cs=s*dC x D cs
 |[],_=>(GQ.bQ s).symm
 |c::cs,D=>by
  show x c*(s*D cs)-dC x (fun l=>s*D (c::l)) cs=s*(x c*D cs-dC x (fun l=>D (c::l)) cs);rw[kE s cs,GQ.jT,<-GQ.dB,GQ.dZ (x c) s,GQ.dB]
def St.swap{w W a b bs fs}(h:St w W (a::b::bs) fs):St w W (b::a::bs) fs:=
 ⟨h.ext,fun p hp=>h.blks p (by simp at hp⊢;rcases hp with e|e|e<;>simp[e]),⟨⟨fun e=>h.nd.1.1 e.symm,h.nd.2.1⟩,h.nd.1.2,h.nd.2.2⟩,h.nums⟩
def UA(v0)(q0:PQ)(n0:Nat)(m1:Int)(K r:Nat)(w)(Yp:PV w v0 q0 n0)(l1: -9223372036854775808<=m1)(u1:m1<=9223372036854775807)(T:Hid (m1%12=(K:Int)))(HR:Hid (K=3*r+0))(hr:r<=3)(hn:2*n0+65<=12800):
  CV 132 #[v0,m1] w fun v w'=>(∃u,v=.tuple #[u,aJ]/\PV w' u (⟨q0.u*aeZ r,q0.v*aeZ r⟩) (n0)):=by
 have hS:=ae0 w;obtain⟨Ze,Zd,Zc,bh,be,bb,Yp,ZI,ZJ,ZH,ZK⟩:=Yp;obtain⟨Z,Y,H,C,U,Q,L,V,S,P,G,W,YX,YR,YQ,YP,YV,YS,N,YY,YU,YW,YT,YZ,rfl,YH,YJ,YI,Zh,Zj,Zi⟩:=Yp;replace hS:=hS.bI YH;clear YH;replace hS:=hS.bI YJ;clear YJ;replace hS:=hS.bI YI;clear YI;replace hS:=hS.bI Zh;clear Zh;replace hS:=hS.bI Zj;clear Zj;replace hS:=hS.bI Zi;clear Zi;have bg:=JV T.o;have e3:(K:Int).tmod 3=0:=by rw[HR.o,abd aa];omega
 have e4:(K:Int).tdiv 3=(r:Int):=by rw[HR.o,abS aa];omega
 have l:=(St.al (St.al hS 44 #[Z,aO Y H C,U,aO Q L V,S,aO P G W,YX,aO YR YQ YP,YV,aO YS N YY,YU,aO YW YT YZ] (g:=w.heap.size) ag) 44 aQ6 (g:=(w.heap.size+1)) ag);have YC:=(l.aH 1).cell;go_enter aed,adF;go_wp2_with fail;clear YC;clear l;refine gA3 hS 44 #[Z,aO Y H C,U,aO Q L V,S,aO P G W,YX,aO YR YQ YP,YV,aO YS N YY,YU,aO YW YT YZ] 44 aQ6 42 #[Z,aO Y H C,U,aO Q L V,S,aO P G W,YX,aO YR YQ YP,YV,aO YS N YY,YU,aO YW YT YZ] ?_;clear hS;intro w1 g2 o2 g4 o4 ZL ba hS;refine(kN ZL q0.u q0.v n0 n0 _ (hS.aH 0) ⟨_,_,_,RG.mk (hS.aF 5) (hS.aF 4) (hS.aF 3),ZI,ZJ⟩ aa ⟨_,_,_,RG.mk (hS.aF 2) (hS.aF 1) (hS.aF 0),ZH,ZK⟩ aa).mono ?_;rintro e w2 ⟨rfl,F⟩;replace hS:=hS.mv F;clear F;go_wp2_with fail;refine gA1 hS 197 #[aJ] ?_;clear hS;intro w3 g6 o6 hS;have YB:=(hS.aH 3).cell;have ZM:=(hS.aH 3).lt;go_region;clear YB ZM;have o7:Own w w3.heap.size:=aeX hS.ext ag;have o8:Own w (w3.heap.size+1):=aeX hS.ext ag;replace hS:=((hS.al 42 #[Z,aO Y H C,U,aO Q L V,S,aO P G W] (g:=w3.heap.size) rfl).al 42 #[YX,aO YR YQ YP,YV,aO YS N YY,YU,aO YW YT YZ] (g:=w3.heap.size+1) ag).mv ((Ext.refl _).drew);generalize ((w3.alloc (.cells #[Z,aO Y H C,U,aO Q L V,S,aO P G W] 42)).alloc (.cells #[YX,aO YR YQ YP,YV,aO YS N YY,YU,aO YW YT YZ] 42)).drew=w4 at hS⊢;generalize w3.heap.size+1=g8 at hS o8⊢;generalize w3.heap.size=g7 at hS o7⊢
 rotate_left 1
 clear YB ZM;have o8:Own w w3.heap.size:=aeX hS.ext ag;have o7:Own w (w3.heap.size+1):=aeX hS.ext ag;replace hS:=((hS.al 42 #[YX,aO YR YQ YP,YV,aO YS N YY,YU,aO YW YT YZ] (g:=w3.heap.size) rfl).al 42 #[Z,aO Y H C,U,aO Q L V,S,aO P G W] (g:=w3.heap.size+1) ag).mv ((Ext.refl _).drew);replace hS:=St.swap hS;generalize ((w3.alloc (.cells #[YX,aO YR YQ YP,YV,aO YS N YY,YU,aO YW YT YZ] 42)).alloc (.cells #[Z,aO Y H C,U,aO Q L V,S,aO P G W] 42)).drew=w4 at hS⊢;generalize w3.heap.size+1=g7 at hS o7⊢;generalize w3.heap.size=g8 at hS o8⊢
 rotate_left 1
 all_goals
  have YM:=(hS.aH 2).cell;go_wp2_with fail;clear YM;obtain⟨D,Yu,Yq,am⟩:=gX (q0.u*aeZ r);have a9:Sz (n0) D Yu Yq:=(ae7 ⟨_,_,_,ZI,ZJ⟩ r).sz am;obtain⟨Yr,Yv,Yt,ai⟩:=gX (q0.v*aeZ r);have a8:Sz (n0) Yr Yv Yt:=(ae7 ⟨_,_,_,ZH,ZK⟩ r).sz ai;have Y8:=aX.blk (hS.aH 0);have Y7:=aX.blk (hS.aH 1);have B:=hS.ext;refine tF 11 [(3,.rg (D) (Yu) (Yq)),(7,.rg (Yr) (Yv) (Yt)),(8,.retp (D) (Yu) (Yq) (Yr) (Yv) (Yt) 0)] ?_;refine Qs ?_;refine Eg (fun R I=>mX (iJ g6 _ q0.u (n0) r ((r:Int)) _ rfl (Blk.ext (hS.aH 2) I.1) ⟨_,_,_,RG.mk (hS.aD 5 I.1) (hS.aD 4 I.1) (hS.aD 3 I.1),ZI,ZJ⟩ aa aa) am) ?_;intro Zy Yx Zm Zo ZB YE Zp Zx Zz YF Zt Zr ZE ZC;refine Qs ?_;refine Eg (fun R I=>mX (iJ g6 _ q0.v (n0) r ((r:Int)) _ rfl (Blk.ext (hS.aH 2) I.1) ⟨_,_,_,RG.mk (hS.aD 2 I.1) (hS.aD 1 I.1) (hS.aD 0 I.1),ZH,ZK⟩ aa aa) ai) ?_;intro YL Yz Zk ZA Zn Yw Zq YK Zv YD Zl Zw ZG ZF;refine eF rf rf rf ?_ ?_
  .exact Aal
  intro v_ ax a3 YG;obtain⟨R,Yy⟩:=YG;have M:Fc.holds (.retp (D) (Yu) (Yq) (Yr) (Yv) (Yt) 0) ax a3 v_ R:=Yy.get;clear Yy;obtain⟨_,rfl,aw,ad,aB,aq,ay,ac,az,aI,ao,Z9,a6,a1,av,Z8,a7,ap,a2,Z7,ar,a5,a4,af,aE,a0,rfl,-,-,-,-,-,-⟩:=M;clear R;refine Qp ?_;refine Qs ?_;refine bP ?_;intro w5 I;have j:=hS.lt;replace hS:=hS.mv I.ext;replace hS:=hS.aG I 3;replace hS:=hS.aG I 7;replace hS:=hS.aP I 8;clear I j B Y8 Y7;have YN:=(hS.aH 4).cell;have Za:=(hS.aH 4).frozen;go_wp2;replace hS:=hS.pt 4 0 [.bool aw,.slice ad aB aq,.bool ay,.slice ac az aI,.bool ao,.slice Z9 a6 a1,.bool av,.slice Z8 a7 ap,.bool a2,.slice Z7 ar a5,.bool a4,.slice af aE a0] o4;exact tq rfl rfl rfl (hS.aH 4) ⟨_,rfl,⟨_,rfl,⟨_,_,_,_,_,_,RP.mk (hS.aF 5) (hS.aF 4) (hS.aF 3) (hS.aF 2) (hS.aF 1) (hS.aF 0),am,a9,ai,a8⟩⟩,hS.ext⟩
def Uo(v0)(q0:PQ)(n0:Nat)(m1:Int)(K r:Nat)(w)(Yp:PV w v0 q0 n0)(l1: -9223372036854775808<=m1)(u1:m1<=9223372036854775807)(T:Hid (m1%12=(K:Int)))(HR:Hid (K=3*r+1))(hr:r<=3)(hn:2*n0+65<=12800):
  CV 132 #[v0,m1] w fun v w'=>(∃u,v=.tuple #[u,aJ]/\PV w' u (⟨aeY 1 (q0.u*aeZ 1) 3 q0.v 2*aeZ r,aeY 1 q0.u 1 (q0.v*aeZ 1) 2*aeZ r⟩) (n0+n0+65)):=by
 have hS:=ae0 w;obtain⟨Ze,Zd,Zc,dr,dp,dn,Yp,ZI,ZJ,ZH,ZK⟩:=Yp;obtain⟨Z,Y,H,C,U,Q,L,V,S,P,G,W,YX,YR,YQ,YP,YV,YS,N,YY,YU,YW,YT,YZ,rfl,YH,YJ,YI,Zh,Zj,Zi⟩:=Yp;replace hS:=hS.bI YH;clear YH;replace hS:=hS.bI YJ;clear YJ;replace hS:=hS.bI YI;clear YI;replace hS:=hS.bI Zh;clear Zh;replace hS:=hS.bI Zj;clear Zj;replace hS:=hS.bI Zi;clear Zi;have dq:=JV T.o;have e3:(K:Int).tmod 3=1:=by rw[HR.o,abd aa];omega
 have e4:(K:Int).tdiv 3=(r:Int):=by rw[HR.o,abS aa];omega
 have l:=(St.al (St.al hS 44 #[Z,aO Y H C,U,aO Q L V,S,aO P G W,YX,aO YR YQ YP,YV,aO YS N YY,YU,aO YW YT YZ] (g:=w.heap.size) ag) 44 aQ6 (g:=(w.heap.size+1)) ag);have YC:=(l.aH 1).cell;go_enter aed,adF;go_wp2_with fail;clear YC;clear l;refine gA3 hS 44 #[Z,aO Y H C,U,aO Q L V,S,aO P G W,YX,aO YR YQ YP,YV,aO YS N YY,YU,aO YW YT YZ] 44 aQ6 42 #[Z,aO Y H C,U,aO Q L V,S,aO P G W,YX,aO YR YQ YP,YV,aO YS N YY,YU,aO YW YT YZ] ?_;clear hS;intro w1 g2 o2 g4 o4 ZL dl hS;refine(kN ZL q0.u q0.v n0 n0 _ (hS.aH 0) ⟨_,_,_,RG.mk (hS.aF 5) (hS.aF 4) (hS.aF 3),ZI,ZJ⟩ aa ⟨_,_,_,RG.mk (hS.aF 2) (hS.aF 1) (hS.aF 0),ZH,ZK⟩ aa).mono ?_;rintro e w2 ⟨rfl,F⟩;replace hS:=hS.mv F;clear F;go_wp2_with fail;refine gA1 hS 197 #[aJ] ?_;clear hS;intro w3 g6 o6 hS;have YB:=(hS.aH 3).cell;have ZM:=(hS.aH 3).lt;go_region;clear YB ZM;have o7:Own w w3.heap.size:=aeX hS.ext ag;have o8:Own w (w3.heap.size+1):=aeX hS.ext ag;replace hS:=((hS.al 42 #[Z,aO Y H C,U,aO Q L V,S,aO P G W] (g:=w3.heap.size) rfl).al 42 #[YX,aO YR YQ YP,YV,aO YS N YY,YU,aO YW YT YZ] (g:=w3.heap.size+1) ag).mv ((Ext.refl _).drew);generalize ((w3.alloc (.cells #[Z,aO Y H C,U,aO Q L V,S,aO P G W] 42)).alloc (.cells #[YX,aO YR YQ YP,YV,aO YS N YY,YU,aO YW YT YZ] 42)).drew=w4 at hS⊢;generalize w3.heap.size+1=g8 at hS o8⊢;generalize w3.heap.size=g7 at hS o7⊢
 rotate_left 1
 clear YB ZM;have o8:Own w w3.heap.size:=aeX hS.ext ag;have o7:Own w (w3.heap.size+1):=aeX hS.ext ag;replace hS:=((hS.al 42 #[YX,aO YR YQ YP,YV,aO YS N YY,YU,aO YW YT YZ] (g:=w3.heap.size) rfl).al 42 #[Z,aO Y H C,U,aO Q L V,S,aO P G W] (g:=w3.heap.size+1) ag).mv ((Ext.refl _).drew);replace hS:=St.swap hS;generalize ((w3.alloc (.cells #[YX,aO YR YQ YP,YV,aO YS N YY,YU,aO YW YT YZ] 42)).alloc (.cells #[Z,aO Y H C,U,aO Q L V,S,aO P G W] 42)).drew=w4 at hS⊢;generalize w3.heap.size+1=g7 at hS o7⊢;generalize w3.heap.size=g8 at hS o8⊢
 rotate_left 1
 all_goals
  go_wp2_with fail;obtain⟨bt,bw,bA,cx⟩:=gX (q0.u*aeZ 1);have da:Sz (n0) bt bw bA:=(ae7 ⟨_,_,_,ZI,ZJ⟩ 1).sz cx;obtain⟨cc,cf,cj,cy⟩:=gX (aeY (1) (q0.u*aeZ 1) (3) q0.v (2));have c6:Sz (n0+n0+65) cc cf cj:=(ae8 (m:=2) ⟨_,_,_,cx,da⟩ ⟨_,_,_,ZH,ZK⟩ aa aa aa aa aa aa aa).sz cy;obtain⟨cd,cg,bV,cA⟩:=gX (q0.v*aeZ 1);have c8:Sz (n0) cd cg bV:=(ae7 ⟨_,_,_,ZH,ZK⟩ 1).sz cA;obtain⟨cb,ce,bp,cw⟩:=gX (aeY (1) q0.u (1) (q0.v*aeZ 1) (2));have c7:Sz (n0+n0+65) cb ce bp:=(ae8 (m:=2) ⟨_,_,_,ZI,ZJ⟩ ⟨_,_,_,cA,c8⟩ aa aa aa aa aa aa aa).sz cw;have Y2:=aX.blk (hS.aH 5);have B:=hS.ext;refine tF 12 [(2,.rg (bt) (bw) (bA)),(5,.rg (cc) (cf) (cj)),(10,.rg (cd) (cg) (bV)),(11,.rg (cb) (ce) (bp))] ?_;refine Qs ?_;refine Eg (fun R I=>mX (iJ g6 _ q0.u (n0) 1 (1) _ rfl (Blk.ext (hS.aH 2) I.1) ⟨_,_,_,RG.mk (hS.aD 5 I.1) (hS.aD 4 I.1) (hS.aD 3 I.1),ZI,ZJ⟩ aa aa) cx) ?_;intro aI aq a7 a3 a8 am bh a2 bl ar bj az ZQ ZP;refine Qs ?_;refine Eg (fun R I=>mX (jQ g6 _ _ (q0.u*aeZ 1) q0.v (1) (3) (2) _ _ _ (Blk.ext (hS.aH 2) I.1) ⟨_,_,_,RG.mk (RG.at1 (I.f 2 ((gv aI aq a7 a3 a8 am bh a2 bl ar bj az),ZQ,ZP))) (RG.at2 (I.f 2 ((gv aI aq a7 a3 a8 am bh a2 bl ar bj az),ZQ,ZP))) (RG.at3 (I.f 2 ((gv aI aq a7 a3 a8 am bh a2 bl ar bj az),ZQ,ZP))),cx,da⟩ ⟨_,_,_,RG.mk (hS.aD 2 I.1) (hS.aD 1 I.1) (hS.aD 0 I.1),ZH,ZK⟩ aa aa aa aa aa aa aa aa) cy) ?_;intro bb ac a0 a1 bi ao aB bo bk ad bg a5 de di;refine Qs ?_;refine Eg (fun R I=>mX (iJ g6 _ q0.v (n0) 1 (1) _ rfl (Blk.ext (hS.aH 2) I.1) ⟨_,_,_,RG.mk (hS.aD 2 I.1) (hS.aD 1 I.1) (hS.aD 0 I.1),ZH,ZK⟩ aa aa) cA) ?_;intro a4 ai bm ba bn ap a6 aE ay af a9 be ZY ZZ;refine Eg (fun R I=>mX (jQ g6 _ _ q0.u (q0.v*aeZ 1) (1) (1) (2) _ _ _ (Blk.ext (hS.aH 2) I.1) ⟨_,_,_,RG.mk (hS.aD 5 I.1) (hS.aD 4 I.1) (hS.aD 3 I.1),ZI,ZJ⟩ ⟨_,_,_,RG.mk (RG.at1 (I.f 10 ((gv a4 ai bm ba bn ap a6 aE ay af a9 be),ZY,ZZ))) (RG.at2 (I.f 10 ((gv a4 ai bm ba bn ap a6 aE ay af a9 be),ZY,ZZ))) (RG.at3 (I.f 10 ((gv a4 ai bm ba bn ap a6 aE ay af a9 be),ZY,ZZ))),cA,c8⟩ aa aa aa aa aa aa aa aa) cw) ?_;intro bq av cl cn ck aw ca ci bx ax ch b0 df dk;refine bP ?_;intro w5 I;have j:=hS.lt;replace hS:=hS.mv I.ext;replace hS:=hS.aG I 2;replace hS:=hS.aG I 5;replace hS:=hS.aG I 10;replace hS:=hS.aG I 11;clear I j B Y2;have YM:=(hS.aH 1).cell;have YN:=(hS.aH 1).frozen;have YA:=hS.pt 1 0 [.bool bb,.slice ac a0 a1,.bool bi,.slice ao aB bo,.bool bk,.slice ad bg a5] o7;have Za:=(YA.aH 0).cell;have Zf:=(YA.aH 0).frozen;have YO:=(hS.pt 1 0 [.bool bb,.slice ac a0 a1,.bool bi,.slice ao aB bo,.bool bk,.slice ad bg a5] o7).pt 0 0 [.bool bq,.slice av cl cn,.bool ck,.slice aw ca ci,.bool bx,.slice ax ch b0] o8;have Zg:=(YO.aH 2).cell;go_wp2_with fail;clear YM YN Za Zf Zg;clear YA YO;replace hS:=(hS.pt 1 0 [.bool bb,.slice ac a0 a1,.bool bi,.slice ao aB bo,.bool bk,.slice ad bg a5] o7).pt 0 0 [.bool bq,.slice av cl cn,.bool ck,.slice aw ca ci,.bool bx,.slice ax ch b0] o8;refine gW hS ?_;clear hS;intro w6 hS;obtain⟨D,Yu,Yq,cC⟩:=gX ((aeY (1) (q0.u*aeZ 1) (3) q0.v (2))*aeZ r);have dc:Sz (n0+n0+65) D Yu Yq:=(ae7 ⟨_,_,_,cy,c6⟩ r).sz cC;obtain⟨Yr,Yv,Yt,cB⟩:=gX ((aeY (1) q0.u (1) (q0.v*aeZ 1) (2))*aeZ r);have db:Sz (n0+n0+65) Yr Yv Yt:=(ae7 ⟨_,_,_,cw,c7⟩ r).sz cB;have Y8:=aX.blk (hS.aH 0);have Y7:=aX.blk (hS.aH 1);have B:=hS.ext;refine tF 11 [(3,.rg (D) (Yu) (Yq)),(7,.rg (Yr) (Yv) (Yt)),(8,.retp (D) (Yu) (Yq) (Yr) (Yv) (Yt) 0)] ?_;refine Qs ?_;refine Eg (fun R I=>mX (iJ g6 _ (aeY (1) (q0.u*aeZ 1) (3) q0.v (2)) (n0+n0+65) r ((r:Int)) _ rfl (Blk.ext (hS.aH 2) I.1) ⟨_,_,_,RG.mk (hS.aD 8 I.1) (hS.aD 7 I.1) (hS.aD 6 I.1),cy,c6⟩ aa aa) cC) ?_;intro Zy Yx Zm Zo ZB YE Zp Zx Zz YF Zt Zr ZE ZC;refine Qs ?_;refine Eg (fun R I=>mX (iJ g6 _ (aeY (1) q0.u (1) (q0.v*aeZ 1) (2)) (n0+n0+65) r ((r:Int)) _ rfl (Blk.ext (hS.aH 2) I.1) ⟨_,_,_,RG.mk (hS.aD 2 I.1) (hS.aD 1 I.1) (hS.aD 0 I.1),cw,c7⟩ aa aa) cB) ?_;intro YL Yz Zk ZA Zn Yw Zq YK Zv YD Zl Zw ZG ZF;refine eF rf rf rf ?_ ?_
  .exact Aal
  intro v_ cJ cU YG;obtain⟨R,Yy⟩:=YG;have M:Fc.holds (.retp (D) (Yu) (Yq) (Yr) (Yv) (Yt) 0) cJ cU v_ R:=Yy.get;clear Yy;obtain⟨_,rfl,cI,cr,cN,cF,cL,cp,cM,cQ,cD,Z9,cX,cS,cH,Z8,cY,cE,cT,Z7,cG,cW,cV,cv,cP,cR,rfl,-,-,-,-,-,-⟩:=M;clear R;refine Qp ?_;refine Qs ?_;refine bP ?_;intro w7 I;have j:=hS.lt;replace hS:=hS.mv I.ext;replace hS:=hS.aG I 3;replace hS:=hS.aG I 7;replace hS:=hS.aP I 8;clear I j B Y8 Y7;have ZN:=(hS.aH 4).cell;have ZO:=(hS.aH 4).frozen;go_wp2;replace hS:=hS.pt 4 0 [.bool cI,.slice cr cN cF,.bool cL,.slice cp cM cQ,.bool cD,.slice Z9 cX cS,.bool cH,.slice Z8 cY cE,.bool cT,.slice Z7 cG cW,.bool cV,.slice cv cP cR] o4;exact AbZ
def TD(v0)(q0:PQ)(n0:Nat)(m1:Int)(K r:Nat)(w)(Yp:PV w v0 q0 n0)(l1: -9223372036854775808<=m1)(u1:m1<=9223372036854775807)(T:Hid (m1%12=(K:Int)))(HR:Hid (K=3*r+2))(hr:r<=3)(hn:2*n0+65<=12800):
  CV 132 #[v0,m1] w fun v w'=>(∃u,v=.tuple #[u,aJ]/\PV w' u (⟨aeY 1 q0.u 3 (q0.v*aeZ 1) 2*aeZ r,aeY 1 (q0.u*aeZ 1) 1 q0.v 2*aeZ r⟩) (n0+n0+65)):=by
 have hS:=ae0 w;obtain⟨Ze,Zd,Zc,dr,dp,dn,Yp,ZI,ZJ,ZH,ZK⟩:=Yp;obtain⟨Z,Y,H,C,U,Q,L,V,S,P,G,W,YX,YR,YQ,YP,YV,YS,N,YY,YU,YW,YT,YZ,rfl,YH,YJ,YI,Zh,Zj,Zi⟩:=Yp;replace hS:=hS.bI YH;clear YH;replace hS:=hS.bI YJ;clear YJ;replace hS:=hS.bI YI;clear YI;replace hS:=hS.bI Zh;clear Zh;replace hS:=hS.bI Zj;clear Zj;replace hS:=hS.bI Zi;clear Zi;have dq:=JV T.o;have e3:(K:Int).tmod 3=2:=by rw[HR.o,abd aa];omega
 have e4:(K:Int).tdiv 3=(r:Int):=by rw[HR.o,abS aa];omega
 have l:=(St.al (St.al hS 44 #[Z,aO Y H C,U,aO Q L V,S,aO P G W,YX,aO YR YQ YP,YV,aO YS N YY,YU,aO YW YT YZ] (g:=w.heap.size) ag) 44 aQ6 (g:=(w.heap.size+1)) ag);have YC:=(l.aH 1).cell;go_enter aed,adF;go_wp2_with fail;clear YC;clear l;refine gA3 hS 44 #[Z,aO Y H C,U,aO Q L V,S,aO P G W,YX,aO YR YQ YP,YV,aO YS N YY,YU,aO YW YT YZ] 44 aQ6 42 #[Z,aO Y H C,U,aO Q L V,S,aO P G W,YX,aO YR YQ YP,YV,aO YS N YY,YU,aO YW YT YZ] ?_;clear hS;intro w1 g2 o2 g4 o4 ZL dl hS;refine(kN ZL q0.u q0.v n0 n0 _ (hS.aH 0) ⟨_,_,_,RG.mk (hS.aF 5) (hS.aF 4) (hS.aF 3),ZI,ZJ⟩ aa ⟨_,_,_,RG.mk (hS.aF 2) (hS.aF 1) (hS.aF 0),ZH,ZK⟩ aa).mono ?_;rintro e w2 ⟨rfl,F⟩;replace hS:=hS.mv F;clear F;go_wp2_with fail;refine gA1 hS 197 #[aJ] ?_;clear hS;intro w3 g6 o6 hS;have YB:=(hS.aH 3).cell;have ZM:=(hS.aH 3).lt;go_region;clear YB ZM;have o7:Own w w3.heap.size:=aeX hS.ext ag;have o8:Own w (w3.heap.size+1):=aeX hS.ext ag;replace hS:=((hS.al 42 #[Z,aO Y H C,U,aO Q L V,S,aO P G W] (g:=w3.heap.size) rfl).al 42 #[YX,aO YR YQ YP,YV,aO YS N YY,YU,aO YW YT YZ] (g:=w3.heap.size+1) ag).mv ((Ext.refl _).drew);generalize ((w3.alloc (.cells #[Z,aO Y H C,U,aO Q L V,S,aO P G W] 42)).alloc (.cells #[YX,aO YR YQ YP,YV,aO YS N YY,YU,aO YW YT YZ] 42)).drew=w4 at hS⊢;generalize w3.heap.size+1=g8 at hS o8⊢;generalize w3.heap.size=g7 at hS o7⊢
 rotate_left 1
 clear YB ZM;have o8:Own w w3.heap.size:=aeX hS.ext ag;have o7:Own w (w3.heap.size+1):=aeX hS.ext ag;replace hS:=((hS.al 42 #[YX,aO YR YQ YP,YV,aO YS N YY,YU,aO YW YT YZ] (g:=w3.heap.size) rfl).al 42 #[Z,aO Y H C,U,aO Q L V,S,aO P G W] (g:=w3.heap.size+1) ag).mv ((Ext.refl _).drew);replace hS:=St.swap hS;generalize ((w3.alloc (.cells #[YX,aO YR YQ YP,YV,aO YS N YY,YU,aO YW YT YZ] 42)).alloc (.cells #[Z,aO Y H C,U,aO Q L V,S,aO P G W] 42)).drew=w4 at hS⊢;generalize w3.heap.size+1=g7 at hS o7⊢;generalize w3.heap.size=g8 at hS o8⊢
 rotate_left 1
 all_goals
  go_wp2_with fail;obtain⟨bt,bq,bV,cy⟩:=gX (q0.v*aeZ 1);have da:Sz (n0) bt bq bV:=(ae7 ⟨_,_,_,ZH,ZK⟩ 1).sz cy;obtain⟨bA,cb,ck,cA⟩:=gX (aeY (1) q0.u (3) (q0.v*aeZ 1) (2));have c6:Sz (n0+n0+65) bA cb ck:=(ae8 (m:=2) ⟨_,_,_,ZI,ZJ⟩ ⟨_,_,_,cy,da⟩ aa aa aa aa aa aa aa).sz cA;obtain⟨cj,cc,ch,ZQ⟩:=gX (q0.u*aeZ 1);have c7:Sz (n0) cj cc ch:=(ae7 ⟨_,_,_,ZI,ZJ⟩ 1).sz ZQ;obtain⟨cf,b0,cp,cx⟩:=gX (aeY (1) (q0.u*aeZ 1) (1) q0.v (2));have c8:Sz (n0+n0+65) cf b0 cp:=(ae8 (m:=2) ⟨_,_,_,ZQ,c7⟩ ⟨_,_,_,ZH,ZK⟩ aa aa aa aa aa aa aa).sz cx;have Y2:=aX.blk (hS.aH 5);have B:=hS.ext;refine tF 12 [(4,.rg (bt) (bq) (bV)),(5,.rg (bA) (cb) (ck)),(8,.rg (cj) (cc) (ch)),(11,.rg (cf) (b0) (cp))] ?_;refine Qs ?_;refine Eg (fun R I=>mX (iJ g6 _ q0.v (n0) 1 (1) _ rfl (Blk.ext (hS.aH 2) I.1) ⟨_,_,_,RG.mk (hS.aD 2 I.1) (hS.aD 1 I.1) (hS.aD 0 I.1),ZH,ZK⟩ aa aa) cy) ?_;intro a2 ad a8 a5 a9 am a3 a7 aE ai az a1 bb be;refine Eg (fun R I=>mX (jQ g6 _ _ q0.u (q0.v*aeZ 1) (1) (3) (2) _ _ _ (Blk.ext (hS.aH 2) I.1) ⟨_,_,_,RG.mk (hS.aD 5 I.1) (hS.aD 4 I.1) (hS.aD 3 I.1),ZI,ZJ⟩ ⟨_,_,_,RG.mk (RG.at1 (I.f 4 ((gv a2 ad a8 a5 a9 am a3 a7 aE ai az a1),bb,be))) (RG.at2 (I.f 4 ((gv a2 ad a8 a5 a9 am a3 a7 aE ai az a1),bb,be))) (RG.at3 (I.f 4 ((gv a2 ad a8 a5 a9 am a3 a7 aE ai az a1),bb,be))),cy,da⟩ aa aa aa aa aa aa aa aa) cA) ?_;intro ax af bk bh bm ac a0 bl av ao bo bg dk de;refine Qs ?_;refine Eg (fun R I=>mX (iJ g6 _ q0.u (n0) 1 (1) _ rfl (Blk.ext (hS.aH 2) I.1) ⟨_,_,_,RG.mk (hS.aD 5 I.1) (hS.aD 4 I.1) (hS.aD 3 I.1),ZI,ZJ⟩ aa aa) ZQ) ?_;intro ba ZY bp aw a6 ZZ a4 aI bi ZP aB ay bn bj;refine Qs ?_;refine Eg (fun R I=>mX (jQ g6 _ _ (q0.u*aeZ 1) q0.v (1) (1) (2) _ _ _ (Blk.ext (hS.aH 2) I.1) ⟨_,_,_,RG.mk (RG.at1 (I.f 8 ((gv ba ZY bp aw a6 ZZ a4 aI bi ZP aB ay),bn,bj))) (RG.at2 (I.f 8 ((gv ba ZY bp aw a6 ZZ a4 aI bi ZP aB ay),bn,bj))) (RG.at3 (I.f 8 ((gv ba ZY bp aw a6 ZZ a4 aI bi ZP aB ay),bn,bj))),ZQ,c7⟩ ⟨_,_,_,RG.mk (hS.aD 2 I.1) (hS.aD 1 I.1) (hS.aD 0 I.1),ZH,ZK⟩ aa aa aa aa aa aa aa aa) cx) ?_;intro cl ap bx cg cd aq ca ci cn ar ce bw df di;refine bP ?_;intro w5 I;have j:=hS.lt;replace hS:=hS.mv I.ext;replace hS:=hS.aG I 4;replace hS:=hS.aG I 5;replace hS:=hS.aG I 8;replace hS:=hS.aG I 11;clear I j B Y2;have YM:=(hS.aH 1).cell;have YN:=(hS.aH 1).frozen;have YA:=hS.pt 1 0 [.bool ax,.slice af bk bh,.bool bm,.slice ac a0 bl,.bool av,.slice ao bo bg] o7;have Za:=(YA.aH 0).cell;have Zf:=(YA.aH 0).frozen;have YO:=(hS.pt 1 0 [.bool ax,.slice af bk bh,.bool bm,.slice ac a0 bl,.bool av,.slice ao bo bg] o7).pt 0 0 [.bool cl,.slice ap bx cg,.bool cd,.slice aq ca ci,.bool cn,.slice ar ce bw] o8;have Zg:=(YO.aH 2).cell;go_wp2_with fail;clear YM YN Za Zf Zg;clear YA YO;replace hS:=(hS.pt 1 0 [.bool ax,.slice af bk bh,.bool bm,.slice ac a0 bl,.bool av,.slice ao bo bg] o7).pt 0 0 [.bool cl,.slice ap bx cg,.bool cd,.slice aq ca ci,.bool cn,.slice ar ce bw] o8;refine gW hS ?_;clear hS;intro w6 hS;obtain⟨D,Yu,Yq,cC⟩:=gX ((aeY (1) q0.u (3) (q0.v*aeZ 1) (2))*aeZ r);have dc:Sz (n0+n0+65) D Yu Yq:=(ae7 ⟨_,_,_,cA,c6⟩ r).sz cC;obtain⟨Yr,Yv,Yt,cB⟩:=gX ((aeY (1) (q0.u*aeZ 1) (1) q0.v (2))*aeZ r);have db:Sz (n0+n0+65) Yr Yv Yt:=(ae7 ⟨_,_,_,cx,c8⟩ r).sz cB;have Y8:=aX.blk (hS.aH 0);have Y7:=aX.blk (hS.aH 1);have B:=hS.ext;refine tF 11 [(3,.rg (D) (Yu) (Yq)),(7,.rg (Yr) (Yv) (Yt)),(8,.retp (D) (Yu) (Yq) (Yr) (Yv) (Yt) 0)] ?_;refine Qs ?_;refine Eg (fun R I=>mX (iJ g6 _ (aeY (1) q0.u (3) (q0.v*aeZ 1) (2)) (n0+n0+65) r ((r:Int)) _ rfl (Blk.ext (hS.aH 2) I.1) ⟨_,_,_,RG.mk (hS.aD 8 I.1) (hS.aD 7 I.1) (hS.aD 6 I.1),cA,c6⟩ aa aa) cC) ?_;intro Zy Yx Zm Zo ZB YE Zp Zx Zz YF Zt Zr ZE ZC;refine Qs ?_;refine Eg (fun R I=>mX (iJ g6 _ (aeY (1) (q0.u*aeZ 1) (1) q0.v (2)) (n0+n0+65) r ((r:Int)) _ rfl (Blk.ext (hS.aH 2) I.1) ⟨_,_,_,RG.mk (hS.aD 2 I.1) (hS.aD 1 I.1) (hS.aD 0 I.1),cx,c8⟩ aa aa) cB) ?_;intro YL Yz Zk ZA Zn Yw Zq YK Zv YD Zl Zw ZG ZF;refine eF rf rf rf ?_ ?_
  .exact Aal
  intro v_ cJ cU YG;obtain⟨R,Yy⟩:=YG;have M:Fc.holds (.retp (D) (Yu) (Yq) (Yr) (Yv) (Yt) 0) cJ cU v_ R:=Yy.get;clear Yy;obtain⟨_,rfl,cI,cv,cN,cF,cL,cr,cM,cQ,cD,Z9,cX,cS,cH,Z8,cY,cE,cT,Z7,cG,cW,cV,cw,cP,cR,rfl,-,-,-,-,-,-⟩:=M;clear R;refine Qp ?_;refine Qs ?_;refine bP ?_;intro w7 I;have j:=hS.lt;replace hS:=hS.mv I.ext;replace hS:=hS.aG I 3;replace hS:=hS.aG I 7;replace hS:=hS.aP I 8;clear I j B Y8 Y7;have ZN:=(hS.aH 4).cell;have ZO:=(hS.aH 4).frozen;go_wp2;replace hS:=hS.pt 4 0 [.bool cI,.slice cv cN cF,.bool cL,.slice cr cM cQ,.bool cD,.slice Z9 cX cS,.bool cH,.slice Z8 cY cE,.bool cT,.slice Z7 cG cW,.bool cV,.slice cw cP cR] o4;exact AbZ
def Ua:∀r:Nat,PQ.zp (3*r)=⟨aeZ r,GQ.i 0 0⟩
 |0=>rfl
 |r+1=>by
  rw[ω,PQ.Kr,Ua r,PQ.zp3];ext<;>simp only[PQ.yh,PQ.xH,PQ.mk4,aeZ,GQ.bL,GQ.bK,GQ.cO,GQ.bY,GQ.dM,GQ.dJ]<;>grind
def XC(p r):(⟨p.u*aeZ r,p.v*aeZ r⟩:PQ)=p*PQ.zp (3*r+0):=by
 rw[I4,Ua];ext<;>simp only[PQ.yh,PQ.xH,GQ.bL,GQ.bK,GQ.cO,GQ.bY,GQ.dM,GQ.dJ]<;>grind
def XD(p r):(⟨aeY 1 (p.u*aeZ 1) 3 p.v 2*aeZ r,aeY 1 p.u 1 (p.v*aeZ 1) 2*aeZ r⟩:PQ)=p*PQ.zp (3*r+1):=by
 rw[PQ.Kr,Ua,PQ.zp1];ext<;>simp only[aeY,aeZ,PQ.mk4,PQ.yh,PQ.xH,GQ.bL,GQ.bK,GQ.cO,GQ.bY,GQ.dM,GQ.dJ]<;>grind
def XM(p r):(⟨aeY 1 p.u 3 (p.v*aeZ 1) 2*aeZ r,aeY 1 (p.u*aeZ 1) 1 p.v 2*aeZ r⟩:PQ)=p*PQ.zp (3*r+2):=by
 rw[PQ.Kr,Ua,PQ.zp2];ext<;>simp only[aeY,aeZ,PQ.mk4,PQ.yh,PQ.xH,GQ.bL,GQ.bK,GQ.cO,GQ.bY,GQ.dM,GQ.dJ]<;>grind
def PV.mono{w v p m n}(h:PV w v p m)(N:m<=n):PV w v p n:=by
 obtain⟨a,b,d,x,y,z,B,j,D,l,C⟩:=h;exact⟨a,b,d,x,y,z,B,j,D.mono N,l,C.mono N⟩
def Tc(v0 q0)(n0:Nat)(m1:Int)(K:Nat)(w)(L:PV w v0 q0 n0)(l1: -9223372036854775808<=m1)(u1:m1<=9223372036854775807)(T:m1%12=(K:Int))(hn:2*n0+65<=12800):
  CV 132 #[v0,m1] w fun v w'=>(∃u,v=.tuple #[u,aJ]/\PV w' u (q0*PQ.zp K) (n0+n0+65)):=by
 have I:K<12:=aa;obtain⟨r,B⟩:∃r,r=K/3:=⟨_,rfl⟩;have l:K%3=0\/K%3=1\/K%3=2:=aa;rcases l with h|h|h
 .have e:K=3*r+0:=aa;have:=UA v0 q0 n0 m1 K r w L l1 u1 (aW T) (aW e) aa hn;rw[XC,<-e] at this;exact this.mono fun e w' ⟨v,O,⟨u,j,hp⟩,J⟩=>⟨v,O,⟨u,j,hp.mono aa⟩,J⟩
 .have e:K=3*r+1:=aa;have:=Uo v0 q0 n0 m1 K r w L l1 u1 (aW T) (aW e) aa hn;rw[XD,<-e] at this;exact this
 .have e:K=3*r+2:=aa;have:=TD v0 q0 n0 m1 K r w L l1 u1 (aW T) (aW e) aa hn;rw[XM,<-e] at this;exact this
def XA(m0 m1 m2 w)(l0: -9223372036854775808<=m0)(u0:m0<=9223372036854775807)(l1: -9223372036854775808<=m1)(u1:m1<=9223372036854775807)(l2: -9223372036854775808<=m2)(u2:m2<=9223372036854775807)(H0:(m2==0)=ζ)(l:Hid ((m2)≠0))(Q H O)(ZE:Hid ((Q,H,O)=nf (m0) (m1) (m2)))(G:Q.natAbs<lim)(D:H.natAbs<lim)(C:O.natAbs<lim):
  CV 92 #[.int .i64 m0,.int .i64 m1,.int .i64 m2] w fun v w'=>(∃u,v=.tuple #[u,aJ]/\RG w' u Q H O):=by
 have hS:=ae0 w;go_enter func92,ntmps92;go_wp2_with fail;refine gA2 hS 42 aQ3 197 #[aJ] ?_;clear hS;intro w1 g6 o6 g8 o8 hS;refine(CL (m0) _ l0 u0).mono ?_;rintro e w2 ⟨v_,rfl,M,F⟩;replace hS:=hS.mv F;clear F;obtain⟨YH,Y,YI,c13,rfl,J⟩:=RI.opn M;clear M;replace hS:=hS.bI J;clear J;go_wp2_with fail;refine(CL (m1) _ l1 u1).mono ?_;rintro e w3 ⟨v_,rfl,M,F⟩;replace hS:=hS.mv F;clear F;obtain⟨YV,YR,YU,YX,rfl,P⟩:=RI.opn M;clear M;replace hS:=hS.bI P;clear P;go_wp2_with fail;refine(CL (m2) _ l2 u2).mono ?_;rintro e w4 ⟨v_,rfl,M,F⟩;replace hS:=hS.mv F;clear F;obtain⟨YD,S,Yr,Yt,rfl,L⟩:=RI.opn M;clear M;replace hS:=hS.bI L;clear L;go_wp2_with fail;refine(qz g8 _ _ _ (m0) (m1) (m2) Q H O _ (hS.aH 0) (hS.aF 2) (hS.aF 1) (hS.aF 0) (ji l0 u0) (ji l1 u1) (ji l2 u2) l.o ZE.o).mono ?_;rintro e w5 ⟨v_,rfl,M,F⟩;replace hS:=hS.mv F;clear F;obtain⟨Zw,Zp,ZB,Zy,Zv,Zr,Zt,ZC,Zz,Zq,Zx,ZA,rfl,K,B,j⟩:=M;replace hS:=hS.bI K;clear K;replace hS:=hS.bI B;clear B;replace hS:=hS.bI j;clear j;go_wp2_with fail;refine(pV g8 _ Q H O _ (hS.aH 0) (RG.mk (hS.aF 2) (hS.aF 1) (hS.aF 0))).mono ?_;rintro e w6 ⟨v_,rfl,M,F⟩;replace hS:=hS.mv F;clear F;obtain⟨_,rfl,Zj,U,Zk,Zn,Zo,V,Z,W,Zl,T,Zi,Zm,rfl,I,N,R⟩:=M;replace hS:=hS.bI I;clear I;replace hS:=hS.bI N;clear N;replace hS:=hS.bI R;clear R;have YC:=(hS.aH 1).cell;have YB:=(hS.aH 1).frozen;go_wp2;replace hS:=hS.pt 1 0 [.bool Zj,.slice U Zk Zn,.bool Zo,.slice V Z W,.bool Zl,.slice T Zi Zm] o6;exact nK rfl rfl rfl (hS.aH 1) ⟨_,rfl,⟨_,rfl,RG.mk (hS.aF 2) (hS.aF 1) (hS.aF 0)⟩,hS.ext⟩
def Pf(x y):aeY 1 x 1 y 1=x+y:=by
 ext<;>simp only[aeY,GQ.cO,GQ.bY]<;>grind
def Pt(x y):aeY 1 x (-1) y 1=x-y:=by
 ext<;>simp only[aeY,GQ.dU,GQ.dV]<;>grind
def Vy(re im den w)(l0: -9223372036854775808<=re)(u0:re<=9223372036854775807)(l1: -9223372036854775808<=im)(u1:im<=9223372036854775807)(l2: -9223372036854775808<=den)(u2:den<=9223372036854775807)(hd:den≠0):
  CV 92 #[.int .i64 re,.int .i64 im,.int .i64 den] w fun v w'=>(∃u,v=.tuple #[u,aJ]/\GV w' u ⟨(re:Rat)/(den:Rat),(im:Rat)/(den:Rat)⟩ 64):=by
 obtain⟨a,b,d,E⟩:=Jy re im den;have I:=SS (a:=re) (b:=im) (d:=den) hd;rw[<-E] at I;have sz:=jR (n:=64) hd E (Dz l0 u0) (Dz l1 u1) (Dz l2 u2);obtain⟨s1,s2,s3⟩:=sz.pM aa;exact(XA re im den w l0 u0 l1 u1 l2 u2 (by simpa using hd) (aW hd) a b d (aW E) s1 s2 s3).mono fun e w' ⟨v,O,⟨u,j,l⟩,J⟩=>⟨v,O,⟨u,j,a,b,d,l,I,sz⟩,J⟩
def pu{D B}(h:D.natAbs<=B):Wh (GQ.i D 0) B:=⟨D,0,rfl,by simpa using h⟩
def xI{x N M F B2 n}(Q:Wh N F)(H:Wh M B2)(I:M≠GQ.i 0 0)(J:x*M=N)(T:F*B2<2^n)(R:B2*B2<2^n):Bd x n:=by
 obtain⟨a,b,rfl,D⟩:=Q;obtain⟨c,d,rfl,C⟩:=H;have G:c*c+d*d≠0:=by
  intro e;apply I;have U:0<=c*c:=p8 c;have S:0<=d*d:=p8 d;have P:c*c=0:=aa;have L:d*d=0:=aa;rw[(ack.1 P).elim id id,(ack.1 L).elim id id]
 have j:((c:Rat)*c+d*d)≠0:=by
  have:=ig G;simpa only[aba,aac] using this
 have r1:=congrArg GQ.re J;have r2:=congrArg GQ.im J;simp only[GQ.bL,GQ.bK,GQ.dM,GQ.dJ] at r1 r2;have B:(a.natAbs+b.natAbs)*(c.natAbs+d.natAbs)<=F*B2:=aaa D C;have l:(c.natAbs+d.natAbs)*(c.natAbs+d.natAbs)<=B2*B2:=aaa C C;have O:(a.natAbs+b.natAbs)*(c.natAbs+d.natAbs)=a.natAbs*c.natAbs+b.natAbs*d.natAbs+(a.natAbs*d.natAbs+b.natAbs*c.natAbs):=by
  exact Aco
 have K:(c.natAbs+d.natAbs)*(c.natAbs+d.natAbs)=c.natAbs*c.natAbs+d.natAbs*d.natAbs+(c.natAbs*d.natAbs+d.natAbs*c.natAbs):=by
  exact Aco
 refine agz (a:=a*c+b*d) (b:=b*c-a*d) (d:=c*c+d*d) G ?_ ?_ ⟨?_,?_,?_⟩
 .simp only[aba,aac];grind
 .simp only[aba,abV,aac];grind
 .have:=ab7 (a*c) (b*d);exact Abp
 .have:=abD (b*c) (a*d);exact Abp
 .have:=ab7 (c*c) (d*d);exact Abp
def room (b k:Nat):Nat:=fct (k+1)*(2^(b*(k+1)+1))^(k+1)*(2^(b*(k+1))*(fct k*(2^(b*(k+1)+1))^k))
instance:DecidableEq GQ:=fun x y=>decidable_of_iff (x.re=y.re/\x.im=y.im) ⟨fun h=>GQ.ext h.1 h.2,fun h=>by rw[h];exact⟨rfl,rfl⟩⟩
theorem afb{x y}(h:y≠GQ.i 0 0):x/y*y=x:=by
 have j:=GQ.Dh h;unfold GQ.nrm at j;ext<;>simp only[GQ.bL,GQ.bK,GQ.yN,GQ.uB,GQ.nrm]<;>grind
def aft(y):GQ.i 0 0/y=GQ.i 0 0:=by
 ext<;>simp only[GQ.yN,GQ.uB,GQ.dM,GQ.dJ]<;>grind
def fp (X:Nat->Nat->GQ) (c:Nat):Nat->Nat->Option Nat
 |0,_=>δ
 |n+1,k=>if X k c=GQ.i 0 0 then fp X c n (k+1) else γ k
theorem AJ{X c p}:∀{n k:Nat},k<=p->p<k+n->(∀i,k<=i->i<p->X i c=GQ.i 0 0)->X p c≠GQ.i 0 0->fp X c n k=γ p
 |0,k,h1,h2,_,_=>aa
 |n+1,k,h1,h2,h,h0=>by
  unfold fp;by_cases e:k=p
  .subst e;rw[θ h0]
  .rw[ι (h k (κ _) aa)];exact AJ aa aa (fun i hi=>h i aa) h0
theorem AP{X c}:∀{n k:Nat},(∀i,k<=i->i<k+n->X i c=GQ.i 0 0)->fp X c n k=δ
 |0,_,_=>rfl
 |n+1,k,h=>by
  unfold fp;rw[ι (h k (κ _) aa)];exact AP (fun i l j=>h i aa aa)
theorem qC{X c}:∀{n k:Nat},fp X c n k=δ->∀i,k<=i->i<k+n->X i c=GQ.i 0 0
 |0,k,_,i,h1,h2=>aa
 |n+1,k,h,i,h1,h2=>by
  unfold fp at h;by_cases e:X k c=GQ.i 0 0
  .rw[ι e] at h;by_cases j:i=k
   .subst j;exact e
   .exact qC h i aa aa
  .rw[θ e] at h;cases h
theorem iW{X c p}:∀{n k:Nat},fp X c n k=γ p->k<=p/\p<k+n/\X p c≠GQ.i 0 0/\∀i,k<=i->i<p->X i c=GQ.i 0 0
 |0,k,h=>by cases h
 |n+1,k,h=>by
  unfold fp at h;by_cases e:X k c=GQ.i 0 0
  .rw[ι e] at h;obtain⟨B,j,D,l⟩:=iW h;refine⟨aa,aa,D,fun i hi hp=> ?_⟩;by_cases C:i=k
   .subst C;exact e
   .exact l i aa hp
  .rw[θ e] at h;cases h;exact⟨κ _,aa,e,fun i B j=>aa⟩
def swp (k r i:Nat):Nat:=if i=k then r else if i=r then k else i
theorem Qf(k i):swp k k i=i:=by unfold swp;split<;>omega
theorem oZ(k r):swp k r r=k:=by unfold swp;split<;>simp_all
theorem Xj(k r):swp k r k=r:=by unfold swp;simp
theorem wQ{k r i}(l:i≠k)(j:i≠r):swp k r i=i:=by unfold swp;rw[θ l,θ j]
theorem mI{k r i m}(j:k<m)(l:r<m)(hi:i<m):swp k r i<m:=by unfold swp;split<;>(try split)<;>omega
theorem Fg(k r i):swp k r (swp k r i)=i:=by unfold swp;split<;>(try split)<;>(try split)<;>(try split)<;>omega
def clr (X:Nat->Nat->GQ) (r c:Nat):Nat->Nat->GQ:=fun i j=>if r<i then X i j-X i c/X r c*X r j else X i j
structure Ec where
 r:Nat
 X:Nat->Nat->GQ
 odd:Bool
 q:List Nat
def kM (m c:Nat) (s:Ec):Ec:=
 match fp s.X c (m-s.r) s.r with
 |none=>s
 |some k=>⟨s.r+1,clr (fun i=>s.X (swp k s.r i)) s.r c,s.odd^^decide (k≠s.r),c::s.q⟩
def ech (m:Nat) (X:Nat->Nat->GQ):Nat->Ec
 |0=>⟨0,X,ζ,[]⟩
 |c+1=>kM m c (ech m X c)
theorem fA{m c}{s:Ec}(h:fp s.X c (m-s.r) s.r=δ):kM m c s=s:=by unfold kM;rw[h]
theorem dW{m c k}{s:Ec}(h:fp s.X c (m-s.r) s.r=γ k):kM m c s=⟨s.r+1,clr (fun i=>s.X (swp k s.r i)) s.r c,s.odd^^decide (k≠s.r),c::s.q⟩:=by unfold kM;rw[h]
structure Inv (m:Nat) (X0:Nat->Nat->GQ) (c:Nat) (s:Ec) (o:Nat->Nat) (P:List (Nat->GQ)):Prop where
 rm:s.r<=m
 pl:P.length=s.r
 ql:s.q.length=s.r
 ne:det P s.q≠GQ.i 0 0
 qc:∀d∈s.q,d<c
 pm:∀p∈P,∃i,i<m/\p=X0 i
 om:∀i,i<m->o i<m
 sy:∀i,s.r<=i->i<m->Says (s.X i) (X0 (o i)) P
 z:∀i j,s.r<=i->i<m->j<c->s.X i j=GQ.i 0 0
def afv(m l):Inv m l 0 (ech m l 0) (fun i=>i) []:=
 ⟨by simp[ech],rfl,rfl,by show GQ.i 1 0≠_;decide,by simp[ech],ag,fun i h=>h,fun i _ _=>Says.refl _ _,by intros;omega⟩
theorem Inv.step{m c l}{s:Ec}{o P}(h:Inv m l c s o P):∃O F,Inv m l (c+1) (kM m c s) O F:=by
 have Q:=h.rm;cases J:fp s.X c (m-s.r) s.r with
 |none=>
  rw[fA J];refine⟨o,P,h.rm,h.pl,h.ql,h.ne,fun d hd=>aca (h.qc d hd),h.pm,h.om,h.sy,fun i j H I N=> ?_⟩;by_cases e:j=c
  .subst e;exact qC J i H aa
  .exact h.z i j H I aa
 |some k=>
  obtain⟨C,R,M,S⟩:=iW J;rw[dW J];have B:swp k s.r s.r=k:=oZ _ _;have L:=(h.sy k C aa).entry (fun d hd=>h.z k d C aa (h.qc d hd)) c;refine⟨fun i=>o (swp k s.r i),l (o k)::P,by show s.r+1<=m;omega,by simp[h.pl],by simp[h.ql],?_,?_,?_,?_,?_,?_⟩
  .show det (l (o k)::P) (c::s.q)≠_;rw[L];exact GQ.jc M h.ne
  .intro d hd;rcases lh.1 hd with rfl|hd
   .omega
   .exact aca (h.qc d hd)
  .intro p hp;rcases lh.1 hp with rfl|hp
   .exact⟨o k,h.om k aa,rfl⟩
   .exact h.pm p hp
  .intro i hi;exact h.om _ (mI aa aa hi)
  .intro i H I;have D:s.r<i:=H;have e:(clr (fun i=>s.X (swp k s.r i)) s.r c) i=fun j=>s.X (swp k s.r i) j-(s.X (swp k s.r i) c/s.X k c)*s.X k j:=by
    funext j;unfold clr;rw[ι D];simp only[B]
   show Says ((clr (fun i=>s.X (swp k s.r i)) s.r c) i) _ _;rw[e];have G:s.r<=swp k s.r i:=by unfold swp;split<;>(try split)<;>omega
   exact Says.step (h.sy _ G (mI aa aa I)) (h.sy k C aa) _
  .intro i j H I N;have D:s.r<i:=H;have G:s.r<=swp k s.r i:=by unfold swp;split<;>(try split)<;>omega
   have K:=mI (k:=k) (r:=s.r) (i:=i) (m:=m) aa aa I;show(clr (fun i=>s.X (swp k s.r i)) s.r c) i j=_;unfold clr;rw[ι D];simp only[B];by_cases e:j=c
   .subst e;rw[afb M,GQ.rD]
   .rw[h.z _ j G K aa,h.z k j C aa aa,GQ.bQ,GQ.fo]
def pQ(m l):∀c,∃o P,Inv m l c (ech m l c) o P
 |0=>⟨_,_,afv m l⟩
 |c+1=>by
  obtain⟨o,P,h⟩:=pQ m l c;exact h.step
def Ur(v0 q0 n0 v1 q1 n1 w)(j:GV w v0 q0 n0)(D:GV w v1 q1 n1)(hn:2*max n0 n1+65<=12800):
  CV 194 #[v0,v1] w fun v w'=>(∃u,v=.tuple #[u,aJ]/\GV w' u (q0+q1) (n0+n1+65)):=by
 have:=VU v0 q0 n0 v1 q1 n1 w j D hn;rwa[Pf] at this
def NV(v0 q0 n0 v1 q1 n1 w)(j:GV w v0 q0 n0)(D:GV w v1 q1 n1)(hn:2*max n0 n1+65<=12800):
  CV 135 #[v0,v1] w fun v w'=>(∃u,v=.tuple #[u,aJ]/\GV w' u (q0-q1) (n0+n1+65)):=by
 have:=V7 v0 q0 n0 v1 q1 n1 w j D hn;rwa[Pt] at this
def vR(v u p j m n w)(L:PV w v p m)(l:PV w u j n)(h:p=j):
  CE 21 #[v,u] w (.bool ε):=by subst h;exact CZ v u p m n w L l
instance (a d x z r n:Int):Decidable (RZ a d x z r n):=by unfold RZ;infer_instance
def jP (w:World) (g:Nat):Prop:=Blk w g 250 #[aJ]
def jP.ext{w w' g}(h:jP w g)(x:Ext w w'):jP w' g:=Blk.ext h x
def fe{w w' g n q s1 s2 s3 A1 A2 A3 n1 c1 n2 c2 n3 c3}(J:Ext w w')(C:w.heap.size<=g)(hb:Blk w' g 42 #[.bool ζ,.slice δ 0 0,.bool ζ,.slice δ 0 0,.bool ζ,.slice δ 0 0])(h:GV w' (gv s1 A1 n1 c1 s2 A2 n2 c2 s3 A3 n3 c3) q n):
  Ext w ((((((w'.setCell ⟨g,0,δ⟩ (.bool s1)).setCell ⟨g,1,δ⟩ (.slice A1 n1 c1)).setCell ⟨g,2,δ⟩ (.bool s2)).setCell ⟨g,3,δ⟩ (.slice A2 n2 c2)).setCell ⟨g,4,δ⟩ (.bool s3)).setCell ⟨g,5,δ⟩ (.slice A3 n3 c3))/\
  Blk ((((((w'.setCell ⟨g,0,δ⟩ (.bool s1)).setCell ⟨g,1,δ⟩ (.slice A1 n1 c1)).setCell ⟨g,2,δ⟩ (.bool s2)).setCell ⟨g,3,δ⟩ (.slice A2 n2 c2)).setCell ⟨g,4,δ⟩ (.bool s3)).setCell ⟨g,5,δ⟩ (.slice A3 n3 c3)) g 42 #[.bool s1,.slice A1 n1 c1,.bool s2,.slice A2 n2 c2,.bool s3,.slice A3 n3 c3]/\
  GV ((((((w'.setCell ⟨g,0,δ⟩ (.bool s1)).setCell ⟨g,1,δ⟩ (.slice A1 n1 c1)).setCell ⟨g,2,δ⟩ (.bool s2)).setCell ⟨g,3,δ⟩ (.slice A2 n2 c2)).setCell ⟨g,4,δ⟩ (.bool s3)).setCell ⟨g,5,δ⟩ (.slice A3 n3 c3)) (gv s1 A1 n1 c1 s2 A2 n2 c2 s3 A3 n3 c3) q n:=by
 have D:Mod (fun k=>k=g) w' (puts w' g 0 [.bool s1,.slice A1 n1 c1,.bool s2,.slice A2 n2 c2,.bool s3,.slice A3 n3 c3]):=Mod.only (gP _ _ _ _) rfl;have hS:Far (fun k=>k=g) w':=fun k l _=>by subst l;exact⟨_,_,hb,rfl⟩
 have ec:gI #[.bool ζ,.slice δ 0 0,.bool ζ,.slice δ 0 0,.bool ζ,.slice δ 0 0] 0 [.bool s1,.slice A1 n1 c1,.bool s2,.slice A2 n2 c2,.bool s3,.slice A3 n3 c3]= #[.bool s1,.slice A1 n1 c1,.bool s2,.slice A2 n2 c2,.bool s3,.slice A3 n3 c3]:=ah;have B:=fK C 0 [.bool s1,.slice A1 n1 c1,.bool s2,.slice A2 n2 c2,.bool s3,.slice A3 n3 c3] J;have j:=dm 0 [.bool s1,.slice A1 n1 c1,.bool s2,.slice A2 n2 c2,.bool s3,.slice A3 n3 c3] hb;rw[ec] at j;exact⟨B,j,h.mod D hS⟩
def uz(g v q n w)(hc:jP w g)(L:GV w v q n):
  CV 226 #[aN g 0,v,aJ] w fun v w'=>GV w' v q n:=by
 obtain⟨s1,A1,n1,c1,s2,A2,n2,c2,s3,A3,n3,c3,rfl⟩:=L.opn;have F:=Blk.cell hc;have l:=Blk.frozen hc;have j:Ext w (w.setCell ⟨g,0,δ⟩ (.int .i64 0)):=(Ext.refl w).stay hc rfl;have O:=hc.ext j;have C:=Blk.cell O;have D:g<w.heap.size:=Blk.lt hc;have B:=aW (L.ext j);clear L;go_enter func226,ntmps226;go_wp2_with fail;exact dG rfl rfl rfl (aeW _ _ Abc) ⟨_,rfl,B.ext ((Ext.new _ _).alloc _),j.trans ((Ext.new _ _).alloc _)⟩
def Va(g v0 v1 q0 q1 n0 n1 w)(hc:jP w g)(L:GV w v0 q0 n0)(l:GV w v1 q1 n1)(hn:2*max n0 n1+65<=12800):
  CV 224 #[aN g 0,v0,v1] w fun v w'=>GV w' v (q0-q1) (n0+n1+65):=by
 obtain⟨N,H,T,G,Yt,V,Z,Yr,Yu,B,Yy,Yv,rfl⟩:=L.opn;obtain⟨D,U,C,I,W,M,Yx,P,R,Yq,S,K,rfl⟩:=l.opn;have HX:=aW L;have HY:=aW l;clear L l;obtain⟨Y,F,Q,j⟩:=an3 w 42 #[N,aO H T G,Yt,aO V Z Yr,Yu,aO B Yy Yv] 42 #[D,aO U C I,W,aO M Yx P,R,aO Yq S K] 42 aQ3;have O:=hc.ext Y;have k0:=Blk.cell O;go_enter func224,ntmps224;go_wp2_with fail;refine(NV _ q0 n0 _ q1 n1 _ (HX.ext Y) (HY.ext Y) hn).mono ?_;exact AbL
def Ve(g v0 v1 q0 q1 n0 n1 w)(hc:jP w g)(L:GV w v0 q0 n0)(l:GV w v1 q1 n1)(hn:2*max n0 n1+1<=12800):
  CV 225 #[aN g 0,v0,v1] w fun v w'=>GV w' v (q0*q1) (n0+n1+1):=by
 obtain⟨N,H,T,G,Yt,V,Z,Yr,Yu,B,Yy,Yv,rfl⟩:=L.opn;obtain⟨D,U,C,I,W,M,Yx,P,R,Yq,S,K,rfl⟩:=l.opn;have HX:=aW L;have HY:=aW l;clear L l;obtain⟨Y,F,Q,j⟩:=an3 w 42 #[N,aO H T G,Yt,aO V Z Yr,Yu,aO B Yy Yv] 42 #[D,aO U C I,W,aO M Yx P,R,aO Yq S K] 42 aQ3;have O:=hc.ext Y;have k0:=Blk.cell O;go_enter func225,ntmps225;go_wp2_with fail;refine(RH _ q0 n0 _ q1 n1 _ (HX.ext Y) (HY.ext Y) hn).mono ?_;exact AbL
def U9(g v0 v1 q0 q1 n0 n1 w)(hc:jP w g)(L:GV w v0 q0 n0)(l:GV w v1 q1 n1)(h0:q1≠GQ.i 0 0)(hn:4*max n0 n1+3<=12800):
  CV 213 #[aN g 0,v0,v1] w fun v w'=>GV w' v (q0/q1) (n0+(n1+n1+1)):=by
 obtain⟨N,H,T,G,Yt,V,Z,Yr,Yu,B,Yy,Yv,rfl⟩:=L.opn;obtain⟨D,U,C,I,W,M,Yx,P,R,Yq,S,K,rfl⟩:=l.opn;have HX:=aW L;have HY:=aW l;clear L l;obtain⟨Y,F,Q,j⟩:=an3 w 42 #[N,aO H T G,Yt,aO V Z Yr,Yu,aO B Yy Yv] 42 #[D,aO U C I,W,aO M Yx P,R,aO Yq S K] 42 aQ3;have O:=hc.ext Y;have k0:=Blk.cell O;go_enter func213,ntmps213;go_wp2_with fail;refine(WY _ q0 n0 _ q1 n1 _ (HX.ext Y) (HY.ext Y) (aW h0) hn).mono ?_;exact AbL
def SE(g w)(hc:jP w g):
  CV 223 #[aN g 0] w fun v w'=>GV w' v (GQ.i 0 0) 64:=by
 obtain⟨Y,j⟩:=an1 w 42 aQ3;have O:=hc.ext Y;go_enter func223,ntmps223;go_wp2_with fail;refine(Vy 0 0 1 _ aa aa aa aa aa aa aa).mono ?_;rintro e w2 ⟨v,rfl,⟨u,rfl,l⟩,J⟩;replace Y:=Y.trans J;replace j:=j.ext J;replace O:=O.ext J;clear J;have C:(⟨((0:Int):Rat)/((1:Int):Rat),((0:Int):Rat)/((1:Int):Rat)⟩:GQ)=GQ.i 0 0:=by ext<;>simp only[GQ.dM,GQ.dJ]<;>grind
 rw[C] at l;go_wp2_with fail;refine(uz g u _ _ _ O l).mono ?_;rintro e V ⟨v,rfl,hv,J⟩;replace Y:=Y.trans J;replace j:=j.ext J;clear J l O;obtain⟨T,N,S,I,P,G,K,U,D,R,F,Q,rfl⟩:=hv.opn;have W:=j.cell;have Z:=j.frozen;obtain⟨p1,p2,B⟩:=fe Y aa j hv;have L:=aW p1;have M:=aW p2;have H:=aW B;clear p1 p2 B Y j hv;go_wp2_with fail;exact dG rfl rfl rfl M.o ⟨_,rfl,H.o,L.o⟩
def ym(v q n w)(L:GV w v q n)(hn:n<=12800):
  CE 90 #[v] w (.bool (decide (q=GQ.i 0 0))):=by
 by_cases h:q=GQ.i 0 0
 .rw[Δ h];exact yt v q n w L hn h
 .rw[π h];exact Bh v q n w L hn h
structure Rw where
 A:Option Addr
 b:Nat
 o:Nat
 n:Nat
 c:Nat
def Rw.v (r:Rw):Value:=.slice r.A r.n r.c
structure Mem (w:World) (A:Option Addr) (B O m:Nat) (R:Nat->Rw) (E:Nat->Nat->En):Prop where
 at0:0<m->A=γ ⟨B,O,δ⟩
 row:∀i,i<m->w.cell? (aM B (O+i))=γ (R i).v
 ra:∀i,i<m->0<(R i).n->(R i).A=γ ⟨(R i).b,(R i).o,δ⟩
 el:∀i j,i<m->j<(R i).n->∀t u,(E i j).cells[t]? =γ u->w.cell? (aM ((R i).b) ((R i).o+(j*6+t)))=γ u
 lm:m<=9223372036854775807
 ln:∀i,i<m->(R i).n<=9223372036854775807
theorem IQ{w w' p u}(h:w.cell? p=γ u)(x:Ext w w'):w'.cell? p=γ u:=by
 have hp:p.block<w.heap.size:=by
  rcases Na p.block w.heap.size with j|l
  .exact j
  .unfold World.cell? at h;rw[aau l] at h;simp at h
 exact(x.cell hp).trans h
section
variable {w w':World} {A:Option Addr} {B O m c:Nat} {R:Nat->Rw} {E:Nat->Nat->En}
def Mem.ext(h:Mem w A B O m R E)(x:Ext w w'):Mem w' A B O m R E:=
 ⟨h.at0,fun i hi=>IQ (h.row i hi) x,h.ra,fun i j hi l t u C=>IQ (h.el i j hi l t u C) x,h.lm,h.ln⟩
def wd (m:Nat) (R:Nat->Rw):Nat:=if m=0 then 0 else (R 0).n
theorem rC(h:Mem w A B O m R E):CE 190 #[aO A m c] w (.int .i64 (wd m R:Nat)):=by
 by_cases j:m=0
 .have C:((m:Int)==0)=ε:=by simp[j]
  have l:wd m R=0:=by unfold wd;rw[ι j]
  rw[l];clear j;exact AaL
 .have C:((m:Int)==0)=ζ:=by simp[j]
  have l:wd m R=(R 0).n:=by unfold wd;rw[θ j]
  rw[l];have D:=h.at0 aa;have F:w.cell? (aM B O)=γ (.slice (R 0).A (R 0).n (R 0).c):=h.row 0 aa;subst D;have q1:(0:Int)<m:=aa;exact AaL
def IsM (m:Nat) (R:Nat->Rw) (vb:Nat->Nat->Bool):Prop:=m<=24/\wd m R<=24/\(∀i,i<m->(R i).n=wd m R)/\∀i j,i<m->j<(R i).n->vb i j=ε
def Mem.bD(h:Mem w A B O m R E){i}(hi:i<m)(x:Ext w w'):w'.cell? (aM B (O+i))=γ (.slice (R i).A (R i).n (R i).c):=x.cell_ (h.row i hi)
def Mem.cells(h:Mem w A B O m R E){i j}(hi:i<m)(l:j<(R i).n)(x:Ext w w'):
  w'.cell? (aM ((R i).b) ((R i).o+j*6))=γ (.bool (E i j).s1)/\w'.cell? (aM ((R i).b) ((R i).o+j*6+1))=γ (.slice (E i j).A1 (E i j).n1 (E i j).c1)/\w'.cell? (aM ((R i).b) ((R i).o+j*6+2))=γ (.bool (E i j).s2)/\
  w'.cell? (aM ((R i).b) ((R i).o+j*6+3))=γ (.slice (E i j).A2 (E i j).n2 (E i j).c2)/\w'.cell? (aM ((R i).b) ((R i).o+j*6+4))=γ (.bool (E i j).s3)/\w'.cell? (aM ((R i).b) ((R i).o+j*6+5))=γ (.slice (E i j).A3 (E i j).n3 (E i j).c3):=
 ⟨x.cell_ (h.el i j hi l 0 _ rfl),x.cell_ (h.el i j hi l 1 _ rfl),x.cell_ (h.el i j hi l 2 _ rfl),x.cell_ (h.el i j hi l 3 _ rfl),x.cell_ (h.el i j hi l 4 _ rfl),x.cell_ (h.el i j hi l 5 _ rfl)⟩
def Dk(h:Mem w A B O m R E){vb:Nat->Nat->Bool}(hv:∀i j,i<m->j<(R i).n->VB w (E i j).v (vb i j))(b)(hb:b=ε↔IsM m R vb):
  CE 189 #[aO A m c] w (.bool b):=by
 have U:=aW h;have Q:=aW hv;have Ze:(0:Int)<=m:=aa;by_cases F:24<m
 .have H:decide ((24:Int)<m)=ε:=ae;have hF:b=ζ:=by cases b<;>simp_all [IsM];omega
  subst hF;clear h hv hb F;go_enter aee,adG;go_wp2_with fail;go_ret;exact⟨rfl,Ext.refl _⟩
 have H:decide ((24:Int)<m)=ζ:=ae;by_cases K:24<wd m R
 .have L:decide ((24:Int)<(wd m R:Int))=ε:=ae;have hF:b=ζ:=by cases b<;>simp_all [IsM];omega
  subst hF;clear h hv hb;go_enter aee,adG;go_wp2_with fail;refine(rC U.o).mono ?_;rintro e w2 ⟨rfl,J⟩;go_wp2_with fail;go_ret;exact⟨rfl,J⟩
 have L:decide ((24:Int)<(wd m R:Int))=ζ:=ae;have HB:=aW hb;clear hb;have C:m<=24:=aa;clear h hv;go_enter aee,adG;go_wp2_with fail;refine(rC U.o).mono ?_;rintro e w2 ⟨rfl,P⟩;have W:=aW P;clear P;go_wp2_with fail
 go_loopw [19] (fun i wr=>∃k:Nat,k<=m/\i=.int .i64 k/\(∀i,i<k->(R i).n=wd m R)/\Ext w wr) (aT m)
 case atStart=>exact⟨0,aa,rfl,by intros;omega,W.o⟩
 case round=>
  obtain⟨k,hk,rfl,I,J⟩:=hrel;have HA:=aW I;have HX:=aW J;clear I J W;by_cases S:k<m
  .have hd:decide ((k:Int)<m)=ε:=ae;have hA:=U.at0 aa;have hr:=U.bD S HX.o;subst hA;by_cases hn:(R k).n=wd m R
   .have M:(((R k).n:Int) !=(wd m R:Int))=ζ:=by simp[hn]
    have HN:=aW hn;clear hn;go_wp2_with fail;refine(rC (U.ext HX.o)).mono ?_;rintro e w3 ⟨rfl,V⟩;go_wp2_with fail
    go_roundw
    case rel=>
     refine⟨k+1,aa,au,fun i hi=> ?_,HX.trans V⟩;by_cases e:i=k
     .subst e;exact HN.o
     .exact HA.o i aa
    case measure=>exact aV
   .have M:(((R k).n:Int) !=(wd m R:Int))=ε:=ae;have hF:b=ζ:=by
     cases b
     .rfl
     .exact absurd ((HB.o.1 rfl).2.2.1 k S) hn
    subst hF;clear hn;go_wp2_with fail;refine(rC (U.ext HX.o)).mono ?_;rintro e w3 ⟨rfl,V⟩;go_wp2_with fail;go_ret;exact⟨rfl,HX.trans V⟩
  .obtain rfl:k=m:=aa;have hd:decide ((k:Int)<k)=ζ:=ag;clear hd;go_wp2_with fail
   go_loopw [31] (fun i wr=>∃k':Nat,k'<=k/\i=.int .i64 k'/\(∀i j,i<k'->j<(R i).n->vb i j=ε)/\Ext w wr) (aT k)
   case atStart=>exact⟨0,aa,rfl,by intros;omega,HX.o⟩
   case round=>
    clear S;obtain⟨r,hr,rfl,I,J⟩:=hrel;have YJ:=aW I;have W:=aW J;clear I J HX;by_cases S:r<k
    .have hd:decide ((r:Int)<k)=ε:=ae;have hA:=U.at0 aa;have l:=U.bD S W.o;subst hA;go_wp2_with fail
     go_loopw [37] (fun i wr=>∃k':Nat,k'<=(R r).n/\i=.int .i64 k'/\(∀j,j<k'->vb r j=ε)/\Ext w wr) (fun i _=>(R r).n-(intOf i).toNat)
     case atStart=>exact⟨0,aa,rfl,by intros;omega,W.o⟩
     case round=>
      clear hd;obtain⟨j,hj,rfl,I,J⟩:=hrel;have ZN:=aW I;have Y:=aW J;clear I J;by_cases Z:j<(R r).n
      .have hd:decide ((j:Int)<((R r).n:Int))=ε:=ae;have YO:=U.ra r S aa;have Zt:=U.ln r S;obtain⟨c0,c1,c2,c3,c4,c5⟩:=U.cells S Z Y.o;rw[YO];generalize YQ:vb r j=bv;have YM:Hid (VB w (E r j).v bv):=aW (YQ ▸ Q.o r j S Z);have D:=aW YQ;clear YQ;have HE:=aW (Y.alloc (.cells #[.bool (E r j).s1,aO (E r j).A1 (E r j).n1 (E r j).c1,.bool (E r j).s2,aO (E r j).A2 (E r j).n2 (E r j).c2,.bool (E r j).s3,aO (E r j).A3 (E r j).n3 (E r j).c3] 42));go_wp2_with fail;refine((YM.ext HE.o).e).mono ?_;rintro e w4 ⟨rfl,N⟩;cases bv
       .have hF:b=ζ:=by
         cases b
         .rfl
         .have:=(HB.o.1 rfl).2.2.2 r j S Z;rw[D.o] at this;cases this
        subst hF;go_wp2_with fail;go_ret;exact⟨rfl,HE.trans N⟩
       .go_wp2_with fail
        go_roundw
        case rel=>
         refine⟨j+1,aa,au,fun i hi=> ?_,HE.trans N⟩;by_cases e:i=j
         .subst e;exact D.o
         .exact ZN.o i aa
        case measure=>exact aV
      .obtain rfl:j=(R r).n:=aa;have hd:decide (((R r).n:Int)<((R r).n:Int))=ζ:=ag
       go_wp2_with fail
       go_roundw
       case rel=>
        refine⟨r+1,aa,au,fun i G hi T=> ?_,Y.o⟩;by_cases e:i=r
        .subst e;exact ZN.o G T
        .exact YJ.o i G aa T
       case measure=>exact aV
    .obtain rfl:r=k:=aa;have hT:b=ε:=HB.o.2 ⟨C,aa,HA.o,YJ.o⟩;subst hT;go_wp2_with fail;go_ret;exact⟨rfl,W.o⟩
end
def dN.cells{w g n f}(hb:Blk w g 42 (bD n f).toArray){j}(B:j<n){p}(hp:j*6=p):
  w.cell? (aM g p)=γ (.bool (f j).s1)/\w.cell? (aM g (p+1))=γ (.slice (f j).A1 (f j).n1 (f j).c1)/\w.cell? (aM g (p+2))=γ (.bool (f j).s2)/\
  w.cell? (aM g (p+3))=γ (.slice (f j).A2 (f j).n2 (f j).c2)/\w.cell? (aM g (p+4))=γ (.bool (f j).s3)/\w.cell? (aM g (p+5))=γ (.slice (f j).A3 (f j).n3 (f j).c3):=by
 subst hp;have h:∀t u,(f j).cells[t]? =γ u->w.cell? (aM g (j*6+t))=γ u:=fun t u l=>by
  rw[hb.cell];have C:t<6:=by
   have:=(μ.1 l).1;exact this
  rw[Γ,dP C B];exact l
 exact⟨h 0 _ rfl,h 1 _ rfl,h 2 _ rfl,h 3 _ rfl,h 4 _ rfl,h 5 _ rfl⟩
def wI (x y:Nat->GQ) (q:GQ) (o l k:Nat):Nat->GQ:=fun j=>if o<=j/\j<o+k then x j-q*y (l+(j-o)) else x j
theorem Pg(x y q o l):wI x y q o l 0=x:=by
 funext j;unfold wI;rw[θ aa]
theorem Em(x y q o l k):wI x y q o l (k+1)=upd (wI x y q o l k) (o+k) (x (o+k)-q*y (l+k)):=by
 funext j;unfold upd;by_cases h:j=o+k
 .subst h;rw[ι rfl];unfold wI;rw[ι aa];rw[show o+k-o=k by omega]
 .rw[θ h];unfold wI;by_cases B:o<=j/\j<o+k
  .rw[ι B,ι aa]
  .rw[θ B,θ aa]
theorem Nf(x y q o j k):wI x y q o j k (o+k)=x (o+k):=by
 unfold wI;rw[θ aa]
def jP.ne{w gf g n x}(h:jP w gf)(J:dN w g n x):gf≠g:=by
 rintro rfl;obtain⟨f,hb,_⟩:=J;have e:=h.symm.trans hb;simp at e
def dN.far{w g n x}(h:dN w g n x):Far (fun k=>k=g) w:=by
 obtain⟨f,l,_⟩:=h;intro k j _;subst j;exact⟨_,_,l,dI _ _⟩
def zA(gf g g2 o o2 n n2 L C G C2 Nx Ny B A A2 v x y q w)(hc:jP w gf)(J:dN w g n x)(R:dN w g2 n2 y)(Yt:g≠g2)(hA:0<L->A=γ ⟨g,o*6,δ⟩)(ZX:0<G->A2=γ ⟨g2,o2*6,δ⟩)(hL:L<=G)(ho:o+L<=n)(Yw:o2+G<=n2)(O:L<=9223372036854775807)(D:G<=9223372036854775807)(hq:GV w v q B)(bx:∀j,j<L->Bd (x (o+j)) Nx)(by_:∀j,j<L->Bd (y (o2+j)) Ny)(hN:2*max Nx (B+Ny+1)+65<=12800)(P:2*max B Ny+1<=12800):
  Calls prog 212 #[aN gf 0,aO A L C,aO A2 G C2,v] w fun e w'=>e=.returned (.tuple #[])/\dN w' g n (wI x y q o o2 L)/\Mod (fun k=>k=g) w w':=by
 obtain⟨s1,A1,n1,c1,s2,H,M,c2,s3,A3,n3,c3,rfl⟩:=hq.opn;have HB:=aW (Blk.new w 42 #[s1,aO A1 n1 c1,s2,aO H M c2,s3,aO A3 n3 c3]);have HE:=aW (Ext.new w (.cells #[s1,aO A1 n1 c1,s2,aO H M c2,s3,aO A3 n3 c3] 42));have Zx:g<w.heap.size:=by obtain⟨f,h,_⟩:=J;exact h.lt
 have HC:=aW (hc.ext HE.o);have HX:=aW (J.ext HE.o);have HY:=aW (R.ext HE.o);have HQ:=aW (hq.ext HE.o);have YC:=aW bx;have YD:=aW by_;clear hc J R hq bx by_;go_enter func212,ntmps212;go_wp2_with fail;generalize (w.alloc _)=w1 at HB HE HC HX HY HQ⊢;generalize Zn:w.heap.size=g7 at HB Zx⊢;have ac:=aW Zn;clear Zn;go_loopw [11] (fun i wr=>∃k:Nat,k<=L/\i=.int .i64 k/\dN wr g n (wI x y q o o2 k)/\Mod (fun k=>k=g) w1 wr) (aT L)
 case atStart=>exact⟨0,aa,rfl,by rw[Pg];exact HX.o,Mod.refl _ _⟩
 case round=>
  obtain⟨k,hk,rfl,F,hm⟩:=hrel;have HM:=aW hm;have HR:=aW F;clear hm F;by_cases Yp:k<L
  .have hd:decide ((k:Int)<L)=ε:=ae;have YI:decide ((k:Int)<G)=ε:=ae;have hA:=hA aa;have ZX:=ZX aa;subst hA;subst ZX;have l:=HX.far;obtain⟨f2,YJ,ZE⟩:=HY.mod HM.o l Adq;obtain⟨f,hf,hv⟩:=HR.o;have Yr:=aW ((ZE (o2+k) aa).to (YD.o k Yp));have Q:=aW (hv (o+k) aa);obtain⟨d0,d1,d2,d3,d4,d5⟩:=dN.cells YJ (j:=o2+k) aa (show(o2+k)*6=o2*6+k*6 by omega);have Y:=aW hf;have af:=aW YJ;clear hf YJ ZE;have Zv:=aW hv;clear hv;go_wp2_with fail;refine(ym _ _ _ _ Yr.o aa).mono ?_;rintro e w3 ⟨rfl,Yq⟩;by_cases h0:y (o2+k)=GQ.i 0 0
   .rw[Δ h0];go_wp2_with fail
    go_roundw
    case rel=>
     refine⟨k+1,aa,au,?_,HM.trans (ae1 Yq)⟩;rw[Em];refine(HR.ext Yq).congr fun j hj=> ?_;by_cases e:j=o+k
     .subst e;rw[upd_same,Nf,h0,GQ.bQ,GQ.fo]
     .rw[upd_ne e]
    case measure=>exact aV
   .rw[π h0];have V:=aW (Y.ext Yq);have Yu:=aW ((HB.mod HM.o (by exact fun e=>aa)).ext Yq);obtain⟨a0,a1,a2,a3,a4,a5⟩:=dN.cells V.o (j:=o+k) aa (show(o+k)*6=o*6+k*6 by omega);have W:=aX.cell a0;have E1:=aX.cell a1;have E2:=aX.cell a2;have E3:=aX.cell a3;have E4:=aX.cell a4;have E5:=aX.cell a5;have D0:=aX.cell (Yq.cell_ d0);have D1:=aX.cell (Yq.cell_ d1);have D2:=aX.cell (Yq.cell_ d2);have D3:=aX.cell (Yq.cell_ d3);have D4:=aX.cell (Yq.cell_ d4);have D5:=aX.cell (Yq.cell_ d5);have B7:=aX.blk Yu.o;have Yx:=aW Yq;clear Yq a0 a1 a2 a3 a4 a5 d0 d1 d2 d3 d4 d5;go_wp2_with fail;refine bM 15 [(ε,0),(ε,1),(ε,2),(ε,3),(ε,4),(ε,5),(ε,6),(ε,7),(ε,8),(ε,9),(ε,10),(ε,11),(ε,12),(ζ,13),(ζ,14)] ah ah ?_;refine bC [0,1,2,3,4,5,6,7,8,9,10,11,12] [(ζ,13),(ζ,14)] _ ah ?_;refine Gq ?_;refine bz 13 [(ζ,14)] ah ?_;intro K I;simp only[bG];go_wp2_with fail;have Z8:=aW (HM.trans (ae1 Yx.drew));have Zq:=aW (Q.ext Yx.drew);refine(Ve gf _ _ q (y (o2+k)) B Ny _ (Blk.mod HC.o Z8.o (HC.ne HX.o)) (HQ.mod Z8.o l) (Yr.ext Yx.drew) aa).mono ?_;rintro e w4 ⟨v4,rfl,T,N⟩;have YO:=aW N.jF;have Z:=aW T;have U:=aW N;clear N T;go_wp2;refine I _ _ ⟨⟨w4,YO.o⟩,rfl⟩ ?_;clear I K;refine bz 14 [] ah ?_;intro K I;simp only[bG];go_wp2_with fail;have YL:=YC.o k Yp;refine(Va gf _ _ (x (o+k)) (q*y (o2+k)) Nx (B+Ny+1) _ ?_ ?_ Z.o aa).mono ?_
    .exact Blk.ext (Blk.mod HC.o Z8.o (HC.ne HX.o)) U.o
    .have:=Zq.ext U.o;rw[Nf] at this;exact this.to YL
    rintro e w5 ⟨v5,rfl,Zk,Yv⟩;obtain⟨t1,B1,m1,b1,t2,B2,m2,b2,t3,B3,m3,b3,rfl⟩:=Zk.opn;have YK:=aW (YO.trans Yv);have ZJ:=aW Zk;clear Yv Zk;go_wp2;refine I _ _ ⟨⟨w5,YK.o⟩,rfl⟩ ?_;clear I K;have S:=aW (V.ext YK.o);obtain⟨a0,a1,a2,a3,a4,a5⟩:=dN.cells S.o (j:=o+k) aa (show(o+k)*6=o*6+k*6 by omega);have f5:=S.frozen;simp only[cK,ξ,τ];have ad:=aW l;clear l W E1 E2 E3 E4 E5 D0 D1 D2 D3 D4 D5 B7;go_wp2_with fail
    go_roundw
    case rel=>
     refine⟨k+1,aa,au,?_⟩;have YV:Mod (fun k=>k=g) w1 w5:=(HM.trans (ae1 Yx.o)).trans (ae1 YK.o);have hh:∀j,j<n->GV w5 (f j).v (wI x y q o o2 k j) 12800:=fun j hj=>((Zv.o j hj).ext Yx.o).ext YK.o;have hp:=dN.put (e:=⟨t1,B1,m1,b1,t2,B2,m2,b2,t3,B3,m3,b3⟩) S.o hh (j:=o+k) aa (ZJ.up aa);rw[show(o+k)*6=o*6+k*6 by omega] at hp;rw[Em];exact⟨hp.1,YV.trans hp.2⟩
    case measure=>exact aV
  .obtain rfl:k=L:=aa;have hd:decide ((k:Int)<k)=ζ:=ag;go_wp2_with fail;refine aaY (aat rfl _ _ _) rfl ?_;refine⟨rfl,HR.o,?_⟩;exact(ae1 HE.o).trans HM.o
def zD(gf g g2 o l n n2 L C G I N A A2 v x y q w)(hc:jP w gf)(J:dN w g n x)(R:dN w g2 n2 y)(B:g≠g2)(M:0<L->A=γ ⟨g,o*6,δ⟩)(F:0<G->A2=γ ⟨g2,l*6,δ⟩)(P:L<=G)(Q:o+L<=n)(H:l+G<=n2)(O:L<=9223372036854775807)(D:G<=9223372036854775807)(hq:GV w v q N)(K:∀j,j<L->Bd (x (o+j)) N)(by_:∀j,j<L->Bd (y (l+j)) N)(S:4*N+67<=12800):
  Calls prog 212 #[aN gf 0,aO A L C,aO A2 G I,v] w fun e w'=>e=.returned (.tuple #[])/\dN w' g n (wI x y q o l L)/\Mod (fun k=>k=g) w w':=
 zA gf g g2 o l n n2 L C G I N N N A A2 v x y q w hc J R B M F P Q H O D hq K by_ aa aa
def zU(gf C G l A A2 v q N w)(hq:GV w v q N):
  CE 212 #[aN gf 0,aO A 0 C,aO A2 G l,v] w (.tuple #[]):=by
 obtain⟨s1,A1,n1,c1,s2,H,M,c2,s3,A3,n3,c3,rfl⟩:=hq.opn;have j:=aW (Ext.new w (.cells #[s1,aO A1 n1 c1,s2,aO H M c2,s3,aO A3 n3 c3] 42));clear hq;go_enter func212,ntmps212;go_wp2_with fail;generalize (w.alloc _)=w1 at j⊢;go_loopw [11] (fun i wr=>i=.int .i64 0/\wr=w1) (fun i _=>0)
 case atStart=>exact⟨rfl,rfl⟩
 case round=>
  obtain⟨rfl,rfl⟩:=hrel;go_wp2_with fail;refine aaY (aat rfl _ _ _) rfl ?_;exact⟨rfl,j.o⟩
def Ey (x y:Nat->GQ) (q:GQ) (c:Nat):Nat->GQ:=fun j=>if j<c then x j else if j=c then GQ.i 0 0 else x j-q*y j
def Blk.eY{w g g' t j cs cs'}(h:Blk w g t cs)(K:Blk w g' j cs')(l:t≠j):g≠g':=by
 rintro rfl;have e:=h.symm.trans K;simp at e;exact l e.2
def dN.blk{w g n x}(h:dN w g n x):∃cs,Blk w g 42 cs:=by obtain⟨f,hb,_⟩:=h;exact⟨_,hb⟩
theorem RL(gf G M nb B C N Z l v D H q w)(hc:jP w gf)(hq:GV w v q N)(P:0<nb->Z=γ ⟨G,0,δ⟩/\dN w G nb D)(L:0<nb->l=γ ⟨M,0,δ⟩/\dN w M nb H)(I:0<nb->G≠M)(Y:nb<=1000)(K:∀j,j<nb->Bd (D j) N)(Q:∀j,j<nb->Bd (H j) N)(hN:4*N+67<=12800):
  Calls prog 212 #[aN gf 0,aO Z nb B,aO l nb C,v] w.drew fun e w'=>e=.returned (.tuple #[])/\(0<nb->dN w' G nb (fun j=>D j-q*H j))/\Mod (fun g=>0<nb/\g=G) w w':=by
 have hd:Ext w w.drew:=(Ext.refl _).drew;by_cases h:0<nb
 .obtain⟨W,r1⟩:=P h;obtain⟨T,r2⟩:=L h;refine(zD gf G M 0 0 nb nb nb B nb C N Z l v D H q w.drew (hc.ext hd) (r1.ext hd) (r2.ext hd) (I h) (fun _=>by simpa using W) (fun _=>by simpa using T) (κ _) aa aa aa aa (hq.ext hd) (fun j F=>by simpa using K j F) (fun j F=>by simpa using Q j F) hN).mono ?_;rintro e w' ⟨O,U,V⟩;refine⟨O,fun _=>U.congr fun j F=> ?_,(ae1 hd).trans (V.mono fun g S=>⟨h,S⟩)⟩;unfold wI;rw[ι aa];simp
 .obtain rfl:nb=0:=aa;refine(zU gf B 0 C Z l v q N w.drew (hq.ext hd)).mono ?_;rintro e w' ⟨O,J⟩;exact⟨O,fun R=>absurd R aa,(ae1 hd).trans (ae1 J)⟩
theorem QI(gf Ga Gb m cA cB i k col na nb U bk G M Yr Yu N Z Yp Zw Zx x y x2 y2 w)(hc:jP w gf)(hA:Blk w Ga 174 Zw)(hB:Blk w Gb 174 Zx)(YR:Zw[i]? =γ (aO (γ (aM U 0)) na na))(ZI:Zw[k]? =γ (aO (γ (aM bk 0)) na na))(ai:Zx[i]? =γ (aO Z nb Yr))(YK:Zx[k]? =γ (aO Yp nb Yu))(B:i<m)(S:k<m)(Yq:col<na)(hm:m<=1000)(ZZ:na<=1000)(Zf:nb<=1000)(J:dN w U na x)(R:dN w bk na y)(YO:0<nb->Z=γ ⟨G,0,δ⟩/\dN w G nb x2)(YN:0<nb->Yp=γ ⟨M,0,δ⟩/\dN w M nb y2)(Yt:U≠bk)(YF:0<nb->G≠M/\U≠G/\U≠M)(h0:y col≠GQ.i 0 0)(bx:∀j,j<na->Bd (x j) N)(by_:∀j,j<na->Bd (y j) N)(YM:∀j,j<nb->Bd (x2 j) N)(YP:∀j,j<nb->Bd (y2 j) N)(bq:Bd (x col/y col) N)(hN:4*N+67<=12800):
  Calls prog 211 #[aN gf 0,aO (γ (aM Ga 0)) m cA,aO (γ (aM Gb 0)) m cB,.int .i64 k,.int .i64 i,.int .i64 col] w fun e w'=>e=.returned (.tuple #[])/\
   dN w' U na (Ey x y (x col/y col) col)/\(0<nb->dN w' G nb (fun j=>x2 j-x col/y col*y2 j))/\Mod (fun g=>g=U\/(0<nb/\g=G)) w w':=by
 have HX:=aW J;have HY:=aW R;have HA:=aW hA;have HB:=aW hB;have HC:=aW hc;obtain⟨f,hf,hv⟩:=J;obtain⟨f2,YJ,ZE⟩:=R;have C:w.cell? (aM Ga i)=γ (aO (γ (aM U 0)) na na):=(hA.cell i).trans YR;have k2:w.cell? (aM Ga k)=γ (aO (γ (aM bk 0)) na na):=(hA.cell k).trans ZI;obtain⟨a0,a1,a2,a3,a4,a5⟩:=dN.cells hf Yq rfl;have e0:=hc.cell;have Q:=aW ((hv col Yq).to (bx col Yq));have d1:decide ((i:Int)<m)=ε:=ae;have d2:decide ((k:Int)<m)=ε:=ae;have d3:decide ((col:Int)<na)=ε:=ae;have Y:=aW hf;have am:=aW YJ;have Zv:=aW hv;have ZL:=aW ZE;have YY:=aW YO;have ZK:=aW YN;have YC:=aW bx;have YD:=aW by_;have YW:=aW YM;have ZA:=aW YP;have Zd:=aW bq;have Yw:=aW YF;clear hf YJ hv ZE YO YN bx by_ YM YP bq hA hB hc YF;go_enter func211,ntmps211;go_wp2_with fail;refine(ym _ _ _ _ Q.o aa).mono ?_;rintro e w1 ⟨rfl,H⟩;replace C:=H.cell_ C;replace k2:=H.cell_ k2;replace a0:=H.cell_ a0;replace a1:=H.cell_ a1;replace a2:=H.cell_ a2;replace a3:=H.cell_ a3;replace a4:=H.cell_ a4;replace a5:=H.cell_ a5;clear e0;have e0:=(HC.ext H).cell;by_cases hz:x col=GQ.i 0 0
 .rw[Δ hz];go_wp2_with fail;refine aak (aat rfl _ _ _) rfl ?_;have ZF:x col/y col=GQ.i 0 0:=by rw[hz,aft]
  refine⟨rfl,(HX.ext H).congr fun j hj=> ?_,fun hb=>((YY.o hb).2.ext H).congr fun j hj=> ?_,ae1 H⟩
  .unfold Ey;rw[ZF];by_cases h1:j<col
   .rw[ι h1]
   .rw[θ h1];by_cases h2:j=col
    .subst h2;rw[ι rfl,hz]
    .rw[θ h2,GQ.fC,GQ.fo]
  .rw[ZF,GQ.fC,GQ.fo]
 .rw[π hz];go_wp2_with fail;obtain⟨b0,b1,b2,b3,b4,b5⟩:=dN.cells (am.ext H) Yq rfl;have K1:=aX.cell C;have K2:=aX.cell k2;have A0:=aX.cell a0;have A1:=aX.cell a1;have A2:=aX.cell a2;have A3:=aX.cell a3;have A4:=aX.cell a4;have A5:=aX.cell a5;have B0:=aX.cell b0;have B1:=aX.cell b1;have B2:=aX.cell b2;have B3:=aX.cell b3;have B4:=aX.cell b4;have B5:=aX.cell b5;have YG:=aW H;clear a0 a1 a2 a3 a4 a5 b0 b1 b2 b3 b4 b5 C k2 e0 H;have Zt:∀w',Ext w1 w'->CV 213 #[aN gf 0,.agg #[.bool (f col).s1,aO (f col).A1 (f col).n1 (f col).c1,.bool (f col).s2,aO (f col).A2 (f col).n2 (f col).c2,.bool (f col).s3,aO (f col).A3 (f col).n3 (f col).c3],.agg #[.bool (f2 col).s1,aO (f2 col).A1 (f2 col).n1 (f2 col).c1,.bool (f2 col).s2,aO (f2 col).A2 (f2 col).n2 (f2 col).c2,.bool (f2 col).s3,aO (f2 col).A3 (f2 col).n3 (f2 col).c3]] w' fun v w''=>GV w'' v (x col/y col) N:=fun w' W=>
   (U9 gf _ _ (x col) (y col) N N w' ((HC.ext YG.o).ext W) ((Q.ext YG.o).ext W) ((((ZL.o col Yq).to (YD.o col Yq)).ext YG.o).ext W) h0 aa).mono fun e w'' ⟨v,h1,h2,h3⟩=>⟨v,h1,h2.to Zd.o,h3⟩
  have HD:=aW Zt;clear Zt;refine uE 17 16 [(ε,0),(ε,1),(ε,2),(ε,3),(ε,4),(ε,5),(ε,6),(ε,7),(ε,8),(ε,9),(ε,10),(ε,11),(ε,12),(ε,13),(ε,14),(ζ,15)] [] (fun a a' w'=>∃(gb:Nat) (r1:Bool) (D1:Option Addr) (p1 q1:Nat) (r2:Bool) (D2:Option Addr) (p2 q2:Nat) (r3:Bool) (D3:Option Addr) (p3 q3:Nat),a'=(((((((((((((((((a.put (γ 28) (.pointer (γ (aM gf 0)))).put (γ 29) (.slice (γ (aM Ga 0)) m cA)).put (γ 30) (.int .i64 i)).put (γ 31) (.pointer (γ (aM Ga i)))).put (γ 32) (.slice (γ (aM U 0)) na na)).put (γ 33) (.int .i64 col)).put (γ 34) (.pointer (γ (aM U (col*6))))).put (γ 35) (.agg #[.bool (f col).s1,aO (f col).A1 (f col).n1 (f col).c1,.bool (f col).s2,aO (f col).A2 (f col).n2 (f col).c2,.bool (f col).s3,aO (f col).A3 (f col).n3 (f col).c3])).put (γ 36) (.slice (γ (aM Ga 0)) m cA)).put (γ 37) (.int .i64 k)).put (γ 38) (.pointer (γ (aM Ga k)))).put (γ 39) (.slice (γ (aM bk 0)) na na)).put (γ 40) (.int .i64 col)).put (γ 41) (.pointer (γ (aM bk (col*6))))).put (γ 42) (.agg #[.bool (f2 col).s1,aO (f2 col).A1 (f2 col).n1 (f2 col).c1,.bool (f2 col).s2,aO (f2 col).A2 (f2 col).n2 (f2 col).c2,.bool (f2 col).s3,aO (f2 col).A3 (f2 col).n3 (f2 col).c3])).put (γ 43) ((gv r1 D1 p1 q1 r2 D2 p2 q2 r3 D3 p3 q3))).put (γ 12) (.pointer (γ (aM gb 0))))/\GV w' (gv r1 D1 p1 q1 r2 D2 p2 q2 r3 D3 p3 q3) (x col/y col) N/\Blk w' gb 42 aQ3/\Ext w1 w'/\w1.heap.size<=gb) ah ah ?_ ?_
  ·
   have P:Ext w1 w1.drew:=(Ext.refl _).drew;generalize w1.drew=w6 at*
   refine gJ [0,1,2,3,4,5,6,7,8,9,10,11,12,13,14] [(ζ,15)] _ ah ?_;refine Gq ?_;refine nL 15 [] ah ah ?_ ?_
   ·
    intro K I;simp only[bG];go_wp2_with fail;refine(HD.o _ P).mono ?_;rintro e w7 ⟨v_,rfl,hO,F⟩;replace P:=P.trans F;obtain⟨r1,D1,p1,q1,r2,D2,p2,q2,r3,D3,p3,q3,rfl⟩:=hO.opn;have HO:=aW hO;clear hO;go_wp2;refine I _ _ ⟨⟨w7,P⟩,rfl⟩ ?_;clear I K F;refine qx ah ?_;intro K I;simp only[bG];go_wp2_with fail;have F:=Ext.new w7 (.cells aQ3 42);obtain⟨-,YT⟩:=an1 w7 42 aQ3;have ac:w1.heap.size<=w7.heap.size:=P.size;replace P:=P.trans F;have Za:=aW (HO.ext F);refine I _ _ ⟨⟨_,P⟩,rfl⟩ ?_;exact⟨_,r1,D1,p1,q1,r2,D2,p2,q2,r3,D3,p3,q3,by simp only[Act.put,aQ,BB,De],Za.o,YT,P,ac⟩
   ·
    intro K I;simp only[bG];go_wp2_with fail;have F:=Ext.new w6 (.cells aQ3 42);obtain⟨-,YT⟩:=an1 w6 42 aQ3;have ac:w1.heap.size<=w6.heap.size:=P.size;replace P:=P.trans F;refine I _ _ ⟨⟨_,P⟩,rfl⟩ ?_;clear I K F;generalize w6.alloc (.cells aQ3 42)=af at*
    generalize w6.heap.size=gb at*
    refine bz 15 [] ah ?_;intro K I;simp only[bG];go_wp2_with fail;refine(HD.o _ P).mono ?_;rintro e w7 ⟨v_,rfl,hO,F⟩;replace P:=P.trans F;replace YT:=YT.ext F;obtain⟨r1,D1,p1,q1,r2,D2,p2,q2,r3,D3,p3,q3,rfl⟩:=hO.opn;have HO:=aW hO;clear hO;go_wp2;refine I _ _ ⟨⟨w7,P⟩,rfl⟩ ?_;clear I K F;exact⟨_,r1,D1,p1,q1,r2,D2,p2,q2,r3,D3,p3,q3,by simp only[Act.put,aQ,BB,De],HO.o,YT,P,ac⟩
  rintro a' w8 ⟨gb,r1,D1,p1,q1,r2,D2,p2,q2,r3,D3,p3,q3,rfl,hQ,YB,YQ,ac⟩;clear K1 K2 A0 A1 A2 A3 A4 A5 B0 B1 B2 B3 B4 B5;simp only[Act.put,aQ,BB,De,ξ,τ];have Zp:=aW (YG.trans YQ);have k6:=YB.cell;have f6:=YB.frozen;obtain⟨z1,z2,z3⟩:=fe YQ ac YB hQ;have Z1:=aW (YG.trans z1);have Z2:=aW z2;have Z3:=aW z3;clear z1 z2 z3 YQ YB hQ;have ZN:w.heap.size<=gb:=Ξ YG.size ac;clear Zp;go_wp2_with fail;generalize ZM:World.setCell _ _ _=w9 at Z1 Z2 Z3⊢;clear ZM k6 f6 ac;have K1:=aX.cell (((HA.ext Z1.o).cell i).trans YR);have Zz:=aW (SE gf w9.drew (HC.ext Z1.drew));refine bM 7 [(ε,0),(ε,1),(ε,2),(ε,3),(ε,4),(ε,5),(ζ,6)] ah ah ?_;refine bC [0,1,2,3,4,5] [(ζ,6)] _ ah ?_;refine Gq ?_;refine bz 6 [] ah ?_;intro K I;simp only[bG];go_wp2_with fail;refine Zz.mono ?_;rintro e ZH ⟨ZO,rfl,YS,Zk⟩;obtain⟨t1,B1,m1,o1,t2,B2,m2,o2,t3,B3,m3,o3,rfl⟩:=YS.opn;have D:=aW Zk.jF;have Zg:=aW YS;clear Zk YS Zz;go_wp2;refine I _ _ ⟨⟨ZH,D.o⟩,rfl⟩ ?_;clear I K K1;simp only[cK,ξ,τ];have YV:=aW (Z1.trans D.o);have Yx:=aW (Y.ext YV.o);obtain⟨a0,a1,a2,a3,a4,a5⟩:=dN.cells Yx.o Yq rfl;have f5:=Yx.frozen;go_wp2_with fail;clear a0 a1 a2 a3 a4 a5 f5;have hp:=dN.put (e:=⟨t1,B1,m1,o1,t2,B2,m2,o2,t3,B3,m3,o3⟩) Yx.o (fun j hj=>(Zv.o j hj).ext YV.o) (j:=col) Yq (Zg.up aa);have Yv:=aW (show dN (puts ZH U (col*6) [.bool t1,.slice B1 m1 o1,.bool t2,.slice B2 m2 o2,.bool t3,.slice B3 m3 o3]) U na (upd x col (GQ.i 0 0)) from hp.1);have Yy:=aW (show Mod (fun g=>g=U) ZH (puts ZH U (col*6) [.bool t1,.slice B1 m1 o1,.bool t2,.slice B2 m2 o2,.bool t3,.slice B3 m3 o3]) from hp.2);clear hp;show Code.wp _ _ _ _ (puts ZH U (col*6) [.bool t1,.slice B1 m1 o1,.bool t2,.slice B2 m2 o2,.bool t3,.slice B3 m3 o3]);generalize (puts ZH U (col*6) [.bool t1,.slice B1 m1 o1,.bool t2,.slice B2 m2 o2,.bool t3,.slice B3 m3 o3])=Zr at Yv Yy⊢;have l:=HX.far;have V:Mod (fun g=>g=U) w Zr:=(ae1 YV.o).trans Yy.o;have Zm:=Y.lt;have Zo:=aW (HA.mod V (HA.eY Y.o aj));have Yz:=aW (HB.mod V (HB.eY Y.o aj));have YE:=aW (Blk.mod HC.o V (HC.ne HX.o));have ZG:=aW (HY.mod V l Adq);have YA:Far (fun g=>g=U) ZH:=fun g hg _=>by subst hg;exact⟨_,_,Yx.o,dI _ _⟩
  have YU:=aW ((Z2.ext D.o).mod Yy.o (by exact fun e=>aa));have YX:=aW ((Z3.ext D.o).mod Yy.o YA);have YH:=aW V;clear V Yy Z2 Z3 Zg Yx YA D;have K1:=aX.cell ((Zo.cell i).trans YR);have K2:=aX.cell ((Zo.cell k).trans ZI);have B7:=aX.blk YU.o;have s1:(0:Int)<=(col:Int)+1:=aa;have s2:(col:Int)+1<=(na:Int):=aa;refine bM 16 [(ε,0),(ε,1),(ε,2),(ε,3),(ε,4),(ε,5),(ε,6),(ε,7),(ε,8),(ε,9),(ε,10),(ε,11),(ε,12),(ε,13),(ε,14),(ε,15)] ah ah ?_;refine bC [0,1,2,3,4,5,6,7,8,9,10,11,12,13,14,15] [] _ ah ?_;refine Gq ?_;clear K1 K2 B7 s1 s2;simp only[cK,ξ,τ];have ZC:Hid (∀(P1 P2:Option Addr) (L C1 C2:Nat),L=na-(col+1)->(0<L->P1=γ ⟨U,(col+1)*6,δ⟩)->(0<L->P2=γ ⟨bk,(col+1)*6,δ⟩)->Calls prog 212 #[aN gf 0,aO P1 L C1,aO P2 L C2,(gv r1 D1 p1 q1 r2 D2 p2 q2 r3 D3 p3 q3)] Zr.drew fun e w'=>e=.returned (.tuple #[])/\dN w' U na (Ey x y (x col/y col) col)/\Mod (fun g=>g=U) Zr w'):=by
   refine aW fun P1 P2 L C1 C2 hL h1 h2=> ?_;have hd:Ext Zr Zr.drew:=(Ext.refl _).drew;refine(zD gf U bk (col+1) (col+1) na na L C1 L C2 N P1 P2 _ (upd x col (GQ.i 0 0)) y (x col/y col) Zr.drew (YE.ext hd) (Yv.ext hd) (ZG.ext hd) Yt h1 h2 (κ _) aa aa aa aa (YX.ext hd) ?_ (fun j hj=>YD.o _ aa) hN).mono ?_
   .intro j hj;rw[upd_ne aa];exact YC.o _ aa
   .rintro e w' ⟨O,hr,hm⟩;refine⟨O,hr.congr fun j hj=> ?_,(ae1 hd).trans hm⟩;unfold wI Ey;by_cases ad:j<col
    .rw[θ aa,ι ad,upd_ne aa]
    .by_cases T:j=col
     .subst T;rw[θ aa,θ aa,ι rfl,upd_same]
     .rw[ι aa,θ ad,θ T,upd_ne T];congr 3;omega
  go_wp2_with fail;all_goals
   refine(ZC.o _ _ _ _ _ aa (by intro h;first|(exact absurd h aa)|exact rfl) (by intro h;first|(exact absurd h aa)|exact rfl)).mono ?_;rintro e af ⟨rfl,Ze,YI⟩;have ZB:=aW Ze;have YL:=aW (YH.trans YI);clear Ze;go_wp2_with fail;have YZ:=aW (Yz.mod YI (Yz.eY (Yv.blk.choose_spec) aj));have Zq:=aW (Blk.mod YE.o YI (jP.ne YE.o Yv.o));have Zj:=aW (YU.mod YI (by exact fun e=>aa));have Zn:=aW (YX.mod YI Yv.far);have K1:=aX.cell ((YZ.cell i).trans ai);have K2:=aX.cell ((YZ.cell k).trans YK);have B7:=aX.blk Zj.o;have HS:=aW (RL gf G M nb Yr Yu N Z Yp _ x2 y2 (x _/y _) af Zq.o Zn.o (fun hb=>⟨(YY.o hb).1,(YY.o hb).2.mod YL.o l (by exact fun e=>(Yw.o hb).2.1 e.symm)⟩) (fun hb=>⟨(ZK.o hb).1,(ZK.o hb).2.mod YL.o l (by exact fun e=>(Yw.o hb).2.2 e.symm)⟩) (fun hb=>(Yw.o hb).1) Zf YW.o ZA.o hN);clear Yz YE YU YX YZ Zq Zj Zn ZC Yv;refine bM 10 [(ε,0),(ε,1),(ε,2),(ε,3),(ε,4),(ε,5),(ε,6),(ε,7),(ε,8),(ε,9)] ah ah ?_;refine bC [0,1,2,3,4,5,6,7,8,9] [] _ ah ?_;refine Gq ?_;clear K1 K2 B7;simp only[cK,ξ,τ];go_wp2_with fail;refine HS.mono ?_;rintro e ZJ ⟨rfl,Zc,Zh⟩;have Zy:=aW Zc;have Zi:=aW Zh;clear Zc Zh;go_wp2_with fail;refine aaY (aat rfl _ _ _) rfl ?_;refine⟨rfl,?_,Zy.o,(YL.mono (fun g hg=> .inl hg)).trans (Zi.mono (fun g hg=> .inr hg))⟩;refine ZB.mod Zi.o ?_ ?_
   .intro g hg _;obtain⟨hb,rfl⟩:=hg;have hr:=(YY.o hb).2.mod YL.o l (by exact fun e=>(Yw.o hb).2.1 e.symm);obtain⟨ff,Zl,_⟩:=hr;exact⟨_,_,Zl,dI _ _⟩
   .exact fun hg=>(Yw.o hg.1).2.1 hg.2
def mxc (m:Nat) (R:Nat->Rw):List Value:=(List.range m).map fun i=>(R i).v
def jf{m R i}(hi:i<m):(mxc m R).toArray[i]? =γ (R i).v:=by simp[mxc,hi]
structure MxI (W:World) (G m n:Nat) (P:Nat->Prop) (R:Nat->Rw) (X:Nat->Nat->GQ):Prop where
 o:Blk W G 174 (mxc m R).toArray
 len:∀i,i<m->(R i).n=n/\(R i).c=n
 row:∀i,i<m->0<n->(R i).A=γ ⟨(R i).b,0,δ⟩/\dN W (R i).b n (X i)
 inj:∀i j,i<m->j<m->0<n->(R i).b=(R j).b->i=j
 mem:∀i,i<m->0<n->P (R i).b
section
variable {W W':World} {G m n:Nat} {P:Nat->Prop} {R:Nat->Rw} {X Y:Nat->Nat->GQ}
def MxI.ext(h:MxI W G m n P R X)(x:Ext W W'):MxI W' G m n P R X:=
 ⟨h.o.ext x,h.len,fun i hi hn=>⟨(h.row i hi hn).1,(h.row i hi hn).2.ext x⟩,h.inj,h.mem⟩
def MxI.congr(h:MxI W G m n P R X)(e:∀i j,i<m->j<n->X i j=Y i j):MxI W G m n P R Y:=
 ⟨h.o,h.len,fun i hi hn=>⟨(h.row i hi hn).1,(h.row i hi hn).2.congr fun j l=>e i j hi l⟩,h.inj,h.mem⟩
theorem MxI.v(h:MxI W G m n P R X){i}(hi:i<m)(hn:0<n):(R i).v=.slice (γ (aM ((R i).b) 0)) n n:=by
 unfold Rw.v;rw[(h.row i hi hn).1,(h.len i hi).1,(h.len i hi).2]
theorem MxI.v0(h:MxI W G m n P R X){i}(hi:i<m):(R i).v=.slice (R i).A n n:=by
 unfold Rw.v;rw[(h.len i hi).1,(h.len i hi).2]
def MxI.cell(h:MxI W G m n P R X){i}(hi:i<m):W.cell? (aM G i)=γ (.slice (R i).A n n):=by
 rw[h.o.cell,jf hi,h.v0 hi]
def MxI.U0{S:Nat->Prop}{x:Nat->GQ}{i:Nat}(h:MxI W G m n P R X)(B:Mod S W W')(hS:Far S W)(D:¬S G)(C:∀j,j<m->j≠i->0<n->¬S (R j).b)(hi:0<n->dN W' (R i).b n x):MxI W' G m n P R (upd X i x):=by
 refine⟨h.o.mod B D,h.len,fun j l hn=>⟨(h.row j l hn).1,?_⟩,h.inj,h.mem⟩;by_cases e:j=i
 .subst e;rw[upd_same];exact hi hn
 .rw[upd_ne e];exact(h.row j l hn).2.mod B hS (C j l e hn)
def MxI.mod{S}(h:MxI W G m n P R X)(B:Mod S W W')(hS:Far S W)(D:¬S G)(C:∀j,j<m->0<n->¬S (R j).b):MxI W' G m n P R X:=by
 refine⟨h.o.mod B D,h.len,fun j l hn=>⟨(h.row j l hn).1,?_⟩,h.inj,h.mem⟩;exact(h.row j l hn).2.mod B hS (C j l hn)
theorem kS(m R):lL (mxc m R).toArray=ε:=by
 unfold lL;simp only[qb];intro v hv;unfold mxc at hv;obtain⟨j,_,rfl⟩:=Nq.1 hv;rfl
def Rz{k r}(B:k<m)(D:r<m):(((mxc m R).toArray.setIfInBounds k (R r).v).setIfInBounds r (R k).v)=(mxc m fun i=>R (swp k r i)).toArray:=by
 apply Array.ext
 .simp[mxc]
 .intro i F C;simp only[mxc,aQ,List.getElem_toArray,List.getElem_set,List.getElem_map,List.getElem_range];by_cases j:r=i
  .subst j;rw[ι rfl,oZ]
  .rw[θ j];by_cases l:k=i
   .subst l;rw[ι rfl,Xj]
   .rw[θ l,wQ (fun e=>l e.symm) (fun e=>j e.symm)]
def MxI.swap{k r}(h:MxI W G m n P R X)(l:k<m)(B:r<m):
  MxI ((W.setCell ⟨G,k,δ⟩ (.slice (R r).A n n)).setCell ⟨G,r,δ⟩ (.slice (R k).A n n)) G m n P (fun i=>R (swp k r i)) (fun i=>X (swp k r i))/\
   Mod (fun g=>g=G) W ((W.setCell ⟨G,k,δ⟩ (.slice (R r).A n n)).setCell ⟨G,r,δ⟩ (.slice (R k).A n n)):=by
 have D:Mod (fun g=>g=G) W ((W.setCell ⟨G,k,δ⟩ (.slice (R r).A n n)).setCell ⟨G,r,δ⟩ (.slice (R k).A n n)):=Mod.only ((Only.set _ _ _ _).trans (Only.set _ _ _ _)) rfl;have hS:Far (fun g=>g=G) W:=fun g F _=>by subst F;exact⟨_,_,h.o,kS _ _⟩
 refine⟨⟨?_,fun i hi=>h.len _ (mI l B hi),fun i hi hn=> ?_,fun i j hi I hn e=> ?_,fun i hi hn=>h.mem _ (mI l B hi) hn⟩,D⟩
 .have:=(h.o.mM k (R r).v).mM r (R k).v;rw[Rz l B,h.v0 l,h.v0 B] at this;exact this
 .obtain⟨H,C⟩:=h.row _ (mI l B hi) hn;refine⟨H,C.mod D hS ?_⟩;obtain⟨f,hb,_⟩:=C;exact fun e=>h.o.eY hb aj e.symm
 .have:=h.inj _ _ (mI l B hi) (mI l B I) hn e;rw[<-Fg k r i,this,Fg]
end
def Hw{m Z c}(h:(ech m Z c).r=m):∀d,c<=d->ech m Z d=ech m Z c
 |0,hd=>by
  obtain rfl:c=0:=aa;rfl
 |d+1,hd=>by
  by_cases e:c=d+1
  .subst e;rfl
  .have B:=Hw h d aa;show kM m d (ech m Z d)=_;rw[B];apply fA;rw[h,aaW];rfl
def MxI.ne{W G m n P R X}(h:MxI W G m n P R X){i g cs}(hi:i<m)(hn:0<n)(hb:Blk W g 174 cs):(R i).b≠g:=by
 obtain⟨_,f,j,_⟩:=h.row i hi hn;exact j.eY hb aj
def side (na:Nat) (X Y:Nat->Nat->GQ):Nat->Nat->GQ:=fun i j=>if j<na then X i j else Y i (j-na)
def elm (X:Nat->Nat->GQ) (r c i:Nat):Nat->Nat->GQ:=upd X i (fun j=>X i j-X i c/X r c*X r j)
def pF (X:Nat->Nat->GQ) (r c i:Nat):Nat->Nat->GQ:=fun D j=>if r<D/\D<i then X D j-X D c/X r c*X r j else X D j
theorem Cb(X r c):pF X r c (r+1)=X:=by
 funext i j;unfold pF;rw[θ aa]
structure EI (W:World) (gf Ga Gb m na nb:Nat) (PA PB:Nat->Prop) (Z:Nat->Nat->GQ):Prop where
 calm:jP W gf
 a:∃R,MxI W Ga m na PA R Z
 b:∃R,MxI W Gb m nb PB R (fun i j=>Z i (na+j))
def Room (N m na nb:Nat) (Z:Nat->Nat->GQ):Prop:=∀c,c<na->(ech m Z c).r+1<m->(∀i j,(ech m Z c).r<=i->i<m->j<na+nb->Bd ((ech m Z c).X i j) N)/\
 ∀i k,(ech m Z c).r<=i->i<m->(ech m Z c).r<=k->k<m->(ech m Z c).X k c≠GQ.i 0 0->Bd ((ech m Z c).X i c/(ech m Z c).X k c) N
def EI.ext{W W' gf Ga Gb m na nb PA PB Z}(h:EI W gf Ga Gb m na nb PA PB Z)(x:Ext W W'):EI W' gf Ga Gb m na nb PA PB Z:=by
 obtain⟨l,⟨R,j⟩,⟨R2,B⟩⟩:=h;exact⟨l.ext x,⟨R,j.ext x⟩,⟨R2,B.ext x⟩⟩
def EI.congr{W gf Ga Gb m na nb PA PB Z l}(h:EI W gf Ga Gb m na nb PA PB Z)(e:∀i j,i<m->Z i j=l i j):EI W gf Ga Gb m na nb PA PB l:=by
 obtain⟨C,⟨R,B⟩,⟨R2,D⟩⟩:=h;exact⟨C,⟨R,B.congr fun i j hi _=>e i j hi⟩,⟨R2,D.congr fun i j hi _=>e i _ hi⟩⟩
theorem D9(X){r c i}(hi:r<i):elm (pF X r c i) r c i=pF X r c (i+1):=by
 funext i' j;unfold elm upd;by_cases e:i'=i
 .subst e;rw[ι rfl];unfold pF;rw[θ aa,θ aa,θ aa,θ aa,ι aa]
 .rw[θ e];unfold pF;by_cases h:r<i'/\i'<i
  .rw[ι h,ι aa]
  .rw[θ h,θ aa]
theorem Jc(gf Ga Gb m cA cB na nb r i c N PA PB T X w)(h:EI w gf Ga Gb m na nb PA PB X)(hd:∀g,PA g->PB g->False)(hT:T Ga/\T Gb/\(∀g,PA g->T g)/\∀g,PB g->T g)(hi:i<m)(Zm:r<i)(hc:c<na)(hm:m<=24)(ZZ:na<=24)(Zf:nb<=24)(h0:X r c≠GQ.i 0 0)(hz:∀j,j<c->X r j=GQ.i 0 0)(U:∀j,j<na+nb->Bd (X i j) N)(br:∀j,j<na+nb->Bd (X r j) N)(bq:Bd (X i c/X r c) N)(hN:4*N+67<=12800):
  Calls prog 211 #[aN gf 0,aO (γ (aM Ga 0)) m cA,aO (γ (aM Gb 0)) m cB,.int .i64 r,.int .i64 i,.int .i64 c] w fun e w'=>e=.returned (.tuple #[])/\EI w' gf Ga Gb m na nb PA PB (elm X r c i)/\Mod T w w':=by
 obtain⟨B,⟨R,J⟩,⟨R2,I⟩⟩:=h;have L:r<m:=aa;obtain⟨H,ri⟩:=J.row i hi aa;obtain⟨F,S⟩:=J.row r L aa;have YR:(mxc m R).toArray[i]? =γ (.slice (γ (aM ((R i).b) 0)) na na):=by rw[jf hi,J.v hi aa]
 have W:(mxc m R).toArray[r]? =γ (.slice (γ (aM ((R r).b) 0)) na na):=by rw[jf L,J.v L aa]
 have Z:(mxc m R2).toArray[i]? =γ (.slice (R2 i).A nb nb):=by rw[jf hi,I.v0 hi]
 have YZ:(mxc m R2).toArray[r]? =γ (.slice (R2 r).A nb nb):=by rw[jf L,I.v0 L]
 have V:(R i).b≠(R r).b:=fun e=>by have:=J.inj i r hi L aa e;omega
 refine(QI gf Ga Gb m cA cB i r c na nb (R i).b (R r).b (R2 i).b (R2 r).b nb nb N (R2 i).A (R2 r).A _ _ (X i) (X r) (fun j=>X i (na+j)) (fun j=>X r (na+j)) w B J.o I.o YR W Z YZ hi L hc aa aa aa ri S
  (fun hn=>I.row i hi hn) (fun hn=>I.row r L hn) V (fun hn=>⟨fun e=>by have:=I.inj i r hi L hn e;omega,fun e=>hd _ (J.mem i hi aa) (e ▸ I.mem i hi hn),fun e=>hd _ (J.mem i hi aa) (e ▸ I.mem r L hn)⟩)
  h0 (fun j K=>U j aa) (fun j K=>br j aa) (fun j K=>U _ aa) (fun j K=>br _ aa) bq hN).mono ?_
 rintro e w' ⟨O,h1,h2,P⟩;have l:Far (fun g=>g=(R i).b\/0<nb/\g=(R2 i).b) w:=by
  rintro g (rfl|⟨hn,rfl⟩) _
  .obtain⟨f,hf,_⟩:=ri;exact⟨_,_,hf,dI _ _⟩
  .obtain⟨f,hf,_⟩:=(I.row i hi hn).2;exact⟨_,_,hf,dI _ _⟩
 have C:∀(G:Nat) (cs:Array Value),Blk w G 174 cs->¬(G=(R i).b\/0<nb/\G=(R2 i).b):=by
  rintro G cs hG (e|⟨hn,e⟩)
  .exact J.ne hi aa hG e.symm
  .exact I.ne hi hn hG e.symm
 refine⟨O,⟨?_,⟨R,?_⟩,⟨R2,?_⟩⟩,P.mono ?_⟩
 .refine Blk.mod B P ?_;rintro(e|⟨hn,e⟩)
  .exact jP.ne B ri e
  .exact jP.ne B (I.row i hi hn).2 e
 .refine(J.U0 (i:=i) (x:=Ey (X i) (X r) (X i c/X r c) c) P l (C _ _ J.o) ?_ (fun _=>h1)).congr ?_
  .rintro j K M hn (e|⟨Q,e⟩)
   .exact M (J.inj j i K hi hn e)
   .exact hd _ (J.mem j K hn) (e ▸ I.mem i hi Q)
  .intro D j Y K;unfold elm upd;by_cases e:D=i
   .rw[ι e,ι e];unfold Ey;by_cases e1:j<c
    .rw[ι e1,hz j e1,GQ.bQ,GQ.fo]
    .rw[θ e1];by_cases e2:j=c
     .subst e2;rw[ι rfl,afb h0,GQ.rD]
     .rw[θ e2]
   .rw[θ e,θ e]
 .refine(I.U0 (i:=i) (x:=fun j=>X i (na+j)-X i c/X r c*X r (na+j)) P l (C _ _ I.o) ?_ (fun hn=>h2 hn)).congr ?_
  .rintro j K M hn (e|⟨Q,e⟩)
   .exact hd _ (J.mem i hi aa) (e ▸ I.mem j K hn)
   .exact M (I.inj j i K hi hn e)
  .intro D j Y K;unfold elm upd;by_cases e:D=i
   .rw[ι e,ι e]
   .rw[θ e,θ e]
 .rintro g (rfl|⟨hn,rfl⟩)
  .exact hT.2.2.1 _ (J.mem i hi aa)
  .exact hT.2.2.2 _ (I.mem i hi hn)
theorem JS(gf Ga Gb m cA cB na nb N PA PB T Z w)(h:EI w gf Ga Gb m na nb PA PB Z)(Yt:Ga≠Gb)(hd:∀g,PA g->PB g->False)(hT:T Ga/\T Gb/\(∀g,PA g->T g)/\∀g,PB g->T g)(Ze:m=0->na=0)(hm:m<=24)(ZZ:na<=24)(Zf:nb<=24)(hN:4*N+67<=12800)(I:Room N m na nb Z)(hw:∀w',Ext w w'->CE 190 #[aO (γ (aM Ga 0)) m cA] w' (.int .i64 na)):
  Calls prog 192 #[aN gf 0,aO (γ (aM Ga 0)) m cA,aO (γ (aM Gb 0)) m cB] w fun e w'=>e=.returned (.tuple #[.int .i64 (ech m Z na).r,.bool (ech m Z na).odd])/\
   EI w' gf Ga Gb m na nb PA PB (ech m Z na).X/\Mod T w w':=by
 have HH:=aW h;have HR:=aW I;have HT:=aW hT;have HD:=aW hd;clear h I hT hd;go_enter func192,ntmps192;go_wp2_with fail
 go_step3
 go_wp2_with fail
 go_step3
 go_wp2_with fail;refine(hw _ (Ext.refl _)).mono ?_;rintro e w1 ⟨rfl,H⟩;have YG:=aW H;clear H hw;go_wp2_with fail
 go_loopw [6,7,13] (fun r o i wr=>∃c:Nat,c<=na/\i=.int .i64 c/\r=.int .i64 (ech m Z c).r/\o=.bool (ech m Z c).odd/\EI wr gf Ga Gb m na nb PA PB (ech m Z c).X/\Mod T w wr) (fun _ _ i _=>na-(intOf i).toNat)
 case atStart=>
  obtain⟨h1,⟨R,h2⟩,⟨R2,h3⟩⟩:=HH.o;exact⟨0,aa,rfl,rfl,rfl,⟨h1.ext YG.o,⟨R,h2.ext YG.o⟩,⟨R2,h3.ext YG.o⟩⟩,ae1 YG.o⟩
 case round=>
  obtain⟨c,hc,rfl,rfl,rfl,Zc,V⟩:=hrel;have HE:=aW Zc;have HM:=aW V;clear Zc V HH YG;by_cases Yp:c<na
  .have hd:decide ((c:Int)<na)=ε:=ae;obtain⟨o,P,YC⟩:=pQ m Z c;have YM:=YC.rm;have HZ:=aW YC.z;clear YC;generalize hs:ech m Z c=s at*
   have HS:=aW hs;clear hs;by_cases L:s.r=m
   .have df:((s.r:Int)==(m:Int))=ε:=by simp[L]
    have Yr:ech m Z na=s:=by rw[<-HS.o];exact Hw (by rw[HS.o];exact L) na aa
    have Yw:=aW Yr;clear Yr L;go_wp2_with fail;rw[Exit.noGoto_ret];refine xw rfl rfl ?_;rw[Yw.o];exact⟨rfl,HE.o,HM.o⟩
   .have df:((s.r:Int)==(m:Int))=ζ:=ae;have YA:s.r<m:=aa;clear L;go_wp2_with fail
    go_loopw [9] (fun i w2=>∃k:Nat,s.r<=k/\k<m/\i=.int .i64 k/\(∀i,s.r<=i->i<k->s.X i c=GQ.i 0 0)/\Ext wr w2) (aT m)
    case atStart=>exact⟨s.r,κ _,YA,rfl,by intros;omega,Ext.refl _⟩
    case round=>
     clear hd df;obtain⟨k,Zr,YI,rfl,hz,J⟩:=hrel;have HX:=aW J;have YW:=aW hz;clear J hz;obtain⟨B,⟨R,hA⟩,⟨R2,hB⟩⟩:=HE.o;obtain⟨YO,f,hf,hv⟩:=hA.row k YI aa;have C:=hA.cell YI;rw[YO] at C;replace C:=HX.o.cell_ C;obtain⟨a0,a1,a2,a3,a4,a5⟩:=dN.cells (hf.ext HX.o) Yp rfl;have d1:decide ((k:Int)<m)=ε:=ae;have d2:decide ((c:Int)<na)=ε:=ae;have Q:=aW ((hv c Yp).ext HX.o);clear hv hf B hA hB;go_wp2_with fail;refine(ym _ _ _ _ Q.o aa).mono ?_;rintro e w3 ⟨rfl,Yq⟩;have Yx:=HX.aC Yq;clear Yq C a0 a1 a2 a3 a4 a5;by_cases h0:s.X k c=GQ.i 0 0
     .rw[Δ h0];have YP:Hid (∀i,s.r<=i->i<k+1->s.X i c=GQ.i 0 0):=aW fun i h1 h2=>by
       by_cases e:i=k
       .subst e;exact h0
       .exact YW.o i h1 aa
      clear h0;by_cases Zv:k+1=m
      .have dl:(((k:Int)+1)==(m:Int))=ε:=ae;have F:ech m Z (c+1)=s:=by
        show kM m c (ech m Z c)=s;rw[HS.o];exact fA (AP fun i h1 h2=>YP.o i h1 aa)
       have l:=aW F;clear F;go_wp2_with fail;refine⟨⟨c+1,aa,au,by rw[l.o],by rw[l.o],?_,HM.o.trans (ae1 Yx.o)⟩,by simp[aT,intOf];omega⟩;rw[l.o];obtain⟨h1,⟨R,h2⟩,⟨R2,h3⟩⟩:=HE.o;exact⟨h1.ext Yx.o,⟨R,h2.ext Yx.o⟩,⟨R2,h3.ext Yx.o⟩⟩
      .have dl:(((k:Int)+1)==(m:Int))=ζ:=ae
       go_wp2_with fail
       go_roundw
       case rel=>exact⟨k+1,aa,aa,au,YP.o,Yx.o⟩
       case measure=>exact aV
     .rw[π h0];have YH:ech m Z (c+1)=⟨s.r+1,clr (fun i=>s.X (swp k s.r i)) s.r c,s.odd^^decide (k≠s.r),c::s.q⟩:=by
       show kM m c (ech m Z c)=_;rw[HS.o];exact dW (AJ Zr aa YW.o h0)
      have Yz:=aW YH;clear YH;have YY:Hid (EI w3 gf Ga Gb m na nb PA PB s.X):=aW (by
       obtain⟨h1,⟨R,h2⟩,⟨R2,h3⟩⟩:=HE.o;exact⟨h1.ext Yx.o,⟨R,h2.ext Yx.o⟩,⟨R2,h3.ext Yx.o⟩⟩)
      have Z8:=HM.aC (ae1 Yx.o);clear HE HM HX Yx YW YO Q d1 d2;have YU:=aW h0;have G:=aW (And.intro Zr YI);have S:Hid (∀i,s.r<i->i<m->s.r<=swp k s.r i/\swp k s.r i<m):=aW fun i h1 h2=>⟨by unfold swp;split<;>(try split)<;>omega,mI YI YA h2⟩;have Yv:Hid ((s.r+1<m->∀i j,s.r<=i->i<m->j<na+nb->Bd (s.X i j) N)/\(s.r+1<m->∀i k,s.r<=i->i<m->s.r<=k->k<m->s.X k c≠GQ.i 0 0->Bd (s.X i c/s.X k c) N)):=aW (by
       have:=HR.o c Yp;rw[HS.o] at this;exact⟨fun h=>(this h).1,fun h=>(this h).2⟩)
      clear h0;by_cases YX:k=s.r
      .subst YX;have dne:((s.r:Int) !=(s.r:Int))=ζ:=ag;go_wp2_with fail;have YV:Hid (EI w3 gf Ga Gb m na nb PA PB (fun i=>s.X (swp s.r s.r i))):=aW (by
        have e:(fun i=>s.X (swp s.r s.r i))=s.X:=by funext i;rw[Qf]
        rw[e];exact YY.o)
       have O:=Z8;clear YY Z8;go_loopw [10] (fun i w2=>∃D:Nat,s.r+1<=D/\D<=m/\i=.int .i64 D/\EI w2 gf Ga Gb m na nb PA PB (pF (fun i=>s.X (swp s.r s.r i)) s.r c D)/\Mod T w w2) (aT m)
       case atStart=>
        refine⟨s.r+1,κ _,aa,au,?_,?_⟩
        .rw[Cb];first|exact YV.o|exact YV.o.ext (Ext.refl _).drew|exact YV.o.ext (Ext.refl _).drew.drew
        .first|exact O.o|exact O.o.trans (ae1 (Ext.refl _).drew)|exact O.o.trans (ae1 (Ext.refl _).drew.drew)
       case round=>
        obtain⟨D,W,Zg,rfl,Y,hM⟩:=hrel;have K:=aW Y;have YN:=aW hM;clear Y hM;by_cases M:D<m
        .have q1:decide ((D:Int)<m)=ε:=ae;go_wp2_with fail;refine(Jc gf Ga Gb m cA cB na nb s.r D c N PA PB T (pF (fun i=>s.X (swp s.r s.r i)) s.r c D) _ K.o HD.o HT.o M aa Yp hm ZZ Zf ?_ ?_ ?_ ?_ ?_ hN).mono ?_
         .unfold pF;rw[θ aa];simp only[oZ];exact YU.o
         .exact Adb
         .exact Acm
         .exact AcQ
         .exact Aa9
         rintro e w7 ⟨rfl,YB,YK⟩;have YQ:=aW YB;have YZ:=YN.aC YK;clear YB YK K YN;go_wp2_with fail
         go_roundw
         case rel=>
          refine⟨D+1,aa,aa,au,?_,YZ.o⟩;rw[<-D9 _ aa];exact YQ.o
         case measure=>exact aV
        .obtain rfl:D=m:=aa;have q1:decide ((D:Int)<D)=ζ:=ag;have e0:=K.o.calm.cell;go_wp2_with fail;refine⟨⟨c+1,aa,au,by rw[Yz.o];go_num,by rw[Yz.o];simp,?_,YN.o⟩,by simp[aT,intOf];omega⟩;rw[Yz.o];refine K.o.congr fun i j hi=> ?_;show pF (fun i=>s.X (swp s.r s.r i)) s.r c D i j=clr (fun i=>s.X (swp s.r s.r i)) s.r c i j;unfold pF clr;by_cases h:s.r<i
         .rw[ι ⟨h,hi⟩,ι h]
         .rw[θ (fun e=>h e.1),θ h]
      .have dne:((k:Int) !=s.r)=ε:=ae;obtain⟨B,⟨R,hA⟩,⟨R2,hB⟩⟩:=YY.o;have HA:=aW hA;have HB:=aW hB;have HC:=aW B;have C:=hA.cell YI;have k2:=hA.cell YA;have f1:=hA.o.frozen;clear hA hB B;have q1:decide ((k:Int)<m)=ε:=ae;have q2:decide ((s.r:Int)<(m:Int))=ε:=ae
       go_wp2_with fail
       go_region;obtain⟨ZX,YR⟩:=HA.o.swap YI YA;have YF:Far (fun g=>g=Ga) w3:=fun g hg _=>by subst hg;exact⟨_,_,HA.o.o,kS _ _⟩
       have Yy:=HB.o.mod YR YF Adq (fun j hj hn=>HB.o.ne hj hn HA.o.o);have Za:jP _ gf:=Blk.mod HC.o YR (by exact fun e=>HC.o.eY HA.o.o aj e);have YJ:=aW ZX;have U:=aW Yy;have YS:=aW Za;have ac:=aW YR;clear ZX Yy Za YR YF C k2 f1;generalize ZK:World.setCell _ _ _=w4 at YJ U YS ac⊢;clear ZK;have C:=U.o.cell YI;have k2:=U.o.cell YA;have f1:=U.o.o.frozen;go_wp2_with fail
       go_region;obtain⟨YD,YT⟩:=U.o.swap YI YA;have YL:Far (fun g=>g=Gb) w4:=fun g hg _=>by subst hg;exact⟨_,_,U.o.o,kS _ _⟩
       have ad:=YJ.o.mod YT YL (by exact Yt) (fun j hj hn=>YJ.o.ne hj hn U.o.o);have Yu:jP _ gf:=Blk.mod YS.o YT (by exact fun e=>YS.o.eY U.o.o aj e);have YE:=aW (EI.mk Yu ⟨_,ad⟩ ⟨_,YD⟩);have O:=aW ((Z8.o.trans (ac.o.mono (T:=T) (fun g hg=>by subst hg;exact HT.o.1))).trans (YT.mono (T:=T) (fun g hg=>by subst hg;exact HT.o.2.1)));clear YD YT YL ad Yu YJ U YS ac HA HB HC Z8 YY C k2 f1;generalize Zd:World.setCell _ _ _=w5 at YE O⊢;clear Zd;have YV:Hid (EI w5 gf Ga Gb m na nb PA PB (fun i=>s.X (swp k s.r i))):=aW YE.o;clear YE;go_wp2_with fail
       go_loopw [10] (fun i w2=>∃D:Nat,s.r+1<=D/\D<=m/\i=.int .i64 D/\EI w2 gf Ga Gb m na nb PA PB (pF (fun i=>s.X (swp k s.r i)) s.r c D)/\Mod T w w2) (aT m)
       case atStart=>
        refine⟨s.r+1,κ _,aa,au,?_,?_⟩
        .rw[Cb];first|exact YV.o|exact YV.o.ext (Ext.refl _).drew|exact YV.o.ext (Ext.refl _).drew.drew
        .first|exact O.o|exact O.o.trans (ae1 (Ext.refl _).drew)|exact O.o.trans (ae1 (Ext.refl _).drew.drew)
       case round=>
        obtain⟨D,W,Zg,rfl,Y,hM⟩:=hrel;have K:=aW Y;have YN:=aW hM;clear Y hM;by_cases M:D<m
        .have q1:decide ((D:Int)<m)=ε:=ae;go_wp2_with fail;refine(Jc gf Ga Gb m cA cB na nb s.r D c N PA PB T (pF (fun i=>s.X (swp k s.r i)) s.r c D) _ K.o HD.o HT.o M aa Yp hm ZZ Zf ?_ ?_ ?_ ?_ ?_ hN).mono ?_
         .unfold pF;rw[θ aa];simp only[oZ];exact YU.o
         .exact Adb
         .exact Acm
         .exact AcQ
         .exact Aa9
         rintro e w7 ⟨rfl,YB,YK⟩;have YQ:=aW YB;have YZ:=YN.aC YK;clear YB YK K YN;go_wp2_with fail
         go_roundw
         case rel=>
          refine⟨D+1,aa,aa,au,?_,YZ.o⟩;rw[<-D9 _ aa];exact YQ.o
         case measure=>exact aV
        .obtain rfl:D=m:=aa;have q1:decide ((D:Int)<D)=ζ:=ag;have e0:=K.o.calm.cell;go_wp2_with fail;refine⟨⟨c+1,aa,au,by rw[Yz.o];go_num,by rw[Yz.o];simp[YX],?_,YN.o⟩,by simp[aT,intOf];omega⟩;rw[Yz.o];refine K.o.congr fun i j hi=> ?_;show pF (fun i=>s.X (swp k s.r i)) s.r c D i j=clr (fun i=>s.X (swp k s.r i)) s.r c i j;unfold pF clr;by_cases h:s.r<i
         .rw[ι ⟨h,hi⟩,ι h]
         .rw[θ (fun e=>h e.1),θ h]
  .obtain rfl:c=na:=aa;have hd:decide ((c:Int)<c)=ζ:=ag;go_wp2_with fail;rw[Exit.noGoto_ret];exact xw rfl rfl ⟨rfl,HE.o,HM.o⟩
def BS:Rw:=⟨δ,0,0,0,0⟩
def zEn:En:=⟨ζ,δ,0,0,ζ,δ,0,0,ζ,δ,0,0⟩
def Si:(prog.info? 174).map (fun i=>(i.zero,i.size,i.bytes))=γ (γ (aO δ 0 0),1,24):=ah
def Ko:(prog.info? 42).map (fun i=>(i.zero,i.size,i.bytes))=γ (γ zEn.v,6,96):=ah
theorem Gz(m):madeCells #[Value.slice δ 0 0] m=(mxc m fun _=>BS).toArray:=by
 rw[vN];congr 1;unfold mxc;rw[List.map_const',List.length_range];rfl
theorem DL(n):madeCells zEn.v.cells (n*6)=(bD n fun _=>zEn).toArray:=by
 unfold madeCells;apply Array.ext
 .simp[bN]
 .intro i D G;have hi:i<n*6:=by simpa using D
  have e:i=(i/6)*6+i%6:=aa;have h:=dP (f:=fun _=>zEn) (j:=i/6) (t:=i%6) (n:=n) (pz _ aa) aa;rw[<-e] at h;have F:(bD n fun _=>zEn)[i]? =γ ((bD n fun _=>zEn).toArray[i]):=ag;rw[F] at h;have hs:zEn.v.cells.size=6:=rfl;have l:∀k,k<6->γ (zEn.v.cells[k]!)=zEn.cells[k]? :=fun k B=>match k,B with
   |0,_=>rfl
   |1,_=>rfl
   |2,_=>rfl
   |3,_=>rfl
   |4,_=>rfl
   |5,_=>rfl
  simp only[Array.getElem_map,Array.getElem_range];rw[hs];have C:=l (i%6) (pz _ aa);rw[<-C] at h;injection h with h;exact h.symm
def FT(m:Nat)(B:m<=1000)(W:World):(Instr.makeSlice 223 (.int .i64 m) (.int .i64 m)).run prog W=.ok (.slice (γ (aM W.heap.size 0)) m m) (W.alloc (.cells (mxc m fun _=>BS).toArray 174)):=by
 obtain⟨i0,M,j,l,O⟩:=abL Si;have h:=ac8 (P:=prog) W 223 174 i0 (.slice δ 0 0) underlying223 M j .i64 .i64 m m aa aa Abf aa;rw[h,l];have e:madeCells (Value.slice δ 0 0).cells m=(mxc m fun _=>BS).toArray:=Gz m;simp only[aaq,Ex,e]
def Cn(n:Nat)(hn:n<=1000)(W:World):(Instr.makeSlice 174 (.int .i64 n) (.int .i64 n)).run prog W=.ok (.slice (γ (aM W.heap.size 0)) n n) (W.alloc (.cells (bD n fun _=>zEn).toArray 42)):=by
 obtain⟨i0,M,j,l,O⟩:=abL Ko;have h:=ac8 (P:=prog) W 174 42 i0 zEn.v acM M j .i64 .i64 n n aa aa Abf aa;rw[h,l];simp only[Ex,DL]
def JN(k){P}(w J K F l g o B G a C I cur t cs)(O:P.underlying J=γ (.slice l))(hs:(P.info? l).map (·.size)=γ k)(M:w.heap[g]? =γ (.cells cur t (0,0)))(hn:cs.length=Nat.min C B*k)(D:∀j v,cs[j]? =γ v->w.cell? (a.add j)=γ v)(H:o+cs.length<=cur.size)(N:∀v∈cs,v.oneCell'=ε):
  (Builtin.copy_ #[J,K] F #[aO (γ (aM g o)) B G,aO (γ a) C I]).run P w=
   .ok (goInt (Nat.min C B)) (w.setRow g (cur.toList.take o++cs++cur.toList.drop (o+cs.length)).toArray):=by
 have Z:=run_loadCells_list (P:=P) w a cs D;have L:=run_storeCells_at P g o t cs 0 cur w M (by simpa using H) N;cases hq:P.info? l with
 |none=>simp[hq] at hs
 |some i=>
  have hi:i.size=k:=by simpa[hq] using hs
  simp[Builtin.copy_,abg O,Builtin.lenOf,Builtin.firstCells,sizeOf,typeInfo,hq,hi,<-hn,Z,L]
def EU:(prog.info? 42).map (·.size)=γ 6:=ah
theorem dX(n f):∀v∈bD n f,v.oneCell'=ε:=by
 intro v hv;unfold bD at hv;obtain⟨j,_,hv⟩:=ac9.1 hv;unfold En.cells at hv;simp only[lh,I6,aaM] at hv;rcases hv with rfl|rfl|rfl|rfl|rfl|rfl<;>rfl
def OA{f j n t u e}(G:j<n)(F:t<6)(hc:e.cells=(f j).cells.set t u):(bD n f).toArray.setIfInBounds (j*6+t) u=(bD n (upd f j e)).toArray:=by
 rw[aQ];congr 1;apply aam;intro i;rw[List.getElem?_set];by_cases hi:i<n*6
 .have C:i=(i/6)*6+i%6:=aa;have B:i%6<6:=pz _ aa;by_cases M:i/6=j
  .have D:(bD n (upd f j e))[i]? =e.cells[i%6]? :=by
    conv=>lhs;rw[C]
    rw[dP B aa,M,upd_same]
   rw[D,hc,List.getElem?_set];by_cases l:i%6=t
   .rw[ι aa,ι l.symm,bN,ι aa,ι (by show t<6;exact F)]
   .rw[θ aa,θ (fun e=>l e.symm)]
    conv=>lhs;rw[C]
    rw[dP B aa,M]
  .rw[θ aa]
   conv=>lhs;rw[C]
   conv=>rhs;rw[C]
   rw[dP B aa,dP B aa,upd_ne M]
 .rw[θ aa,qa Ab4,qa Ab4]
def afI{w:World}{g n j t:Nat}{f:Nat->En}{x:Nat->GQ}{e:En}{u:Value}(hb:Blk w g 42 (bD n f).toArray)(J:∀j,j<n->GV w (f j).v (x j) 12800)(D:j<n)(B:t<6)(hc:e.cells=(f j).cells.set t u)(O:GV w e.v (x j) 12800):
  (Blk (w.setCell ⟨g,j*6+t,δ⟩ u) g 42 (bD n (upd f j e)).toArray/\∀i,i<n->GV (w.setCell ⟨g,j*6+t,δ⟩ u) (upd f j e i).v (x i) 12800)/\Mod (fun k=>k=g) w (w.setCell ⟨g,j*6+t,δ⟩ u):=by
 have l:Mod (fun k=>k=g) w (w.setCell ⟨g,j*6+t,δ⟩ u):=Mod.only (Only.set _ _ _ _) rfl;have hS:Far (fun k=>k=g) w:=fun k C _=>by subst C;exact⟨_,_,hb,dI _ _⟩
 refine⟨⟨?_,fun i hi=> ?_⟩,l⟩
 .rw[<-OA D B hc];exact hb.mM _ _
 .by_cases h:i=j
  .subst h;rw[upd_same];exact O.mod l hS
  .rw[upd_ne h];exact(J i hi).mod l hS
def BF(A n c s z w)(h:RI w (iv s A n c) z)(hn:n<=1000000):
  Calls prog 198 #[aO A n c] w fun e w'=>∃A' n' c',e=.returned (.slice A' n' c')/\RI w' (iv s A' n' c') z/\Ext w w':=by
 obtain⟨A2,n2,c2,e,B⟩:=h;simp at e;obtain⟨rfl,rfl,rfl,rfl⟩:=e;refine(uQ A n c _ w B hn).mono ?_;rintro e w' ⟨v,rfl,⟨A1,n1,c1,rfl,j⟩,l⟩;exact⟨A1,n1,c1,rfl,⟨A1,n1,c1,rfl,j⟩,l⟩
structure DI (w W:World) (G m na i:Nat) (X:Nat->Nat->GQ) (R:Nat->Rw):Prop where
 o:Blk W G 174 (mxc m R).toArray
 gx:w.heap.size<=G
 len:∀i',i'<i->(R i').n=na/\(R i').c=na
 row:∀i',i'<i->(R i').A=γ ⟨(R i').b,0,δ⟩/\dN W (R i').b na (X i')/\w.heap.size<=(R i').b
 inj:∀i' j',i'<i->j'<i->(R i').b=(R j').b->i'=j'
 ext:Ext w W
def Gf{m R i r}:(mxc m R).toArray.setIfInBounds i r.v=(mxc m (upd R i r)).toArray:=by
 rw[aQ];congr 1;apply List.ext_getElem
 .simp[mxc]
 .intro k l j;simp only[mxc,List.getElem_set,List.getElem_map,List.getElem_range];by_cases e:i=k
  .subst e;rw[ι rfl,upd_same]
  .rw[θ e,upd_ne (fun x=>e x.symm)]
def RI3{w}{e:En}{q n}(h:GV w e.v q n):∃a b d,RI w (iv e.s1 e.A1 e.n1 e.c1) a/\RI w (iv e.s2 e.A2 e.n2 e.c2) b/\RI w (iv e.s3 e.A3 e.n3 e.c3) d/\Is q a b d/\Sz n a b d:=by
 obtain⟨a,b,d,j,I,Z⟩:=h;have:=RG.inj (show RG w (gv e.s1 e.A1 e.n1 e.c1 e.s2 e.A2 e.n2 e.c2 e.s3 e.A3 e.n3 e.c3) a b d from j);exact⟨a,b,d,this.1,this.2.1,this.2.2,I,Z⟩
def afq{w s A n c z}(h:RI w (iv s A n c) z)(l:z.natAbs<2^12800):n<=1000000:=by
 have j:z.natAbs<2^(32*400):=by rw[show 32*400=12800 from rfl];exact l
 have:=RI.le h j;omega
theorem Rh{W2 g na b o cs C f0 f}(hb:Blk W2 g 42 (bD na f0).toArray)(D:0<na->C=γ ⟨b,o,δ⟩)(hc:∀j,j<na->∀t u,(f j).cells[t]? =γ u->W2.cell? (aM b (o+(j*6+t)))=γ u):
  ∃B,Sem.run prog (Builtin.copy_ #[174,174] 3 #[aO (γ (aM g 0)) na na,aO C na cs]) W2=.ok (goInt na) B/\Blk B g 42 (bD na f).toArray/\Mod (fun k=>k=g) W2 B:=by
 have l:Nat.min na na=na:=ag;by_cases H:na=0
 .subst H;refine⟨W2,?_,hb,Mod.refl _ _⟩;have Z:∀(x:Addr),(loadCells x 0).run prog W2=.ok #[] W2:=fun x=>by simpa using run_loadCells_list (P:=prog) W2 x [] ag
  cases hq:prog.info? 42 with
  |none=>have:=EU;rw[hq] at this;cases this
  |some i=>cases C<;>simp[Builtin.copy_,abg acM,Builtin.lenOf,Builtin.firstCells,sizeOf,typeInfo,hq,storeCells,Z]
 .have I:=D aa;subst I;have h:=JN 6 W2 174 174 3 42 g 0 na na ⟨b,o,δ⟩ na cs (bD na f0).toArray 42 (bD na f) acM EU hb (by rw[bN,l]) (fun j v G=>by
   have T:j<na*6:=by have:=(μ.1 G).1;rwa[bN] at this
   have e:j=(j/6)*6+j%6:=aa;rw[e,dP (pz _ aa) aa] at G;have:=hc _ aa _ _ G;rw[<-e] at this;have J:(⟨b,o,δ⟩:Addr).add j=⟨b,o+j,δ⟩:=by unfold Addr.add;by_cases F:j=0<;>simp[F]
   rw[J];exact this) (by rw[bN];simp[bN]) (dX na f)
  rw[l] at h;refine⟨_,h,?_,?_⟩
  .have e:((bD na f0).toArray.toList.take 0++bD na f++(bD na f0).toArray.toList.drop (0+(bD na f).length)).toArray=(bD na f).toArray:=by
    simp[bN]
   rw[e];exact aeL _ g _ _ _ _ hb
  .exact Mod.only (Only.setRow _ _ _) rfl
def N9{w l:World}{g na j:Nat}{f:Nat->En}{x:Nat->GQ}{A':Option Addr}{n' c':Nat}{z:Int}(hb:Blk w g 42 (bD na f).toArray)(hv:∀j,j<na->GV w (f j).v (x j) 12800)(B:j<na)(G:RI w (iv (f j).s1 (f j).A1 (f j).n1 (f j).c1) z)(W:Ext w l)(D:RI l (iv (f j).s1 A' n' c') z)(F:∃a b d,RI w (iv (f j).s1 (f j).A1 (f j).n1 (f j).c1) a/\RI w (iv (f j).s2 (f j).A2 (f j).n2 (f j).c2) b/\RI w (iv (f j).s3 (f j).A3 (f j).n3 (f j).c3) d/\Is (x j) a b d/\Sz 12800 a b d/\z=a):
  ∃f',Blk (l.setCell ⟨g,j*6+1,δ⟩ (.slice A' n' c')) g 42 (bD na f').toArray/\(∀H,H<na->GV (l.setCell ⟨g,j*6+1,δ⟩ (.slice A' n' c')) (f' H).v (x H) 12800)/\Mod (fun k=>k=g) w (l.setCell ⟨g,j*6+1,δ⟩ (.slice A' n' c')):=by
 obtain⟨a,b,d,i1,M,C,I,Z,rfl⟩:=F;have hp:=afI (e:={f j with A1:=A',n1:=n',c1:=c'}) (t:=1) (u:=.slice A' n' c') (hb.ext W) (fun j B=>(hv j B).ext W) B aa rfl ⟨_,_,_,⟨_,_,_,_,_,_,_,_,_,_,_,_,rfl,D,M.ext W,C.ext W⟩,I,Z⟩;exact Abm
def OZ{w l:World}{g na j:Nat}{f:Nat->En}{x:Nat->GQ}{A':Option Addr}{n' c':Nat}{z:Int}(hb:Blk w g 42 (bD na f).toArray)(hv:∀j,j<na->GV w (f j).v (x j) 12800)(B:j<na)(G:RI w (iv (f j).s2 (f j).A2 (f j).n2 (f j).c2) z)(W:Ext w l)(D:RI l (iv (f j).s2 A' n' c') z)(F:∃a b d,RI w (iv (f j).s1 (f j).A1 (f j).n1 (f j).c1) a/\RI w (iv (f j).s2 (f j).A2 (f j).n2 (f j).c2) b/\RI w (iv (f j).s3 (f j).A3 (f j).n3 (f j).c3) d/\Is (x j) a b d/\Sz 12800 a b d/\z=b):
  ∃f',Blk (l.setCell ⟨g,j*6+3,δ⟩ (.slice A' n' c')) g 42 (bD na f').toArray/\(∀H,H<na->GV (l.setCell ⟨g,j*6+3,δ⟩ (.slice A' n' c')) (f' H).v (x H) 12800)/\Mod (fun k=>k=g) w (l.setCell ⟨g,j*6+3,δ⟩ (.slice A' n' c')):=by
 obtain⟨a,b,d,i1,M,C,I,Z,rfl⟩:=F;have hp:=afI (e:={f j with A2:=A',n2:=n',c2:=c'}) (t:=3) (u:=.slice A' n' c') (hb.ext W) (fun j B=>(hv j B).ext W) B aa rfl ⟨_,_,_,⟨_,_,_,_,_,_,_,_,_,_,_,_,rfl,i1.ext W,D,C.ext W⟩,I,Z⟩;exact Abm
def O0{w l:World}{g na j:Nat}{f:Nat->En}{x:Nat->GQ}{A':Option Addr}{n' c':Nat}{z:Int}(hb:Blk w g 42 (bD na f).toArray)(hv:∀j,j<na->GV w (f j).v (x j) 12800)(B:j<na)(D:RI w (iv (f j).s3 (f j).A3 (f j).n3 (f j).c3) z)(W:Ext w l)(C:RI l (iv (f j).s3 A' n' c') z)(F:∃a b d,RI w (iv (f j).s1 (f j).A1 (f j).n1 (f j).c1) a/\RI w (iv (f j).s2 (f j).A2 (f j).n2 (f j).c2) b/\RI w (iv (f j).s3 (f j).A3 (f j).n3 (f j).c3) d/\Is (x j) a b d/\Sz 12800 a b d/\z=d):
  ∃f',Blk (l.setCell ⟨g,j*6+5,δ⟩ (.slice A' n' c')) g 42 (bD na f').toArray/\(∀H,H<na->GV (l.setCell ⟨g,j*6+5,δ⟩ (.slice A' n' c')) (f' H).v (x H) 12800)/\Mod (fun k=>k=g) w (l.setCell ⟨g,j*6+5,δ⟩ (.slice A' n' c')):=by
 obtain⟨a,b,d,i1,M,G,I,Z,rfl⟩:=F;have hp:=afI (e:={f j with A3:=A',n3:=n',c3:=c'}) (t:=5) (u:=.slice A' n' c') (hb.ext W) (fun j B=>(hv j B).ext W) B aa rfl ⟨_,_,_,⟨_,_,_,_,_,_,_,_,_,_,_,_,rfl,i1.ext W,M.ext W,C⟩,I,Z⟩;exact Abm
def Vv{A B O m c na R}{E:Nat->Nat->En}{X w}(h:Mem w A B O m R E)(hn:∀i,i<m->(R i).n=na)(hv:∀i j,i<m->j<na->GV w (E i j).v (X i j) 12800)(hm:m<=24)(ZZ:na<=24):
  Calls prog 191 #[aO A m c] w fun e w'=>∃(G:Nat) (S:Nat->Rw),e=.returned (.slice (γ (aM G 0)) m m)/\DI w w' G m na m X S:=by
 have HM:=aW h;have HN:=aW hn;have Q:=aW hv;clear h hn hv;have Zc:=FT m aa;have ZR:=Cn na aa;go_enter func191,ntmps191;go_wp2_with fail;clear Zc;go_loopw [13] (fun i wr=>∃(D:Nat) (S:Nat->Rw),D<=m/\i=.int .i64 D/\DI w wr w.heap.size m na D X S) (aT m)
 case atStart=>exact⟨0,fun _=>BS,aa,rfl,Blk.new _ _ _,κ _,by intros;omega,by intros;omega,by intros;omega,Ext.new _ _⟩
 case round=>
  obtain⟨i,S,hi,rfl,hD⟩:=hrel;have HD:=aW hD;clear hD;by_cases Yp:i<m
  .have hd:decide ((i:Int)<m)=ε:=ae;have hA:=HM.o.at0 aa;have hr:=HM.o.bD Yp HD.o.ext;rw[HN.o i Yp] at hr;subst hA;have Zn:=Ext.new wr (.cells (bD na fun _=>zEn).toArray 42);have YI:=HD.o.o.ext Zn;have fr:=YI.frozen;have C:(wr.alloc (.cells (bD na fun _=>zEn).toArray 42)).cell? (aM w.heap.size i)=γ (S i).v:=by rw[YI.cell];exact jf Yp
   have YR:Blk ((wr.alloc (.cells (bD na fun _=>zEn).toArray 42)).setCell ⟨w.heap.size,i,δ⟩ (.slice (γ (aM wr.heap.size 0)) na na)) w.heap.size 174 (mxc m (upd S i ⟨γ ⟨wr.heap.size,0,δ⟩,wr.heap.size,0,na,na⟩)).toArray:=by
    rw[<-Gf];exact YI.mM _ _
   have k2:((wr.alloc (.cells (bD na fun _=>zEn).toArray 42)).setCell ⟨w.heap.size,i,δ⟩ (.slice (γ (aM wr.heap.size 0)) na na)).cell? (aM w.heap.size i)=γ (aO (γ (aM wr.heap.size 0)) na na):=by rw[YR.cell,jf Yp,upd_same];rfl
   have YV:=aW YI;have YJ:=aW YR;have J:=aW Zn;clear YI YR Zn;have YN:w.heap.size<wr.heap.size:=HD.o.o.lt;have Yy:Blk ((wr.alloc (.cells (bD na fun _=>zEn).toArray 42)).setCell ⟨w.heap.size,i,δ⟩ (.slice (γ (aM wr.heap.size 0)) na na)) wr.heap.size 42 (bD na fun _=>zEn).toArray:=(Blk.new _ _ _).far (by show wr.heap.size≠w.heap.size;omega) _;have YP:Ext w ((wr.alloc (.cells (bD na fun _=>zEn).toArray 42)).setCell ⟨w.heap.size,i,δ⟩ (.slice (γ (aM wr.heap.size 0)) na na)):=(HD.o.ext.trans J.o).setCell (κ _) _;obtain⟨w3,l,YD,ZF⟩:=Rh (cs:=(R i).c) Yy (fun h0=>HM.o.ra i Yp (by rw[HN.o i Yp];exact h0)) (fun j hj t u hu=>YP.cell_ (HM.o.el i j Yp (by rw[HN.o i Yp];exact hj) t u hu));have Y:Ext w w3:=⟨ZF.os.trans YP.os,ZF.tape.trans YP.tape,ZF.output.trans YP.output,Ξ YP.size ZF.size,fun k hk=>(ZF.block k (ο hk YP.size) aa).trans (YP.block k hk)⟩;have YO:=YJ.o.mod ZF (by show ¬w.heap.size=wr.heap.size;omega);have k3:w3.cell? (aM w.heap.size i)=γ (aO (γ (aM wr.heap.size 0)) na na):=by rw[YO.cell,jf Yp,upd_same];rfl
   have YU:=aW YO;have Yu:=aW YD;have Yx:=aW Y;have Z8:=aW ZF;have YT:=aW YN;clear YO YD Y ZF Yy YP YN;go_wp2_with fail;clear l C k2 fr hr;have V:Mod (fun k=>k=w.heap.size\/k=wr.heap.size) wr w3:=((ae1 J.o).trans (Mod.only (Only.set _ _ _ _) (.inl rfl))).trans (Z8.o.mono fun k hk=> .inr hk);have YH:=aW V;clear V Z8 YV YJ J;generalize Zg:wr.heap.size=g at*
   have YC:=aW Zg;clear Zg;go_loopw [35] (fun M wz=>∃(j:Nat) (f:Nat->En),j<=na/\M=.int .i64 j/\Blk wz g 42 (bD na f).toArray/\(∀H,H<na->GV wz (f H).v (X i H) 12800)/\Mod (fun k=>k=g) w3 wz) (aT na)
   case atStart=>exact⟨0,E i,aa,rfl,Yu.o,fun j hj=>(Q.o i j Yp hj).ext Yx.o,Mod.refl _ _⟩
   case round=>
    clear k3;rename World=>wz;obtain⟨j,f,hj,rfl,hb,YM,Zh⟩:=hrel;have YL:=aW hb;have YF:=aW YM;have YG:=aW Zh;clear hb YM Zh;have YK:w.heap.size≠g:=by have:=YT.o;omega
    have T:=YU.o.mod YG.o YK;have Zp:=aW T;by_cases Yz:j<na
    .have hd:decide ((j:Int)<na)=ε:=ae;have k3:wz.cell? (aM w.heap.size i)=γ (aO (γ (aM g 0)) na na):=by rw[T.cell,jf Yp,upd_same];rfl
     clear T;have YZ:=YF;obtain⟨_,a1,_,_,_,_⟩:=dN.cells YL.o Yz rfl;obtain⟨za,zb,U,i1,M,i3,I,Z⟩:=RI3 (YZ.o j Yz);have HI:=aW i1;have H3:=aW (show ∃a b d,RI _ (iv (f j).s1 (f j).A1 (f j).n1 (f j).c1) a/\RI _ (iv (f j).s2 (f j).A2 (f j).n2 (f j).c2) b/\RI _ (iv (f j).s3 (f j).A3 (f j).n3 (f j).c3) d/\Is (X i j) a b d/\Sz 12800 a b d/\za=a from ⟨za,zb,U,i1,M,i3,I,Z,rfl⟩);have K:=afq i1 Z.a;clear i1 M i3 I Z;go_wp2_with fail;refine(BF _ _ _ _ _ _ HI.o K).mono ?_;rintro e w4 ⟨A',n',c',rfl,Yv,N⟩;replace a1:=N.cell_ a1;have fr:=(YL.o.ext N).frozen;obtain⟨P,Zf,Zt,ac⟩:=N9 YL.o YZ.o Yz HI.o N Yv H3.o;have Yw:=aW Zf;have Zr:=aW Zt;have YX:=aW ac;clear Zf Zt ac Yv N HI H3 K;(iterate 15 (try (first|go_values|go_skip|go_guarded|go_step|go_upon|go_in|go_back|go_simp)));clear a1 fr;generalize w4.setCell _ _=wa at Yw Zr YX⊢;obtain⟨_,_,_,a1,_,_⟩:=dN.cells Yw.o Yz rfl;obtain⟨za,zb,U,i1,M,i3,I,Z⟩:=RI3 (Zr.o j Yz);have HI:=aW M;have H3:=aW (show ∃a b d,RI _ (iv (P j).s1 (P j).A1 (P j).n1 (P j).c1) a/\RI _ (iv (P j).s2 (P j).A2 (P j).n2 (P j).c2) b/\RI _ (iv (P j).s3 (P j).A3 (P j).n3 (P j).c3) d/\Is (X i j) a b d/\Sz 12800 a b d/\zb=b from ⟨za,zb,U,i1,M,i3,I,Z,rfl⟩);have K:=afq M Z.b;clear i1 M i3 I Z;go_wp2_with fail;refine(BF _ _ _ _ _ _ HI.o K).mono ?_;rintro e w4 ⟨A',n',c',rfl,Yv,N⟩;replace a1:=N.cell_ a1;have fr:=(Yw.o.ext N).frozen;obtain⟨fb,YB,YQ,YY⟩:=OZ Yw.o Zr.o Yz HI.o N Yv H3.o;have Yq:=aW YB;have Zv:=aW YQ;have Yt:=aW YY;clear YB YQ YY Yv N HI H3 K;(iterate 15 (try (first|go_values|go_skip|go_guarded|go_step|go_upon|go_in|go_back|go_simp)));clear a1 fr;generalize w4.setCell _ _=wb at Yq Zv Yt⊢;obtain⟨_,_,_,_,_,a1⟩:=dN.cells Yq.o Yz rfl;obtain⟨za,zb,U,i1,M,i3,I,Z⟩:=RI3 (Zv.o j Yz);have HI:=aW i3;have H3:=aW (show ∃a b d,RI _ (iv (fb j).s1 (fb j).A1 (fb j).n1 (fb j).c1) a/\RI _ (iv (fb j).s2 (fb j).A2 (fb j).n2 (fb j).c2) b/\RI _ (iv (fb j).s3 (fb j).A3 (fb j).n3 (fb j).c3) d/\Is (X i j) a b d/\Sz 12800 a b d/\U=d from ⟨za,zb,U,i1,M,i3,I,Z,rfl⟩);have K:=afq i3 Z.d;clear i1 M i3 I Z;go_wp2_with fail;refine(BF _ _ _ _ _ _ HI.o K).mono ?_;rintro e w4 ⟨A',n',c',rfl,Yv,N⟩;replace a1:=N.cell_ a1;have fr:=(Yq.o.ext N).frozen;obtain⟨fc,Zl,YW,W⟩:=O0 Yq.o Zv.o Yz HI.o N Yv H3.o;have YS:=aW Zl;have Zd:=aW YW;have Za:=aW W;clear Zl YW W Yv N HI H3 K;go_wp2_with fail;clear a1 fr;generalize w4.setCell _ _=wc at YS Zd Za⊢;go_wp2_with fail
     go_roundw
     case rel=>exact⟨j+1,fc,aa,au,YS.o,Zd.o,((YG.o.trans YX.o).trans Yt.o).trans Za.o⟩
     case measure=>exact aV
    .obtain rfl:j=na:=aa;have hd:decide ((j:Int)<j)=ζ:=ag;clear T;go_wp2_with fail;refine⟨⟨i+1,upd S i ⟨γ ⟨g,0,δ⟩,g,0,j,j⟩,aa,au,?_⟩,by simp[aT,intOf];omega⟩;have Ze:Mod (fun k=>k=w.heap.size\/k=g) wr wz:=YH.o.trans (YG.o.mono fun k hk=> .inr hk);have hS:Far (fun k=>k=w.heap.size\/k=g) wr:=by
      rintro k (rfl|rfl) hk
      .exact⟨_,_,HD.o.o,kS _ _⟩
      .have:=YC.o;omega
     have F:∀D,D<i->(S D).b<g:=fun D Yr=>by
      obtain⟨cs,YE⟩:=(HD.o.row D Yr).2.1.blk;have:=YE.lt;have:=YC.o;omega
     refine⟨Zp.o,κ _,fun D Yr=> ?_,fun D Yr=> ?_,fun D H Yr YA e=> ?_,?_⟩
     .exact AcM
     .by_cases e:D=i
      .exact Ack
      .rw[upd_ne e];obtain⟨h1,h2,h3⟩:=HD.o.row D aa;refine⟨h1,h2.mod Ze hS ?_,h3⟩;rintro(e2|e2)
       .obtain⟨cs,YE⟩:=h2.blk;exact YE.eY HD.o.o aj e2
       .have:=F D aa;omega
     .by_cases e1:D=i
      .by_cases e2:H=i
       .omega
       .rw[e1,upd_same,upd_ne e2] at e;have:=F H aa;have e':g=(S H).b:=e;omega
      .by_cases e2:H=i
       .rw[e2,upd_same,upd_ne e1] at e;have:=F D aa;have e':(S D).b=g:=e;omega
       .rw[upd_ne e1,upd_ne e2] at e;exact HD.o.inj D H aa aa e
     .have L:=Yx.o;have hM:=YG.o;exact⟨hM.os.trans L.os,hM.tape.trans L.tape,hM.output.trans L.output,Ξ L.size hM.size,fun k hk=>(hM.block k (ο hk L.size) (by have:=YT.o;omega)).trans (L.block k hk)⟩
  .obtain rfl:i=m:=aa;have hd:decide ((i:Int)<i)=ζ:=ag;go_wp2_with fail;go_ret;exact⟨_,_,rfl,HD.o⟩
def DI.mx{w W W' G m na X R}(h:DI w W G m na m X R)(x:Ext W W'):MxI W' G m na (fun g=>∃i,i<m/\g=(R i).b) R X:=
 ⟨h.o.ext x,h.len,fun i hi _=>⟨(h.row i hi).1,(h.row i hi).2.1.ext x⟩,fun i j hi l _ e=>h.inj i j hi l e,fun i hi _=>⟨i,hi,rfl⟩⟩
def Ol{W G m n P R X}(h:MxI W G m n P R X)(l:m=0->n=0)(c)(C:m<=1000):CE 190 #[aO (γ (aM G 0)) m c] W (.int .i64 n):=by
 by_cases j:m=0
 .have B:((m:Int)==0)=ε:=by simp[j]
  rw[l j];clear h l j;exact AaL
 .have B:((m:Int)==0)=ζ:=by simp[j]
  have D:=h.cell (i:=0) aa;have q1:(0:Int)<m:=aa;clear h l;exact AaL
def Mod.V9{B0 w W}(h:Mod (fun g=>B0<=g) w W){w0}(x:Ext w0 w)(hb:w0.heap.size<=B0):Ext w0 W:=
 ⟨h.os.trans x.os,h.tape.trans x.tape,h.output.trans x.output,Ξ x.size h.size,fun k j=>(h.block k (ο j x.size) aa).trans (x.block k j)⟩
def PX(W:World):jP (aL W #[aJ] 250) W.heap.size:=Blk.new _ _ _
def rM (X:Nat->Nat->GQ):Nat->GQ
 |0=>GQ.i 1 0
 |k+1=>rM X k*X k k
end Go.Proofs.YtbfnfkppkmpieaaGreat
