import Derived.Test.YtbfnfkppkmpieaaGreatQpa
set_option linter.unusedVariables false
set_option linter.unusedSimpArgs false
set_option maxHeartbeats 25600000
set_option maxRecDepth 200000
set_option linter.defProp false
namespace Go.Proofs.YtbfnfkppkmpieaaGreat
open Go.RowKit
open Go.Proofs.Tryz
open Option renaming some->γ,none->δ
open Bool renaming true->ε,false->ζ
open Inhabited renaming default->η
open Value renaming slice->aO
open World renaming alloc->aU
open Mc
def Pi(A n c l w)(h:RM w A n c l)(hn:n<=1000000):
  CV 198 #[aO A n c] w fun v w'=>w'.ownsRow w.heap.size 208 1 v n (mg l):=by
 cases A with
 |none=>
  have B:n=0:=by
   rcases BB n with j|j
   .exact j
   .obtain⟨C,_,e,_⟩:=h.at_ j;cases e
  subst B;obtain rfl:=h.empty;have W:=aaS (P:=prog) (t:=38) (a:=δ) (n:=0) (c:=c) (n':=0) (c':=0) (h:=ab9);go_enter func198,ntmps198;go_wp2;all_goals
   exact Abd
 |some C=>
  have W:=aaS (P:=prog) (t:=38) (a:=γ C) (n:=n) (c:=c) (n':=0) (c':=0) (h:=ab9);go_enter func198,ntmps198;(go_wp2_with (at_builtin;refine jL kN rfl (.tmp 5) (.tmp 6) rfl w.heap.size _ 0 [] rf (abe _ _ _ aa aa ag) _ n _ (mg l) rf (h.ext (Ext.new w _)).rd Ci aa aa ag ?_));intro v1 w1 F D;go_wp2;go_ret;exact⟨_,rfl,by simpa using F,gu D (Ext.new _ _) Ab6⟩
def uW(A n c l w)(h:RM w A n c l)(hn:n<=1000000):
  CV 198 #[aO A n c] w fun v w'=>SlM l v w':=
 (Pi A n c l w h hn).mono fun _ _ ⟨v,B,j,C⟩=>⟨v,B,aft j h.dg,C⟩
def Ext.jJ{w w'}(h:Ext w.drew w'):Ext w w':=((Ext.refl w).drew).trans h
def fZ{w w1}{x y r:Obj}(J:Ext (((w.alloc x).alloc y).alloc r) w1):Ext w w1:=(((Ext.new w _).alloc _).alloc _).trans J
def iI{w w1:World}{cs t}{y r:Obj}(J:Ext (((w.alloc (.cells cs t)).alloc y).alloc r) w1):Blk w1 w.heap.size t cs:=(((Blk.new w t cs).alloc _).alloc _).ext J
def iY{w w1:World}{cs t}{x r:Obj}(J:Ext (((w.alloc x).alloc (.cells cs t)).alloc r) w1):Blk w1 (w.heap.size+1) t cs:=((aeV t cs ag).alloc _).ext J
def mE{w w1:World}{cs t}{x y:Obj}(J:Ext (((w.alloc x).alloc y).alloc (.cells cs t)) w1):Blk w1 (w.heap.size+2) t cs:=(aeV t cs ag).ext J
def QA(neg A B n m c d a b w)(N:RM w A n c a)(R:RM w B m d b)(hn:n<=1000000)(O:m<=1000000):
  CV 216 #[iv neg A n c,iv neg B m d] w fun v w'=>mM (qg (zOf neg (val a+val b))) v w':=by
 have S:(neg==neg)=ε:=ag;go_enter adZ,adx;go_wp2;have D:Ext (aL (aL (aL w #[neg,aO A n c] 40) #[neg,aO B m d] 40) #[ζ,()] 40) (aL (aL (aL w #[neg,aO A n c] 40) #[neg,aO B m d] 40) #[ζ,()] 40):=Ext.refl _;have V:=aX.blk (iI D);have T:=aX.blk (iY D);refine bO 10 [(ε,0),(ε,1),(ε,2),(ε,3),(ε,4),(ε,5),(ζ,6),(ζ,7),(ε,8),(ε,9)] ah ah ?_;refine bD [0,1,2,3,4,5] [(ζ,6),(ζ,7),(ε,8),(ε,9)] _ ah ?_;refine Gq ?_;refine bC 6 [(ζ,7),(ε,8),(ε,9)] ah ?_;intro K I;simp only[bJ];go_wp2_with fail;have G:Ext w (((w.alloc (.cells #[neg,aO A n c] 40)).alloc (.cells #[neg,aO B m d] 40)).alloc (.cells #[ζ,()] 40)).drew:=(fZ D).drew;refine(BR A B n m c d a b _ (N.ext G) (R.ext G) hn O).mono ?_;rintro e w1 ⟨v1,rfl,⟨A1,n1,c1,rfl,Q⟩,H⟩;have H:=H.jJ;go_wp2;refine I _ _ ⟨⟨w1,H⟩,rfl⟩ ?_;clear I K;refine bC 7 [(ε,8),(ε,9)] ah ?_;intro K I;simp only[bJ];go_wp2_with fail;refine(jb neg A1 n1 c1 _ _ Q).mono ?_;rintro e w2 ⟨W,rfl,⟨u,rfl,A2,n2,c2,rfl,F⟩,P⟩;rw[bf] at F;rw[bf];have P:=H.trans P;go_wp2;refine I _ _ ⟨⟨w2,P⟩,rfl⟩ ?_;clear I K;refine bD [8,9] [] _ ah ?_;refine Gq ?_;simp only[dh,ξ,τ];have b4:=mE P;have c4:=b4.cell;have Y:=b4.frozen;obtain⟨C,J,j⟩:=jO (fZ P) aa b4 _ A2 n2 c2;have L:=aW C;have U:=aW J;have M:=aW (j _ _ _ _ F);clear C J j;go_wp2;exact iK rfl rfl rfl U.o ⟨_,rfl,⟨_,rfl,_,_,_,rfl,M.o⟩,L.o⟩
def M5{p q}(h:q<=p):decide (0<=nY p q)=ε:=by
 have B:¬p<q:=aa;by_cases j:q<p<;>simp[nY,B,j]
theorem ML{p q}(h:p<q):decide (0<=nY p q)=ζ:=by unfold nY;simp[h]
def V8(neg j A B n m c d p q w)(J:RM w A n c (dF p))(M:RM w B m d (dF q))(hn:n<=1000000)(hm:m<=1000000)(V:(neg==j)=ζ)(F:q<=p):
  CV 216 #[iv neg A n c,iv j B m d] w fun v w'=>mM (qg (zOf neg (p-q))) v w':=by
 have S:=J.len;have G:=M.len;have L:m<=n:=by
  have h1:=eQ (n:=q) (k:=n) (ψ (show q<=p by omega) (eG aa));omega
 clear S G;have D:=aW F;clear F;go_enter adZ,adx;go_wp2_with fail;refine(je A B n m c d _ _ _ (J.ext (((Ext.new w _).alloc _).alloc _)) (M.ext (((Ext.new w _).alloc _).alloc _)) (cK _) (cK _)).mono ?_;rintro e w0 ⟨rfl,N⟩;rw[bf,bf];have T:=M5 D.o;have c0:=(iI N).cell;have c1:=(iY N).cell;go_wp2;clear c0 c1 T;have Y0:=aX.blk (iI N);have Y1:=aX.blk (iY N);refine bO 10 [(ε,0),(ε,1),(ε,2),(ε,3),(ε,4),(ε,5),(ζ,6),(ζ,7),(ε,8),(ε,9)] ah ah ?_;refine bD [0,1,2,3,4,5] [(ζ,6),(ζ,7),(ε,8),(ε,9)] _ ah ?_;refine Gq ?_;refine bC 6 [(ζ,7),(ε,8),(ε,9)] ah ?_;intro K I;simp only[bJ];go_wp2_with fail;refine(wm A B n m c d _ _ _ (J.ext (fZ N).drew) (M.ext (fZ N).drew) aa L (by rw[bf,bf];have:=D.o;omega)).mono ?_;rintro e w1 ⟨v1,rfl,⟨A1,n1,c1,rfl,Z⟩,H⟩;have H:=H.jJ;go_wp2;refine I _ _ ⟨⟨w1,H⟩,rfl⟩ ?_;clear I K;refine bC 7 [(ε,8),(ε,9)] ah ?_;intro K I;simp only[bJ];go_wp2_with fail;refine(jb neg A1 n1 c1 _ _ Z).mono ?_;exact Aay
def sum_lt(neg j A B n m c d p q w)(J:RM w A n c (dF p))(M:RM w B m d (dF q))(hn:n<=1000000)(hm:m<=1000000)(V:(neg==j)=ζ)(F:p<q):
  CV 216 #[iv neg A n c,iv j B m d] w fun v w'=>mM (qg (zOf j (q-p))) v w':=by
 have S:=J.len;have G:=M.len;have L:n<=m:=by
  have h1:=eQ (n:=p) (k:=m) (ψ (show p<=q by omega) (eG aa));omega
 clear S G;have D:=aW F;clear F;go_enter adZ,adx;go_wp2_with fail;refine(je A B n m c d _ _ _ (J.ext (((Ext.new w _).alloc _).alloc _)) (M.ext (((Ext.new w _).alloc _).alloc _)) (cK _) (cK _)).mono ?_;rintro e w0 ⟨rfl,N⟩;rw[bf,bf];have T:=ML D.o;have c0:=(iI N).cell;have c1:=(iY N).cell;go_wp2;clear c0 c1 T;have Y0:=aX.blk (iI N);have Y1:=aX.blk (iY N);refine bO 10 [(ε,0),(ε,1),(ε,2),(ε,3),(ε,4),(ε,5),(ζ,6),(ζ,7),(ε,8),(ε,9)] ah ah ?_;refine bD [0,1,2,3,4,5] [(ζ,6),(ζ,7),(ε,8),(ε,9)] _ ah ?_;refine Gq ?_;refine bC 6 [(ζ,7),(ε,8),(ε,9)] ah ?_;intro K I;simp only[bJ];go_wp2_with fail;refine(wm B A m n d c _ _ _ (M.ext (fZ N).drew) (J.ext (fZ N).drew) aa L (by rw[bf,bf];have:=D.o;omega)).mono ?_;rintro e w1 ⟨v1,rfl,⟨A1,n1,c1,rfl,Z⟩,H⟩;have H:=H.jJ;go_wp2;refine I _ _ ⟨⟨w1,H⟩,rfl⟩ ?_;clear I K;refine bC 7 [(ε,8),(ε,9)] ah ?_;intro K I;simp only[bJ];go_wp2_with fail;refine(jb j A1 n1 c1 _ _ Z).mono ?_;exact Aay
def MJ(neg j A B n m c d p q w)(C:RM w A n c (dF p))(F:RM w B m d (dF q))(hn:n<=1000000)(D:m<=1000000):
  CV 216 #[iv neg A n c,iv j B m d] w fun v w'=>mM (qg (zOf neg p+zOf j q)) v w':=by
 cases hs:(neg==j)
 .rcases Nq p q with h|h
  .have:=sum_lt neg j A B n m c d p q w C F hn D hs h;have e:zOf neg p+zOf j q=zOf j (q-p):=by cases neg<;>cases j<;>simp[zOf] at hs⊢<;>omega
   rwa[e]
  .have:=V8 neg j A B n m c d p q w C F hn D hs h;have e:zOf neg p+zOf j q=zOf neg (p-q):=by cases neg<;>cases j<;>simp[zOf] at hs⊢<;>omega
   rwa[e]
 .obtain rfl:neg=j:=by simpa using hs
  have:=QA neg A B n m c d _ _ w C F hn D;rw[bf,bf] at this;have e:zOf neg p+zOf neg q=zOf neg (p+q):=by cases neg<;>simp[zOf]<;>omega
  rwa[e]
def RM.kF{w A n c}{z:Int}(h:RM w A n c (dF z.natAbs))(j:z.natAbs<lim):n<=400:=by
 have C:=h.len;have B:=ku j;omega
def nL(z):zOf (decide (z<0)) z.natAbs=z:=by
 by_cases h:z<0<;>simp[zOf,h]<;>omega
def mY(z):zOf (!decide (z<0)) z.natAbs= -z:=by
 by_cases h:z<0<;>simp[zOf,h]<;>omega

def Xb(v u x y w)(L:RI w v x)(M:RI w u y)(O:x.natAbs<lim)(S:y.natAbs<lim):
  CV 196 #[v,u] w fun v w'=>mM (qg (x+y)) v w':=by
 have D:=aW (ae2 L O);have V:=aW (ae2 M S);obtain⟨A,n,c,rfl,J⟩:=L;obtain⟨B,m,d,rfl,R⟩:=M;have hn:=J.kF O;have W:=R.kF S;go_enter func196,ntmps196;go_wp2_with fail;refine(iG _ A n c _ _ (J.ext (((Ext.new w _).alloc _).alloc _))).mono ?_;rintro e w1 ⟨rfl,H⟩;rw[D.o];have c0:=(iI H).cell;have c1:=(iY H).cell;go_wp2_with fail;refine(iG _ B m d _ _ (R.ext (fZ H))).mono ?_;rintro e w2 ⟨rfl,P⟩;rw[V.o];clear c0 c1;have P:=H.trans P;have c0:=(iI P).cell;have c1:=(iY P).cell;go_wp2_with fail;clear c0 c1;refine(MJ _ _ A B n m c d _ _ _ (J.ext (fZ P)) (R.ext (fZ P)) aa aa).mono ?_;rintro e Q ⟨T,rfl,⟨u,rfl,A2,n2,c2,rfl,G⟩,j⟩;rw[nL,nL] at G;rw[nL,nL];exact AaJ
def Wl(v u x y w)(L:RI w v x)(M:RI w u y)(O:x.natAbs<lim)(S:y.natAbs<lim):
  CV 200 #[v,u] w fun v w'=>mM (qg (x-y)) v w':=by
 have D:=aW (ae2 L O);have V:=aW (ae2 M S);obtain⟨A,n,c,rfl,J⟩:=L;obtain⟨B,m,d,rfl,R⟩:=M;have hn:=J.kF O;have W:=R.kF S;go_enter func200,ntmps200;go_wp2_with fail;refine(iG _ A n c _ _ (J.ext (((Ext.new w _).alloc _).alloc _))).mono ?_;rintro e w1 ⟨rfl,H⟩;rw[D.o];have c0:=(iI H).cell;have c1:=(iY H).cell;go_wp2_with fail;refine(iG _ B m d _ _ (R.ext (fZ H))).mono ?_;rintro e w2 ⟨rfl,P⟩;rw[V.o];clear c0 c1;have P:=H.trans P;have c0:=(iI P).cell;have c1:=(iY P).cell;go_wp2_with fail;clear c0 c1;refine(MJ _ _ A B n m c d _ _ _ (J.ext (fZ P)) (R.ext (fZ P)) aa aa).mono ?_;rintro e Q ⟨T,rfl,⟨u,rfl,A2,n2,c2,rfl,G⟩,j⟩;rw[nL,mY,<-ab0] at G;rw[nL,mY,<-ab0];exact AaJ
def FX{p q}(hp:p<lim)(hq:q<lim):(dF (p*q)).length<=800:=by
 have h:p*q<4294967296^(DX+DX):=by
  rw[aao];exact Nat.mul_lt_mul'' hp hq
 exact show(dF (p*q)).length<=DX+DX from eQ h
def UC(x y):zOf (decide (x<0) !=decide (y<0)) (x.natAbs*y.natAbs)=x*y:=by
 by_cases J:x<0
 .by_cases R:y<0
  .simp only[J,R,acF,bne_self_eq_false,zOf,NK,abA];have B:(x.natAbs:Int)= -x:=aa;have j:(y.natAbs:Int)= -y:=aa
   push_cast;rw[B,j,Int.neg_mul_neg]
  .simp only[J,R,acF,ad1,zOf];have B:(x.natAbs:Int)= -x:=aa;have j:(y.natAbs:Int)=y:=aa;simp only[show(ε !=ζ)=ε from rfl,aad]
   push_cast;rw[B,j,Int.neg_mul,Int.neg_neg]
 .by_cases R:y<0
  .simp only[J,R,acF,ad1,zOf];have B:(x.natAbs:Int)=x:=aa;have j:(y.natAbs:Int)= -y:=aa;simp only[show(ζ !=ε)=ε from rfl,aad]
   push_cast;rw[B,j,Int.mul_neg,Int.neg_neg]
  .simp only[J,R,ad1,bne_self_eq_false,zOf,NK,abA];have B:(x.natAbs:Int)=x:=aa;have j:(y.natAbs:Int)=y:=aa
   push_cast;rw[B,j]
def BS(x y):zOf (!(decide (x<0)==decide (y<0))) (x.natAbs*y.natAbs)=x*y:=UC x y
def Wi(v u x y w)(L:RI w v x)(M:RI w u y)(O:x.natAbs<lim)(S:y.natAbs<lim):
  CV 197 #[v,u] w fun v w'=>mM (qg (x*y)) v w':=by
 have G:=aW (ae2 L O);have V:=aW (ae2 M S);obtain⟨A,n,c,rfl,J⟩:=L;obtain⟨B,m,d,rfl,R⟩:=M;have hn:=J.kF O;have hm:=R.kF S;go_enter func197,ntmps197;go_wp2_with fail;refine(iG _ A n c _ _ (J.ext (((Ext.new w _).alloc _).alloc _))).mono ?_;rintro e w1 ⟨rfl,H⟩;rw[G.o];have c0:=(iI H).cell;have c1:=(iY H).cell;go_wp2_with fail;refine(iG _ B m d _ _ (R.ext (fZ H))).mono ?_;rintro e w2 ⟨rfl,P⟩;rw[V.o];clear c0 c1;have P:=H.trans P;have c0:=(iI P).cell;have c1:=(iY P).cell;go_wp2;clear c0 c1;have Y0:=aX.blk (iI P);have Y1:=aX.blk (iY P);refine bO 13 [(ε,0),(ε,1),(ε,2),(ε,3),(ε,4),(ε,5),(ε,6),(ε,7),(ε,8),(ζ,9),(ζ,10),(ε,11),(ε,12)] ah ah ?_;refine bD [0,1,2,3,4,5,6,7,8] [(ζ,9),(ζ,10),(ε,11),(ε,12)] _ ah ?_;refine Gq ?_;refine bC 9 [(ζ,10),(ε,11),(ε,12)] ah ?_;intro K I;simp only[bJ];go_wp2_with fail;refine(Ka A B n m c d _ _ _ (J.ext (fZ P).drew) (R.ext (fZ P).drew) aa aa).mono ?_;rintro e W ⟨v1,rfl,⟨A1,n1,c1,rfl,hR⟩,F⟩;have F:=Ext.jJ F;go_wp2;refine I _ _ ⟨⟨W,F⟩,rfl⟩ ?_;clear I K;refine bC 10 [(ε,11),(ε,12)] ah ?_;intro K I;simp only[bJ];go_wp2_with fail;refine(jb _ A1 n1 c1 _ _ hR).mono ?_;rintro e w5 ⟨v5,rfl,⟨u,rfl,A2,n2,c2,rfl,Q⟩,j⟩;have j:=F.trans j;go_wp2;refine I _ _ ⟨⟨w5,j⟩,rfl⟩ ?_;clear I K;rw[bf,bf,bf,BS] at Q;simp only[bf,BS];refine bD [11,12] [] _ ah ?_;refine Gq ?_;have D:=P.trans j;simp only[dh,ξ,τ];have b4:=mE D;have c4:=b4.cell;have f4:=b4.frozen;obtain⟨C,T,N⟩:=jO (fZ D) aa b4 _ A2 n2 c2;have Y:=aW C;have U:=aW T;have Z:=aW (N _ _ _ _ Q);clear C T N;exact AbC
def TW(v u x y w)(L:RI w v x)(M:RI w u y)(O:x.natAbs<lim)(S:y.natAbs<lim):
  CV 153 #[v,u] w fun v w'=>mM (qg (x*y)) v w':=by
 have Q:=aW (ae2 L O);have V:=aW (ae2 M S);obtain⟨A,n,c,rfl,J⟩:=L;obtain⟨B,m,d,rfl,R⟩:=M;have hn:=J.kF O;have hm:=R.kF S;go_enter func153,ntmps153;go_wp2_with fail;refine(fI _ A n c _ _ (J.ext (((Ext.new w _).alloc _).alloc _))).mono ?_;rintro e w1 ⟨rfl,H⟩;rw[Q.o];have c0:=(iI H).cell;have c1:=(iY H).cell;go_wp2_with fail;refine(fI _ B m d _ _ (R.ext (fZ H))).mono ?_;rintro e w2 ⟨rfl,P⟩;rw[V.o];clear c0 c1;have P:=H.trans P;have c0:=(iI P).cell;have c1:=(iY P).cell;go_wp2;clear c0 c1;have Y0:=aX.blk (iI P);have Y1:=aX.blk (iY P);refine bO 14 [(ε,0),(ε,1),(ε,2),(ε,3),(ε,4),(ε,5),(ε,6),(ε,7),(ε,8),(ζ,9),(ζ,10),(ζ,11),(ε,12),(ε,13)] ah ah ?_;refine bD [0,1,2,3,4,5,6,7,8] [(ζ,9),(ζ,10),(ζ,11),(ε,12),(ε,13)] _ ah ?_;refine Gq ?_;refine bC 9 [(ζ,10),(ζ,11),(ε,12),(ε,13)] ah ?_;intro K I;simp only[bJ];go_wp2_with fail;refine(xy A B n m c d _ _ _ (J.ext (fZ P).drew) (R.ext (fZ P).drew) aa aa).mono ?_;rintro e w3 ⟨v1,rfl,⟨A1,n1,c1,rfl,W⟩,F⟩;have F:=Ext.jJ F;go_wp2;refine I _ _ ⟨⟨w3,F⟩,rfl⟩ ?_;clear I K;rw[bf,bf] at W;have T:n1<=1000000:=by have:=W.len;have:=FX O S;omega
 refine bC 10 [(ζ,11),(ε,12),(ε,13)] ah ?_;intro K I;simp only[bJ];go_wp2_with fail;refine(iJ _ A1 n1 c1 _ _ W T).mono ?_;rintro e w4 ⟨v4,rfl,D,G⟩;have G:=F.trans G;go_wp2;refine I _ _ ⟨⟨w4,G⟩,rfl⟩ ?_;clear I K;rw[bf,BS] at D;refine bC 11 [(ε,12),(ε,13)] ah ?_;intro K I;simp only[bJ];go_wp2_with fail;refine(kH v4 _ _ D).mono ?_;rintro e w5 ⟨v5,rfl,⟨u,rfl,A2,n2,c2,rfl,hI⟩,j⟩;have j:=G.trans j;go_wp2;refine I _ _ ⟨⟨w5,j⟩,rfl⟩ ?_;clear I K;refine bD [12,13] [] _ ah ?_;refine Gq ?_;have N:=P.trans j;simp only[dh,ξ,τ];have b4:=mE N;have c4:=b4.cell;have f4:=b4.frozen;obtain⟨C,Z,Y⟩:=jO (fZ N) aa b4 _ A2 n2 c2;have K1:=aW C;have U:=aW Z;have K3:=aW (Y _ _ _ _ hI);clear C Z Y;exact Acr
def Sq{x y}(h:decide (x<0)=decide (y<0)):zOf (decide (x<0)) (x.natAbs+y.natAbs)=x+y:=by
 by_cases J:x<0
 .have R:y<0:=by simpa[J] using h
  simp[zOf,J];omega
 .have R:¬y<0:=by simpa[J] using h
  simp[zOf,J];omega
def JL{x y}(h:¬decide (x<0)=decide (y<0))(j:y.natAbs<=x.natAbs):zOf (decide (x<0)) (x.natAbs-y.natAbs)=x+y:=by
 by_cases J:x<0
 .have R:¬y<0:=by simpa[J] using h
  simp[zOf,J];omega
 .have R:y<0:=by simpa[J] using h
  simp[zOf,J];omega
def Pf(v u x y w)(L:RI w v x)(M:RI w u y)(O:x.natAbs<lim)(S:y.natAbs<lim)(hs:decide (x<0)=decide (y<0)):
  CV 152 #[v,u] w fun v w'=>mM (qg (x+y)) v w':=by
 have T:=aW (ae2 L O);have V:=aW (ae2 M S);obtain⟨A,n,c,rfl,J⟩:=L;obtain⟨B,m,d,rfl,R⟩:=M;have hn:=J.kF O;have hm:=R.kF S;have YA:(decide (x<0)==decide (y<0))=ε:=by simpa using hs
 have HS:=aW hs;clear hs;go_enter ad2,ady;go_wp2_with fail;refine(fI _ A n c _ _ (J.ext (((Ext.new w _).alloc _).alloc _))).mono ?_;rintro e w1 ⟨rfl,H⟩;rw[T.o];have c0:=(iI H).cell;have c1:=(iY H).cell;go_wp2_with fail;refine(fI _ B m d _ _ (R.ext (fZ H))).mono ?_;rintro e w2 ⟨rfl,P⟩;rw[V.o];clear c0 c1;have P:=H.trans P;have c0:=(iI P).cell;have c1:=(iY P).cell;go_wp2;clear c0 c1;have Y0:=aX.blk (iI P);have Y1:=aX.blk (iY P);refine bO 11 [(ε,0),(ε,1),(ε,2),(ε,3),(ε,4),(ε,5),(ζ,6),(ζ,7),(ζ,8),(ε,9),(ε,10)] ah ah ?_;refine bD [0,1,2,3,4,5] [(ζ,6),(ζ,7),(ζ,8),(ε,9),(ε,10)] _ ah ?_;refine Gq ?_;refine bC 6 [(ζ,7),(ζ,8),(ε,9),(ε,10)] ah ?_;intro K I;simp only[bJ];go_wp2_with fail;refine(EM A B n m c d _ _ _ (J.ext (fZ P).drew) (R.ext (fZ P).drew) aa aa).mono ?_;rintro e w3 ⟨v1,rfl,⟨l1,⟨A1,n1,c1,rfl,hR⟩,N,Y⟩,F⟩;have F:=Ext.jJ F;go_wp2;refine I _ _ ⟨⟨w3,F⟩,rfl⟩ ?_;clear I K;rw[bf,bf] at N;have W:n1<=1000000:=by have:=hR.len;omega
 refine bC 7 [(ζ,8),(ε,9),(ε,10)] ah ?_;intro K I;simp only[bJ];go_wp2_with fail;refine(iJ _ A1 n1 c1 _ _ hR W).mono ?_;rintro e w4 ⟨v4,rfl,D,G⟩;have G:=F.trans G;go_wp2;refine I _ _ ⟨⟨w4,G⟩,rfl⟩ ?_;clear I K;rw[N,Sq HS.o] at D;refine bC 8 [(ε,9),(ε,10)] ah ?_;intro K I;simp only[bJ];go_wp2_with fail;refine(kH v4 _ _ D).mono ?_;rintro e w5 ⟨v5,rfl,⟨u,rfl,A2,n2,c2,rfl,hI⟩,j⟩;have j:=G.trans j;go_wp2;refine I _ _ ⟨⟨w5,j⟩,rfl⟩ ?_;clear I K;refine bD [9,10] [] _ ah ?_;refine Gq ?_;have Q:=P.trans j;simp only[dh,ξ,τ];have b4:=mE Q;have c4:=b4.cell;have f4:=b4.frozen;obtain⟨C,k2,Z⟩:=jO (fZ Q) aa b4 _ A2 n2 c2;have K1:=aW C;have U:=aW k2;have K3:=aW (Z _ _ _ _ hI);clear C k2 Z;exact Acr
def UH(v u x y w)(L:RI w v x)(M:RI w u y)(O:x.natAbs<lim)(S:y.natAbs<lim)(hs:¬decide (x<0)=decide (y<0))(Y:y.natAbs<=x.natAbs):
  CV 152 #[v,u] w fun v w'=>mM (qg (x+y)) v w':=by
 have YC:=aW (ae2 L O);have V:=aW (ae2 M S);obtain⟨A,n,c,rfl,J⟩:=L;obtain⟨B,m,d,rfl,R⟩:=M;have hn:=J.kF O;have hm:=R.kF S;have YA:(decide (x<0)==decide (y<0))=ζ:=by simpa using hs
 have HS:=aW hs;clear hs;have Z:=aW Y;clear Y;have Q:m<=n:=by
  have h0:=Z.o;have h1:=J.len;have h2:=R.len;have h3:=eQ (n:=y.natAbs) (k:=n) (ψ (show y.natAbs<=x.natAbs by omega) (eG aa));omega
 go_enter ad2,ady;go_wp2_with fail;refine(fI _ A n c _ _ (J.ext (((Ext.new w _).alloc _).alloc _))).mono ?_;rintro e w1 ⟨rfl,H⟩;rw[YC.o];have c0:=(iI H).cell;have c1:=(iY H).cell;go_wp2_with fail;refine(fI _ B m d _ _ (R.ext (fZ H))).mono ?_;rintro e w2 ⟨rfl,P⟩;rw[V.o];clear c0 c1;have P:=H.trans P;have c0:=(iI P).cell;have c1:=(iY P).cell;go_wp2_with fail;clear c0 c1;refine(iW A B n m c d _ _ _ (J.ext (fZ P)) (R.ext (fZ P)) (cK _) (cK _)).mono ?_;rintro e w0 ⟨rfl,N⟩;rw[bf,bf];have T:=M5 Z.o;have P:=P.trans N;have c0:=(iI P).cell;have c1:=(iY P).cell;go_wp2;clear c0 c1 T;have Y0:=aX.blk (iI P);have Y1:=aX.blk (iY P);refine bO 11 [(ε,0),(ε,1),(ε,2),(ε,3),(ε,4),(ε,5),(ζ,6),(ζ,7),(ζ,8),(ε,9),(ε,10)] ah ah ?_;refine bD [0,1,2,3,4,5] [(ζ,6),(ζ,7),(ζ,8),(ε,9),(ε,10)] _ ah ?_;refine Gq ?_;refine bC 6 [(ζ,7),(ζ,8),(ε,9),(ε,10)] ah ?_;intro K I;simp only[bJ];go_wp2_with fail;refine(xu A B n m c d _ _ _ (J.ext (fZ P).drew) (R.ext (fZ P).drew) aa Q (by rw[bf,bf];have:=Z.o;omega)).mono ?_;rintro e w3 ⟨v1,rfl,⟨A1,n1,c1,rfl,hR⟩,F⟩;have F:=Ext.jJ F;go_wp2;refine I _ _ ⟨⟨w3,F⟩,rfl⟩ ?_;clear I K;rw[bf,bf] at hR;have Zq:n1<=1000000:=by
  have h1:=hR.len;have h2:=ku (m:=x.natAbs-y.natAbs) aa;omega
 refine bC 7 [(ζ,8),(ε,9),(ε,10)] ah ?_;intro K I;simp only[bJ];go_wp2_with fail;refine(iJ _ A1 n1 c1 _ _ hR Zq).mono ?_;rintro e w4 ⟨v4,rfl,D,G⟩;have G:=F.trans G;go_wp2;refine I _ _ ⟨⟨w4,G⟩,rfl⟩ ?_;clear I K;rw[bf,JL HS.o Z.o] at D;exact Aav
def Tx(v u x y w)(L:RI w v x)(M:RI w u y)(O:x.natAbs<lim)(S:y.natAbs<lim)(hs:¬decide (x<0)=decide (y<0))(Y:x.natAbs<y.natAbs):
  CV 152 #[v,u] w fun v w'=>mM (qg (x+y)) v w':=by
 have YC:=aW (ae2 L O);have V:=aW (ae2 M S);obtain⟨A,n,c,rfl,J⟩:=L;obtain⟨B,m,d,rfl,R⟩:=M;have hn:=J.kF O;have hm:=R.kF S;have YA:(decide (x<0)==decide (y<0))=ζ:=by simpa using hs
 have HS:=aW hs;clear hs;have Z:=aW Y;clear Y;have Q:n<=m:=by
  have h0:=Z.o;have h1:=R.len;have h2:=J.len;have h3:=eQ (n:=x.natAbs) (k:=m) (ψ (show x.natAbs<=y.natAbs by omega) (eG aa));omega
 go_enter ad2,ady;go_wp2_with fail;refine(fI _ A n c _ _ (J.ext (((Ext.new w _).alloc _).alloc _))).mono ?_;rintro e w1 ⟨rfl,H⟩;rw[YC.o];have c0:=(iI H).cell;have c1:=(iY H).cell;go_wp2_with fail;refine(fI _ B m d _ _ (R.ext (fZ H))).mono ?_;rintro e w2 ⟨rfl,P⟩;rw[V.o];clear c0 c1;have P:=H.trans P;have c0:=(iI P).cell;have c1:=(iY P).cell;go_wp2_with fail;clear c0 c1;refine(iW A B n m c d _ _ _ (J.ext (fZ P)) (R.ext (fZ P)) (cK _) (cK _)).mono ?_;rintro e w0 ⟨rfl,N⟩;rw[bf,bf];have T:=ML Z.o;have P:=P.trans N;have c0:=(iI P).cell;have c1:=(iY P).cell;go_wp2;clear c0 c1 T;have Y0:=aX.blk (iI P);have Y1:=aX.blk (iY P);refine bO 11 [(ε,0),(ε,1),(ε,2),(ε,3),(ε,4),(ε,5),(ζ,6),(ζ,7),(ζ,8),(ε,9),(ε,10)] ah ah ?_;refine bD [0,1,2,3,4,5] [(ζ,6),(ζ,7),(ζ,8),(ε,9),(ε,10)] _ ah ?_;refine Gq ?_;refine bC 6 [(ζ,7),(ζ,8),(ε,9),(ε,10)] ah ?_;intro K I;simp only[bJ];go_wp2_with fail;refine(xu B A m n d c _ _ _ (R.ext (fZ P).drew) (J.ext (fZ P).drew) aa Q (by rw[bf,bf];have:=Z.o;omega)).mono ?_;rintro e w3 ⟨v1,rfl,⟨A1,n1,c1,rfl,hR⟩,F⟩;have F:=Ext.jJ F;go_wp2;refine I _ _ ⟨⟨w3,F⟩,rfl⟩ ?_;clear I K;rw[bf,bf] at hR;have Zq:n1<=1000000:=by
  have h1:=hR.len;have h2:=ku (m:=y.natAbs-x.natAbs) aa;omega
 refine bC 7 [(ζ,8),(ε,9),(ε,10)] ah ?_;intro K I;simp only[bJ];go_wp2_with fail;refine(iJ _ A1 n1 c1 _ _ hR Zq).mono ?_;rintro e w4 ⟨v4,rfl,D,G⟩;have G:=F.trans G;go_wp2;refine I _ _ ⟨⟨w4,G⟩,rfl⟩ ?_;clear I K;rw[bf,JL (fun h=>HS.o h.symm) (aah Z.o),Int.add_comm] at D;exact Aav
def NZ(v u x y w)(L:RI w v x)(M:RI w u y)(O:x.natAbs<lim)(S:y.natAbs<lim):
  CV 152 #[v,u] w fun v w'=>mM (qg (x+y)) v w':=by
 by_cases hs:decide (x<0)=decide (y<0)
 .exact Pf v u x y w L M O S hs
 .rcases Nq x.natAbs y.natAbs with h|h
  .exact Tx v u x y w L M O S hs h
  .exact UH v u x y w L M O S hs h
def pG{w w1}{x r:Obj}(J:Ext ((w.alloc x).alloc r) w1):Ext w w1:=((Ext.new w _).alloc _).trans J
def Fe{w w1:World}{cs t}{r:Obj}(J:Ext ((w.alloc (.cells cs t)).alloc r) w1):Blk w1 w.heap.size t cs:=((Blk.new w t cs).alloc _).ext J
def zU{w w1:World}{cs t}{x:Obj}(J:Ext ((w.alloc x).alloc (.cells cs t)) w1):Blk w1 (w.heap.size+1) t cs:=(aeV t cs ag).ext J
def Wv(v x z w)(L:RI w v x)(O:x.natAbs<lim)(M:z= -x):
  CV 199 #[v] w fun v w'=>mM (z,0) v w':=by
 have R:=aW M;have D:=aW (ae2 L O);obtain⟨A,n,c,rfl,J⟩:=L;have hn:=J.kF O;have P:=aW (kW (z:=z) aa);clear M;go_enter func199,ntmps199;go_wp2_with fail;refine(iG _ A n c _ _ (J.ext ((Ext.new w _).alloc _))).mono ?_;rintro e w1 ⟨rfl,H⟩;rw[D.o];go_wp2;have Y0:=aX.blk (Fe H);refine bO 9 [(ε,0),(ε,1),(ε,2),(ε,3),(ε,4),(ζ,5),(ζ,6),(ε,7),(ε,8)] ah ah ?_;refine bD [0,1,2,3,4] [(ζ,5),(ζ,6),(ε,7),(ε,8)] _ ah ?_;refine Gq ?_;refine bC 5 [(ζ,6),(ε,7),(ε,8)] ah ?_;intro K I;simp only[bJ];go_wp2_with fail;refine(uW A n c _ _ (J.ext (pG H).drew) aa).mono ?_;rintro e S ⟨v1,rfl,⟨A1,n1,c1,rfl,W⟩,F⟩;have F:=Ext.jJ F;go_wp2;refine I _ _ ⟨⟨S,F⟩,rfl⟩ ?_;clear I K;refine bC 6 [(ε,7),(ε,8)] ah ?_;intro K I;simp only[bJ];go_wp2_with fail;refine(jb _ A1 n1 c1 _ _ W).mono ?_;rintro e Y ⟨Z,rfl,⟨u,rfl,A2,n2,c2,rfl,N⟩,j⟩;have j:=F.trans j;go_wp2;refine I _ _ ⟨⟨Y,j⟩,rfl⟩ ?_;clear I K;rw[bf,mY,<-R.o,P.o] at N;simp only[bf,mY,<-R.o,P.o];refine bD [7,8] [] _ ah ?_;refine Gq ?_;have B:=H.trans j;simp only[dh,ξ,τ];have b4:=zU B;have c4:=b4.cell;have f4:=b4.frozen;obtain⟨C,Q,G⟩:=jO (pG B) aa b4 _ A2 n2 c2;have T:=aW C;have U:=aW Q;have V:=aW (G _ _ _ _ N);clear C Q G;go_wp2;exact iK rfl rfl rfl U.o ⟨_,rfl,⟨_,rfl,_,_,_,rfl,V.o⟩,T.o⟩
def Vw(v x z w)(L:RI w v x)(O:x.natAbs<lim)(F:z= -x):
  CV 181 #[v] w fun v w'=>mM (z,0) v w':=by
 have K:=aW F;have B:=aW (ae2 L O);obtain⟨A,n,c,rfl,J⟩:=L;have hn:=J.kF O;clear F;go_enter func181,ntmps181;go_wp2_with fail;refine(fI _ A n c _ _ (J.ext ((Ext.new w _).alloc _))).mono ?_;rintro e w1 ⟨rfl,H⟩;rw[B.o];have c0:=(Fe H).cell;go_wp2_with fail;clear c0;refine(iJ _ A n c _ _ (J.ext (pG H)) aa).mono ?_;rintro e P ⟨Q,rfl,⟨A2,n2,c2,rfl,G⟩,j⟩;rw[bf,mY,<-K.o] at G;rw[bf,mY,<-K.o];have j:=H.trans j;have b4:=zU j;have c4:=b4.cell;have R:=b4.frozen;obtain⟨C,I,D⟩:=jO (pG j) aa b4 _ A2 n2 c2;have M:=aW C;have U:=aW I;have N:=aW (D _ _ _ _ G);clear C I D;go_wp2;exact iK rfl rfl rfl U.o ⟨_,rfl,⟨_,rfl,_,_,_,rfl,N.o⟩,M.o⟩

def Vo(v u x y w)(L:RI w v x)(M:RI w u y)(O:x.natAbs<lim)(S:y.natAbs<lim):
  CV 148 #[v,u] w fun v w'=>mM (qg (x-y)) v w':=by
 obtain⟨z,T⟩:∃z,z= -y:=⟨_,rfl⟩;have F:=aW (ae2 L O);obtain⟨A,n,c,rfl,J⟩:=L;obtain⟨B,m,d,rfl,R⟩:=M;have D:z.natAbs<lim:=aa;have K:=aW T;clear T;go_enter func148,ntmps148;go_wp2_with fail;refine(Vw (iv (decide (y<0)) B m d) y z _ (show RI _ _ _ from ⟨_,_,_,rfl,R.ext (((Ext.new w _).alloc _).alloc _)⟩) S K.o).mono ?_;rintro e w1 ⟨v1,rfl,⟨u1,rfl,A1,n1,c1,rfl,I⟩,H⟩;have G:=((iI H).alloc (.cells #[(decide (z<0)),aO A1 n1 c1] 40)).cell;go_wp2_with fail;refine(fI _ A n c _ _ (J.ext ((fZ H).alloc _))).mono ?_;rintro e w2 ⟨rfl,P⟩;clear G;rw[F.o];have G:=((iI H).ext ((Ext.new w1 _).trans P)).cell;have b1:=((Blk.new w1 40 #[(decide (z<0)),aO A1 n1 c1]).ext P).cell;have N:=H.trans ((Ext.new w1 _).trans P);go_wp2_with fail;clear G b1;refine(NZ _ _ x z _ (show RI _ _ _ from ⟨_,_,_,rfl,J.ext (fZ N)⟩) (show RI _ _ _ from ⟨_,_,_,rfl,I.ext ((Ext.new w1 _).trans P)⟩) O D).mono ?_;rintro e w3 ⟨v2,rfl,⟨u,rfl,A2,n2,c2,rfl,V⟩,j⟩;rw[K.o,<-ab0] at V;rw[show x+z=x-y by rw[K.o,ab0]];have j:=N.trans j;have b4:=mE j;have c4:=b4.cell;have f4:=b4.frozen;obtain⟨C,W,Q⟩:=jO (fZ j) aa b4 _ A2 n2 c2;have Y:=aW C;have U:=aW W;have Z:=aW (Q _ _ _ _ V);clear C W Q;exact AbC

def ug (a b:Int):Int:=if a<b then-1 else if b<a then 1 else 0
theorem Ni{x y}(J:x<0)(R:¬y<0): -1=ug x y:=by unfold ug;rw[ι aa]
theorem NQ{x y}(J:¬x<0)(R:y<0):1=ug x y:=by unfold ug;rw[θ aa,ι aa]
theorem Mm{x y}(J:¬x<0)(R:¬y<0):nY x.natAbs y.natAbs=ug x y:=by
 unfold ug nY;by_cases B:x<y
 .rw[ι B,ι aa]
 .rw[θ B,θ aa];by_cases j:y<x
  .rw[ι j,ι aa]
  .rw[θ j,θ aa]
theorem MR{x y}(J:x<0)(R:y<0):nY y.natAbs x.natAbs=ug x y:=by
 unfold ug nY;by_cases B:x<y
 .rw[ι B,ι aa]
 .rw[θ B,θ aa];by_cases j:y<x
  .rw[ι j,ι aa]
  .rw[θ j,θ aa]
def KU(v u x y w)(L:RI w v x)(M:RI w u y)(O:x.natAbs<lim)(S:y.natAbs<lim):
  CE 52 #[v,u] w (.int .i64 (ug x y)):=by
 have F:=aW (ae2 L O);have V:=aW (ae2 M S);obtain⟨A,n,c,rfl,J⟩:=L;obtain⟨B,m,d,rfl,R⟩:=M;go_enter func52,ntmps52;go_wp2_with fail;refine(iG _ A n c _ _ (J.ext ((Ext.new w _).alloc _))).mono ?_;rintro e w1 ⟨rfl,H⟩;rw[F.o];have c0:=(Fe H).cell;have c1:=(zU H).cell;go_wp2_with fail;refine(iG _ B m d _ _ (R.ext (pG H))).mono ?_;rintro e w2 ⟨rfl,P⟩;rw[V.o];clear c0 c1;have P:=H.trans P;have c0:=(Fe P).cell;have c1:=(zU P).cell;by_cases G:x<0
 .have K:decide (x<0)=ε:=Λ G;by_cases C:y<0
  .have D:decide (y<0)=ε:=Λ C;go_wp2_with fail;clear c0 c1;refine(je B A m n d c _ _ _ (R.ext (pG P)) (J.ext (pG P)) (cK _) (cK _)).mono ?_;exact Abj
  .exact AcQ
 .have K:decide (x<0)=ζ:=ρ G;by_cases C:y<0
  .exact Ade
  .have D:decide (y<0)=ζ:=ρ C;go_wp2_with fail;clear c0 c1;refine(je A B n m c d _ _ _ (J.ext (pG P)) (R.ext (pG P)) (cK _) (cK _)).mono ?_;exact Acf
def Il(v u x y w)(L:RI w v x)(M:RI w u y)(O:x.natAbs<lim)(S:y.natAbs<lim):
  CE 147 #[v,u] w (.int .i64 (ug x y)):=by
 have F:=aW (ae2 L O);have V:=aW (ae2 M S);obtain⟨A,n,c,rfl,J⟩:=L;obtain⟨B,m,d,rfl,R⟩:=M;go_enter func147,ntmps147;go_wp2_with fail;refine(fI _ A n c _ _ (J.ext ((Ext.new w _).alloc _))).mono ?_;rintro e w1 ⟨rfl,H⟩;rw[F.o];have c0:=(Fe H).cell;have c1:=(zU H).cell;go_wp2_with fail;refine(fI _ B m d _ _ (R.ext (pG H))).mono ?_;rintro e w2 ⟨rfl,P⟩;rw[V.o];clear c0 c1;have P:=H.trans P;have c0:=(Fe P).cell;have c1:=(zU P).cell;by_cases G:x<0
 .have K:decide (x<0)=ε:=Λ G;by_cases C:y<0
  .have D:decide (y<0)=ε:=Λ C;go_wp2_with fail;clear c0 c1;refine(iW B A m n d c _ _ _ (R.ext (pG P)) (J.ext (pG P)) (cK _) (cK _)).mono ?_;exact Abj
  .exact AcQ
 .have K:decide (x<0)=ζ:=ρ G;by_cases C:y<0
  .exact Ade
  .have D:decide (y<0)=ζ:=ρ C;go_wp2_with fail;clear c0 c1;refine(iW A B n m c d _ _ _ (J.ext (pG P)) (R.ext (pG P)) (cK _) (cK _)).mono ?_;exact Acf
theorem UY(v x w)(L:RI w v x)(O:x.natAbs<lim):
  CE 143 #[v] w (.int .i64 (ug x 0)):=by
 obtain⟨A,n,c,rfl,J⟩:=L;go_enter func143,ntmps143;go_wp2_with fail;refine(KU _ _ x 0 _ (show RI _ _ _ from ⟨_,_,_,rfl,J.ext (Ext.new w _)⟩) (RI.zero _) O (by unfold lim;exact Na aa)).mono ?_;exact AbB
theorem PW(v x w)(L:RI w v x)(O:x.natAbs<lim):
  CE 99 #[v] w (.int .i64 (ug x 0)):=by
 obtain⟨A,n,c,rfl,J⟩:=L;go_enter func99,ntmps99;go_wp2_with fail;refine(Il _ _ x 0 _ (show RI _ _ _ from ⟨_,_,_,rfl,J.ext (Ext.new w _)⟩) (RI.zero _) O (by unfold lim;exact Na aa)).mono ?_;exact AbB
def Ve{x:Nat}(J:x<18446744073709551616):bits .or .u64 ((0:Nat):Int) (x:Int)=(x:Int):=by
 rw[u64_or_nat 0 x aa J];simp
def Vz{a x:Nat}(ha:a<4294967296)(J:x<4294967296):bits .or .u64 (a:Int) ((x:Int)*4294967296)=((a+4294967296*x:Nat):Int):=by
 rw[u64_or32 _ _ aa aa aa aa aa];omega
def or_hi{a x:Nat}(ha:a<4294967296)(J:x<4294967296):bits .or .u64 ((a:Int)*4294967296) (x:Int)=((x+4294967296*a:Nat):Int):=by
 rw[bits_join .u64 64 aj wraps_u64 32 _ _ aa aa aa aa aa aa];omega
def IJ(A n c l w)(h:RM w A n c l)(hn:n<=2):
  Calls prog 202 #[aO A n c] w fun e w'=>e=.returned (.int .u64 (val l:Int))/\w=w':=by
 have F:=aW h.len;go_enter func202,ntmps202;go_wp2;go_loop [3,8] (fun wv i=>∃k:Nat,k<=n/\i=.int .i64 k/\wv=.int .u64 (val (l.take k):Int)) (fun _ i=>n-(intOf i).toNat)
 case atStart=>exact⟨0,aa,rfl,rfl⟩
 case round=>
  obtain⟨k,I,rfl,rfl⟩:=hrel;by_cases B:k<n
  .obtain⟨C,x,rfl,_,J,G,j⟩:=h.at_ B;have H:=aW (bX J);rcases(show k=0\/k=1 by omega) with rfl|rfl
   .have e0:val (l.take 0)=0:=rfl;have Q:w.cell? C=γ (.int .u32 (x:Int)):=j;clear J;go_wp2;go_round
    case rel=>exact⟨1,aa,au,congrArg (fun z:Int=>Value.int .u64 z) (by rw[show bits .or .u64 ((val []:Nat):Int) (x:Int)=(x:Int) from Ve aa,H.o];simp[val])⟩
    case measure=>simp[aT,intOf]<;>omega
   .have hb:=mW (h.dg.take 1);rw[Bn] at hb;have D:val (l.take 1)<4294967296:=ο hb (by have:=F.o;rw[aam aa];exact κ _);clear hb J;have Q:w.cell? (aM C.block (C.off+1))=γ (.int .u32 (x:Int)):=by simpa[Addr.add] using j
    go_wp2;go_round
    case rel=>exact⟨2,aa,au,congrArg (fun z:Int=>Value.int .u64 z) (by rw[Vz D G,H.o])⟩
    case measure=>simp[aT,intOf]<;>omega
  .go_wp2;go_ret;exact⟨aZ (by rw[χ (by rw[F.o];omega)]),rfl⟩
def QU{m}(h:m<18446744073709551616):18446744073709551615^^^m=18446744073709551615-m:=by
 have j:(BitVec.allOnes 64^^^BitVec.ofNat 64 m).toNat=(BitVec.allOnes 64).toNat^^^(BitVec.ofNat 64 m).toNat:=BitVec.toNat_xor _ _;rw[BitVec.allOnes_xor,BitVec.toNat_not,BitVec.toNat_ofNat,BitVec.toNat_allOnes,aaO aa] at j;exact j.symm
def Uy{m:Nat}(h:m<18446744073709551616):bits .xor .u64 IntKind.u64.max (m:Int)=((18446744073709551615-m:Nat):Int):=by
 rw[show IntKind.u64.max=((18446744073709551615:Nat):Int) from rfl,u64_xor_nat _ _ aa h,QU h]
def xA{l:List Nat}{k x}(h:l[k]? =γ x):val (l.drop k)=x+4294967296*val (l.drop (k+1)):=by
 obtain⟨j,rfl⟩:=μ.1 h;rw[aaA j,val]
theorem OH{p q}:(nY p q==0)=decide (p=q):=by
 unfold nY;rcases ab7 p q with h|h|h
 .simp[h];omega
 .simp[h]
 .have:¬p<q:=aa;simp[h,this];omega
def Qb{x y:Int}(h:decide (x<0)=decide (y<0)):decide (x.natAbs=y.natAbs)=decide (x=y):=by
 by_cases J:x<0
 .have R:y<0:=by simpa[J] using h
  rw[decide_eq_decide];omega
 .have R:¬y<0:=by simpa[J] using h
  rw[decide_eq_decide];omega
def OD(v u x y w)(L:RI w v x)(M:RI w u y):
  CE 69 #[v,u] w (.bool (decide (x=y))):=by
 obtain⟨A,n,c,rfl,J⟩:=L;obtain⟨B,m,d,rfl,R⟩:=M;by_cases hs:decide (x<0)=decide (y<0)
 .have C:(decide (x<0)==decide (y<0))=ε:=by simpa using hs
  have D:=aW hs;clear hs;go_enter func69,ntmps69;go_wp2_with fail;refine(iW A B n m c d _ _ _ (J.ext ((Ext.new w _).alloc _)) (R.ext ((Ext.new w _).alloc _)) (cK _) (cK _)).mono ?_;rintro e w1 ⟨rfl,H⟩;go_wp2;go_ret;refine⟨bE ?_,((Ext.new w _).alloc _).trans H⟩;rw[bf,bf,OH,Qb D.o]
 .have C:(decide (x<0)==decide (y<0))=ζ:=by simpa using hs
  have j:x≠y:=fun e=>hs (by rw[e]);go_enter func69,ntmps69;go_wp2;go_ret;exact⟨bE (by simp[j]),(Ext.new w _).alloc _⟩
def Rj{m:Nat}(j:0<m)(h:m<=9223372036854775808):IntKind.u64.wrap (bits .xor .u64 IntKind.u64.max (IntKind.u64.wrap (-(m:Int)))+1)=(m:Int):=by
 have e:IntKind.u64.wrap (-(m:Int))=((18446744073709551616-m:Nat):Int):=by rw[jX];omega
 rw[e,Uy aa,jX];omega
def Ty(n w)(O: -9223372036854775808<=n)(N:n<=9223372036854775807):
  CV 102 #[.int .i64 n] w fun v w'=>RI w' v n:=by
 obtain⟨z,F⟩:∃z,z=n:=⟨_,rfl⟩;by_cases S:n<0
 .obtain⟨m,rfl⟩:∃m:Nat,n= -(m:Int):=⟨n.natAbs,aa⟩;rw[<-F];have B:=aW F;clear F;rw[B.o];go_enter func102,ntmps102;go_wp2_with fail;rw[Rj aa aa];refine(qM m _ aa).mono ?_;rintro e w1 ⟨v1,rfl,⟨A1,n1,c1,rfl,K⟩,H⟩;go_wp2_with fail;have D:n1<=1000000:=by
   have O:=K.len;have N:=eQ (n:=m) (k:=2) aa;omega
  refine(iJ ε A1 n1 c1 _ _ K D).mono ?_;rintro e P ⟨Q,rfl,⟨A2,n2,c2,rfl,I⟩,j⟩;rw[bf,Gh,<-B.o] at I;rw[bf,Gh,<-B.o];exact AaB
 .obtain⟨m,rfl⟩:∃m:Nat,n=(m:Int):=⟨n.natAbs,aa⟩;rw[<-F];have B:=aW F;clear F;rw[B.o];go_enter func102,ntmps102;go_wp2_with fail;refine(qM m _ aa).mono ?_;rintro e w1 ⟨v1,rfl,⟨A1,n1,c1,rfl,K⟩,H⟩;go_wp2_with fail;have D:n1<=1000000:=by
   have O:=K.len;have N:=eQ (n:=m) (k:=2) aa;omega
  refine(iJ ζ A1 n1 c1 _ _ K D).mono ?_;rintro e P ⟨Q,rfl,⟨A2,n2,c2,rfl,I⟩,j⟩;rw[bf,AX,<-B.o] at I;rw[bf,AX,<-B.o];exact AaB
def zy (w:World) (g:Nat) (p:List Nat) (r:List Value):Prop:=Blk w g 208 (mg p++r).toArray/\Dig p
section
variable {w w':World} {g k d n c:Nat} {p:List Nat} {r:List Value} {z:Int}
def zy.at_(h:zy w g p r)(B:k<p.length):∃z,p[k]? =γ z/\z<4294967296/\w.cell? (aM g k)=γ (.int .u32 (z:Int))/\w.frozen? ⟨g,k,δ⟩=ζ:=by
 have j:p[k]? =γ p[k]:=ν B;refine⟨p[k],j,h.2.at_ j,?_,h.1.frozen k⟩;rw[h.1.cell];have:=pY j;rw[Γ,Ω (by rw[ry];exact B)];exact this
def zy.set(h:zy w g p r)(j:k<p.length)(B:z=(d:Int))(hd:d<4294967296):zy (w.setCell ⟨g,k,δ⟩ (.int .u32 z)) g (p.set k d) r:=by
 have:=h.1.QI (i:=k) (.int .u32 z);rw[adq _ _ (by rw[ry];exact j),GD B] at this;exact⟨this,h.2.set k hd⟩
def zy.rm(h:zy w g p r)(hn:p.length=n)(hc:n<=c)(C:c<=9223372036854775807):RM w (γ ⟨g,0,δ⟩) n c p:=by
 refine⟨⟨by rw[ry];omega,fun _=>⟨_,rfl,h.1.lt,fun j u B=> ?_⟩⟩,h.2,hc,C⟩;rw[Sd,h.1.cell,Γ,Ω]
 .exact B
 .exact(μ.1 B).1
def agH{base v}(h:w.ownsRow base 208 1 v n (mg p))(hd:Dig p):(v=.slice δ 0 0/\n=0/\p=[])\/∃g N r,v=.slice (γ (aM g 0)) n N/\base<=g/\zy w g p r/\n<=N/\N<=9223372036854775807:=by
 rcases h.2 with ⟨B,j⟩|⟨g,N,cur,B,j,G,C,D,H,F⟩
 .refine .inl ⟨B,j,?_⟩;have:=h.1;rw[ry,j] at this;exact KP aa
 .refine .inr ⟨g,N,cur.toList.drop n,B,j,⟨?_,hd⟩,C,D⟩;rw[<-F,aap,acj];exact G
end
def T9{p q:List Nat}{j y}(B:j<p.length):(p.take (j+1)++q).set j y=p.take j++(y::q):=by
 rw[aaN B,I5,abJ _ _ ae];simp[aam (aah B)]
def Nr{p q:List Nat}{j x d rest B}(J:p[j]? =γ x)(hn:B=x+4294967296*rest)(h:val (p.drop (j+1))=d*val q+rest):val (p.drop j)=d*val (B/d::q)+B%d:=by
 rw[xA J,h,val,ω,ω];have D:=aby B d;have C:d*(4294967296*val q)=4294967296*(d*val q):=abf _ _ _;omega
def Vx{x d rest B}(J:x<4294967296)(j:rest<d)(hn:B=x+4294967296*rest):B/d<4294967296:=by
 rw[aaQ aa];have:4294967296*(rest+1)<=4294967296*d:=Ξ _ j;omega
def Ja(g n c d:Nat)(p:List Nat)(r w)(h:zy w g p r)(Z:p.length=n)(hn:n<=1000000)(C:0<d)(hd:d<4294967296):
  Calls prog 218 #[aO (γ (aM g 0)) n c,.int .u32 (d:Int)] w fun e w'=>e=.returned (.int .u32 ((val p%d:Nat):Int))/\∃q,zy w' g q r/\q.length=n/\val q=val p/d/\Only g w w':=by
 have K:=aW Z;clear Z;go_enter func218,ntmps218;go_wp2;go_loopw [5,6] (fun V i wr=>∃(k rest:Nat) (q:List Nat),k<=n/\i=.int .i64 ((k:Int)-1)/\V=.int .u64 (rest:Int)/\rest<d/\k+q.length=n/\val (p.drop k)=d*val q+rest/\zy wr g (p.take k++q) r/\Only g w wr) (fun _ i _=>(intOf i+1).toNat)
 case atStart=>exact⟨n,0,[],κ _,rfl,rfl,C,rfl,by rw[aak (by rw[K.o];omega)];simp[val],by rw[χ (by rw[K.o];omega)];simpa using h,Only.refl _ _⟩
 case round=>
  obtain⟨k,rest,q,hk,rfl,rfl,L,hq,hv,F,I⟩:=hrel;have N:=aW hv;clear hv;have M:=aW hq;clear hq;by_cases U:k=0
  .subst U;go_wp2;go_ret;have hv:=N.o;simp only[τ] at hv;refine⟨aZ ?_,q,by simpa using F,by have:=M.o;omega,?_,I⟩
   .rw[hv,adf,aaO L]
   .rw[hv,acr C,abo L,I6]
  .obtain⟨j,rfl⟩:∃j,k=j+1:=⟨k-1,aa⟩;have H:j<(p.take (j+1)++q).length:=by rw[pz,Bn,K.o];omega
   obtain⟨x,J,G,R,Y⟩:=F.at_ H;have D:p[j]? =γ x:=by
    rw[Ω (by rw[Bn,K.o];omega),PI aa] at J;exact J
   clear J;have HX:=aW D;clear D;have Q:=aW F;clear F;have O:=aW H;clear H;obtain⟨B,S⟩:∃B,B=x+4294967296*rest:=⟨_,rfl⟩;have Zn:B<18446744073709551616:=aa;have e1:bits .or .u64 ((rest:Int)*4294967296) (x:Int)=(B:Int):=by rw[or_hi aa G,S]
   have T:B/d<4294967296:=Vx G L S;have Zt:(B:Int)/(d:Int)<4294967296:=by rw[<-abp];omega
   have P:(0:Int)<=(B:Int)/(d:Int):=acs aa aa;have W:=aW S;clear S;go_wp2;go_roundw
   case rel=>
    refine⟨j,B%d,B/d::q,aa,au,rfl,pu _ C,by have:=M.o;simp;omega,Nr HX.o W.o N.o,?_,I.trans (Only.set _ _ _ _)⟩;have:=Q.set (d:=B/d) O.o rfl T;rwa[T9 (by rw[K.o];omega)] at this
   case measure=>simp[aT,intOf]<;>omega
def GX{q j y}:(List.replicate (j+1) 0++q).set j y=List.replicate j 0++(y::q):=by
 rw[List.replicate_succ',I5,abJ _ _ ag];simp
def Ku(A)(n c d:Nat)(p w)(h:RM w A n c p)(hn:n<=1000000)(C:0<d)(hd:d<4294967296):
  Calls prog 205 #[aO A n c,.int .u32 (d:Int)] w fun e w'=>∃v,e=.returned (.tuple #[v,.int .u32 ((val p%d:Nat):Int)])/\SlM (dF (val p/d)) v w'/\Ext w w':=by
 have HL:=aW h.len;have L:=jT (n:Int) n rfl aa;go_enter func205,ntmps205;go_wp2;clear L;go_loopw [7,8] (fun Y i wr=>∃(k rest:Nat) (q:List Nat),k<=n/\i=.int .i64 ((k:Int)-1)/\Y=.int .u64 (rest:Int)/\rest<d/\k+q.length=n/\val (p.drop k)=d*val q+rest/\iy wr w.heap.size (List.replicate k 0++q)/\Ext w wr) (fun _ i _=>(intOf i+1).toNat)
 case atStart=>exact⟨n,0,[],κ _,rfl,rfl,C,rfl,by rw[aak (by rw[HL.o];omega)];simp[val],by rw[Z6];exact⟨Blk.new w _ _,Dig.replicate _⟩,Ext.new _ _⟩
 case round=>
  obtain⟨k,rest,q,hk,rfl,rfl,K,hq,hv,F,D⟩:=hrel;have R:=aW hv;clear hv;have M:=aW hq;clear hq;by_cases V:k=0
  .subst V;go_wp2_with fail;simp only[aa1,aa8] at F;refine(ja _ n n q _ (F.rm (by have:=M.o;omega) aa) hn).mono ?_;rintro e w1 ⟨v1,rfl,hR,H⟩;have hv:=R.o;simp only[τ] at hv;have e1:val p/d=val q:=by rw[hv,acr C,abo K,I6]
   have O:rest=val p%d:=by rw[hv,adf,aaO K]
   have N:=aW e1;have E2:=aW O;clear e1 O hv;go_wp2
   go_ret2
   refine⟨v1,?_,by rw[N.o];exact hR,D.trans H⟩;rw[<-E2.o];rfl
  .obtain⟨j,rfl⟩:∃j,k=j+1:=⟨k-1,aa⟩;obtain⟨ad,x,rfl,hb,J,G,U⟩:=(h.ext D).at_ (k:=j) aa;have HX:=aW J;clear J;have I:j<(List.replicate (j+1) 0++q).length:=ae;obtain⟨z,_,_,W,YB⟩:=F.at_ I;have Q:=aW F;clear F I;obtain⟨B,S⟩:∃B,B=x+4294967296*rest:=⟨_,rfl⟩;have Zn:B<18446744073709551616:=aa;have e1:bits .or .u64 ((rest:Int)*4294967296) (x:Int)=(B:Int):=by rw[or_hi aa G,S]
   have T:B/d<4294967296:=Vx G K S;have Zt:(B:Int)/(d:Int)<4294967296:=by rw[<-abp];omega
   have P:(0:Int)<=(B:Int)/(d:Int):=acs aa aa;have Z:=aW S;clear S;go_wp2;go_roundw
   case rel=>
    refine⟨j,B%d,B/d::q,aa,au,rfl,pu _ C,by have:=M.o;simp;omega,Nr HX.o Z.o R.o,?_,D.setCell (κ _) _⟩;have:=Q.set (k:=j) (d:=B/d) rfl T;rwa[GX] at this
   case measure=>simp[aT,intOf]<;>omega
def yc{s}(hs:s<=32):2^s*2^(32-s)=4294967296:=by
 rw[<-aao,show s+(32-s)=32 by omega]
def VL{x s}(J:x<4294967296)(hs:s<32):x*2^s<18446744073709551616:=by
 have j:2^s<=2^31:=Ad aa aa;have B:x*2^s<=x*2^31:=Ξ _ j;omega
def NJ{x s:Nat}(J:x<4294967296)(hs:s<32):IntKind.u64.wrap ((x:Int)*2^s)=((x*2^s:Nat):Int):=by
 have h:=VL J hs;have e:((x:Int)*2^s)=((x*2^s:Nat):Int):=by push_cast;rfl
 rw[e];exact aaG _ aa
def Kw{x s}(hs:s<=32):2^s∣x*2^s%4294967296:=by
 rw[Nat.dvd_mod_iff (show 2^s∣4294967296 from ⟨2^(32-s),(yc aa).symm⟩)];exact ac5 _ _
def C8{x s I}(hs:s<=32)(hc:I<2^s):I+x*2^s%4294967296<4294967296:=by
 obtain⟨a,ha⟩:=Kw (x:=x) hs;have hb:=yc (show s<=32 by omega);have Z:x*2^s%4294967296<4294967296:=pu _ aa;rw[ha] at Z⊢;have B:a<2^(32-s):=by
  rw[<-hb] at Z;exact abX Z
 have j:2^s*(a+1)<=2^s*2^(32-s):=Ξ _ B;rw[hb,ω,aap] at j;omega
def VV{x s I:Nat}(J:x<4294967296)(hs:s<32)(hc:I<2^s):bits .or .u32 (I:Int) (IntKind.u64.wrap ((x:Int)*2^s)%4294967296)=((I+x*2^s%4294967296:Nat):Int):=by
 have j:=C8 (x:=x) (aah hs) hc;obtain⟨a,ha⟩:=Kw (x:=x) (aah hs);rw[NJ J hs,show((x*2^s:Nat):Int)%4294967296=((x*2^s%4294967296:Nat):Int) from rfl];rw[adz .u32 32 aj ad3 s _ _ aa (by exact_mod_cast hc) aa aa ?_ aa]
 .omega
 .rw[ha];have:((2^s*a:Nat):Int)%2^s=((2^s*a%2^s:Nat):Int):=by push_cast;rfl
  rw[this,Nat.mul_mod_right];rfl
def pV{x s}(J:x<4294967296):x*2^s/4294967296<2^s:=by
 rw[aaQ aa,nH];exact Nat.mul_lt_mul_of_pos_left J (Na aa)
def VG{x s:Nat}(J:x<4294967296)(hs:s<32):IntKind.u64.wrap ((x:Int)*2^s)/4294967296%4294967296=((x*2^s/4294967296:Nat):Int):=by
 have h:=VL J hs;rw[NJ J hs];omega
def G8{o k n a b I}(j:o.length=k)(B:k<n):((o++I::List.replicate (n-k) 0).set k a).set (k+1) b=(o++[a])++b::List.replicate (n-(k+1)) 0:=by
 subst j;rw[show n-o.length=(n-(o.length+1))+1 by omega,aaJ];simp
def Mr{o p:List Nat}{k I x s}(j:o.length=k)(J:p[k]? =γ x)(h:val o+4294967296^k*I=val (p.take k)*2^s):
  val (o++[I+x*2^s%4294967296])+4294967296^(k+1)*(x*2^s/4294967296)=val (p.take (k+1))*2^s:=by
 rw[kG,bX J,j,wN,φ,Z4,<-h,ω];have e:4294967296^k*(x*2^s%4294967296)+4294967296^k*(4294967296*(x*2^s/4294967296))=4294967296^k*(x*2^s):=by
  exact AbA
 rw[φ (4294967296^k) x];omega
def vU(A)(n c s:Nat)(p)(w:World)(h:RM w A n c p)(hn:n<=1000000)(hs:s<32):
  Calls prog 220 #[aO A n c,(s:Int)] w fun e w'=>e=.returned (.slice (γ (aM w.heap.size 0)) (n+1) (n+1))/\∃q,iy w' w.heap.size q/\q.length=n+1/\val q=val p*2^s/\Ext w w':=by
 have V:=aW h.len;have O:=jT ((n:Int)+1) (n+1) aa aa;go_enter func220,ntmps220;go_wp2;clear O;go_loopw [15] (fun i wr=>∃(k I:Nat) (o:List Nat),k<=n/\i=.int .i64 k/\o.length=k/\I<2^s/\val o+4294967296^k*I=val (p.take k)*2^s/\iy wr w.heap.size (o++I::List.replicate (n-k) 0)/\Ext w wr) (aT n)
 case atStart=>exact⟨0,0,[],q9 _,rfl,rfl,Na aa,by simp[val],⟨by simpa[aaJ] using Blk.new w 208 (mg (List.replicate (n+1) 0)).toArray,by simpa[aaJ] using Dig.replicate (n+1)⟩,Ext.new _ _⟩
 case round=>
  obtain⟨k,I,o,hk,rfl,P,H,hv,F,D⟩:=hrel;have R:=aW hv;clear hv;have T:=aW P;clear P;by_cases j:k<n
  .obtain⟨ad,x,rfl,_,J,G,S⟩:=(h.ext D).at_ j;have Z:=aW J;clear J;obtain⟨z,N,C,W,Y⟩:=F.at_ (k:=k) (by simp[T.o]);obtain⟨z1,M,B,L,K⟩:=F.at_ (k:=k+1) Adb;obtain rfl:z=I:=by
    exact AcJ
   have Q:=aW F;clear F N M;go_wp2;go_roundw
   case rel=>
    exact AaD
   case measure=>simp[aT,intOf]<;>omega
  .obtain rfl:k=n:=aa;have Q:=aW F;clear F;go_wp2;go_ret;refine⟨rfl,o++[I],by simpa using Q.o,by simp[T.o],?_,D⟩;rw[kG,T.o,R.o,χ Ab0]
def Ca(A)(n c s:Nat)(p)(w:World)(h:RM w A n c p)(hn:n<=1000000)(hs:s<32):
  Calls prog 206 #[aO A n c,(s:Int)] w fun e w'=>e=.returned (.slice (γ (aM w.heap.size 0)) (n+1) (n+1))/\∃q,iy w' w.heap.size q/\q.length=n+1/\val q=val p*2^s/\Ext w w':=by
 have V:=aW h.len;have O:=jT ((n:Int)+1) (n+1) aa aa;go_enter func206,ntmps206;go_wp2;clear O;go_loopw [6] (fun i wr=>∃(k I:Nat) (o:List Nat),k<=n/\i=.int .i64 k/\o.length=k/\I<2^s/\val o+4294967296^k*I=val (p.take k)*2^s/\iy wr w.heap.size (o++I::List.replicate (n-k) 0)/\Ext w wr) (aT n)
 case atStart=>exact⟨0,0,[],q9 _,rfl,rfl,Na aa,by simp[val],⟨by simpa[aaJ] using Blk.new w 208 (mg (List.replicate (n+1) 0)).toArray,by simpa[aaJ] using Dig.replicate (n+1)⟩,Ext.new _ _⟩
 case round=>
  obtain⟨k,I,o,hk,rfl,P,H,hv,F,D⟩:=hrel;have R:=aW hv;clear hv;have T:=aW P;clear P;by_cases j:k<n
  .obtain⟨ad,x,rfl,_,J,G,S⟩:=(h.ext D).at_ j;have Z:=aW J;clear J;obtain⟨z,N,C,W,Y⟩:=F.at_ (k:=k) (by simp[T.o]);obtain⟨z1,M,B,L,K⟩:=F.at_ (k:=k+1) Adb;obtain rfl:z=I:=by
    exact AcJ
   have Q:=aW F;clear F N M;go_wp2;go_roundw
   case rel=>
    exact AaD
   case measure=>simp[aT,intOf]<;>omega
  .obtain rfl:k=n:=aa;have Q:=aW F;clear F;go_wp2;go_ret;refine⟨rfl,o++[I],by simpa using Q.o,by simp[T.o],?_,D⟩;rw[kG,T.o,R.o,χ Ab0]
def Yj{x s}(hs:s<=32):x*4294967296/2^s=x*2^(32-s):=by
 rw[<-yc hs,abf,Nat.mul_div_cancel_left _ (Na aa)]
def VZ{x s:Nat}(hs:s<=32):(x:Int)*4294967296/2^s=((x*2^(32-s):Nat):Int):=by
 rw[<-Yj hs,abp,Int.natCast_mul,Int.natCast_pow];rfl
def BO{x s}(J:x<4294967296)(hs:s<=32):x*2^(32-s)/4294967296<4294967296:=by
 have B:=pV (x:=x) (s:=32-s) J;have j:2^(32-s)<=2^32:=Ad aa aa;omega
def Pv{y:Nat}(R:y<4294967296):bits .or .u32 ((0:Nat):Int) (y:Int)=(y:Int):=by
 rw[adz .u32 32 aj ad3 0 _ _ aa aa aa aa aa aa];omega
def VH{x s:Nat}(J:x<4294967296)(hs:s<=32):bits .or .u32 ((0:Nat):Int) ((x:Int)*4294967296/2^s/4294967296%4294967296)=((x*2^(32-s)/4294967296:Nat):Int):=by
 have h:=BO J hs;rw[VZ hs];have e:((x*2^(32-s):Nat):Int)/4294967296%4294967296=((x*2^(32-s)/4294967296:Nat):Int):=aa;rw[e,Pv h]
def XB{x s y:Nat}(hs:s<=32)(R:y<2^(32-s)):bits .or .u32 (y:Int) ((x:Int)*4294967296/2^s%4294967296)=((y+x*2^(32-s)%4294967296:Nat):Int):=by
 have j:=C8 (x:=x) (s:=32-s) aa R;obtain⟨a,ha⟩:=Kw (x:=x) (s:=32-s) aa;rw[VZ hs,show((x*2^(32-s):Nat):Int)%4294967296=((x*2^(32-s)%4294967296:Nat):Int) from rfl];rw[adz .u32 32 aj ad3 (32-s) _ _ aa (by exact_mod_cast R) aa aa ?_ aa]
 .omega
 .rw[ha];have:((2^(32-s)*a:Nat):Int)%2^(32-s)=((2^(32-s)*a%2^(32-s):Nat):Int):=by push_cast;rfl
  rw[this,Nat.mul_mod_right];rfl
def P7{x s}(hs:s<=32):x*2^(32-s)/4294967296=x/2^s:=by
 rw[<-yc hs,adn _ _ (Na aa)]
def U2{o p:List Nat}{j x y s}(hs:s<=32)(B:o.length=j+1)(R:o[j]? =γ y)(J:p[j+1]? =γ x)(h:val o=val (p.take (j+1))/2^s):
  val (o.set j (y+x*2^(32-s)%4294967296)++[x*2^(32-s)/4294967296])=val (p.take (j+2))/2^s:=by
 have C:=qH (y:=y+x*2^(32-s)%4294967296) R;rw[kG,aa9,B,bX J];have e1:4294967296^(j+1)*x=2^s*(4294967296^j*(x*2^(32-s))):=by
  rw[wN,<-φ,<-φ,nH (2^s*4294967296^j*x),<-φ,<-φ,nH (2^(32-s)) (2^s),yc hs,nH 4294967296]
 rw[e1,adr _ _ (Na aa),<-h];have D:4294967296^j*(x*2^(32-s)%4294967296)+4294967296^(j+1)*(x*2^(32-s)/4294967296)=4294967296^j*(x*2^(32-s)):=by
  rw[wN,φ,<-ω];congr 1;omega
 rw[ω] at C;omega
def last_at{o:List Nat}{j y}(B:o.length=j+1)(R:o[j]? =γ y):o.getLast? =γ y:=by
 rw[abW,B];exact R
def Dk(A)(n c s:Nat)(p w)(h:RM w A n c p)(hn:n<=1000000)(hs:s<32):
  CV 222 #[aO A n c,(s:Int)] w fun v w'=>SlM (dF (val p/2^s)) v w':=by
 have HL:=aW h.len;have Zj:=jT (n:Int) n rfl aa;go_enter func222,ntmps222;go_wp2;clear Zj;go_loopw [14] (fun i wr=>∃(k:Nat) (o:List Nat),k<=n/\i=.int .i64 k/\o.length=k/\(∀y,o.getLast? =γ y->y<2^(32-s))/\val o=val (p.take k)/2^s/\iy wr w.heap.size (o++List.replicate (n-k) 0)/\Ext w wr) (aT n)
 case atStart=>exact⟨0,[],q9 _,rfl,rfl,ag,by simp[val],⟨by simpa using Blk.new w _ _,by simpa using Dig.replicate n⟩,Ext.new _ _⟩
 case round=>
  obtain⟨k,o,hk,rfl,ho,R,hv,F,D⟩:=hrel;have HV:=aW hv;clear hv;have T:=aW ho;clear ho;have HY:=aW R;clear R;by_cases P:k<n
  .obtain⟨ad,x,rfl,_,J,G,Y⟩:=(h.ext D).at_ P;have HX:=aW J;clear J;obtain⟨z,Z,C,W,YB⟩:=F.at_ (k:=k) Adb;by_cases h0:k=0
   .subst h0;have ZY:wr.cell? ad=γ (.int .u32 (x:Int)):=Y;have S:o=[]:=KP T.o;have O:z=0:=by
     have:=wo Z;rw[S] at this;simpa using abZ this
    have Q:=aW F;clear F Z;have ac:=aW S;clear S;have V:=aW O;clear O;go_wp2;go_roundw
    case rel=>
     refine⟨1,[x*2^(32-s)/4294967296],aa,au,rfl,?_,?_,?_,D.setCell (κ _) _⟩
     .intro y R;simp at R;rw[<-R];exact pV G
     .rw[bX (k:=0) HX.o,P7 aa];simp[val]
     .have h1:=Q.set (k:=0) (d:=x*2^(32-s)/4294967296) (z:=bits .or .u32 (z:Int) ((x:Int)*4294967296/2^s/4294967296%4294967296)) (by rw[V.o];exact VH G aa) (BO G aa);rwa[ac.o,uA (o:=[]) (k:=0) rfl P] at h1
    case measure=>simp[aT,intOf]<;>omega
   .obtain⟨j,rfl⟩:∃j,k=j+1:=⟨k-1,aa⟩;obtain⟨z1,U,B,L,K⟩:=F.at_ (k:=j) Adb;have ZY:wr.cell? (aM ad.block (ad.off+(j+1)))=γ (.int .u32 (x:Int)):=by simpa[Addr.add] using Y
    have O:z=0:=by
     rw[nG (by rw[T.o];exact κ _),T.o] at Z;exact abZ (wo Z)
    have M:o[j]? =γ z1:=by
     rw[Ω AdX] at U;exact U
    have Q:=aW F;clear F Z U;have V:=aW O;clear O;have N:=aW M;clear M;have I:z1<2^(32-s):=HY.o z1 (last_at T.o N.o);go_wp2;go_roundw
    case rel=>
     refine⟨j+2,o.set j (z1+x*2^(32-s)%4294967296)++[x*2^(32-s)/4294967296],aa,au,by simp[T.o],?_,U2 aa T.o N.o HX.o HV.o,?_,(D.setCell (κ _) _).setCell (κ _) _⟩
     .intro y R;simp at R;rw[<-R];exact pV G
     .have h1:=(Q.set (k:=j+1) (d:=x*2^(32-s)/4294967296) (z:=bits .or .u32 (z:Int) ((x:Int)*4294967296/2^s/4294967296%4294967296)) (by rw[V.o];exact VH G aa) (BO G aa)).set (k:=j) (XB (x:=x) aa I) (C8 aa I);rw[uA T.o P,I5,adq _ _ AdX,<-I5] at h1;exact h1
    case measure=>simp[aT,intOf]<;>omega
  .obtain rfl:k=n:=aa;simp only[aaW,aa1,Z6] at F;go_wp2_with fail;refine(kL _ _ _ o _ (F.rm T.o aa)).mono ?_;rintro e w1 ⟨v1,rfl,hR,H⟩;rw[HV.o,χ (by rw[HL.o];omega)] at hR;exact AdL
def Kz{p k x}(hd:Dig p)(J:p[k]? =γ x):∃Y,val p/4294967296^k=x+4294967296*p.getD (k+1) 0+4294967296*(4294967296*Y):=by
 have F:k<p.length:=(μ.1 J).1;have C:=iE p k aa;have B:=mW (hd.take k);rw[Bn,aam aa] at B;have D:val p/4294967296^k=val (p.drop k):=by
  rw[C,aaX,acr (Na aa),abo B,I6]
 rw[D,xA J];by_cases j:k+1<p.length
 .have R:p[k+1]? =γ p[k+1]:=ν j;rw[xA R,AR R];exact⟨val (p.drop (k+1+1)),aa⟩
 .rw[aak aa];refine⟨0,?_⟩;have:p.getD (k+1) 0=0:=by simp[List.getD,qb (Nat.not_lt.1 j)]
  rw[this];simp[val]
def PM{p k x s}(hd:Dig p)(hs:s<=32)(J:p[k]? =γ x):val p/2^s/4294967296^k%4294967296=(x+4294967296*p.getD (k+1) 0)/2^s%4294967296:=by
 obtain⟨Y,M⟩:=Kz hd J;rw[adi,nH,<-adi,M];have e:4294967296*(4294967296*Y)=2^s*(4294967296*(2^(32-s)*Y)):=by
  rw[abf (2^s),<-φ (2^s),yc hs]
 rw[e,adr _ _ (Na aa),Nat.add_mul_mod_self_left]
def Uj{o p k x s}(hd:Dig p)(hs:s<=32)(j:o.length=k)(J:p[k]? =γ x)(h:val o=val p/2^s%4294967296^k):
  val (o++[(x+4294967296*p.getD (k+1) 0)/2^s%4294967296])=val p/2^s%4294967296^(k+1):=by
 rw[kG,j,h,<-PM hd hs J,Nat.mod_pow_succ]
def Sk(t s:Nat):(t:Int)/2^s%4294967296=((t/2^s%4294967296:Nat):Int):=by
 have e:(t:Int)/2^s=((t/2^s:Nat):Int):=by rw[abp,Int.natCast_pow];rfl
 rw[e];rfl
def Oe(A)(n c s:Nat)(p w)(h:RM w A n c p)(hn:n<=1000000)(hs:s<32):
  CV 210 #[aO A n c,(s:Int)] w fun v w'=>SlM (dF (val p/2^s)) v w':=by
 have HL:=aW h.len;have P:=jT (n:Int) n rfl aa;go_enter func210,ntmps210;go_wp2;clear P;go_loopw [6] (fun i wr=>∃(k:Nat) (o:List Nat),k<=n/\i=.int .i64 k/\o.length=k/\val o=val p/2^s%4294967296^k/\iy wr w.heap.size (o++List.replicate (n-k) 0)/\Ext w wr) (aT n)
 case atStart=>exact⟨0,[],q9 _,rfl,rfl,by simp[val,Nat.mod_one],⟨by simpa using Blk.new w _ _,by simpa using Dig.replicate n⟩,Ext.new _ _⟩
 case round=>
  obtain⟨k,o,hk,rfl,V,hv,F,D⟩:=hrel;have HV:=aW hv;clear hv;have T:=aW V;clear V;by_cases C:k<n
  .obtain⟨U,x,rfl,_,J,G,YA⟩:=(h.ext D).at_ C;have HX:=aW J;clear J;obtain⟨z,_,_,W,YB⟩:=F.at_ (k:=k) Adb;have Q:=aW F;clear F;have B:∀y t:Nat,p.getD (k+1) 0=y->t=x+4294967296*y->val (o++[t/2^s%4294967296])=val p/2^s%4294967296^(k+1):=fun y t I h2=>by
    rw[h2,<-I];exact Uj h.dg aa T.o HX.o HV.o
   have Y:=aW B;clear B;by_cases S:k+1<n
   .obtain⟨O,y,e1,_,R,K,N⟩:=(h.ext D).at_ S;cases e1
    have Z:wr.cell? (aM U.block (U.off+(k+1)))=γ (.int .u32 (y:Int)):=by simpa[Addr.add] using N
    have j:=aW (Y.o y _ (AR R) rfl);clear Y R;obtain⟨t,M⟩:∃t,t=x+4294967296*y:=⟨_,rfl⟩;have e1:bits .or .u64 (x:Int) ((y:Int)*4294967296)=(t:Int):=by rw[Vz G K,M]
    have ZM:t<18446744073709551616:=aa;rw[<-M] at j;clear M;go_wp2;go_roundw
    case rel=>
     refine⟨k+1,o++[t/2^s%4294967296],aa,au,by simp[T.o],j.o,?_,D.setCell (κ _) _⟩;have I:=Q.set (k:=k) (Sk t s) (pu _ aa);rwa[uA T.o C] at I
    case measure=>simp[aT,intOf]<;>omega
   .have j:=aW (Y.o 0 x (by simp[List.getD,qb (show p.length<=k+1 by rw[HL.o];omega)]) aa);clear Y;go_wp2;go_roundw
    case rel=>
     refine⟨k+1,o++[x/2^s%4294967296],aa,au,by simp[T.o],j.o,?_,D.setCell (κ _) _⟩;have I:=Q.set (k:=k) (Sk x s) (pu _ aa);rwa[uA T.o C] at I
    case measure=>simp[aT,intOf]<;>omega
  .obtain rfl:k=n:=aa;simp only[aaW,aa1,Z6] at F;go_wp2_with fail;refine(ja _ _ _ o _ (F.rm T.o aa) hn).mono ?_;rintro e w1 ⟨v1,rfl,hR,H⟩;have L:val p/2^s<4294967296^k:=by
    have:=mW h.dg;rw[HL.o] at this;exact ψ (acu _ _) this
   rw[HV.o,aaO L] at hR;exact AdL
def jk (S V u2 u1 v1 g rest:Nat):Prop:=g*v1+rest=u2*4294967296+u1/\S/V<=g
section
variable {S V P u2 u1 u0 v1 v0 g rest:Nat}
def jk.first(t:sw S V P u2 u1 u0 v1 v0):jk S V u2 u1 v1 ((u2*4294967296+u1)/v1) ((u2*4294967296+u1)%v1):=
 ⟨by rw[nH];exact aby _ _,t.first⟩
def jk.le(t:sw S V P u2 u1 u0 v1 v0)(h:jk S V u2 u1 v1 g rest):g<=4294967299:=by
 have C:=t.M3;have j:=h.1;have D:=t.top;have B:=t.l1;rcases Nq 4294967299 g with hc|hc
 .exfalso;have:4294967300*v1<=g*v1:=pq _ hc;omega
 .exact hc
def afS(t:sw S V P u2 u1 u0 v1 v0)(h:jk S V u2 u1 v1 g rest)(B:4294967296<=g):jk S V u2 u1 v1 (g-1) (rest+v1):=by
 have j:=t.WH;refine⟨?_,aa⟩;rw[<-h.1,Nat.sub_mul,aav];have:1*v1<=g*v1:=pq _ aa;omega
def afD(t:sw S V P u2 u1 u0 v1 v0)(h:jk S V u2 u1 v1 g rest)(C:g*v0>u0+4294967296*rest):0<g/\jk S V u2 u1 v1 (g-1) (rest+v1):=by
 have B:=t.above ((Di (u0:=u0) (v0:=v0) h.1).1 aa);have j:0<g:=ψ (q9 _) B;refine⟨j,?_,aa⟩;rw[<-h.1,Nat.sub_mul,aav];have:1*v1<=g*v1:=pq _ j;omega
def jk.pass(t:sw S V P u2 u1 u0 v1 v0)(h:jk S V u2 u1 v1 g rest)(hb:g<4294967296)(j:¬g*v0>u0+4294967296*rest):S/V<=g/\g<=S/V+1:=by
 refine⟨h.2,t.close hb ?_⟩;have:=mt (Di (u0:=u0) (v0:=v0) h.1).2 aa;omega
def afo(t:sw S V P u2 u1 u0 v1 v0)(h:jk S V u2 u1 v1 g rest)(B:4294967296<=rest):g<4294967296/\S/V<=g/\g<=S/V+1:=by
 have C:=t.M3;have j:=h.1;have hb:g<4294967296:=by
  rcases Nq g 4294967296 with hc|hc
  .exact hc
  .exfalso;have:4294967296*v1<=g*v1:=pq _ hc;omega
 refine⟨hb,h.pass t hb ?_⟩;have:=vw hb t.l0;omega
end
def Kv(S V P u2 u1 u0 v1 v0 w)(t:sw S V P u2 u1 u0 v1 v0):
  Calls prog 207 #[.int .u64 (u2:Int),.int .u64 (u1:Int),.int .u64 (u0:Int),.int .u64 (v1:Int),.int .u64 (v0:Int)] w fun e w'=>(∃g:Nat,e=.returned (.int .u64 (g:Int))/\g<4294967296/\S/V<=g/\g<=S/V+1)/\w=w':=by
 have O:=t.m2;have L:=t.m1;have W:=t.m0;have M:=t.l1;have U:=t.l0;have af:=t.top;have J:=aW (jk.first t);obtain⟨hd,C⟩:∃hd,hd=u2*4294967296+u1:=⟨_,rfl⟩;rw[<-C] at J;have ZN:hd<18446744073709551616:=aa;have e0:bits .or .u64 ((u2:Int)*4294967296) (u1:Int)=(hd:Int):=by rw[or_hi O L,C];omega
 have ai:=aW C;clear C;have Z7:1<=v1:=aa;have am:(0:Int)<=(hd:Int)/(v1:Int):=acs aa aa;have ad:(hd:Int)/(v1:Int)<=18446744073709551615:=by
  have:=acu hd v1;rw[<-abp];omega
 go_enter func207,ntmps207;go_wp2;clear e0;go_loop [11,12] (fun T rv=>∃g rest:Nat,T=.int .u64 (g:Int)/\rv=.int .u64 (rest:Int)/\rest<4294967296/\jk S V u2 u1 v1 g rest) (fun T _=>(intOf T).toNat)
 case atStart=>exact⟨hd/v1,hd%v1,rfl,rfl,abn (pu _ aa) M,J.o⟩
 case round=>
  obtain⟨g,rest,rfl,rfl,hr,Y⟩:=hrel;have ac:=jk.le t Y;have Q:=aW Y;clear Y;by_cases hb:4294967296<=g
  .have YT:(4294967296:Int)<=g:=aa;have j:=aW (afS t Q.o hb);by_cases H:4294967296<=rest+v1
   .have F:(4294967296:Int)<=(rest:Int)+(v1:Int):=aa;go_wp2;go_ret;obtain⟨s1,s2,s3⟩:=afo t j.o H;exact⟨⟨g-1,aZ aa,s1,s2,s3⟩,rfl⟩
   .have F:decide ((4294967296:Int)<=(rest:Int)+(v1:Int))=ζ:=by rw[Z5];omega
    have K:decide (4294967296<=rest+v1)=ζ:=ρ H;have B:=aW H;clear H;go_wp2;go_round
    case rel=>exact⟨g-1,rest+v1,au,au,by have:=B.o;omega,j.o⟩
    case measure=>simp[aT,intOf]<;>omega
  .obtain⟨D,Z⟩:∃D,D=g*v0:=⟨_,rfl⟩;obtain⟨z,G⟩:∃z,z=u0+4294967296*rest:=⟨_,rfl⟩;have ZM:D<=18446744065119617025:=by rw[Z];exact vw aa U
   have e1:IntKind.u64.wrap ((g:Int)*(v0:Int))=(D:Int):=by rw[aaG _ Abu,Z];simp
   have e2:bits .or .u64 ((rest:Int)*4294967296) (u0:Int)=(z:Int):=by rw[or_hi hr W,G]
   have ao:z<18446744073709551616:=aa;have YT:decide ((4294967296:Int)<=g)=ζ:=by rw[Z5];omega
   have YF:decide (4294967296<=g)=ζ:=ρ hb;have HB:=aW hb;by_cases hc:z<D
   .obtain⟨N,I⟩:=afD (u0:=u0) (v0:=v0) t Q.o (by rw[<-Z,<-G];exact hc);have j:=aW I;clear I;clear Z G hb;have R:(z:Int)<D:=aa;clear hc;by_cases H:4294967296<=rest+v1
    .have F:(4294967296:Int)<=(rest:Int)+(v1:Int):=aa;have B:=aW H;clear H;go_wp2;go_ret;obtain⟨s1,s2,s3⟩:=afo t j.o B.o;exact⟨⟨g-1,aZ aa,s1,s2,s3⟩,rfl⟩
    .have F:decide ((4294967296:Int)<=(rest:Int)+(v1:Int))=ζ:=by rw[Z5];omega
     have K:decide (4294967296<=rest+v1)=ζ:=ρ H;have B:=aW H;clear H;go_wp2;go_round
     case rel=>exact⟨g-1,rest+v1,au,au,by have:=B.o;omega,j.o⟩
     case measure=>simp[aT,intOf]<;>omega
   .obtain⟨s2,s3⟩:=jk.pass (u0:=u0) (v0:=v0) t Q.o aa (by rw[<-Z,<-G];omega);have S2:=aW s2;have S3:=aW s3;clear s2 s3 Z G hb;have R:(D:Int)<=z:=aa;clear hc;go_wp2;go_ret;exact⟨⟨g,rfl,by have:=HB.o;omega,S2.o,S3.o⟩,rfl⟩
def iy.sub{w g j m c p}(h:iy w g p)(D:j+m=p.length)(hc:m<=c)(B:c<=9223372036854775807):RM w (γ ⟨g,j,δ⟩) m c (p.drop j):=by
 refine⟨⟨by rw[ry,abL];omega,fun _=>⟨_,rfl,h.1.lt,fun i u C=> ?_⟩⟩,h.2.drop j,hc,B⟩;rw[add_plain,h.1.cell];simp only[mg,Aa,Zb,abB] at C;obtain⟨x,J,rfl⟩:=C;simpa using pY J
def Rl{g}(h:g<18446744073709551616):(dF g).length<=2:=eQ (k:=2) aa
def lV{l}(h:Dig l)(k):val (l.take k)<4294967296^k:=by
 have j:=mW (h.take k);exact ο j (Ad aa (by rw[Bn];omega))
theorem lQ{p q}:decide (nY p q<0)=decide (p<q):=by
 unfold nY;by_cases h:p<q
 .simp[h]
 .by_cases j:q<p<;>simp[h,j]
def OC(A B)(n m c d g:Nat)(p v:List Nat)(w)(D:RM w A m c p)(Q:RM w B n d v)(hn:n<=10000)(O:n+1<=m)(J:g<18446744073709551616):
  CE 208 #[aO A m c,aO B n d,.int .u64 (g:Int)] w (.bool (decide (val (p.take (n+1))<val v*g))):=by
 have N:=D.nc;have F:=D.cm;have L:m<=9223372036854775807:=aa;obtain⟨M,_,rfl,_⟩:=D.at_ (k:=0) aa;go_enter func208,ntmps208;go_wp2_with fail;refine(qM g _ J).mono ?_;rintro e w1 ⟨v1,rfl,⟨A1,n1,c1,rfl,K⟩,H⟩;have G:n1<=100000:=by have:=K.len;have:=Rl J;omega
 go_wp2_with fail;refine(xy B A1 n n1 d c1 _ _ _ (Q.ext H) K aa G).mono ?_;rintro e w2 ⟨U,rfl,⟨A2,n2,c2,rfl,C⟩,P⟩;rw[bf] at C;go_wp2_with fail;have P:=H.trans P;refine(ja (γ M) (n+1) c (p.take (n+1)) _ ((D.ext P).take O aa F) aa).mono ?_;rintro e T ⟨S,rfl,⟨A3,n3,c3,rfl,V⟩,j⟩;go_wp2_with fail;refine(iW A3 A2 n3 n2 c3 c2 _ _ _ V (C.ext j) (cK _) (cK _)).mono ?_;rintro e R ⟨rfl,I⟩;go_wp2;go_ret;refine⟨bE ?_,(P.trans j).trans I⟩;rw[bf,bf,lQ]
def Over (U M B:List Nat) (j i:Nat):Prop:=
 M.length=U.length/\M.take j=U.take j/\(∀t,j+i<=t->M[t]? =U[t]?)/\val M+4294967296^j*val ((U.drop j).take i)=val U+4294967296^j*val (B.take i)
def afI(U B j):Over U U B j 0:=⟨rfl,rfl,fun _ _=>rfl,ag⟩
def Over.step{U M C j i x y}(h:Over U M C j i)(J:U[j+i]? =γ x)(R:val (C.take (i+1))=val (C.take i)+4294967296^i*y):Over U (M.set (j+i) y) C j (i+1):=by
 obtain⟨G,F,D,I⟩:=h;refine⟨by rw[aa9];exact G,?_,fun t H=> ?_,?_⟩
 .rw[abu aa];exact F
 .rw[aaj aa];exact D t aa
 .have S:M[j+i]? =γ x:=by rw[D _ (κ _)];exact J
  have K:=qH (y:=y) S;have B:(U.drop j)[i]? =γ x:=by rw[Zb];exact J
  rw[bX B,R,ω,ω,<-φ,<-φ,<-aao];omega
def UE{j:List Nat}{i}(h:j.length<=i):val (j.take (i+1))=val (j.take i)+4294967296^i*0:=by rw[vT h];rfl
def Oo(B gU j n m c d g U v w)(hU:iy w gU U)(hB:RM w B n d v)(hn:n<=10000)(hm:n+1<=m)(YW:j+m=U.length)(YD:m<=c)(YE:c<=9223372036854775807)(hg:g<18446744073709551616)(YT:val v*g<=val ((U.drop j).take (n+1))):
  Calls prog 209 #[aO (γ (aM gU j)) m c,aO B n d,.int .u64 (g:Int)] w fun e w'=>e=.returned (.tuple #[])/\∃M,iy w' gU M/\M.length=U.length/\M.take j=U.take j/\val M+4294967296^j*(val v*g)=val U/\Only gU w w':=by
 have ac:=hU.sub YW YD YE;have Zn:m<=9223372036854775807:=aa;have YL:=aW YT;clear YT;go_enter func209,ntmps209;go_wp2_with fail;refine(ja (γ ⟨gU,j,δ⟩) (n+1) c ((U.drop j).take (n+1)) _ (ac.take hm aa YE) aa).mono ?_;rintro e w1 ⟨v1,rfl,⟨A1,n1,c1,rfl,af⟩,H⟩;go_wp2_with fail;refine(qM g _ hg).mono ?_;rintro e w2 ⟨v2,rfl,⟨A2,n2,c2,rfl,ZZ⟩,P⟩;have Zp:n2<=100000:=by have:=ZZ.len;have:=Rl hg;omega
 have C:=P;have P:=H.trans P;go_wp2_with fail;refine(xy B A2 n n2 d c2 _ _ _ (hB.ext P) ZZ aa Zp).mono ?_;rintro e w3 ⟨v3,rfl,⟨A3,n3,c3,rfl,V⟩,Yv⟩;rw[bf] at V;have N:=P.trans Yv;have I:=af.ext (C.trans Yv);have S:=I.len;have YH:=V.len;have Y:n3<=n1:=by
  have h1:=eQ (n:=val v*g) (k:=n1) (ψ YL.o (eG aa));omega
 have Zq:n1<=n+1:=by
  have h1:=eQ (lV ac.dg (n+1));omega
 go_wp2_with fail;refine(xz A1 A3 n1 n3 c1 c3 _ _ _ I V aa Y (by rw[bf,bf];exact YL.o)).mono ?_;rintro e w4 ⟨v4,rfl,⟨⟨A4,n4,c4,rfl,W⟩,L⟩,Yw⟩;rw[bf,bf] at W;have Yw:=N.trans Yw;have Zc:=hU.1.lt;have Yx:∀ad,A4=γ ad->ad.block≠gU:=fun ad e=>by
  have:=L ad.block (by rw[e];rfl);have:=N.size;omega
 have YX:=aW Yx;clear Yx L;have G:=W.len;have YN:n4<=n+1:=by
  have h1:=eQ (n:=val ((U.drop j).take (n+1))-val v*g) (k:=n+1) (ψ (Nat.sub_le _ _) (lV ac.dg (n+1)));omega
 have YO:n4<=9223372036854775807:=aa;have T:=aW G;have Zi:=aW YW;have HU:=aW (show iy w4 gU U from hU.far Yw);clear S YH G YW hU ac;obtain⟨wl,YB⟩:∃wl,wl=dF (val ((U.drop j).take (n+1))-val v*g):=⟨_,rfl⟩;rw[<-YB] at W T;have YJ:=aW YB;clear YB;have YM:=W.dg;have YI:=aW W;clear W;have YP:=YI.cm;go_wp2;go_loopw [7] (fun iv wr=>∃(i:Nat) (M:List Nat),i<=n+1/\iv=.int .i64 i/\Over U M wl j i/\iy wr gU M/\Only gU w4 wr) (fun iv _=>n+1-(intOf iv).toNat)
 case atStart=>exact⟨0,U,aa,rfl,afI _ _ _,HU.o,Only.refl _ _⟩
 case round=>
  obtain⟨i,M,hi,rfl,YC,F,Zd⟩:=hrel;have D:=aW YC;clear YC;by_cases Yu:i<=n
  .have Yz:j+i<M.length:=by rw[D.o.1,<-Zi.o];omega
   obtain⟨x',_,_,YA,ai⟩:=F.at_ Yz;obtain⟨x,J⟩:∃x,U[j+i]? =γ x:=⟨_,ν (by rw[<-Zi.o];omega)⟩;have HX:=aW J;clear J;have Q:=aW F;clear F;have YV:∀u,(wr.setCell ⟨gU,j+i,δ⟩ u).cell? (aM gU (j+i))=γ u:=fun u=>by
    have:=(Q.o.1.QI (i:=j+i) u).cell (j+i);rw[this];have Z:j+i<(mg M).length:=by rw[ry];exact Yz
    simp[Z]
   have Zy:∀u,(wr.setCell ⟨gU,j+i,δ⟩ u).frozen? ⟨gU,j+i,δ⟩=ζ:=fun u=>(Q.o.1.QI (i:=j+i) u).frozen (j+i);clear Yz;by_cases G:i<n4
   .obtain⟨b4,o4,YG,_,YF⟩:=YI.rd.plain aa;have YK:=YX.o _ YG;subst YG;obtain⟨O,y,e1,_,R,K,_⟩:=YI.at_ G;have Yy:∀u,(wr.setCell ⟨gU,j+i,δ⟩ u).cell? (aM b4 (o4+i))=γ (.int .u32 (y:Int)):=fun u=>(Zd.trans (Only.set _ _ _ _)).cell_ (YF i _ (pY R)) YK;have HY:=aW (bX R);clear R YF e1;go_wp2;go_roundw
    case rel=>
     refine⟨i+1,M.set (j+i) y,aa,au,D.step HX.o HY.o,?_,(Zd.trans (Only.set _ _ _ _)).trans (Only.set _ _ _ _)⟩;have h1:=(Q.set (k:=j+i) (d:=0) (z:=0) rfl aa).set (k:=j+i) (d:=y) rfl K;rwa[List.set_set] at h1
    case measure=>simp[aT,intOf]<;>omega
   .go_wp2;go_roundw
    case rel=>
     refine⟨i+1,M.set (j+i) 0,aa,au,D.step HX.o (UE AdX),?_,Zd.trans (Only.set _ _ _ _)⟩;exact Q.set (k:=j+i) (d:=0) (z:=0) rfl aa
    case measure=>simp[aT,intOf]<;>omega
  .obtain rfl:i=n+1:=aa;go_wp2
   go_end0
   refine⟨rfl,M,F,D.o.1,D.o.2.1,?_,(afp Yw).trans Zd⟩;have h1:=D.o.2.2.2;rw[χ (l:=wl) AdX,YJ.o,bf] at h1;have h2:=YL.o;have h3:4294967296^j*val ((U.drop j).take (n+1))=4294967296^j*(val ((U.drop j).take (n+1))-val v*g)+4294967296^j*(val v*g):=by
    rw[<-ω,Nat.sub_add_cancel h2]
   omega
def Bq{a n}(h:(dF a).length=n)(j:n≠0):4294967296^(n-1)<=a:=by
 have:=Kj (cK a) (by intro e;rw[e] at h;simp at h;omega);rwa[bf,h] at this
def J3(A B n m c d a b w)(C:RM w A n c (dF a))(F:RM w B m d (dF b))(j:a<b):
  Calls prog 180 #[aO A n c,aO B m d] w fun e w'=>∃q r,e=.returned (.tuple #[q,r])/\SlM (dF (a/b)) q w'/\SlM (dF (a%b)) r w'/\Ext w w':=by
 have D:decide (nY a b<0)=ε:=by rw[lQ];exact Λ j
 go_enter ad4,adA;go_wp2_with fail;refine(iW A B n m c d _ _ _ C F (cK _) (cK _)).mono ?_;rintro e w1 ⟨rfl,H⟩;rw[bf,bf];go_wp2
 go_ret2
 refine⟨_,_,rfl,⟨δ,0,0,rfl,?_⟩,⟨A,n,c,rfl,?_⟩,H⟩
 .rw[abo j,iZ];exact afn
 .rw[aaO j];exact C.ext H
def JH(A B n c d a b w)(Q:RM w A n c (dF a))(N:RM w B 1 d (dF b))(U:b<=a)(hn:n<=1000000):
  Calls prog 180 #[aO A n c,aO B 1 d] w fun e w'=>∃q r,e=.returned (.tuple #[q,r])/\SlM (dF (a/b)) q w'/\SlM (dF (a%b)) r w'/\Ext w w':=by
 have T:decide (nY a b<0)=ζ:=by rw[lQ];exact ρ aa
 obtain⟨R,x,rfl,_,J,G,D⟩:=N.at_ (k:=0) aa;have Z:=N.len;have F:dF b=[x]:=by
  match hd:dF b,Z,J with
  |[y],_,h=>simp at h;rw[h]
 have hb:b=x:=by rw[<-bf b,F];simp[val]
 subst hb;have K:0<b:=by
  exact Abx
 have W:=aW D;clear D J Z F;go_enter ad4,adA;go_wp2_with fail;refine(iW A (γ R) n 1 c d _ _ _ Q N (cK _) (cK _)).mono ?_;rintro e w1 ⟨rfl,H⟩;rw[bf,bf];have O:w1.cell? R=γ (.int .u32 (b:Int)):=H.cell_ W.o;go_wp2_with fail;refine(Ku A n c b _ _ (Q.ext H) hn K G).mono ?_;rintro e w2 ⟨v2,rfl,L,P⟩;rw[bf] at L;rw[bf];have I:a%b<4294967296:=abn (pu _ K) G;generalize S:a%b=r at*
 have M:=aW S;clear S;go_wp2_with fail;refine(ja _ 1 1 [r] _ (RM.blk (Blk.new _ _ _) (Dig.one I) rfl aa) aa).mono ?_;rintro e w3 ⟨Y,rfl,V,C⟩;have j:=L.ext ((Ext.new w2 _).trans C);go_wp2
 go_ret2
 refine⟨_,_,rfl,j,by rw[M.o];simpa[val] using V,(H.trans P).trans ((Ext.new w2 _).trans C)⟩
def WL{y}(h:y<4294967296):y&&&2147483648=0↔y<2147483648:=by
 have hb:y.testBit 31=decide (y/2^31%2=1):=Nat.testBit_eq_decide_div_mod_eq;constructor
 .intro B;have j:(y&&&2^31).testBit 31=ζ:=by rw[show y&&&2^31=0 from B];simp
  rw[Nat.testBit_and,Nat.testBit_two_pow_self,Bool.and_true,hb,Z5] at j;omega
 .intro B;have j:y.testBit 31=ζ:=by rw[hb,Z5];omega
  refine Nat.eq_of_testBit_eq fun i=> ?_;rw[show(2147483648:Nat)=2^31 from rfl,Nat.testBit_and,Nat.testBit_two_pow];by_cases hi:31=i
  .subst hi;simp[j]
  .simp[hi]
def Xp{y:Nat}(h:y<4294967296):(bits .and .u32 (y:Int) 2147483648==0)=decide (y<2147483648):=by
 have e:bits .and .u32 (y:Int) ((2147483648:Nat):Int)=((y&&&2147483648:Nat):Int):=
  (bits_nat .u32 32 aj ad3 y 2147483648 aa aa).1
 rw[show(2147483648:Int)=((2147483648:Nat):Int) from rfl,e];have j:=WL h;generalize y&&&2147483648=z at j;by_cases R:y<2147483648
 .rw[j.2 R,Λ R];rfl
 .rw[ρ R];have:z≠0:=fun e=>R (j.1 e);simp;exact this

structure Hl (b n s:Nat) (x:Nat):Prop where
 len:(dF b).length=n+2
 top:(dF b)[n+1]? =γ x
 lo:2147483648<=x*2^s
 hi:x*2^s<4294967296
 hs:s<32
def Hl.lt{b n s x}(h:Hl b n s x):b*2^s<4294967296^(n+2):=by
 have D:=bX h.top;rw[kT (by rw[h.len];omega),bf] at D;have G:=lV (qx b) (n+1);have F:x*2^s+2^s<=4294967296:=by
  have e:=yc (show s<=32 by have:=h.hs;omega);have B:=h.hi;rw[<-e,nH x] at B;have C:=abX B;have j:2^s*(x+1)<=2^s*2^(32-s):=Ξ _ C;rw[e,ω,aap,nH] at j;exact j
 have B:b*2^s<4294967296^(n+1)*(x+1)*2^s:=by
  refine aa5 ?_ (Na aa);rw[ω,aap];omega
 have C:4294967296^(n+1)*(x+1)*2^s=4294967296^(n+1)*(x*2^s+2^s):=by rw[φ,Z4,aav]
 have j:4294967296^(n+1)*(x*2^s+2^s)<=4294967296^(n+1)*4294967296:=Ξ _ F;rw[show n+2=(n+1)+1 from rfl,wN];omega
def Hl.ge{b n s x}(h:Hl b n s x):2147483648*4294967296^(n+1)<=b*2^s:=by
 have j:=bX h.top;rw[kT (by rw[h.len];omega),bf] at j;have C:4294967296^(n+1)*x*2^s<=b*2^s:=pq _ aa;have B:4294967296^(n+1)*2147483648<=4294967296^(n+1)*(x*2^s):=Ξ _ h.lo;rw[<-φ] at B;omega
def Hl.digits{b n s x q}(h:Hl b n s x)(hq:q.length=n+3)(hd:Dig q)(hv:val q=b*2^s):val (q.take (n+2))=b*2^s/\∃v1 v0,(q.take (n+2))[n+1]? =γ v1/\(q.take (n+2))[n]? =γ v0/\2147483648<=v1:=by
 have C:=iE q (n+2) aa;have H:=h.lt;have F:val (q.drop (n+2))=0:=by
  rcases BB (val (q.drop (n+2))) with j|j
  .exact j
  .have:4294967296^(n+2)*1<=4294967296^(n+2)*val (q.drop (n+2)):=Ξ _ j;omega
 have B:val (q.take (n+2))=b*2^s:=by rw[F] at C;omega
 have Y:(q.take (n+2)).length=n+2:=by rw[Bn];omega
 refine⟨B,_,_,ν aa,ν aa,?_⟩;have D:(q.take (n+2))[n+1]? =γ (q.take (n+2))[n+1]:=ν aa;have G:=bX D;rw[kT aa,B] at G;have I:=lV (hd.take (n+2)) (n+1);have J:=h.ge;generalize (q.take (n+2))[n+1]=v1 at*
 rcases Nq v1 2147483648 with hc|hc
 .exfalso;have:4294967296^(n+1)*(v1+1)<=4294967296^(n+1)*2147483648:=Ξ _ hc;rw[ω,aap] at this;omega
 .exact hc
def ny (U qs:List Nat) (N V k:Nat):Prop:=val U+V*(4294967296^k*val qs)=N/\val (U.drop k)<V
def MW{U j x V}(hd:Dig U)(J:U[j]? =γ x)(h:val (U.drop (j+1))<V):val (U.drop j)<4294967296*V:=by
 rw[xA J];have:=hd.at_ J;have B:4294967296*(val (U.drop (j+1))+1)<=4294967296*V:=Ξ _ h;omega
def ny.step{U M qs N V j q}(h:ny U qs N V (j+1))(G:j<=U.length)(Z:M.length=U.length)(B:M.take j=U.take j)(hv:val M+4294967296^j*(V*q)=val U)(hq:q=val (U.drop j)/V)(hV:0<V):ny M (q::qs) N V j:=by
 have e1:=iE U j G;have D:=iE M j aa;rw[B] at D;have F:4294967296^j*(val (M.drop j)+V*q)=4294967296^j*val (U.drop j):=by rw[ω];omega
 have K:=abh (Na aa) F;refine⟨?_,?_⟩
 .rw[<-h.1,<-hv,val,ω,ω,wN];have I:V*(4294967296^j*q)=4294967296^j*(V*q):=abf _ _ _;have J:V*(4294967296^j*(4294967296*val qs))=V*(4294967296^j*4294967296*val qs):=by rw[φ (4294967296^j)]
  omega
 .have C:=aby (val (U.drop j)) V;have H:=pu (val (U.drop j)) hV;rw[<-hq] at C;omega
def afU{U N V k}(h:val U=N)(j:val (U.drop k)<V):ny U [] N V k:=⟨by simp[val,h],j⟩
def ny.done{U qs N V}(h:ny U qs N V 0):val qs=N/V/\val U=N%V:=by
 obtain⟨B,j⟩:=h;simp only[Nat.pow_zero,aav,τ] at B j;have hV:0<V:=aa;rw[<-B];constructor
 .rw[aaX,acr hV,abo j,I6]
 .rw[aaX,adf,aaO j]
def Np{U v j n v1 v0}(F:Dig U)(hv:Dig v)(Y:j+n+3<=U.length)(D:v.length=n+2)(J:v[n+1]? =γ v1)(I:v[n]? =γ v0)(K:2147483648<=v1)(G:val (U.drop (j+1))<val v):
  ∃u2 u1 u0,U[j+n+2]? =γ u2/\U[j+n+1]? =γ u1/\U[j+n]? =γ u0/\sw (val (U.drop j)) (val v) (4294967296^n) u2 u1 u0 v1 v0:=by
 have H:U[j+n+2]? =γ U[j+n+2]:=ν aa;have e1:U[j+n+1]? =γ U[j+n+1]:=ν aa;have e0:U[j+n]? =γ U[j+n]:=ν aa;have C:U[j]? =γ U[j]:=ν aa;have hS:=MW F C G;have hV:=mW hv;rw[D] at hV;have B:val (U.drop j)<4294967296^(n+3):=by
  rw[show n+3=(n+2)+1 from rfl,wN,nH];have:4294967296*val v<=4294967296*4294967296^(n+2):=Ξ _ (aah hV);omega
 refine⟨_,_,_,H,e1,e0,Na aa,?_,?_,K,hv.at_ J,hv.at_ I,F.at_ H,F.at_ e1,F.at_ e0,hS⟩
 .exact Yl (F.drop j) B (by rw[Zb];exact H) (by rw[Zb];exact e1) (by rw[Zb];exact e0)
 .exact Yp hv D J I
def Cx{a b s}:a*2^s/(b*2^s)=a/b:=adn _ _ (Na aa)
def CF{a b s}:a*2^s%(b*2^s)=a%b*2^s:=Nat.mul_mod_mul_right _ _ _
def GL{U n}(hd:Dig U)(hn:n<=U.length)(h:val U<4294967296^n):val (U.take n)=val U:=by
 have B:=iE U n hn;have C:val (U.drop n)=0:=by
  rcases BB (val (U.drop n)) with j|j
  .exact j
  .have:4294967296^n*1<=4294967296^n*val (U.drop n):=Ξ _ j;omega
 rw[C] at B;omega
def RM.VP{w:World}{j:Addr}{n c k x:Nat}{l}(h:RM w (γ j) n c l)(J:l[k]? =γ x):w.cell? (j.add k)=γ (.int .u32 (x:Int))/\w.cell? (aM j.block (j.off+k))=γ (.int .u32 (x:Int)):=by
 have B:k<l.length:=(μ.1 J).1;have Z:=h.len;obtain⟨b,o,e,_,hc⟩:=h.rd.plain aa;cases e
 have:=hc k _ (pY J);exact⟨by rw[add_plain];exact this,this⟩
def G7{x s:Nat}(h:x*2^s<4294967296):IntKind.u32.wrap ((x:Int)*2^s)=((x*2^s:Nat):Int):=by
 have e:((x:Int)*2^s)=((x*2^s:Nat):Int):=by push_cast;rfl
 rw[e];exact IntWalk.u32_in _ aa
def Jv{U a b s la n}(H:val U=a*2^s)(ha:a<4294967296^la)(hb:4294967296^(n+1)<=b)(B:n+1<=la)(Z:la-n-1<=U.length):val (U.drop (la-n-1))<b*2^s:=by
 have G:=iE U (la-n-1) Z;have j:a*2^s<4294967296^la*2^s:=aa5 ha (Na aa);have C:4294967296^la=4294967296^(la-n-1)*4294967296^(n+1):=by rw[<-aao];congr 1;omega
 have F:4294967296^(la-n-1)*(4294967296^(n+1)*2^s)<=4294967296^(la-n-1)*(b*2^s):=Ξ _ (pq _ hb);rw[C,φ] at j;have D:4294967296^(la-n-1)*val (U.drop (la-n-1))<4294967296^(la-n-1)*(b*2^s):=aa;exact abX D
def He(A B la n c d a b w)(hA:RM w A la c (dF a))(hB:RM w B (n+2) d (dF b))(Yx:b<=a)(ZC:la<=10000):
  Calls prog 180 #[aO A la c,aO B (n+2) d] w fun e w'=>∃q r,e=.returned (.tuple #[q,r])/\SlM (dF (a/b)) q w'/\SlM (dF (a%b)) r w'/\Ext w w':=by
 have YE:decide (nY a b<0)=ζ:=by rw[lQ];exact ρ aa
 have ZE:=aW hA.len;have Zq:=hB.len;have ZW:n+2<=la:=by
  exact Adx
 obtain⟨ad,x,rfl,_,J,G,_⟩:=hB.at_ (k:=n+1) aa;have N:0<x:=by
  have:=cK b x (last_at Zq J);omega
 have HX:=aW J;clear J;have Za:=aW Zq;clear Zq;have t1:(((n+2:Nat):Int)==1)=ζ:=ae;have t2:((n:Int)+2==1)=ζ:=ae;go_enter ad4,adA;go_wp2_with fail;refine(iW A (γ ad) la (n+2) c d _ _ _ hA hB (cK _) (cK _)).mono ?_;rintro e w1 ⟨rfl,H⟩;rw[bf,bf];obtain⟨O,Zy⟩:=(hB.ext H).VP HX.o;go_wp2;go_loop [8] (fun i=>∃s:Nat,s<=31/\i=.int .i64 s/\x*2^s<4294967296) (fun i=>32-(intOf i).toNat)
 case atStart=>exact⟨0,aa,rfl,by simpa using G⟩
 case round=>
  obtain⟨s,hs,rfl,Yu⟩:=hrel;obtain⟨y,R⟩:∃y,y=x*2^s:=⟨_,rfl⟩;have e1:IntKind.u32.wrap ((x:Int)*2^s)=(y:Int):=by rw[G7 Yu,R]
  have e2:=Xp (y:=y) (by rw[R];exact Yu);have HY:=aW R;clear R;by_cases aB:y<2147483648
  .rw[Λ aB] at e2;go_wp2;go_round
   case rel=>
    have h1:=HY.o;have h2:1*2^s<=x*2^s:=pq _ N;have h3:2^s<2^31:=aa;have h4:=(Nat.pow_lt_pow_iff_right aa).1 h3;exact⟨s+1,aa,au,by rw[wN,<-φ];omega⟩
   case measure=>simp[aT,intOf]<;>omega
  .rw[ρ aB] at e2;have hN:Hl b n s x:=⟨Za.o,HX.o,by have:=HY.o;omega,Yu,aa⟩;have HN:=aW hN;clear hN;go_wp2;clear e1 e2 O Zy;have q1:(0:Int)<=(n:Int)+2:=aa;refine bO 10 [(ε,0),(ε,1),(ε,3),(ε,4),(ε,6),(ε,7),(ζ,2),(ζ,5),(ε,8),(ε,9)] ah ah ?_;refine bD [0,1,3,4,6,7] [(ζ,2),(ζ,5),(ε,8),(ε,9)] _ ah ?_;refine Gq ?_;refine bC 2 [(ζ,5),(ε,8),(ε,9)] ah ?_;intro K I;simp only[bJ];go_wp2_with fail;refine(Ca A la c s (dF a) _ (hA.ext H.drew) aa aa).mono ?_;rintro e w2 ⟨rfl,U,hU,F,YJ,P⟩;rw[bf] at YJ;have P:=P.jJ;have ao:w1.drew.heap.size=w1.heap.size:=rfl;rw[ao] at hU;rw[ao];go_wp2;refine I _ _ ⟨⟨w2,P⟩,rfl⟩ ?_;clear I K ao;refine bC 5 [(ε,8),(ε,9)] ah ?_;intro K I;simp only[bJ];go_wp2_with fail;refine(Ca (γ ad) (n+2) d s (dF b) _ (hB.ext (H.trans P)) aa aa).mono ?_;rintro e w3 ⟨rfl,Q,hQ,Y,YT,Yv⟩;rw[bf] at YT;go_wp2;refine I _ _ ⟨⟨w3,P.trans Yv⟩,rfl⟩ ?_;clear I K;obtain⟨hV,v1,v0,YI,Zc,a1⟩:=HN.digits Y hQ.2 YT;have Zk:n+2<=n+2+1:=aa;refine bD [8,9] [] _ ah ?_;refine Gq ?_;simp only[dh,ξ,τ];have Zj:=jT ((la:Int)-((n:Int)+2)+1) (la-n-1) aa aa;go_wp2;clear Zj;obtain⟨V,YR⟩:∃V,V=val (Q.take (n+2)):=⟨_,rfl⟩;have YK:V=b*2^s:=by rw[YR,hV]
   have Yz:0<V:=by
    exact Ac5
   have Zm:V<4294967296^(n+2):=by rw[YK];exact HN.lt
   have YW:iy (w3.alloc (.cells (mg (List.replicate (la-n-1) 0)).toArray 208)) w1.heap.size U:=hU.far (Yv.alloc _);have ZV:iy (w3.alloc (.cells (mg (List.replicate (la-n-1) 0)).toArray 208)) w2.heap.size Q:=hQ.far (Ext.new _ _);have S:ny U [] (a*2^s) V (la-n-1):=by
    exact AcC
   have YG:=aW YR;have Zn:=aW YK;clear YR YK hV YJ YT;have YA:=P.size;have ZU:=Yv.size;have a6:=hU.1.lt;have a7:=hQ.1.lt;have C:=aW F;have YD:=aW Y;have YC:=aW YI;have av:=aW Zc;have YM:=aW S;clear S F Y YI Zc;have Zo:=aW YW;have ZZ:=aW ZV;clear YW ZV hU hQ;have Yw:Ext w w3:=(H.trans P).trans Yv;go_loopw [12] (fun iv wr=>∃(k:Nat) (U qs:List Nat),k<=la-n-1/\iv=.int .i64 ((k:Int)-1)/\U.length=la+1/\k+qs.length=la-n-1/\ny U qs (a*2^s) V k/\iy wr w1.heap.size U/\iy wr w2.heap.size Q/\iy wr w3.heap.size (List.replicate k 0++qs)/\Ext w wr) (fun iv _=>(intOf iv+1).toNat)
   case atStart=>exact⟨la-n-1,U,[],κ _,by congr 1;omega,C.o,ag,YM.o,Zo.o,ZZ.o,⟨by simpa using Blk.new w3 _ _,by simpa using Dig.replicate _⟩,Yw.alloc _⟩
   case round=>
    clear Zo ZZ YM C;obtain⟨k,U,qs,hk,rfl,F,ZM,Ze,hU,hQ,hq,D⟩:=hrel;have C:=aW F;clear F;have ZX:=aW ZM;clear ZM;have YF:=aW Ze;clear Ze;by_cases h0:k=0
    .subst h0;have T:=YF.done;have Zg:=aW T;clear T;have aG:RM wr (γ ⟨w3.heap.size,0,δ⟩) (la-n-1) (la-n-1) qs:=by
      exact Adm
     have a0:RM wr (γ ⟨w1.heap.size,0,δ⟩) (n+2) (la+1) (U.take (n+2)):=(hU.rm (n:=la+1) C.o aa).take aa aa aa;go_wp2;have q2:(0:Int)<=(n:Int)+2:=aa;have q3:(n:Int)+2<=(la:Int)+1:=aa;refine bO 9 [(ε,0),(ε,2),(ε,3),(ε,4),(ε,5),(ε,6),(ζ,1),(ζ,7),(ε,8)] ah ah ?_;refine bD [0,2,3,4,5,6] [(ζ,1),(ζ,7),(ε,8)] _ ah ?_;refine Gq ?_;refine bC 1 [(ζ,7),(ε,8)] ah ?_;intro K I;simp only[bJ];go_wp2_with fail;refine(ja _ _ _ qs _ (aG.ext (Ext.refl wr).drew) aa).mono ?_;rintro e wa ⟨va,rfl,am,ZG⟩;have ZG:=ZG.jJ;go_wp2;refine I _ _ ⟨⟨wa,ZG⟩,rfl⟩ ?_;clear I K;refine bC 7 [(ε,8)] ah ?_;intro K I;simp only[bJ];go_wp2_with fail;refine(Oe _ (n+2) _ s (U.take (n+2)) _ (a0.ext ZG) aa aa).mono ?_;rintro e wb ⟨vb,rfl,ZK,ZL⟩;have YN:=ZG.trans ZL;go_wp2;refine I _ _ ⟨⟨wb,YN⟩,rfl⟩ ?_;clear I K;refine bD [8] [] _ ah ?_;refine Gq ?_;simp only[dh,ξ,τ];have ZH:val qs=a/b:=by rw[Zg.o.1,Zn.o,Cx]
     have ZY:val (U.take (n+2))/2^s=a%b:=by
      exact Ab3
     rw[ZH] at am;rw[ZY] at ZK;have aI:=aW (am.ext ZL);have a2:=aW ZK;clear am ZK ZH ZY;go_wp2
     go_ret2
     exact⟨_,_,rfl,aI.o,a2.o,D.trans YN⟩
    .obtain⟨j,rfl⟩:∃j,k=j+1:=⟨k-1,aa⟩;obtain⟨u2,u1,u0,YH,YZ,YY,ht⟩:=Np (j:=j) hU.2 (hQ.2.take (n+2)) AaW (by rw[Bn,YD.o];omega) YC.o av.o a1 (by rw[<-YG.o];exact YF.o.2);rw[<-YG.o] at ht;have HT:=aW ht;clear ht;rw[show((j+1:Nat):Int)-1=(j:Int) by omega];obtain⟨x2,Zx,_,Z8,_⟩:=hU.at_ (k:=j+n+2) AaW;obtain⟨x1,Zt,_,aE,_⟩:=hU.at_ (k:=j+n+1) AaW;obtain⟨x0,ZA,_,ZJ,_⟩:=hU.at_ (k:=j+n) AaW;obtain rfl:x2=u2:=by rw[YH] at Zx;injection Zx with h;exact h.symm
     obtain rfl:x1=u1:=by rw[YZ] at Zt;injection Zt with h;exact h.symm
     obtain rfl:x0=u0:=by rw[YY] at ZA;injection ZA with h;exact h.symm
     obtain⟨y1,ay,_,Z9,_⟩:=hQ.at_ (k:=n+1) (by rw[YD.o];omega);obtain⟨y0,aq,_,ZI,_⟩:=hQ.at_ (k:=n) (by rw[YD.o];omega);obtain rfl:y1=v1:=by have:=YC.o;rw[PI aa,ay] at this;injection this
     obtain rfl:y0=v0:=by have:=av.o;rw[PI aa,aq] at this;injection this
     clear Zx Zt ZA ay aq YH YZ YY;go_wp2;have Y2:=aX.cell Z8;have Y1:=aX.cell aE;have Y0:=aX.cell ZJ;have Z1:=aX.cell Z9;have Z0:=aX.cell ZI;have b1:IntKind.i64.wrap ((j:Int)+((n:Int)+2))=(j:Int)+((n:Int)+2):=aa3 _ aa;have b2:IntKind.i64.wrap ((j:Int)+((n:Int)+2)-1)=(j:Int)+((n:Int)+1):=by rw[aa3 _ aa];omega
     have b3:IntKind.i64.wrap ((j:Int)+((n:Int)+2)-2)=(j:Int)+(n:Int):=by rw[aa3 _ aa];omega
     have b4:IntKind.i64.wrap ((n:Int)+2-1)=(n:Int)+1:=by rw[aa3 _ aa];omega
     have b5:IntKind.i64.wrap ((n:Int)+2-2)=(n:Int):=by rw[aa3 _ aa];omega
     have c1:((j:Int)+((n:Int)+2)).toNat=j+n+2:=aa;have c2:((j:Int)+((n:Int)+1)).toNat=j+n+1:=aa;have c3:((j:Int)+(n:Int)).toNat=j+n:=aa;have c4:((n:Int)+1).toNat=n+1:=aa;have d1:(0:Int)<=(j:Int)+((n:Int)+2):=aa;have d2:(0:Int)<=(j:Int)+((n:Int)+1):=aa;have d3:(0:Int)<=(j:Int)+(n:Int):=aa;have d4:(j:Int)+((n:Int)+2)<(la:Int)+1:=aa;have d5:(j:Int)+((n:Int)+1)<(la:Int)+1:=aa;have d6:(j:Int)+(n:Int)<(la:Int)+1:=aa;have d7:(0:Int)<=(n:Int)+1:=aa;have d8:(n:Int)+1<(n:Int)+2:=aa;have d9:(n:Int)<(n:Int)+2:=aa;refine bO 41 [(ε,0),(ε,1),(ε,2),(ε,3),(ε,4),(ε,5),(ε,6),(ε,7),(ε,8),(ε,9),(ε,10),(ε,11),(ε,12),(ε,13),(ε,14),(ε,15),(ε,16),(ε,17),(ε,18),(ε,19),(ε,20),(ε,21),(ε,22),(ε,23),(ε,24),(ε,25),(ε,26),(ε,27),(ε,28),(ε,29),(ε,30),(ε,31),(ε,32),(ε,33),(ε,34),(ε,35),(ε,36),(ε,37),(ε,38),(ε,39),(ζ,40)] ah ah ?_;refine bD [0,1,2,3,4,5,6,7,8,9,10,11,12,13,14,15,16,17,18,19,20,21,22,23,24,25,26,27,28,29,30,31,32,33,34,35,36,37,38,39] [(ζ,40)] _ ah ?_;refine Gq ?_;clear b1 b2 b3 b4 b5 c1 c2 c3 c4 d1 d2 d3 d4 d5 d6 d7 d8 d9 Y2 Y1 Y0 Z1 Z0 Z8 aE ZJ Z9 ZI;refine bC 40 [] ah ?_;intro K I;simp only[bJ];go_wp2_with fail;refine(Kv (val (U.drop j)) V (4294967296^n) x2 x1 x0 y1 y0 _ HT.o).mono ?_;rintro e wg ⟨⟨g,rfl,a3,ZR,ZO⟩,aw⟩;obtain⟨qd,YQ⟩:∃qd,qd=val (U.drop j)/V:=⟨_,rfl⟩;rw[<-YQ] at ZR ZO;have ZB:Ext wr wg:=aw ▸ (Ext.refl wr).drew;clear aw;have Zr:=aW YQ;clear YQ;go_wp2;refine I _ _ ⟨⟨wg,ZB⟩,rfl⟩ ?_;clear I K;simp only[dh,ξ,τ];have Z7:=hU.far ZB;have ai:=hQ.far ZB;have ar:=hq.far ZB;have YV:RM wg (γ ⟨w2.heap.size,0,δ⟩) (n+2) (n+3) (Q.take (n+2)):=(ai.rm (n:=n+3) YD.o aa).take aa aa aa;have ax:=Z7.sub (j:=j) (m:=la+1-j) (c:=la+1-j) AaW (κ _) aa;clear hU hQ hq;have hcut:val ((U.drop j).take (n+2+1))=val (U.drop j):=by
      refine GL (Z7.2.drop j) (by rw[abL,C.o];omega) ?_;have h1:=HT.fits;have h2:4294967296*V<=4294967296*4294967296^(n+2):=Ξ _ (aah Zm);rw[wN,nH (4294967296^(n+2))];omega
     have af:=aW hcut;clear hcut;have a4:(0:Int)<=j:=aa;have Yy:(j:Int)<=(la:Int)+1:=aa;have a8:((la:Int)+1-(j:Int)).toNat=la+1-j:=aa;go_wp2_with fail;refine(OC _ _ (n+2) (la+1-j) _ _ g (U.drop j) (Q.take (n+2)) _ ax YV aa aa aa).mono ?_;rintro e wl ⟨rfl,Zi⟩;rw[af.o,<-YG.o];have F:=Z7.far Zi;have az:=YV.ext Zi;have Y:=ai.far Zi;have YO:=ar.far Zi;clear Z7 YV ax ai ar;have ac:=(D.trans ZB).trans Zi;have Zk:V*qd<=val (U.drop j):=by rw[Zr.o];exact Nat.mul_div_le _ _
     have Zl:val (U.drop j)<V*(qd+1):=by rw[Zr.o];exact adI _ Yz
     have Zw:qd<4294967296:=by rw[Zr.o];exact HT.WH
     have ZQ:∀g',g'=qd->decide (val (U.drop j)<V*g')=ζ:=fun g' e=>by rw[e];exact ρ aa
     have YU:∀g',g'=qd+1->decide (val (U.drop j)<V*g')=ε:=fun g' e=>by rw[e];exact Λ Zl
     have Zp:=aW Zl;clear Zl;have YL:=aW Zk;clear Zk;rcases(show g=qd\/g=qd+1 by omega) with Zf|Zf
     all_goals
      first
       |rw[ZQ g Zf]
       |rw[YU g Zf]
      first
       |(have ap:=Zf.symm;subst ap)
       |subst Zf
      clear ZQ YU;go_wp2_with fail;refine(Oo (γ ⟨w2.heap.size,0,δ⟩) w1.heap.size j (n+2) (la+1-j) _ _ _ U (Q.take (n+2)) _ F az aa aa AaW (κ _) aa aa (by rw[af.o,<-YG.o];exact YL.o)).mono ?_;rintro e w5 ⟨rfl,M,ZN,Z,YP,L,Zd⟩;rw[<-YG.o] at L;have YS:iy w5 w3.heap.size (List.replicate (j+1) 0++qs):=⟨Zd.blk YO.1 aa,YO.2⟩;have ZT:iy w5 w2.heap.size Q:=⟨Zd.blk Y.1 aa,Y.2⟩;obtain⟨z,_,_,W,YB⟩:=YS.at_ (k:=j) ae;have ZP:=YF.step AaW Z YP L Zr.o Yz;have Zv:=aW ZP;have Zh:=aW ZN;have Zz:=aW ZT;have aP:=aW YS;have YX:=aW Z;clear ZP ZN ZT YS Z YP L F az Y YO;have a5:=ac.size;have ZF:Ext w w5:=Zd.ext ac (by have:=H.size;omega);go_wp2;go_roundw
      case rel=>
       refine⟨j,M,qd::qs,aa,au,by rw[YX.o,C.o],by have:=ZX.o;simp;omega,Zv.o,?_,?_,?_,ZF.setCell Yw.size _⟩
       .exact⟨Zh.o.1.far ae _,Zh.o.2⟩
       .exact⟨Zz.o.1.far ae _,Zz.o.2⟩
       .have h1:=aP.set (k:=j) (d:=qd) rfl Zw;rwa[GX] at h1
      case measure=>simp[aT,intOf]<;>omega
def zH(A B n m c d a b w)(C:RM w A n c (dF a))(j:RM w B m d (dF b))(hb:0<b)(hn:n<=10000):
  Calls prog 180 #[aO A n c,aO B m d] w fun e w'=>∃q r,e=.returned (.tuple #[q,r])/\SlM (dF (a/b)) q w'/\SlM (dF (a%b)) r w'/\Ext w w':=by
 rcases Nq a b with h|h
 .exact J3 A B n m c d a b w C j h
 .match m,j with
  |0,j=>
   have D:=j.empty;rw[oz] at D;omega
  |1,j=>exact JH A B n c d a b w C j h aa
  |k+2,j=>exact He A B n k c d a b w C j h hn
def JN (U M v:List Nat) (j i g I B:Nat):Prop:=
 M.length=U.length/\M.take j=U.take j/\(∀t,j+i<=t->M[t]? =U[t]?)/\val M+4294967296^j*(g*val (v.take i))=val U+4294967296^(j+i)*(I+B)
def afX(U v j g):JN U U v j 0 g 0 0:=⟨rfl,rfl,fun _ _=>rfl,by simp[val]⟩
def RV{x j pl:Nat}(J:x<4294967296)(hb:j<=1)(hp:pl<4294967296):x+4294967296*oL ((x:Int)-j-pl)=qF ((x:Int)-j-pl)+j+pl:=by
 have:=F6 J hp hb;omega
def JN.step{U M v j i g I B x y p}(h:JN U M v j i g I B)(J:U[j+i]? =γ x)(R:v[i]? =γ y)(G:x<4294967296)(hb:B<=1)(hp:p=g*y+I):
  JN U (M.set (j+i) (qF ((x:Int)-B-(p%4294967296:Nat)))) v j (i+1) g (p/4294967296) (oL ((x:Int)-B-(p%4294967296:Nat))):=by
 obtain⟨H,F,D,L⟩:=h;refine⟨by rw[aa9];exact H,?_,fun t K=> ?_,?_⟩
 .rw[abu aa];exact F
 .rw[aaj aa];exact D t aa
 .have S:M[j+i]? =γ x:=by rw[D _ (κ _)];exact J
  have P:=RV G hb (pu p (show 0<4294967296 by omega));generalize qF ((x:Int)-B-(p%4294967296:Nat))=dg at*
  generalize oL ((x:Int)-B-(p%4294967296:Nat))=C at*
  have N:=qH (y:=dg) S;rw[bX R,show j+(i+1)=(j+i)+1 from rfl,wN,φ];have e1:4294967296^j*(g*(val (v.take i)+4294967296^i*y))=4294967296^j*(g*val (v.take i))+4294967296^(j+i)*(g*y):=by
   rw[ω,ω,aao];congr 1;rw[abf g,φ]
  have O:4294967296^(j+i)*dg+4294967296^(j+i)*(g*y)+4294967296^(j+i)*(I+B)=4294967296^(j+i)*x+4294967296^(j+i)*(4294967296*(p/4294967296+C)):=by
   rw[<-ω,<-ω,<-ω];congr 1;omega
  omega
def SC{U X:List Nat}{m}(C:val (U.drop m)=0)(L:Dig X)(Z:X.length=U.length)(h:∀t,m<=t->X[t]? =U[t]?):val X<4294967296^m:=by
 rcases Nq U.length m with B|B
 .have:=mW L;exact ο this (Ad aa aa)
 .have e:X.drop m=U.drop m:=by
   apply aal;intro i;rw[Zb,Zb];exact h _ aa
  have j:=iE X m aa;rw[e,C] at j;have D:=lV L m;omega
def drop_zero{U:List Nat}{j m}(D:j+m<=U.length)(h:val (U.drop j)<4294967296^m):val (U.drop (j+m))=0:=by
 have C:=iE (U.drop j) m (by rw[abL];omega);rw[List.drop_drop] at C;rcases BB (val (U.drop (j+m))) with B|B
 .exact B
 .have:4294967296^m*1<=4294967296^m*val (U.drop (j+m)):=Ξ _ B;omega
def Uq{U M v j m g I D u}(h:JN U M v j m g I D)(hv:v.length=m)(G:U[j+m]? =γ u)(B:u<4294967296)(hc:I<4294967296)(hb:D<=1):
  val (M.set (j+m) (qF ((u:Int)-D-I)))+4294967296^j*(g*val v)=val U+4294967296^(j+m+1)*oL ((u:Int)-D-I):=by
 obtain⟨K,J,H,F⟩:=h;have S:M[j+m]? =γ u:=by rw[H _ (κ _)];exact G
 have O:=F6 B hc hb;generalize qF ((u:Int)-D-I)=dg at*
 generalize oL ((u:Int)-D-I)=C at*
 have L:=qH (y:=dg) S;rw[χ (l:=v) aa] at F;have e:4294967296^(j+m+1)*C=4294967296^(j+m)*(4294967296*C):=by rw[wN,φ]
 have N:4294967296^(j+m)*u+4294967296^(j+m)*(4294967296*C)=4294967296^(j+m)*(I+D)+4294967296^(j+m)*dg:=by
  rw[<-ω,<-ω];congr 1
 omega
def Re{U X j m V q B}(h:val X+4294967296^j*(q*V)=val U+4294967296^m*B)(L:val X<4294967296^m)(hq:4294967296^j*(q*V)<=val U):B=0:=by
 rcases BB B with C|C
 .exact C
 .have:4294967296^m*1<=4294967296^m*B:=Ξ _ C;omega
def Va{U X j m V q B}(h:val X+4294967296^j*(q*V)=val U+4294967296^m*B)(hb:B<=1)(hq:val U<4294967296^j*(q*V)):B=1:=by
 rcases BB B with C|C
 .subst C;omega
 .omega
def Rf{U j V q}(B:j<=U.length)(hq:V*q<=val (U.drop j)):4294967296^j*(q*V)<=val U:=by
 have D:=iE U j B;have C:4294967296^j*(q*V)<=4294967296^j*val (U.drop j):=Ξ _ (by rw[nH];exact hq);omega
def seg_lt{U j V q}(hd:Dig U)(B:j<=U.length)(hq:val (U.drop j)<V*q):val U<4294967296^j*(q*V):=by
 have F:=iE U j B;have D:=lV hd j;have C:4294967296^j*(val (U.drop j)+1)<=4294967296^j*(q*V):=Ξ _ (by rw[nH q];exact hq);rw[ω,aap] at C;omega
def Ih (U M v:List Nat) (j i I:Nat):Prop:=
 M.length=U.length/\M.take j=U.take j/\(∀t,j+i<=t->M[t]? =U[t]?)/\val M+4294967296^(j+i)*I=val U+4294967296^j*val (v.take i)
def afY(U v j):Ih U U v j 0 0:=⟨rfl,rfl,fun _ _=>rfl,by simp[val]⟩
def Ih.step{U M v j i I x y s}(h:Ih U M v j i I)(J:U[j+i]? =γ x)(R:v[i]? =γ y)(hs:s=x+y+I):Ih U (M.set (j+i) (s%4294967296)) v j (i+1) (s/4294967296):=by
 obtain⟨D,C,B,G⟩:=h;refine⟨by rw[aa9];exact D,?_,fun t F=> ?_,?_⟩
 .rw[abu aa];exact C
 .rw[aaj aa];exact B t aa
 .have S:M[j+i]? =γ x:=by rw[B _ (κ _)];exact J
  have H:=qH (y:=s%4294967296) S;rw[bX R,show j+(i+1)=(j+i)+1 from rfl,wN,φ,ω,<-φ (4294967296^j),<-aao];have e:4294967296^(j+i)*(s%4294967296)+4294967296^(j+i)*(4294967296*(s/4294967296))=4294967296^(j+i)*x+4294967296^(j+i)*y+4294967296^(j+i)*I:=by
   rw[<-ω,<-ω,<-ω];congr 1;omega
  omega
def Vk{U X Y v j m c d V q}(L:val X+4294967296^j*((q+1)*V)=val U+4294967296^(j+m+1))(h:Ih X Y v j m c)(hv:v.length=m)(hV:val v=V)(hd:X[j+m]? =γ d)(D:val (Y.set (j+m) ((d+c)%4294967296))<4294967296^(j+m+1))(hq:4294967296^j*(q*V)<=val U)(B:d<4294967296)(hc:c<=1):
  val (Y.set (j+m) ((d+c)%4294967296))+4294967296^j*(q*V)=val U:=by
 obtain⟨J,I,H,F⟩:=h;have S:Y[j+m]? =γ d:=by rw[H _ (κ _)];exact hd
 have G:=qH (y:=(d+c)%4294967296) S;rw[χ (l:=v) aa,hV] at F;have e1:4294967296^j*((q+1)*V)=4294967296^j*(q*V)+4294967296^j*V:=by rw[Z4,aav,ω]
 generalize val (Y.set (j+m) ((d+c)%4294967296))=R at*
 have C:(d+c)%4294967296=d+c\/(d+c)%4294967296+4294967296=d+c:=aa;rcases C with C|C
 .exfalso;rw[C,ω] at G;omega
 .have K:4294967296^(j+m)*((d+c)%4294967296)+4294967296^(j+m+1)=4294967296^(j+m)*d+4294967296^(j+m)*c:=by
   rw[wN,<-ω,<-ω];congr 1
  omega
theorem Wz{x c b:Nat}(J:x<4294967296)(hc:c<4294967296)(hb:b<=1):∃z:Nat,IntKind.u64.wrap (IntKind.u64.wrap ((x:Int)-c)-b)=(z:Int)/\z<18446744073709551616/\(z:Int)%4294967296=(qF ((x:Int)-b-c):Int)/\(oL ((x:Int)-b-c)=0->z<9223372036854775808)/\(oL ((x:Int)-b-c)=1->9223372036854775808<=z):=by
 rw[jX,jX];refine⟨((((x:Int)-c)%18446744073709551616-b)%18446744073709551616).toNat,aa,aa,?_,?_,?_⟩
 .unfold qF;omega
 .unfold oL;split<;>omega
 .unfold oL;split<;>omega
def Gg(B gU j n c d v1 U v w)(hU:iy w gU U)(hB:RM w B (n+2) d v)(Yx:∀ad,B=γ ad->ad.block≠gU)(hn:n<=1000000)(hj:j<=1000000)(YW:j+n+3<=U.length)(hc:n+3<=c)(YE:c<=9223372036854775807)(YI:v[n+1]? =γ v1)(aG:2147483648<=v1)(Yu:val (U.drop (j+1))<val v):
  Calls prog 221 #[aO (γ (aM gU j)) (n+3:Nat) c,aO B (n+2:Nat) d] w fun e w'=>e=.returned (.int .u32 ((val (U.drop j)/val v:Nat):Int))/\∃M,iy w' gU M/\M.length=U.length/\M.take j=U.take j/\
   val M+4294967296^j*(val v*(val (U.drop j)/val v))=val U/\Only gU w w':=by
 have ZH:=hB.len;have ZW:=hB.dg;have Zc:v[n]? =γ v[n]:=ν aa;generalize v[n]=v0 at Zc;obtain⟨u2,u1,u0,YH,YZ,YY,t⟩:=Np hU.2 ZW YW ZH YI Zc aG Yu;obtain⟨bV,oV,rfl,_,ZV⟩:=hB.rd.plain aa;have be:=Yx _ rfl;clear Yx;have Z9:=ZV (n+1) _ (pY YI);have ZI:=ZV n _ (pY Zc);obtain⟨x2,Zx,_,Z8,_⟩:=hU.at_ (k:=j+n+2) aa;obtain⟨x1,Zt,_,bt,_⟩:=hU.at_ (k:=j+n+1) aa;obtain⟨x0,ZA,_,ZJ,_⟩:=hU.at_ (k:=j+n) aa;obtain rfl:x2=u2:=by rw[YH] at Zx;injection Zx with h;exact h.symm
 obtain rfl:x1=u1:=by rw[YZ] at Zt;injection Zt with h;exact h.symm
 obtain rfl:x0=u0:=by rw[YY] at ZA;injection ZA with h;exact h.symm
 have ZG:=aW ZV;have YC:=aW YI;have cg:=aW Zc;have cd:=aW YH;have ca:=aW YZ;have cb:=aW YY;have ZQ:=aW ZH;have ar:=t.m2;have aB:=t.m1;have ay:=t.m0;have az:=t.l1;have Z7:=t.l0;have Zo:=aW (jk.first t);obtain⟨hd,Zn⟩:∃hd,hd=x2*4294967296+x1:=⟨_,rfl⟩;rw[<-Zn] at Zo;have ZN:hd<18446744073709551616:=aa;have e0:bits .or .u64 ((x2:Int)*4294967296) (x1:Int)=(hd:Int):=by rw[or_hi ar aB,Zn];omega
 have ba:=aW Zn;clear Zn;have bA:1<=v1:=aa;have bw:(0:Int)<=(hd:Int)/(v1:Int):=acs aa aa;have av:(hd:Int)/(v1:Int)<=18446744073709551615:=by
  have:=acu hd v1;rw[<-abp];omega
 clear Zx Zt ZA ZV YI Zc YH YZ YY ZH;have T:=aW t;clear t;have a2:j+(n+2)=j+n+2:=aa;have a1:j+(n+1)=j+n+1:=aa;have C:(n:Int)+2-1=(n:Int)+1:=aa;have k3:((n:Int)+1).toNat=n+1:=aa;have k4:((n:Int)+2).toNat=n+2:=aa;go_enter func221,ntmps221;go_wp2_with fail;have d1:(0:Int)<=(n:Int)+2:=aa;have d2:(n:Int)+2<(n:Int)+3:=aa;have d3:(n:Int)+1<(n:Int)+3:=aa;go_quiet (fail);go_wp2_with fail;go_quiet (fail)
 go_upto_block 0 with fail
 go_cut [8,9] (fun gv rv wx=>∃g:Nat,gv=.int .u64 (g:Int)/\g<4294967296/\val (U.drop j)/val v<=g/\g<=val (U.drop j)/val v+1/\Ext w wx)
 case first=>
  go_wp2_with fail;clear e0;go_loopw [8,9] (fun qv rv wr=>∃g rest:Nat,qv=.int .u64 (g:Int)/\rv=.int .u64 (rest:Int)/\rest<4294967296/\jk (val (U.drop j)) (val v) x2 x1 v1 g rest/\Ext w wr) (fun qv _ _=>(intOf qv).toNat)
  case atStart=>exact⟨hd/v1,hd%v1,rfl,rfl,abn (pu _ aa) az,Zo.o,((Ext.refl w).drewN _).drewN _⟩
  case round=>
   obtain⟨g,rest,rfl,rfl,hr,hG,D⟩:=hrel;have b0:=jk.le T.o hG;have HG:=aW hG;clear hG;have ZI:wr.cell? (aM bV (oV+n))=γ (.int .u32 (v0:Int)):=D.cell_ ZI;have ZJ:wr.cell? (aM gU (j+n))=γ (.int .u32 (x0:Int)):=D.cell_ ZJ;have k5:(n:Int)+2-2=(n:Int):=aa;have d4:(n:Int)<(n:Int)+2:=aa;have d5:(n:Int)<(n:Int)+3:=aa;by_cases hb:4294967296<=g
   .have YT:(4294967296:Int)<=g:=aa;have YR:=aW (afS T.o HG.o hb);by_cases H:4294967296<=rest+v1
    .have Zh:(4294967296:Int)<=(rest:Int)+(v1:Int):=aa;obtain⟨s1,s2,s3⟩:=afo T.o YR.o H;have S1:=aW s1;have S2:=aW s2;have S3:=aW s3;clear s1 s2 s3;go_wp2_with fail;go_quiet (fail);go_wp2_with fail
     go_meet
     case rel=>exact⟨g-1,au,S1.o,S2.o,S3.o,D.drewN _⟩
    .have Zh:decide ((4294967296:Int)<=(rest:Int)+(v1:Int))=ζ:=by rw[Z5];omega
     have bm:decide (4294967296<=rest+v1)=ζ:=ρ H;have YB:=aW H;clear H;go_wp2_with fail;go_quiet (fail);go_wp2_with fail
     go_roundw
     case rel=>exact⟨g-1,rest+v1,au,au,by have:=YB.o;omega,YR.o,D.drewN _⟩
     case measure=>simp[aT,intOf]<;>omega
   .obtain⟨tp,Z⟩:∃tp,tp=g*v0:=⟨_,rfl⟩;obtain⟨z,hz⟩:∃z,z=x0+4294967296*rest:=⟨_,rfl⟩;have ZM:tp<=18446744065119617025:=by rw[Z];exact vw aa Z7
    have e1:IntKind.u64.wrap ((g:Int)*(v0:Int))=(tp:Int):=by rw[aaG _ Abu,Z];simp
    have e2:bits .or .u64 ((rest:Int)*4294967296) (x0:Int)=(z:Int):=by rw[or_hi hr ay,hz]
    have bg:z<18446744073709551616:=aa;have YT:decide ((4294967296:Int)<=g)=ζ:=by rw[Z5];omega
    have YF:decide (4294967296<=g)=ζ:=ρ hb;have HB:=aW hb;by_cases hc:z<tp
    .obtain⟨N,Zv⟩:=afD (u0:=x0) (v0:=v0) T.o HG.o (by rw[<-Z,<-hz];exact hc);have YR:=aW Zv;clear Zv;clear Z hz hb;have Za:(z:Int)<tp:=aa;clear hc;by_cases H:4294967296<=rest+v1
     .have Zh:(4294967296:Int)<=(rest:Int)+(v1:Int):=aa;obtain⟨s1,s2,s3⟩:=afo T.o YR.o H;have S1:=aW s1;have S2:=aW s2;have S3:=aW s3;clear s1 s2 s3;have YB:=aW H;clear H;go_wp2_with fail;go_quiet (fail);go_wp2_with fail
      go_meet
      case rel=>exact⟨g-1,au,S1.o,S2.o,S3.o,D.drewN _⟩
     .have Zh:decide ((4294967296:Int)<=(rest:Int)+(v1:Int))=ζ:=by rw[Z5];omega
      have bm:decide (4294967296<=rest+v1)=ζ:=ρ H;have YB:=aW H;clear H;go_wp2_with fail;go_quiet (fail);go_wp2_with fail
      go_roundw
      case rel=>exact⟨g-1,rest+v1,au,au,by have:=YB.o;omega,YR.o,D.drewN _⟩
      case measure=>simp[aT,intOf]<;>omega
    .obtain⟨s2,s3⟩:=jk.pass (u0:=x0) (v0:=v0) T.o HG.o aa (by rw[<-Z,<-hz];omega);have S2:=aW s2;have S3:=aW s3;clear s2 s3 Z hz hb;have Za:(tp:Int)<=z:=aa;clear hc;go_wp2_with fail;go_quiet (fail);go_wp2_with fail
     go_meet
     case rel=>exact⟨g,rfl,by have:=HB.o;omega,S2.o,S3.o,D.drewN _⟩
 case rest=>
  obtain⟨g,rfl,aE,ZR,ZO,D⟩:=hcut;obtain⟨qd,YQ⟩:∃qd,qd=val (U.drop j)/val v:=⟨_,rfl⟩;rw[<-YQ] at ZR ZO;have a5:iy wc gU U:=hU.far D;have a7:=T.Uk;have Zk:val v*qd<=val (U.drop j):=by rw[YQ];exact Nat.mul_div_le _ _
  have Zl:val (U.drop j)<val v*(qd+1):=by rw[YQ];exact adI _ a7
  have Zw:qd<4294967296:=by rw[YQ];exact T.WH
  have Zm:=mW ZW;rw[ZQ.o] at Zm;have YP:val (U.drop (j+(n+3)))=0:=by
   refine drop_zero aa ?_;have h1:=T.fits;have h2:4294967296*val v<=4294967296*4294967296^(n+2):=Ξ _ (aah Zm);rw[show n+3=(n+2)+1 from rfl,wN,nH (4294967296^(n+2))];omega
  have YS:=aW YP;have Zr:=aW YQ;have YL:=aW Zk;have Zp:=aW Zl;have Zi:=aW YW;have bn:=aW a5;clear YP YQ Zk Zl YW a5 Zm a7 Yu e0 bw av ZN ba Zo Z9 ZI Z8 bt ZJ;have ai:∀(i y:Nat),v[i]? =γ y->∀wr,Only gU wc wr->wr.cell? (aM bV (oV+i))=γ (.int .u32 (y:Int)):=fun i y R wr ho=>ho.cell_ (D.cell_ (ZG.o i _ (pY R))) be;have aP:=aW ai;clear ai;go_wp2_with fail
  go_loopw [10,11,75] (fun cv bv iv wr=>∃(i I bo:Nat) (M:List Nat),i<=n+2/\iv=.int .i64 i/\cv=.int .u64 (I:Int)/\bv=.int .u64 (bo:Int)/\I<4294967296/\bo<=1/\JN U M v j i g I bo/\iy wr gU M/\Only gU wc wr) (fun _ _ iv _=>n+2-(intOf iv).toNat)
  case atStart=>exact⟨0,0,0,U,aa,rfl,rfl,rfl,aa,aa,afX _ _ _ _,bn.o,Only.refl _ _⟩
  case round=>
   obtain⟨i,I,bo,M,hi,rfl,rfl,rfl,Yy,YN,hM,F,Zd⟩:=hrel;have HM:=aW hM;clear hM;by_cases Yu:i<n+2
   .obtain⟨x,J,G,YA,bl⟩:=F.at_ (k:=j+i) (by have:=HM.o.1;have:=Zi.o;omega);obtain⟨y,R⟩:∃y,v[i]? =γ y:=⟨_,ν (by rw[ZQ.o];exact Yu)⟩;have K:=ZW.at_ R;have YG:=aP.o i y R wr Zd;have Zz:U[j+i]? =γ x:=by rw[<-HM.o.2.2.1 _ (κ _)];exact J
    obtain⟨tp,Z⟩:∃tp,tp=g*y:=⟨_,rfl⟩;have ZM:tp<=18446744065119617025:=by rw[Z];exact vw aE K
    have e1:IntKind.u64.wrap ((g:Int)*(y:Int))=(tp:Int):=by rw[aaG _ (by rw[show((g:Int)*(y:Int))=((g*y:Nat):Int) by simp,<-Z];omega),Z];simp
    obtain⟨p,hp⟩:∃p,p=tp+I:=⟨_,rfl⟩;have e2:(tp:Int)+(I:Int)=(p:Int):=aa;have YV:p<18446744073709551616:=aa;have e3:(p:Int)%4294967296=((p%4294967296:Nat):Int):=aa;have Zg:p%4294967296<4294967296:=pu _ aa;have e4:(p:Int)/4294967296=((p/4294967296:Nat):Int):=aa;have bp:p/4294967296<4294967296:=aa;have HS:=aW (HM.step Zz R G YN (p:=p) (by rw[hp,Z]));generalize p%4294967296=pl at*
    generalize p/4294967296=ph at*
    have Q:=aW F;clear F J R Zz Z hp;go_wp2_with fail
    go_roundw
    case rel=>
     refine⟨i+1,ph,oL ((x:Int)-bo-pl),_,aa,au,rfl,by rw[Kh G Zg YN],bp,uS _,HS.o,Q.set (L6 G Zg YN) (vE _),Zd.trans (Only.set _ _ _ _)⟩
    case measure=>simp[aT,intOf]<;>omega
   .obtain rfl:i=n+2:=aa;obtain⟨x,J,G,YA,bl⟩:=F.at_ (k:=j+n+2) (by have:=HM.o.1;have:=Zi.o;omega);have Zz:U[j+(n+2)]? =γ x:=by rw[<-HM.o.2.2.1 _ (κ _)];exact J
    have ZL:=Uq HM.o ZQ.o Zz G Yy YN;obtain⟨z,ez,bg,YK,Yz,ZK⟩:=Wz G Yy YN;have ZU:=vE ((x:Int)-bo-I);have ZP:=uS ((x:Int)-bo-I);generalize qF ((x:Int)-bo-I)=dg at*
    generalize oL ((x:Int)-bo-I)=Zy at*
    have L:iy (wr.setCell ⟨gU,j+n+2,δ⟩ (.int .u32 ((z:Int)%4294967296))) gU (M.set (j+(n+2)) dg):=F.set (k:=j+n+2) YK ZU;have ap:(M.set (j+(n+2)) dg).length=U.length:=by rw[aa9];exact HM.o.1
    have a3:(M.set (j+(n+2)) dg).take j=U.take j:=by rw[abu aa];exact HM.o.2.1
    have aq:∀t,j+(n+3)<=t->(M.set (j+(n+2)) dg)[t]? =U[t]? :=fun t ht=>by rw[aaj aa];exact HM.o.2.2.1 _ aa
    have a4:(M.set (j+(n+2)) dg)[j+(n+2)]? =γ dg:=by rw[abD (by rw[HM.o.1];have:=Zi.o;omega)]
    have Yv:=SC YS.o L.2 ap aq;have HX:=aW L;have ZT:=aW ap;have a6:=aW a3;have Zq:=aW aq;have cf:=aW a4;have ZX:=aW ZL;have aw:=aW Yv;have YU:=aW YK;generalize M.set (j+(n+2)) dg=X at*
    have ac:=Zd.trans (Only.set wr gU (j+n+2) (.int .u32 ((z:Int)%4294967296)));clear L ap a3 aq a4 ZL Yv YK J Zz F;rcases(show g=qd\/g=qd+1 by omega) with Zf|Zf
    .have YM:Zy=0:=Re (m:=j+(n+2)+1) (q:=g) (V:=val v) ZX.o aw.o (by rw[Zf];exact Rf (by have:=Zi.o;omega) YL.o);have bq:=Yz YM;have YX:=aW YM;have af:=aW Zf;have bj:(z:Int)/9223372036854775808=0:=aa;have bi:z/9223372036854775808=0:=aa;clear Yz ZK YM Zf;go_wp2_with fail;go_ret;refine⟨aZ (by rw[<-Zr.o,af.o]),X,HX.o,ZT.o,a6.o,?_,(afp D).trans ac⟩;have h1:=ZX.o;rw[YX.o,af.o,Nat.mul_zero,I6,nH qd] at h1;rw[<-Zr.o];exact h1
    .have YJ:Zy=1:=Va (U:=U) (X:=X) (j:=j) (m:=j+(n+2)+1) (q:=g) (V:=val v) ZX.o ZP (by rw[Zf];exact seg_lt hU.2 (by have:=Zi.o;omega) Zp.o);have bq:=ZK YJ;have Yw:=aW YJ;have af:=aW Zf;have bj:(z:Int)/9223372036854775808=1:=aa;have bi:z/9223372036854775808=1:=aa;clear Yz ZK YJ Zf;go_wp2_with fail;have W:=aW ac;clear ac;generalize bb:wr.setCell ⟨gU,j+n+2,δ⟩ (.int .u32 ((z:Int)%4294967296))=w2 at*
     clear bb;go_loopw [10,128] (fun cv iv wr=>∃(i I:Nat) (Y:List Nat),i<=n+2/\iv=.int .i64 i/\cv=.int .u64 (I:Int)/\I<=1/\Ih X Y v j i I/\iy wr gU Y/\Only gU wc wr) (fun _ iv _=>n+2-(intOf iv).toNat)
     case atStart=>exact⟨0,0,X,aa,rfl,rfl,aa,afY _ _ _,HX.o,W.o⟩
     case round=>
      rename_i ce _ _ _ _ _
      obtain⟨i,P,Y,Zj,rfl,rfl,ax,ZB,F,Zd⟩:=hrel;have O:=aW ZB;clear ZB;by_cases YD:i<n+2
      .obtain⟨x',S,a9,ZY,bx⟩:=F.at_ (k:=j+i) (by have:=O.o.1;have:=ZT.o;have:=Zi.o;omega);obtain⟨y,R⟩:∃y,v[i]? =γ y:=⟨_,ν (by rw[ZQ.o];exact YD)⟩;have K:=ZW.at_ R;have YG:=aP.o i y R _ Zd;have Zz:X[j+i]? =γ x':=by rw[<-O.o.2.2.1 _ (κ _)];exact S
       have HS:=aW (O.step Zz R (s:=x'+y+P) rfl);have Q:=aW F;have f1:(i:Int)<(n:Int)+2:=aa;have f2:(i:Int)<(n:Int)+3:=aa;clear F S R Zz;go_wp2_with fail;go_quiet (fail);go_wp2_with fail
       go_roundw
       case rel=>
        refine⟨i+1,(x'+y+P)/4294967296,_,aa,au,au,aa,HS.o,iy.set (Q.drewN _) aa (pu _ aa),(Zd.trans (afp ((Ext.refl _).drewN _))).trans (Only.set _ _ _ _)⟩
       case measure=>simp[aT,intOf]<;>omega
      .obtain rfl:i=n+2:=aa;obtain⟨dd,Ze,am,ZC,cc⟩:=F.at_ (k:=j+n+2) (by have:=O.o.1;have:=ZT.o;have:=Zi.o;omega);have a0:X[j+(n+2)]? =γ dd:=by rw[<-O.o.2.2.1 _ (κ _)];exact Ze
       have ZZ:∀z:Int,z=((dd+P)%4294967296:Nat)->iy (wr.setCell ⟨gU,j+n+2,δ⟩ (.int .u32 z)) gU (Y.set (j+(n+2)) ((dd+P)%4294967296)):=fun z hz=>F.set (k:=j+n+2) hz (pu _ aa);have YB:=aW ZZ;have ZL:=ZX.o;rw[Yw.o,aap,af.o] at ZL;have ao:(Y.set (j+(n+2)) ((dd+P)%4294967296)).length=U.length:=by rw[aa9,O.o.1];exact ZT.o
       have aI:(Y.set (j+(n+2)) ((dd+P)%4294967296)).take j=U.take j:=by rw[abu aa,O.o.2.1];exact a6.o
       have a8:∀t,j+(n+3)<=t->(Y.set (j+(n+2)) ((dd+P)%4294967296))[t]? =U[t]? :=fun t ht=>by rw[aaj aa,O.o.2.2.1 _ aa];exact Zq.o t ht
       have ZF:=Vk (q:=qd) (V:=val v) ZL O.o ZQ.o rfl a0 (SC YS.o (ZZ _ rfl).2 ao a8) (Rf (by have:=Zi.o;omega) YL.o) am ax;have ZE:=aW ZF;have bh:=aW ao;have bk:=aW aI;clear ZZ ZL ao aI a8 ZF a0 Ze F;have YO:1<=g:=by rw[af.o];omega
       go_wp2_with fail;go_ret;refine⟨aZ (by rw[<-Zr.o];have:=af.o;omega),_,YB.o _ aa,bh.o,bk.o,?_,((afp D).trans Zd).trans (Only.set _ _ _ _)⟩;rw[<-Zr.o,nH (val v)];exact ZE.o
theorem Vi{x}(G:0<x)(J:x<4294967296):∃s:Nat,s<32/\32-(Lib.bitLen x:Int)=(s:Int)/\2147483648<=x*2^s/\x*2^s<4294967296:=by
 obtain⟨F,B,D⟩:=Lib.bitLenAux_bounds 64 x aa aa;have C:=Lib.bitLen_le x 32 aa J;unfold Lib.bitLen at C⊢;generalize Lib.bitLenAux 64 x=L at*
 obtain⟨t,rfl⟩:∃t,L=t+1:=⟨L-1,aa⟩;refine⟨31-t,aa,aa,?_,?_⟩
 .have j:2^t*2^(31-t)<=x*2^(31-t):=pq _ (by simpa using B);rw[<-aao,show t+(31-t)=31 by omega] at j;exact j
 .have j:x*2^(31-t)<2^(t+1)*2^(31-t):=aa5 D (Na aa);rw[<-aao,show t+1+(31-t)=32 by omega] at j;exact j
def Oh(A B n m c d a b w)(C:RM w A n c (dF a))(I:RM w B m d (dF b))(j:a<b)(hn:n<=1000000):
  Calls prog 204 #[aO A n c,aO B m d] w fun e w'=>∃q r,e=.returned (.tuple #[q,r])/\SlM (dF (a/b)) q w'/\SlM (dF (a%b)) r w'/\Ext w w':=by
 have F:decide (nY a b<0)=ε:=by rw[lQ];exact Λ j
 go_enter ad5,adB;go_wp2_with fail;refine(je A B n m c d _ _ _ C I (cK _) (cK _)).mono ?_;rintro e w1 ⟨rfl,H⟩;rw[bf,bf];(go_wp2_with (at_builtin;refine jL kN rfl (.const (.slice δ 0 0)) (.tmp 16) rfl w1.heap.size _ 0 [] rf (RS _ _ _ _) _ n _ (mg (dF a)) rf (C.ext H).rd Ci aa aa aa ?_));intro J w2 D G;have P:=gu G (Ext.refl _) Ab6;have T:=aW D;clear D;go_wp2
 go_ret2
 refine⟨_,_,rfl,⟨δ,0,0,rfl,?_⟩,?_,H.trans P⟩
 .rw[abo j,iZ];exact afn
 .rw[aaO j];exact aft (by simpa using T.o) (qx _)
def JS(A B la n c d a b w)(hA:RM w A la c (dF a))(hB:RM w B (n+2) d (dF b))(Yx:b<=a)(ZC:la<=10000):
  Calls prog 204 #[aO A la c,aO B (n+2) d] w fun e w'=>∃q r,e=.returned (.tuple #[q,r])/\SlM (dF (a/b)) q w'/\SlM (dF (a%b)) r w'/\Ext w w':=by
 have YE:decide (nY a b<0)=ζ:=by rw[lQ];exact ρ aa
 have ZE:=aW hA.len;have Zq:=hB.len;have ZW:n+2<=la:=by
  exact Adx
 obtain⟨ad,x,rfl,_,J,G,_⟩:=hB.at_ (k:=n+1) aa;have N:0<x:=by
  have:=cK b x (last_at Zq J);omega
 have HX:=aW J;clear J;have Za:=aW Zq;clear Zq;have t1:(((n+2:Nat):Int)==1)=ζ:=ae;have t2:((n:Int)+2==1)=ζ:=ae;go_enter ad5,adB;go_wp2_with fail;refine(je A (γ ad) la (n+2) c d _ _ _ hA hB (cK _) (cK _)).mono ?_;rintro e w1 ⟨rfl,H⟩;rw[bf,bf];obtain⟨O,Zy⟩:=(hB.ext H).VP HX.o;go_wp2_with fail;obtain⟨s,hs,YL,R,Yy⟩:=Vi N G;refine(bits_LeadingZeros32 (x:Int) _ aa aa).mono ?_;rintro e wz ⟨rfl,Yu⟩;rw[Yu];clear Yu;rw[Hu,YL];clear YL;have hN:Hl b n s x:=⟨Za.o,HX.o,R,Yy,hs⟩;have HN:=aW hN;clear hN;clear O Zy;go_wp2_with fail;refine(vU A la c s (dF a) _ (hA.ext H) aa aa).mono ?_;rintro e w2 ⟨rfl,U,hU,F,YJ,P⟩;rw[bf] at YJ;go_wp2_with fail;refine(vU (γ ad) (n+2) d s (dF b) _ (hB.ext (H.trans P)) aa aa).mono ?_;rintro e w3 ⟨rfl,Q,hQ,Y,YT,Yv⟩;rw[bf] at YT;obtain⟨hV,v1,v0,YI,Zc,ap⟩:=HN.digits Y hQ.2 YT;have Zk:n+2<=n+2+1:=aa;have q1:(0:Int)<=(n:Int)+2:=aa;have Zj:=jT ((la:Int)-((n:Int)+2)+1) (la-n-1) aa aa;go_wp2_with fail;clear Zj;obtain⟨V,YR⟩:∃V,V=val (Q.take (n+2)):=⟨_,rfl⟩;have YK:V=b*2^s:=by rw[YR,hV]
 have Yz:0<V:=by
  exact Ac5
 have Zm:V<4294967296^(n+2):=by rw[YK];exact HN.lt
 have YW:iy (w3.alloc (.cells (mg (List.replicate (la-n-1) 0)).toArray 208)) w1.heap.size U:=hU.far (Yv.alloc _);have ZV:iy (w3.alloc (.cells (mg (List.replicate (la-n-1) 0)).toArray 208)) w2.heap.size Q:=hQ.far (Ext.new _ _);have S:ny U [] (a*2^s) V (la-n-1):=by
  exact AcC
 have YG:=aW YR;have Zn:=aW YK;clear YR YK hV YJ YT;have YA:=P.size;have ZU:=Yv.size;have av:=hU.1.lt;have ax:=hQ.1.lt;have C:=aW F;have YD:=aW Y;have YC:=aW YI;have aw:=aW Zc;have YM:=aW S;clear S F Y YI Zc;have Zo:=aW YW;have ZZ:=aW ZV;clear YW ZV hU hQ;have Yw:Ext w w3:=(H.trans P).trans Yv;go_loopw [11] (fun iv wr=>∃(k:Nat) (U qs:List Nat),k<=la-n-1/\iv=.int .i64 ((k:Int)-1)/\U.length=la+1/\k+qs.length=la-n-1/\ny U qs (a*2^s) V k/\iy wr w1.heap.size U/\iy wr w2.heap.size Q/\iy wr w3.heap.size (List.replicate k 0++qs)/\Ext w wr) (fun iv _=>(intOf iv+1).toNat)
 case atStart=>exact⟨la-n-1,U,[],κ _,by congr 1;omega,C.o,ag,YM.o,Zo.o,ZZ.o,⟨by simpa using Blk.new w3 _ _,by simpa using Dig.replicate _⟩,Yw.alloc _⟩
 case round=>
  clear Zo ZZ YM C;obtain⟨k,U,qs,hk,rfl,F,ZM,Ze,hU,hQ,hq,D⟩:=hrel;have C:=aW F;clear F;have ZX:=aW ZM;clear ZM;have YF:=aW Ze;clear Ze;by_cases h0:k=0
  .subst h0;have T:=YF.done;have Zg:=aW T;clear T;have af:RM wr (γ ⟨w3.heap.size,0,δ⟩) (la-n-1) (la-n-1) qs:=by
    exact Adm
   have ao:RM wr (γ ⟨w1.heap.size,0,δ⟩) (n+2) (n+2) (U.take (n+2)):=(hU.rm (n:=la+1) C.o aa).take aa aa aa;go_wp2;have q2:(0:Int)<=(n:Int)+2:=aa;have q3:(n:Int)+2<=(la:Int)+1:=aa;refine bO 9 [(ε,0),(ε,2),(ε,3),(ε,4),(ε,5),(ε,6),(ζ,1),(ζ,7),(ε,8)] ah ah ?_;refine bD [0,2,3,4,5,6] [(ζ,1),(ζ,7),(ε,8)] _ ah ?_;refine Gq ?_;refine bC 1 [(ζ,7),(ε,8)] ah ?_;intro K I;simp only[bJ];go_wp2_with fail;refine(kL _ _ _ qs _ (af.ext (Ext.refl wr).drew)).mono ?_;rintro e wa ⟨va,rfl,ac,ZG⟩;have ZG:=ZG.jJ;go_wp2;refine I _ _ ⟨⟨wa,ZG⟩,rfl⟩ ?_;clear I K;refine bC 7 [(ε,8)] ah ?_;intro K I;simp only[bJ];go_wp2_with fail;refine(Dk _ (n+2) _ s (U.take (n+2)) _ (ao.ext ZG) aa aa).mono ?_;rintro e wb ⟨vb,rfl,ZK,ZL⟩;have YN:=ZG.trans ZL;go_wp2;refine I _ _ ⟨⟨wb,YN⟩,rfl⟩ ?_;clear I K;refine bD [8] [] _ ah ?_;refine Gq ?_;simp only[dh,ξ,τ];have ZH:val qs=a/b:=by rw[Zg.o.1,Zn.o,Cx]
   have ZY:val (U.take (n+2))/2^s=a%b:=by
    exact Ab3
   rw[ZH] at ac;rw[ZY] at ZK;have ai:=aW (ac.ext ZL);have aq:=aW ZK;clear ac ZK ZH ZY;go_wp2
   go_ret2
   exact⟨_,_,rfl,ai.o,aq.o,D.trans YN⟩
  .obtain⟨j,rfl⟩:∃j,k=j+1:=⟨k-1,aa⟩;rw[show((j+1:Nat):Int)-1=(j:Int) by omega];have YV:RM wr (γ ⟨w2.heap.size,0,δ⟩) (n+2) (n+2) (Q.take (n+2)):=(hQ.rm (n:=n+3) YD.o aa).take aa aa aa;have q2:(0:Int)<=j:=aa;have q3:(j:Int)<=(j:Int)+((n:Int)+2)+1:=aa;have q4:(j:Int)+((n:Int)+2)+1<=(la:Int)+1:=aa;have q5:((j:Int)+((n:Int)+2)+1-(j:Int)).toNat=n+3:=aa;go_wp2_with fail;rw[show j+(n+2)+1-j=n+3 by omega];refine(Gg (γ ⟨w2.heap.size,0,δ⟩) w1.heap.size j n _ _ v1 U (Q.take (n+2)) _ hU YV (fun ad e=>by cases e;simp;omega) aa aa AaW aa aa YC.o ap (by rw[<-YG.o];exact YF.o.2)).mono ?_;rintro e w5 ⟨rfl,M,ZN,Z,YP,L,Zd⟩;rw[<-YG.o] at L;rw[<-YG.o];have Zw:val (U.drop j)/V<4294967296:=by
    rw[aaQ Yz];obtain⟨xj,YH⟩:∃xj,U[j]? =γ xj:=⟨_,ν AaW⟩;exact MW hU.2 YH YF.o.2
   obtain⟨qd,YQ⟩:∃qd,qd=val (U.drop j)/V:=⟨_,rfl⟩;rw[<-YQ] at L Zw;rw[<-YQ];have YS:iy w5 w3.heap.size (List.replicate (j+1) 0++qs):=⟨Zd.blk hq.1 aa,hq.2⟩;have ZT:iy w5 w2.heap.size Q:=⟨Zd.blk hQ.1 aa,hQ.2⟩;obtain⟨z,_,_,W,YB⟩:=YS.at_ (k:=j) ae;have ZP:=YF.step AaW Z YP L YQ Yz;have Zv:=aW ZP;have Zh:=aW ZN;have Zz:=aW ZT;have am:=aW YS;have YX:=aW Z;clear ZP ZN ZT YS Z YP L hU YV hQ hq YQ;have ar:=D.size;have ZF:Ext w w5:=Zd.ext D (by have:=H.size;omega);have q6:(j:Int)<((la-n-1:Nat):Int):=aa;go_wp2;go_roundw
   case rel=>
    refine⟨j,M,qd::qs,aa,au,by rw[YX.o,C.o],by have:=ZX.o;simp;omega,Zv.o,?_,?_,?_,ZF.setCell Yw.size _⟩
    .exact⟨Zh.o.1.far ae _,Zh.o.2⟩
    .exact⟨Zz.o.1.far ae _,Zz.o.2⟩
    .have h1:=am.set (k:=j) (d:=qd) rfl Zw;rwa[GX] at h1
   case measure=>simp[aT,intOf]<;>omega
def Km(A B n c d a b w)(hA:RM w A n c (dF a))(hB:RM w B 1 d (dF b))(Yx:b<=a)(hn:n<=1000000):
  Calls prog 204 #[aO A n c,aO B 1 d] w fun e w'=>∃q r,e=.returned (.tuple #[q,r])/\SlM (dF (a/b)) q w'/\SlM (dF (a%b)) r w'/\Ext w w':=by
 have YE:decide (nY a b<0)=ζ:=by rw[lQ];exact ρ aa
 obtain⟨ad,x,rfl,_,J,G,R⟩:=hB.at_ (k:=0) aa;have Z:=hB.len;have T:dF b=[x]:=by
  match hd:dF b,Z,J with
  |[y],_,h=>simp at h;rw[h]
 have hb:b=x:=by rw[<-bf b,T];simp[val]
 subst hb;have V:0<b:=by
  exact Abx
 have ZE:=aW hA.len;have HC:=aW R;clear R J Z T;go_enter ad5,adB;go_wp2_with fail;refine(je A (γ ad) n 1 c d _ _ _ hA hB (cK _) (cK _)).mono ?_;rintro e w1 ⟨rfl,H⟩;rw[bf,bf];(go_wp2_with (at_builtin;refine jL kN rfl (.const (.slice δ 0 0)) (.tmp 22) rfl w1.heap.size _ 0 [] rf (RS _ _ _ _) _ n _ (mg (dF a)) rf (hA.ext H).rd Ci aa aa aa ?_));intro v2 w2 ho hg;have P:=gu hg (Ext.refl _) Ab6;have C:=H.trans P;rcases agH ho (qx _) with ⟨_,h1,h2⟩|⟨g,N,r,rfl,ac,F,K,D⟩
 .exfalso;rw[oz] at h2;omega
 .clear ho hg;have O:w2.cell? ad=γ (.int .u32 (b:Int)):=C.cell_ HC.o;go_wp2_with fail;refine(Ja g n N b (dF a) r _ F ZE.o hn V G).mono ?_;rintro e w3 ⟨rfl,q,hq,Q,j,Zd⟩;rw[bf] at j;rw[bf];have Yv:Ext w w3:=Zd.ext C (Θ H.size ac);have U:a%b<4294967296:=abn (pu _ V) G;generalize hr:a%b=S at*
  have YP:=aW hr;clear hr;have M:=aW j;clear j;have I:=hq.rm Q K D;have YD:=aW Q;clear Q;go_wp2_with fail;refine(kL _ n N q _ I).mono ?_;rintro e w4 ⟨v4,rfl,W,Yw⟩;rw[M.o] at W;go_wp2_with fail;refine(kL _ 1 1 [S] _ (RM.blk (Blk.new _ _ _) (Dig.one U) rfl aa)).mono ?_;rintro e w5 ⟨v5,rfl,YG,Y⟩;have L:=W.ext ((Ext.new w4 _).trans Y);go_wp2
  go_ret2
  refine⟨_,_,rfl,L,by rw[YP.o];simpa[val] using YG,(Yv.trans Yw).trans ((Ext.new w4 _).trans Y)⟩
def DJ(A B n m c d a b w)(C:RM w A n c (dF a))(j:RM w B m d (dF b))(hb:0<b)(hn:n<=10000):
  Calls prog 204 #[aO A n c,aO B m d] w fun e w'=>∃q r,e=.returned (.tuple #[q,r])/\SlM (dF (a/b)) q w'/\SlM (dF (a%b)) r w'/\Ext w w':=by
 rcases Nq a b with h|h
 .exact Oh A B n m c d a b w C j h aa
 .match m,j with
  |0,j=>
   have D:=j.empty;rw[oz] at D;omega
  |1,j=>exact Km A B n c d a b w C j h aa
  |k+2,j=>exact JS A B n k c d a b w C j h hn
def SA{x y q r}(R:y≠0)(h:q*y+r=x)(j:0<=r)(C:r<(y.natAbs:Int)):x/y=q/\x%y=r:=by
 rcases Int.lt_or_lt_of_ne R with hn|hp
 .have B:(-y)*(-q)+r=x:=by rw[Int.neg_mul_neg,ac6];exact h
  have:=(ads (a:=x) (b:= -y) (q:= -q) (r:=r) aa).2 ⟨aa,j,aa⟩;rw[Int.ediv_neg,Int.emod_neg] at this;exact⟨aa,this.2⟩
 .exact(ads hp).2 ⟨by rw[ac6] at h;omega,j,aa⟩
theorem Ia(z):zOf (decide (z<0)) z.natAbs=z:=by
 unfold zOf;by_cases h:z<0
 .simp[h];omega
 .simp[h];omega
def Iw(a b m n):zOf a m*zOf b n=zOf (a !=b) (m*n):=by
 cases a<;>cases b<;>simp[zOf,Int.neg_mul,Int.mul_neg]
theorem tO{x y}(R:y≠0)(h:x<0->x.natAbs%y.natAbs=0):x/y=zOf (decide (x<0) !=decide (y<0)) (x.natAbs/y.natAbs)/\x%y=((x.natAbs%y.natAbs:Nat):Int):=by
 have hp:0<y.natAbs:=aa;have B:=aby x.natAbs y.natAbs;have C:=pu x.natAbs hp;refine SA R ?_ aa aa;have e:zOf (decide (x<0) !=decide (y<0)) (x.natAbs/y.natAbs)*y=zOf (decide (x<0)) (x.natAbs/y.natAbs*y.natAbs):=by
  have j:=Iw (decide (x<0) !=decide (y<0)) (decide (y<0)) (x.natAbs/y.natAbs) y.natAbs;rw[Ia] at j;rw[j];congr 1;cases decide (x<0)<;>cases decide (y<0)<;>rfl
 rw[e];rw[nH] at B;generalize x.natAbs/y.natAbs*y.natAbs=t at*
 unfold zOf;by_cases J:x<0
 .have:=h J;simp[J];omega
 .simp[J];omega
theorem zF{x y}(R:y≠0)(J:x<0)(h:0<x.natAbs%y.natAbs):x/y=zOf (decide (x<0) !=decide (y<0)) (x.natAbs/y.natAbs+1)/\x%y=((y.natAbs-x.natAbs%y.natAbs:Nat):Int):=by
 have hp:0<y.natAbs:=aa;have B:=aby x.natAbs y.natAbs;have C:=pu x.natAbs hp;refine SA R ?_ aa aa;have e:zOf (decide (x<0) !=decide (y<0)) (x.natAbs/y.natAbs+1)*y=zOf (decide (x<0)) ((x.natAbs/y.natAbs+1)*y.natAbs):=by
  have j:=Iw (decide (x<0) !=decide (y<0)) (decide (y<0)) (x.natAbs/y.natAbs+1) y.natAbs;rw[Ia] at j;rw[j];congr 1;cases decide (x<0)<;>cases decide (y<0)<;>rfl
 rw[e,Z4,aav];rw[nH] at B;generalize x.natAbs/y.natAbs*y.natAbs=t at*
 unfold zOf;simp[J];omega
def Ed{x y:Int}(R:y≠0)(J:x<0)(h:0<x.natAbs%y.natAbs):x.natAbs/y.natAbs+1<=x.natAbs:=by
 have hp:0<y.natAbs:=aa;have B:=aby x.natAbs y.natAbs;have j:=pu x.natAbs hp;have C:1*(x.natAbs/y.natAbs)<=y.natAbs*(x.natAbs/y.natAbs):=pq _ hp;omega
def Sb (q r e:Int) (v:Value) (w:World):Prop:=∃a b,v=.tuple #[a,b,e]/\RI w a q/\RI w b r

section
variable {w w1:World} {x y r s:Obj} {cs:Array Value} {t:TypeId}
def yP(J:Ext ((((w.alloc x).alloc y).alloc r).alloc s) w1):Ext w w1:=((((Ext.new w _).alloc _).alloc _).alloc _).trans J
def xC(J:Ext ((((w.alloc (.cells cs t)).alloc y).alloc r).alloc s) w1):Blk w1 w.heap.size t cs:=((((Blk.new w t cs).alloc _).alloc _).alloc _).ext J
def uM(J:Ext ((((w.alloc x).alloc (.cells cs t)).alloc r).alloc s) w1):Blk w1 (w.heap.size+1) t cs:=(((aeV t cs ag).alloc _).alloc _).ext J
def Ii(J:Ext ((((w.alloc x).alloc y).alloc (.cells cs t)).alloc s) w1):Blk w1 (w.heap.size+2) t cs:=((aeV t cs ag).alloc _).ext J
def Iz(J:Ext ((((w.alloc x).alloc y).alloc r).alloc (.cells cs t)) w1):Blk w1 (w.heap.size+3) t cs:=(aeV t cs ag).ext J
end
def yD{x y:Int}(O:x.natAbs<lim):x.natAbs/y.natAbs<lim:=ψ (acu _ _) O
def NG{x y:Int}(O:x.natAbs<lim):x.natAbs%y.natAbs<lim:=ψ (Nat.mod_le _ _) O
def ve{s k z}(h:z=zOf s k)(j:k<lim):qg (zOf s k)=(z,0):=by rw[kW (by rw[vC];exact j),h]
def mi{k n}(h:(dF k).length=n):0<n↔0<k:=by
 rcases BB k with j|j
 .subst j;rw[iZ] at h;simp at h;omega
 .have:dF k≠[]:=fun e=>by rw[oz] at e;omega
  have:=acA.2 this;omega
def OU(v u x y w)(L:RI w v x)(M:RI w u y)(O:x.natAbs<lim)(S:y.natAbs<lim)(YI:y≠0):
  CV 195 #[v,u] w fun v w'=>Sb (x/y) (x%y) 0 v w':=by
 have YC:=aW (ae2 L O);have V:=aW (ae2 M S);obtain⟨A,n,c,rfl,J⟩:=L;obtain⟨B,m,d,rfl,R⟩:=M;have hn:=J.kF O;have hm:=R.kF S;have Zm:0<m:=(mi R.len).2 aa;have t1:((m:Int)==0)=ζ:=ae;have t2:(m==0)=ζ:=ae;generalize YT:decide (x<0)=sx at*
 generalize YQ:decide (y<0)=sy at*
 have YM:=aW YT;have YP:=aW YQ;clear YT YQ;go_enter func195,ntmps195;go_wp2_with fail;refine(iG _ A n c _ _ (J.ext ((((Ext.new w _).alloc _).alloc _).alloc _))).mono ?_;rintro e w1 ⟨rfl,H⟩;rw[YC.o];have c0:=(xC H).cell;have c1:=(uM H).cell;go_wp2_with fail;refine(iG _ B m d _ _ (R.ext (yP H))).mono ?_;rintro e w2 ⟨rfl,P⟩;rw[V.o];clear c0 c1;have P:=H.trans P;have c0:=(xC P).cell;have c1:=(uM P).cell;go_wp2_with fail;refine(DJ A B n m c d x.natAbs y.natAbs _ (J.ext (yP P)) (R.ext (yP P)) aa aa).mono ?_;rintro e w3 ⟨q,r,rfl,⟨Aq,nq,cq,rfl,hQ⟩,⟨Ar,nr,cr,rfl,hR⟩,Yv⟩;clear c0 c1;have Yv:=P.trans Yv;have c0:=(xC Yv).cell;have c1:=(uM Yv).cell;have YO:=mi hR.len;by_cases Y:sx=ε/\0<nr
 .obtain⟨rfl,YV⟩:=Y;have N:x<0:=aaZ YM.o;have Yx:=YO.1 YV;have Zg:=zF (x:=x) (y:=y) YI N Yx;rw[YM.o,YP.o] at Zg;have Zl:=aW Zg;clear Zg;have YL:=aW (Ed YI N Yx);have ac:nq<=400:=by have:=hQ.len;have:=ku (yD (y:=y) O);omega
  have Yy:=pu x.natAbs (show 0<y.natAbs by omega);have YS:nr<=m:=by
   exact Aca
  have YX:(0:Int)<nr:=aa;have YR:=aW Yy;clear Yy N Yx YO;go_wp2_with fail;refine(BR Aq _ nq 1 cq 1 _ [1] _ (hQ.ext (Ext.new w3 _)) (RM.blk (Blk.new _ _ _) (Dig.one aa) rfl aa) aa aa).mono ?_;rintro e w4 ⟨v4,rfl,⟨Aq,nq,cq,rfl,hQ⟩,Yw⟩;rw[bf,show val [1]=1 from rfl] at hQ;have YK:=(Ext.new w3 _).trans Yw;have W:=hR.ext YK;have Yw:=Yv.trans YK;clear c0 c1 hR;have c1:=(uM Yw).cell;go_wp2_with fail;refine(wm B Ar m nr d cr _ _ _ (R.ext (yP Yw)) W aa YS (by rw[bf,bf];exact aah YR.o)).mono ?_;rintro e w5 ⟨v5,rfl,⟨Ar,nr,cr,rfl,hR⟩,Yz⟩;rw[bf,bf] at hR;have hQ:=hQ.ext Yz;have Yz:=Yw.trans Yz;clear c1;have c0:=(xC Yz).cell;have c1:=(uM Yz).cell;clear Yw YK;obtain⟨zq,Yu⟩:∃z,z=x/y:=⟨_,rfl⟩;obtain⟨zr,YB⟩:∃z,z=x%y:=⟨_,rfl⟩;go_wp2_with fail;refine(jb _ Aq nq cq _ _ hQ).mono ?_;rintro e w4 ⟨v4,rfl,j,Yw⟩;have G:=aW Yu;have YA:=aW YB;clear Yu YB;have T:=G.trans Zl.o.1;simp only[acQ] at T;rw[bf,ve T (ψ YL.o O)] at j;have YD:=aW T;clear T;obtain⟨u4,rfl,A4,n4,c4,rfl,D⟩:=j;have W:=hR.ext Yw;have Yw:=Yz.trans Yw;clear c0 c1;have b4:=Ii Yw;have YJ:=b4.cell;have f4:=b4.frozen;obtain⟨C,k2,k3⟩:=jO (yP Yw) aa b4 (decide (zq<0)) A4 n4 c4;have YG:=k3 _ _ _ _ W;have F:=k3 _ _ _ _ D;have b5:=((Iz Yw).far (p:=aM (w.heap.size+2) 0) ag (.bool (decide (zq<0)))).far (p:=aM (w.heap.size+2) 1) ag (.slice A4 n4 c4);clear k3;have K1:=aW C;have U:=aW k2;have Z:=aW F;have Zq:=aW YG;have YF:=aW b5;clear C k2 F YG b5 D W hQ hR;go_wp2_with fail;refine(jb ζ Ar _ cr _ _ Zq.o).mono ?_;rintro e w6 ⟨v6,rfl,j,Q⟩;rw[bf,ve (show zr=zOf ζ _ from YA.o.trans Zl.o.2) (ψ (Nat.sub_le _ _) S)] at j;exact Aai
 .have Zg:=tO (x:=x) (y:=y) YI (fun h=>by
   have h1:sx=ε:=by rw[<-YM.o];exact Λ h
   have:¬0<nr:=fun h2=>Y ⟨h1,h2⟩;rw[YO] at this;omega)
  rw[YM.o,YP.o] at Zg;have Zl:=aW Zg;clear Zg;have Za:sx=ζ\/(sx=ε/\nr=0):=by
   cases sx
   .exact .inl rfl
   .simp at Y;exact .inr ⟨rfl,aa⟩
  clear Y YO;rcases Za with rfl|⟨rfl,rfl⟩
  all_goals
   obtain⟨zq,Yu⟩:∃z,z=x/y:=⟨_,rfl⟩;obtain⟨zr,YB⟩:∃z,z=x%y:=⟨_,rfl⟩;go_wp2_with fail;refine(jb _ Aq nq cq _ _ hQ).mono ?_;rintro e w4 ⟨v4,rfl,j,Yw⟩;have G:=aW Yu;have YA:=aW YB;clear Yu YB;have T:=G.trans Zl.o.1;simp only[Bool.false_bne,acQ] at T;rw[bf,ve T (yD O)] at j;have YD:=aW T;clear T;obtain⟨u4,rfl,A4,n4,c4,rfl,D⟩:=j;have W:=hR.ext Yw;have Yw:=Yv.trans Yw;clear c0 c1;have b4:=Ii Yw;have YJ:=b4.cell;have f4:=b4.frozen;obtain⟨C,k2,k3⟩:=jO (yP Yw) aa b4 (decide (zq<0)) A4 n4 c4;have YG:=k3 _ _ _ _ W;have F:=k3 _ _ _ _ D;have b5:=((Iz Yw).far (p:=aM (w.heap.size+2) 0) ag (.bool (decide (zq<0)))).far (p:=aM (w.heap.size+2) 1) ag (.slice A4 n4 c4);clear k3;have K1:=aW C;have U:=aW k2;have Z:=aW F;have Zq:=aW YG;have YF:=aW b5;clear C k2 F YG b5 D W hQ hR;go_wp2_with fail;refine(jb ζ Ar _ cr _ _ Zq.o).mono ?_;rintro e w6 ⟨v6,rfl,j,Q⟩;rw[bf,ve (show zr=zOf ζ _ from YA.o.trans Zl.o.2) (NG O)] at j;exact Aai
def KF(v u x y w)(L:RI w v x)(M:RI w u y)(O:x.natAbs<lim)(S:y.natAbs<lim)(YI:y≠0):
  CV 182 #[v,u] w fun v w'=>Sb (x/y) (x%y) 0 v w':=by
 have YC:=aW (ae2 L O);have V:=aW (ae2 M S);obtain⟨A,n,c,rfl,J⟩:=L;obtain⟨B,m,d,rfl,R⟩:=M;have hn:=J.kF O;have hm:=R.kF S;have Zm:0<m:=(mi R.len).2 aa;have t1:((m:Int)==0)=ζ:=ae;have t2:(m==0)=ζ:=ae;generalize YT:decide (x<0)=sx at*
 generalize YQ:decide (y<0)=sy at*
 have YM:=aW YT;have YP:=aW YQ;clear YT YQ;go_enter func182,ntmps182;go_wp2_with fail;refine(fI _ A n c _ _ (J.ext ((((Ext.new w _).alloc _).alloc _).alloc _))).mono ?_;rintro e w1 ⟨rfl,H⟩;rw[YC.o];have c0:=(xC H).cell;have c1:=(uM H).cell;go_wp2_with fail;refine(fI _ B m d _ _ (R.ext (yP H))).mono ?_;rintro e w2 ⟨rfl,P⟩;rw[V.o];clear c0 c1;have P:=H.trans P;have c0:=(xC P).cell;have c1:=(uM P).cell;go_wp2_with fail;refine(zH A B n m c d x.natAbs y.natAbs _ (J.ext (yP P)) (R.ext (yP P)) aa aa).mono ?_;rintro e w3 ⟨q,r,rfl,⟨Aq,nq,cq,rfl,hQ⟩,⟨Ar,nr,cr,rfl,hR⟩,Yv⟩;clear c0 c1;have Yv:=P.trans Yv;have c0:=(xC Yv).cell;have c1:=(uM Yv).cell;have ad:nq<=400:=by have:=hQ.len;have:=ku (yD (y:=y) O);omega
 have YO:nr<=400:=by have:=hR.len;have:=ku (NG (y:=y) O);omega
 cases sx
 .have Zg:=tO (x:=x) (y:=y) YI (fun h=>absurd h (of_decide_eq_false YM.o));rw[YM.o,YP.o] at Zg;have Zl:=aW Zg;clear Zg;have YD:Hid (∀z:Int,z=x/y->z.natAbs<lim):=aW (fun z hz=>by rw[hz,Zl.o.1,vC];exact yD O);obtain⟨zq,Yu⟩:∃z,z=x/y:=⟨_,rfl⟩;obtain⟨zr,YB⟩:∃z,z=x%y:=⟨_,rfl⟩;have G:=aW Yu;have YA:=aW YB;clear Yu YB;have T:=G.trans Zl.o.1;simp only[Bool.false_bne] at T;exact Aah
 ·go_wp2_with fail;refine(ja Ar nr cr _ _ hR aa).mono ?_;rintro e Zc ⟨v3,rfl,⟨At,nt,ct,rfl,hT⟩,YW⟩;rw[bf] at hT;have YJ:=mi hT.len;have hQ:=hQ.ext YW;have hR:=hR.ext YW;have Yv:=Yv.trans YW;clear c0 c1;have c0:=(xC Yv).cell;have c1:=(uM Yv).cell;by_cases YU:0<nt
  .have N:x<0:=aaZ YM.o;have Yx:=YJ.1 YU;have Zg:=zF (x:=x) (y:=y) YI N Yx;rw[YM.o,YP.o] at Zg;have Zl:=aW Zg;clear Zg;have YL:=aW (Ed YI N Yx);have YD:Hid (∀z:Int,z=x/y->z.natAbs<lim):=aW (fun z hz=>by rw[hz,Zl.o.1,vC];exact ψ YL.o O);have Yy:=pu x.natAbs (show 0<y.natAbs by omega);have YS:nr<=m:=by
    exact Aca
   have YX:(0:Int)<nt:=aa;have YR:=aW Yy;clear Yy N Yx YJ;go_wp2_with fail;refine(EM Aq _ nq 1 cq 1 _ [1] _ (hQ.ext (Ext.new Zc _)) (RM.blk (Blk.new _ _ _) (Dig.one aa) rfl aa) aa aa).mono ?_;rintro e w4 ⟨v4,rfl,⟨lq,⟨Aq,YY,cq,rfl,hQ⟩,ZK,ZN⟩,Yw⟩;rw[bf,show val [1]=1 from rfl] at ZK;have Ze:YY<=402:=by have:=hQ.len;omega
   have Zd:=aW ZK;clear ZK;have YK:=(Ext.new Zc _).trans Yw;have W:=hR.ext YK;have Yw:=Yv.trans YK;clear c0 c1 hR;have c1:=(uM Yw).cell;go_wp2_with fail;refine(xu B Ar m nr d cr _ _ _ (R.ext (yP Yw)) W aa YS (by rw[bf,bf];exact aah YR.o)).mono ?_;rintro e w5 ⟨v5,rfl,⟨Ar,Za,cr,rfl,hR⟩,Yz⟩;rw[bf,bf] at hR;have Zf:Za<=400:=by have:=hR.len;have:=ku (ψ (Nat.sub_le y.natAbs (x.natAbs%y.natAbs)) S);omega
   have hQ:=hQ.ext Yz;have Yv:=Yw.trans Yz;clear c1 Yw YK;have c0:=(xC Yv).cell;have c1:=(uM Yv).cell;obtain⟨zq,Yu⟩:∃z,z=x/y:=⟨_,rfl⟩;obtain⟨zr,YB⟩:∃z,z=x%y:=⟨_,rfl⟩;have G:=aW Yu;have YA:=aW YB;clear Yu YB;have T:=G.trans Zl.o.1;simp only[acQ] at T;have Q:zr=zOf ζ _:=YA.trans Zl.o.2;go_wp2_with fail;refine(iJ _ Aq YY cq _ _ hQ aa).mono ?_;rintro e w4 ⟨v4,rfl,D,Yw⟩;rw[Zd.o] at D;rw[<-T] at D;have ac:=aW Q;clear Q T;have U:zq.natAbs<lim:=YD.o zq G.o;have W:=hR.ext Yw;have Yw:=Yv.trans Yw;clear c0 c1 hQ hR;go_wp2_with fail;refine(kH _ zq _ D).mono ?_;rintro e w5 ⟨v5,rfl,j,Yz⟩;rw[kW U] at j;obtain⟨u5,rfl,A5,n5,c5,rfl,F⟩:=j;have YG:=W.ext Yz;have Yz:=Yw.trans Yz;clear D W;go_wp2_with fail;have Y9:=aX.blk (Blk.new w5 40 #[(decide (zq<0)),aO A5 n5 c5]);have YN:=Yz.trans (Ext.new w5 (.cells #[(decide (zq<0)),aO A5 n5 c5] 40));have YV:=YG.ext (Ext.new w5 (.cells #[(decide (zq<0)),aO A5 n5 c5] 40));have YE:=F.ext (Ext.new w5 (.cells #[(decide (zq<0)),aO A5 n5 c5] 40));generalize w5.alloc (.cells #[(decide (zq<0)),aO A5 n5 c5] 40)=w6 at*
   refine bO 3 [(ε,0),(ε,1),(ζ,2)] ah ah ?_;refine bD [0,1] [(ζ,2)] _ ah ?_;refine Gq ?_;refine bC 2 [] ah ?_;intro K I;simp only[bJ];go_wp2_with fail;refine(iJ ζ Ar Za cr _ _ (YV.ext (Ext.refl w6).drew) aa).mono ?_;exact AdG
  .have hz:=YJ;have Zg:=tO (x:=x) (y:=y) YI (fun h=>by have:=mt YJ.2 YU;omega);rw[YM.o,YP.o] at Zg;have Zl:=aW Zg;clear Zg;have YD:Hid (∀z:Int,z=x/y->z.natAbs<lim):=aW (fun z hz=>by rw[hz,Zl.o.1,vC];exact yD O);obtain rfl:nt=0:=aa;clear YJ YU;obtain⟨zq,Yu⟩:∃z,z=x/y:=⟨_,rfl⟩;obtain⟨zr,YB⟩:∃z,z=x%y:=⟨_,rfl⟩;have G:=aW Yu;have YA:=aW YB;clear Yu YB;have T:=G.trans Zl.o.1;simp only[acQ] at T;exact Aah
def Ik(a b:Nat)(w)(ha:a<18446744073709551616)(hb:b<18446744073709551616):
  CE 201 #[.int .u64 (a:Int),.int .u64 (b:Int)] w (.int .u64 ((Nat.gcd a b:Nat):Int)):=by
 go_enter func201,ntmps201;go_wp2_with fail
 go_loopw [0,1] (fun J bv wr=>∃p q:Nat,J=.int .u64 (p:Int)/\bv=.int .u64 (q:Int)/\p<18446744073709551616/\q<18446744073709551616/\Nat.gcd p q=Nat.gcd a b/\Ext w wr) (fun _ bv _=>(intOf bv).toNat)
 case atStart=>exact⟨a,b,rfl,rfl,ha,hb,rfl,Ext.refl _⟩
 case round=>
  obtain⟨p,q,rfl,rfl,hp,hq,G,D⟩:=hrel;have H:=aW G;clear G;by_cases I:q=0
  .subst I;go_wp2;go_ret;exact⟨aZ (by rw[<-H.o,acK]),D⟩
  .have B:0<q:=aa;have O:=pu p B;have e1:(p:Int)%(q:Int)=((p%q:Nat):Int):=ag;have C:=aW (show Nat.gcd q (p%q)=Nat.gcd a b by rw[<-H.o,aaE p q,aeK q p,aaE]);have M:((q:Int) !=0)=ε:=ae;have K:(q !=0)=ε:=ae;have L:(q:Int)≠0:=aa;have N:=aW e1;clear e1;generalize F:p%q=j at*
   clear F;go_wp2_with fail;go_quiet (fail);go_wp2_with fail
   go_roundw
   case rel=>exact⟨q,j,rfl,by rw[N.o],hq,aa,C.o,D.drewN _⟩
   case measure=>simp only[intOf];rw[N.o];omega
def vR{k n}(h:(dF k).length=n)(hn:n<=2):k<18446744073709551616:=eG (k:=2) aa
def LD(g):val [g%4294967296,g/4294967296]=g:=by simp only[val];omega
def WQ(v u x y w)(L:RI w v x)(M:RI w u y)(O:x.natAbs<lim)(S:y.natAbs<lim):
  CV 177 #[v,u] w fun v w'=>mM ((Nat.gcd x.natAbs y.natAbs:Nat),0) v w':=by
 have YC:=aW (ae2 L O);have V:=aW (ae2 M S);obtain⟨A,n,c,rfl,J⟩:=L;obtain⟨B,m,d,rfl,R⟩:=M;go_enter func177,ntmps177;go_wp2_with fail;refine(iG _ A n c _ _ (J.ext (((Ext.new w _).alloc _).alloc _))).mono ?_;rintro e w1 ⟨rfl,H⟩;rw[YC.o];have c0:=(iI H).cell;have c1:=(iY H).cell;go_wp2_with fail;refine(iG _ B m d _ _ (R.ext (fZ H))).mono ?_;rintro e w2 ⟨rfl,P⟩;rw[V.o];clear c0 c1;have P:=H.trans P;have c0:=(iI P).cell;have c1:=(iY P).cell;go_wp2_with fail;go_quiet (fail);go_wp2_with fail;clear c0 c1;go_loopg [6,7] y.natAbs (fun gk av bv wr=>∃A n c B m d p,av=.slice A n c/\bv=.slice B m d/\RM wr A n c (dF p)/\RM wr B m d (dF gk)/\p<lim/\gk<lim/\Nat.gcd p gk=Nat.gcd x.natAbs y.natAbs/\Ext w2 wr)
 case atStart=>exact⟨A,n,c,B,m,d,x.natAbs,rfl,rfl,J.ext ((fZ P).drewN _),R.ext ((fZ P).drewN _),O,S,rfl,(Ext.refl _).drewN _⟩
 case round=>
  clear J R;obtain⟨A',n',c',B',N,d',p,rfl,rfl,hA,hB,hp,hq,hg,D⟩:=hrel;have YB:=hA.len;have ac:=hB.len;have YL:n'<=400:=by have:=ku hp;omega
  have YD:N<=400:=by have:=ku hq;omega
  have YU:=mi ac;have HG:=aW hg;have ZE:=aW YB;have Za:=aW ac;clear hg YB ac;by_cases h0:0<N
  .have YA:=YU.1 h0;have Yx:(0:Int)<N:=aa;by_cases K:n'<=2/\N<=2
   .obtain⟨Zp,YT⟩:=K;have YF:(n':Int)<=2:=aa;have YG:(N:Int)<=2:=aa;have Yz:=vR ZE.o Zp;have W:=vR Za.o YT;go_wp2_with fail;refine(IJ A' n' c' _ _ hA Zp).mono ?_;rintro e w4 ⟨rfl,rfl⟩;rw[bf];go_wp2_with fail;refine(IJ B' N d' _ _ hB YT).mono ?_;rintro e w5 ⟨rfl,rfl⟩;rw[bf];go_wp2_with fail;refine(Ik p gk _ Yz W).mono ?_;rintro e w6 ⟨rfl,Q⟩;rw[HG.o];have Q:=(P.trans D).trans Q;obtain⟨G,hG⟩:∃G,G=Nat.gcd x.natAbs y.natAbs:=⟨_,rfl⟩;have I:G<lim:=by rw[hG,<-HG.o];exact ψ (Nat.gcd_le_right _ YA) hq
    have YH:G<18446744073709551616:=by rw[hG,<-HG.o];exact ψ (Nat.gcd_le_right _ YA) W
    rw[<-hG];have YE:=aW hG;clear hG;have e1:(G:Int)%4294967296=((G%4294967296:Nat):Int):=aa;have e2:(G:Int)/4294967296=((G/4294967296:Nat):Int):=aa;have ad:Dig [G%4294967296,G/4294967296]:=by
     intro z hz;simp at hz;omega
    have ZV:=LD G;have YJ:G/4294967296<4294967296:=aa;generalize G%4294967296=g0 at*
    generalize G/4294967296=g1 at*
    have HV:=aW ZV;clear ZV;go_wp2_with fail;refine(jb ζ _ 2 2 [g0,g1] _ (RM.blk (Blk.new _ _ _) ad rfl aa)).mono ?_;rintro e w7 ⟨v7,rfl,j,Y⟩;obtain⟨Z,hZ⟩:∃Z:Int,Z=(G:Int):=⟨_,rfl⟩;rw[HV.o,ve (z:=Z) (hZ.trans (by simp[zOf])) I] at j;have HZ:=aW hZ;clear hZ;obtain⟨u7,rfl,A2,n2,c2,rfl,hI⟩:=j;have Yv:=(Q.trans (Ext.new w6 _)).trans Y;exact Ab9
   .have Zl:decide ((n':Int)<=2)=ζ\/(n'<=2/\decide ((N:Int)<=2)=ζ):=by
     by_cases h:n'<=2
     .exact .inr ⟨h,by rw[Z5];omega⟩
     .exact .inl (by rw[Z5];omega)
    have YI:=aW K;clear K;have YE:=aW (show Nat.gcd gk (p%gk)=Nat.gcd x.natAbs y.natAbs by rw[<-HG.o,aaE p gk,aeK gk p,aaE]);have Yy:=pu p YA;rcases Zl with Zl|⟨Zp,Zl⟩
    all_goals
     try have YF:(n':Int)<=2:=aa
     go_wp2_with fail;refine(DJ A' B' n' N c' d' p gk _ hA hB YA aa).mono ?_;rintro e w4 ⟨q,r,rfl,⟨Aq,nq,cq,rfl,hQ⟩,⟨Ar,nr,cr,rfl,hR⟩,Yw⟩;have F:=hB.ext Yw;go_wp2_with fail
     go_roundg (p%gk)
     case measure=>exact Yy
     case rel=>exact⟨B',N,d',Ar,nr,cr,gk,rfl,rfl,F,hR,hq,abn Yy hq,YE.o,D.trans Yw⟩
  .obtain rfl:N=0:=aa;obtain rfl:gk=0:=by
    exact AcZ
   have Yu:p=Nat.gcd x.natAbs y.natAbs:=by rw[<-HG.o,acK]
   obtain⟨G,hG⟩:∃G,G=p:=⟨_,rfl⟩;subst hG;have YE:=aW Yu;clear Yu;have I:=hp;go_wp2_with fail;refine(uW A' n' c' _ _ hA aa).mono ?_;rintro e w4 ⟨v4,rfl,⟨A4,n4,c4,rfl,T⟩,Yw⟩;go_wp2_with fail;refine(jb ζ A4 n4 c4 _ _ T).mono ?_;rintro e w7 ⟨v7,rfl,j,Y⟩;obtain⟨Z,hZ⟩:∃Z:Int,Z=(G:Int):=⟨_,rfl⟩;rw[bf,ve (z:=Z) (hZ.trans (by simp[zOf])) I] at j;have HZ:=aW hZ;clear hZ;obtain⟨u7,rfl,A2,n2,c2,rfl,hI⟩:=j;have Yv:=((P.trans D).trans Yw).trans Y;exact Ab9
def TY(v u x y w)(L:RI w v x)(M:RI w u y)(O:x.natAbs<lim)(S:y.natAbs<lim):
  CV 146 #[v,u] w fun v w'=>mM ((Nat.gcd x.natAbs y.natAbs:Nat),0) v w':=by
 have YC:=aW (ae2 L O);have V:=aW (ae2 M S);obtain⟨A,n,c,rfl,J⟩:=L;obtain⟨B,m,d,rfl,R⟩:=M;have hn:=J.kF O;have hm:=R.kF S;go_enter func146,ntmps146;go_wp2_with fail;refine(fI _ A n c _ _ (J.ext (((Ext.new w _).alloc _).alloc _))).mono ?_;rintro e w1 ⟨rfl,H⟩;rw[YC.o];have c0:=(iI H).cell;have c1:=(iY H).cell;go_wp2_with fail;refine(fI _ B m d _ _ (R.ext (fZ H))).mono ?_;rintro e w2 ⟨rfl,P⟩;rw[V.o];clear c0 c1;have P:=H.trans P;have Y0:=aX.blk (iI P);have Y1:=aX.blk (iY P);go_wp2_with fail;refine bO 7 [(ε,0),(ε,1),(ε,3),(ε,4),(ζ,2),(ζ,5),(ε,6)] ah ah ?_;refine bD [0,1,3,4] [(ζ,2),(ζ,5),(ε,6)] _ ah ?_;refine Gq ?_;refine bC 2 [(ζ,5),(ε,6)] ah ?_;intro K I;simp only[bJ];go_wp2_with fail;refine(ja A n c _ _ ((J.ext (fZ P)).ext (Ext.refl _).drew) aa).mono ?_;rintro e w3 ⟨v3,rfl,⟨A3,n3,c3,rfl,hA⟩,F⟩;have F:=Ext.jJ F;go_wp2;refine I _ _ ⟨⟨w3,F⟩,rfl⟩ ?_;clear I K;rw[bf] at hA;refine bC 5 [(ε,6)] ah ?_;intro K I;simp only[bJ];go_wp2_with fail;refine(ja B m d _ _ ((R.ext (fZ P)).ext F) aa).mono ?_;rintro e w4 ⟨v4,rfl,⟨A4,n4,c4,rfl,hB⟩,G⟩;have G:=F.trans G;go_wp2;refine I _ _ ⟨⟨w4,G⟩,rfl⟩ ?_;clear I K;rw[bf] at hB;have hA:=hA.ext (by assumption:Ext w3 w4);refine bD [6] [] _ ah ?_;refine Gq ?_;simp only[dh,ξ,τ];go_wp2_with fail;clear Y0 Y1 J R;have Yw:=P.trans G;clear P F G H;go_loopg [6,7] y.natAbs (fun gk av bv wr=>∃A n c B m d p,av=.slice A n c/\bv=.slice B m d/\RM wr A n c (dF p)/\RM wr B m d (dF gk)/\p<lim/\gk<lim/\Nat.gcd p gk=Nat.gcd x.natAbs y.natAbs/\Ext w4 wr)
 case atStart=>exact⟨_,_,_,_,_,_,x.natAbs,rfl,rfl,hA,hB,O,S,rfl,Ext.refl _⟩
 case round=>
  clear hA hB;obtain⟨A',n',c',B',N,d',p,rfl,rfl,hA,hB,hp,hq,hg,D⟩:=hrel;have YB:=hA.len;have ac:=hB.len;have YL:n'<=400:=by have:=ku hp;omega
  have YD:N<=400:=by have:=ku hq;omega
  have YU:=mi ac;have HG:=aW hg;clear hg YB ac;by_cases h0:0<N
  .have YA:=YU.1 h0;have Yx:(0:Int)<N:=aa;have YE:=aW (show Nat.gcd gk (p%gk)=Nat.gcd x.natAbs y.natAbs by rw[<-HG.o,aaE p gk,aeK gk p,aaE]);have Yy:=pu p YA;go_wp2_with fail;refine(zH A' B' n' N c' d' p gk _ hA hB YA aa).mono ?_;rintro e w5 ⟨q,r,rfl,⟨Aq,nq,cq,rfl,hQ⟩,⟨Ar,nr,cr,rfl,hR⟩,Yz⟩;have W:=hB.ext Yz;have YO:nr<=400:=by have:=hR.len;have:=ku (abn Yy hq);omega
   go_wp2_with fail;refine(ja Ar nr cr _ _ hR aa).mono ?_;rintro e w6 ⟨v6,rfl,⟨A6,n6,c6,rfl,hT⟩,Q⟩;rw[bf] at hT;have j:=W.ext Q;go_wp2_with fail
   go_roundg (p%gk)
   case measure=>exact Yy
   case rel=>exact⟨_,_,_,_,_,_,gk,rfl,rfl,j,hT,hq,abn Yy hq,YE.o,D.trans (Yz.trans Q)⟩
  .obtain rfl:N=0:=aa;obtain rfl:gk=0:=by
    exact AcZ
   have Yu:p=Nat.gcd x.natAbs y.natAbs:=by rw[<-HG.o,acK]
   have YE:=aW Yu;clear Yu;go_wp2_with fail;refine(iJ ζ A' n' c' _ _ hA aa).mono ?_;rintro e w8 ⟨v8,rfl,Y,YW⟩;obtain⟨Z,hZ⟩:∃Z:Int,Z=(p:Int):=⟨_,rfl⟩;rw[bf,AX,<-hZ] at Y;have HZ:=aW hZ;clear hZ;obtain⟨A2,n2,c2,rfl,hI⟩:=Y;have T:=Yw.trans (D.trans YW);have b4:=mE T;have c4:=b4.cell;have f4:=b4.frozen;obtain⟨C,k2,k3⟩:=jO (fZ T) aa b4 (decide (Z<0)) A2 n2 c2;exact AaG
def RB{cs:Array Value}{i v}(h:cs[i]? =γ v):cs.setIfInBounds i v=cs:=by
 apply Array.ext';simp only[Array.toList_setIfInBounds];have B:cs.toList[i]? =γ v:=by simpa using h
 obtain⟨j,e⟩:=μ.1 B;rw[<-e];exact List.set_getElem_self j
def Ext.stay{w0 w g i t cs v}(J:Ext w0 w)(hb:Blk w g t cs)(h:cs[i]? =γ v):Ext w0 (w.setCell ⟨g,i,δ⟩ v):=by
 refine⟨J.os,J.tape,J.output,by have:=J.size;simpa[World.setCell] using this,fun k B=> ?_⟩;by_cases j:k=g
 .subst j;have C:=hb.qG i v;rw[RB h] at C;have D:=J.block k B;rw[<-D];exact(show(w.setCell ⟨k,i,δ⟩ v).heap[k]? =γ (.cells cs t (0,0)) from C).trans (show w.heap[k]? =γ (.cells cs t (0,0)) from hb).symm
 .rw[abY w ⟨g,i,δ⟩ v k j];exact J.block k B
def RI.opn{w v z}(h:RI w v z):∃s A n c,v=iv s A n c/\RI w (iv s A n c) z:=by
 obtain⟨A,n,c,rfl,D⟩:=h;exact⟨_,A,n,c,rfl,A,n,c,rfl,D⟩
def rU{w w' g D A0 n0 c0}(J:Ext w w')(B:w.heap.size<=g)(hb:Blk w' g 40 #[.bool D,aO A0 n0 c0])(b A n c):
  Ext w ((w'.setCell ⟨g,0,δ⟩ (.bool b)).setCell ⟨g,1,δ⟩ (.slice A n c))/\Blk ((w'.setCell ⟨g,0,δ⟩ (.bool b)).setCell ⟨g,1,δ⟩ (.slice A n c)) g 40 #[.bool b,aO A n c]/\∀v z,RI w' v z->RI ((w'.setCell ⟨g,0,δ⟩ (.bool b)).setCell ⟨g,1,δ⟩ (.slice A n c)) v z:=by
 obtain⟨C,H,F⟩:=jO J B hb b A n c;exact⟨C,H,fun v z ⟨A',n',c',G,j⟩=>⟨A',n',c',G,F _ _ _ _ j⟩⟩
abbrev gv (s1:Bool) (A1:Option Addr) (n1 c1:Nat) (s2:Bool) (A2:Option Addr) (n2 c2:Nat) (s3:Bool) (A3:Option Addr) (n3 c3:Nat):Value:=
 .agg #[s1,aO A1 n1 c1,s2,aO A2 n2 c2,s3,aO A3 n3 c3]
def RG (w:World) (v:Value) (a b d:Int):Prop:=
 ∃s1 A1 n1 c1 s2 A2 n2 c2 s3 A3 n3 c3,v=gv s1 A1 n1 c1 s2 A2 n2 c2 s3 A3 n3 c3/\RI w (iv s1 A1 n1 c1) a/\RI w (iv s2 A2 n2 c2) b/\RI w (iv s3 A3 n3 c3) d
def RG.ext{w w' v a b d}(h:RG w v a b d)(x:Ext w w'):RG w' v a b d:=by
 obtain⟨s1,A1,n1,c1,s2,A2,n2,c2,s3,A3,n3,c3,e,B,j,C⟩:=h;exact⟨s1,A1,n1,c1,s2,A2,n2,c2,s3,A3,n3,c3,e,B.ext x,j.ext x,C.ext x⟩
def Calm (w:World) (g:Nat):Prop:=Blk w g 197 #[aJ]
def Calm.ext{w w' g}(h:Calm w g)(x:Ext w w'):Calm w' g:=Blk.ext h x
def vF(g v z w)(hc:Calm w g)(L:RI w v z):
  CV 176 #[aN g 0,v,aJ] w fun v w'=>RI w' v z:=by
 obtain⟨s,A,n,c,rfl,L⟩:=L.opn;have G:=Blk.cell hc;have B:=Blk.frozen hc;have j:Ext w (w.setCell ⟨g,0,δ⟩ (.int .i64 0)):=(Ext.refl w).stay hc rfl;have O:=hc.ext j;have C:=Blk.cell O;have F:g<w.heap.size:=Blk.lt hc;have D:=L.ext j;go_enter func176,ntmps176;go_wp2_with fail;exact fK rfl rfl rfl (aeV _ _ Abh) ⟨_,rfl,D.ext ((Ext.new _ _).alloc _),j.trans ((Ext.new _ _).alloc _)⟩
def yB(v z w)(L:RI w v z):
  CE 144 #[v] w (.bool (decide (z=1))):=by
 obtain⟨A,n,c,rfl,J⟩:=L;have Y:=J.len;generalize hs:decide (z<0)=s at*
 have c0:=(Blk.new w 40 #[s,aO A n c]).cell;cases s
 .by_cases P:n=1
  .subst P;obtain⟨M,x,rfl,hb,B,G,N⟩:=J.at_ (k:=0) aa;have D:z=(x:Int):=by
    have hd:dF z.natAbs=[x]:=by
     cases hq:dF z.natAbs with
     |nil=>rw[hq] at Y;simp at Y
     |cons a m=>
      rw[hq] at Y B;simp at Y B;rw[Y,B]
    have hv:=bf z.natAbs;rw[hd] at hv;simp[val] at hv;have:=of_decide_eq_false hs;omega
   have j:=(Ext.new w (.cells #[ζ,aO (γ M) 1 c] 40)).cell_ N;have F:(w.alloc (.cells #[ζ,aO (γ M) 1 c] 40)).cell? M=γ (.int .u32 (x:Int)):=by
    have e:M.add 0=M:=by simp[Addr.add]
    rw[e] at j;exact j
   have C:=aW D;clear D hs Y;by_cases H:x=1
   .subst H;go_enter adM,adv;go_wp2;go_ret;exact⟨bE (by rw[C.o];rfl),Ext.new _ _⟩
   .have Q:((x:Int)==1)=ζ:=ae;have O:¬(x:Int)=1:=aa;go_enter adM,adv;go_wp2;go_ret;exact⟨bE (by rw[C.o];simp;omega),Ext.new _ _⟩
  .have I:z≠1:=by
    intro e;subst e;have:dF (1:Int).natAbs=[1]:=by
     have e:(1:Int).natAbs=val [1]:=rfl;rw[e];exact Ho (Dig.one aj) (by intro x h;simp at h;omega)
    rw[this] at Y;simp at Y;omega
   have Q:((n:Int)==1)=ζ:=ae;have O:¬(n:Int)=1:=aa;exact Aba
 .have I:z≠1:=by have:=aaZ hs;omega
  exact Aba
def mV(v z w)(L:RI w v z)(D:z.natAbs<lim):
  CV 169 #[v] w fun v w'=>RI w' v z:=by
 obtain⟨A,n,c,rfl,J⟩:=L;have hn:=J.kF D;have P:Hid (∀w' A' n' c',RM w' A' n' c' (dF z.natAbs)->RI w' (iv (decide (z<0)) A' n' c') z):=aW (fun w' A' n' c' h=>⟨A',n',c',rfl,h⟩);generalize decide (z<0)=s at*
 have Y:=(Ext.new w (.cells #[s,aO A n c] 40)).alloc (.cells #[ζ,()] 40);have N:=aX.blk ((Blk.new w 40 #[s,aO A n c]).alloc (.cells #[ζ,()] 40));go_enter func169,ntmps169;go_wp2_with fail;refine bO 6 [(ε,0),(ε,1),(ε,2),(ε,3),(ζ,4),(ε,5)] ah ah ?_;refine bD [0,1,2,3] [(ζ,4),(ε,5)] _ ah ?_;refine Gq ?_;refine bC 4 [(ε,5)] ah ?_;intro K I;simp only[bJ];go_wp2_with fail;refine(uW A n c _ _ ((J.ext Y).ext (Ext.refl _).drew) aa).mono ?_;rintro e G ⟨v1,rfl,⟨A1,n1,c1,rfl,O⟩,F⟩;have F:=Ext.jJ F;go_wp2;refine I _ _ ⟨⟨G,F⟩,rfl⟩ ?_;clear I K;refine bD [5] [] _ ah ?_;refine Gq ?_;clear N;simp only[dh,ξ,τ];have b4:=zU F;have c4:=b4.cell;have Q:=b4.frozen;obtain⟨C,B,j⟩:=jO (pG F) aa b4 s A1 n1 c1;have H:=aW C;have U:=aW B;have M:=aW (j _ _ _ _ O);clear C B j;go_wp2;exact fK rfl rfl rfl U.o ⟨_,rfl,P.o _ _ _ _ M.o,H.o⟩
def yj(g a b x y z w)(hc:Calm w g)(L:RI w a x)(M:RI w b y)(O:x.natAbs<lim)(S:y.natAbs<lim)(J:z=x+y)(D:z.natAbs<lim):
  CV 167 #[aN g 0,a,b] w fun v w'=>RI w' v z:=by
 obtain⟨s,A,n,c,rfl,L⟩:=L.opn;obtain⟨t,B,m,d,rfl,M⟩:=M.opn;have Q:Hid (qg (x+y)=(z,0)):=aW (by rw[<-J];exact kW D);clear J;have Y:=((Ext.new w (.cells #[s,aO A n c] 40)).alloc (.cells #[t,aO B m d] 40)).alloc (.cells #[ζ,()] 40);go_enter func167,ntmps167;go_wp2_with fail;refine(Xb _ _ x y _ (L.ext Y) (M.ext Y) O S).mono ?_;exact Aaz
def Nh(g a b x y z w)(hc:Calm w g)(L:RI w a x)(M:RI w b y)(O:x.natAbs<lim)(S:y.natAbs<lim)(J:z=x-y)(D:z.natAbs<lim):
  CV 175 #[aN g 0,a,b] w fun v w'=>RI w' v z:=by
 obtain⟨s,A,n,c,rfl,L⟩:=L.opn;obtain⟨t,B,m,d,rfl,M⟩:=M.opn;have Q:Hid (qg (x-y)=(z,0)):=aW (by rw[<-J];exact kW D);clear J;have Y:=((Ext.new w (.cells #[s,aO A n c] 40)).alloc (.cells #[t,aO B m d] 40)).alloc (.cells #[ζ,()] 40);go_enter func175,ntmps175;go_wp2_with fail;refine(Wl _ _ x y _ (L.ext Y) (M.ext Y) O S).mono ?_;exact Aaz
def Nk(g a x z w)(hc:Calm w g)(L:RI w a x)(O:x.natAbs<lim)(D:z= -x):
  CV 170 #[aN g 0,a] w fun v w'=>RI w' v z:=by
 obtain⟨s,A,n,c,rfl,L⟩:=L.opn;have M:=aW D;clear D;have Y:=(Ext.new w (.cells #[s,aO A n c] 40)).alloc (.cells #[ζ,()] 40);go_enter func170,ntmps170;go_wp2_with fail;refine(Wv _ x z _ (L.ext Y) O M.o).mono ?_;rintro e w1 ⟨v1,rfl,⟨u1,rfl,K⟩,H⟩;go_wp2_with fail;refine(vF g u1 z _ ((hc.ext Y).ext H) K).mono ?_;rintro e w2 ⟨N,rfl,G,P⟩;obtain⟨s2,A2,n2,c2,rfl,G⟩:=G.opn;have j:=H.trans P;have b4:=zU j;have c4:=b4.cell;have Q:=b4.frozen;obtain⟨C,F,B⟩:=rU (pG j) aa b4 s2 A2 n2 c2;have I:=aW C;have U:=aW F;have J:=aW (B _ _ G);clear C F B;go_wp2;exact fK rfl rfl rfl U.o ⟨_,rfl,J.o,I.o⟩
def jh(g a b x y z w)(hc:Calm w g)(L:RI w a x)(M:RI w b y)(O:x.natAbs<lim)(S:y.natAbs<lim)(hz:z=x*y)(D:z.natAbs<lim):
  CV 168 #[aN g 0,a,b] w fun v w'=>RI w' v z:=by
 obtain⟨s,A,n,c,rfl,L⟩:=L.opn;obtain⟨t,B,m,d,rfl,M⟩:=M.opn;have Q:Hid (qg (x*y)=(z,0)):=aW (by rw[<-hz];exact kW D);have HZ:=aW hz;clear hz;have Y:=((Ext.new w (.cells #[s,aO A n c] 40)).alloc (.cells #[t,aO B m d] 40)).alloc (.cells #[ζ,()] 40);go_enter func168,ntmps168;go_wp2_with fail;refine(yB _ x _ (L.ext Y)).mono ?_;rintro e w1 ⟨rfl,H⟩;have c0:=(iI H).cell;have c1:=(iY H).cell;by_cases T:x=1
 .have K:decide (x=1)=ε:=by simpa using T
  have I:y=z:=by rw[HZ.o,T];omega
  have F:=aW I;have H1:=aW T;clear I T;rw[K];clear K;go_wp2_with fail;refine(mV _ y _ (M.ext (fZ H)) S).mono ?_;rintro e w2 ⟨v2,rfl,G,P⟩;rw[F.o] at G;exact Aax
 .have K:decide (x=1)=ζ:=by simpa using T
  have H1:=aW T;clear T;rw[K];clear K;go_wp2_with fail;refine(yB _ y _ (M.ext (fZ H))).mono ?_;rintro e w3 ⟨rfl,Yv⟩;have H:=H.trans Yv;clear c0 c1;have c0:=(iI H).cell;have c1:=(iY H).cell;by_cases V:y=1
  .have K:decide (y=1)=ε:=by simpa using V
   have I:x=z:=by rw[HZ.o,V];omega
   have F:=aW I;clear I V;rw[K];clear K;go_wp2_with fail;refine(mV _ x _ (L.ext (fZ H)) O).mono ?_;rintro e w2 ⟨v2,rfl,G,P⟩;rw[F.o] at G;exact Aax
  .have K:decide (y=1)=ζ:=by simpa using V
   have H2:=aW V;clear V;rw[K];clear K;go_wp2_with fail;refine(Wi _ _ x y _ (L.ext (fZ H)) (M.ext (fZ H)) O S).mono ?_;rintro e w4 ⟨v4,rfl,j,Yw⟩;rw[Q.o] at j;obtain⟨u4,rfl,hI⟩:=j;have H:=H.trans Yw;go_wp2_with fail;refine(vF g u4 z _ (hc.ext (fZ H)) hI).mono ?_;rintro e w2 ⟨v2,rfl,G,P⟩;exact Aax
def Own (w:World) (g:Nat):Prop:=w.heap.size<=g
def aeX{w w' g}(h:Ext w w')(j:w'.heap.size<=g):Own w g:=Θ h.size j
abbrev pv (s1:Bool) (A1:Option Addr) (n1 c1:Nat) (s2:Bool) (A2:Option Addr) (n2 c2:Nat) (s3:Bool) (A3:Option Addr) (n3 c3:Nat) (s4:Bool) (A4:Option Addr) (n4 c4:Nat) (s5:Bool) (A5:Option Addr) (n5 c5:Nat) (s6:Bool) (A6:Option Addr) (n6 c6:Nat):Value:=
 .agg #[s1,aO A1 n1 c1,s2,aO A2 n2 c2,s3,aO A3 n3 c3,s4,aO A4 n4 c4,s5,aO A5 n5 c5,s6,aO A6 n6 c6]
def RP (w:World) (v:Value) (a b d x y z:Int):Prop:=
 ∃s1 A1 n1 c1 s2 A2 n2 c2 s3 A3 n3 c3 s4 A4 n4 c4 s5 A5 n5 c5 s6 A6 n6 c6,v=pv s1 A1 n1 c1 s2 A2 n2 c2 s3 A3 n3 c3 s4 A4 n4 c4 s5 A5 n5 c5 s6 A6 n6 c6/\RI w (iv s1 A1 n1 c1) a/\RI w (iv s2 A2 n2 c2) b/\RI w (iv s3 A3 n3 c3) d/\RI w (iv s4 A4 n4 c4) x/\RI w (iv s5 A5 n5 c5) y/\RI w (iv s6 A6 n6 c6) z
def RP.ext{w w' v a b d x y z}(h:RP w v a b d x y z)(e:Ext w w'):RP w' v a b d x y z:=by
 obtain⟨s1,A1,n1,c1,s2,A2,n2,c2,s3,A3,n3,c3,s4,A4,n4,c4,s5,A5,n5,c5,s6,A6,n6,c6,e0,C,j,F,B,D,G⟩:=h;exact⟨s1,A1,n1,c1,s2,A2,n2,c2,s3,A3,n3,c3,s4,A4,n4,c4,s5,A5,n5,c5,s6,A6,n6,c6,e0,C.ext e,j.ext e,F.ext e,B.ext e,D.ext e,G.ext e⟩
def RG.mk{w s1 s2 s3 A1 A2 A3 n1 c1 n2 c2 n3 c3 a b d}(B:RI w (iv s1 A1 n1 c1) a)(j:RI w (iv s2 A2 n2 c2) b)(C:RI w (iv s3 A3 n3 c3) d):RG w (gv s1 A1 n1 c1 s2 A2 n2 c2 s3 A3 n3 c3) a b d:=
 ⟨_,_,_,_,_,_,_,_,_,_,_,_,rfl,B,j,C⟩
def RP.mk{w s1 s2 s3 s4 s5 s6 A1 A2 A3 A4 A5 A6 n1 c1 n2 c2 n3 c3 n4 c4 n5 c5 n6 c6 a b d x y z}(C:RI w (iv s1 A1 n1 c1) a)(j:RI w (iv s2 A2 n2 c2) b)(F:RI w (iv s3 A3 n3 c3) d)(B:RI w (iv s4 A4 n4 c4) x)(D:RI w (iv s5 A5 n5 c5) y)(G:RI w (iv s6 A6 n6 c6) z):
  RP w (pv s1 A1 n1 c1 s2 A2 n2 c2 s3 A3 n3 c3 s4 A4 n4 c4 s5 A5 n5 c5 s6 A6 n6 c6) a b d x y z:=
 ⟨_,_,_,_,_,_,_,_,_,_,_,_,_,_,_,_,_,_,_,_,_,_,_,_,rfl,C,j,F,B,D,G⟩
inductive Fc where
 |any
 |ri (z:Int)
 |rg (a b d:Int)
 |rp (a b d x y z:Int)
 |reti (p:Int×Int)
 |retd (q r e:Int)
 |retg (a b d e:Int)
 |retp (a b d x y z e:Int)
 |box (t:TypeId) (cs:Array Value)
 |sl (t:TypeId) (n:Nat) (cs:Array Value)
 |eq (u:Value)
def Fc.holds:Fc->Nat->Nat->Value->World->Prop
 | .any,_,_,_,_=>True
 | .ri z,_,_,v,w=>RI w v z
 | .rg a b d,_,_,v,w=>RG w v a b d
 | .rp a b d x y z,_,_,v,w=>RP w v a b d x y z
 | .reti p,_,_,v,w=>mM p v w
 | .retd q r e,_,_,v,w=>Sb q r e v w
 | .retg a b d e,_,_,v,w=>∃u,v=.tuple #[u,e]/\RG w u a b d
 | .retp a b d x y z e,_,_,v,w=>∃u,v=.tuple #[u,e]/\RP w u a b d x y z
 | .box t cs,lo,hi,v,w=>v=.pointer (γ (aM lo 0))/\lo<hi/\Blk w lo t cs
 | .sl t n cs,lo,hi,v,w=>v=.slice (γ (aM lo 0)) n n/\lo<hi/\Blk w lo t cs
 | .eq u,_,_,v,_=>v=u
def agy(f:Fc){lo hi v w w'}(h:f.holds lo hi v w)(x:Ext w w'):f.holds lo hi v w':=by
 cases f with
 |any=>trivial
 |ri z=>exact RI.ext h x
 |rg a b d=>exact RG.ext h x
 |rp a b d p q r=>exact RP.ext h x
 |reti p=>exact mM.ext h x
 |retd q r e=>obtain⟨a,b,B,j,C⟩:=h;exact⟨a,b,B,RI.ext j x,RI.ext C x⟩
 |retg a b d e=>obtain⟨u,B,j⟩:=h;exact⟨u,B,j.ext x⟩
 |retp a b d p q r e=>obtain⟨u,B,j⟩:=h;exact⟨u,B,j.ext x⟩
 |box t cs=>exact⟨h.1,h.2.1,h.2.2.ext x⟩
 |sl t n cs=>exact⟨h.1,h.2.1,h.2.2.ext x⟩
 |eq u=>exact h
def VO:List (Nat×Fc)->Nat->Fc
 |[],_=> .any
 |p::r,i=>bif Nat.beq p.1 i then p.2 else VO r i
def WO:List (Nat×Fc)->Nat->Bool
 |[],_=>ζ
 |p::r,i=>Nat.beq p.1 i||WO r i
def Fcs (l:List (Nat×Fc)):Nat->Nat->Nat->Value->World->Prop:=fun i lo hi v w=>(VO l i).holds lo hi v w
def R9(l):∀i lo hi v w w',Fcs l i lo hi v w->Ext w w'->Fcs l i lo hi v w':=fun _ _ _ _ _ _ h x=>agy _ h x
def puts (w:World) (g:Nat):Nat->List Value->World
 |_,[]=>w
 |i,v::r=>puts (w.setCell ⟨g,i,δ⟩ v) g (i+1) r
def gJ (cs:Array Value):Nat->List Value->Array Value
 |_,[]=>cs
 |i,v::r=>gJ (cs.setIfInBounds i v) (i+1) r
def uj{cs}(h:lS cs=ε):∀(j:Nat) (k:IntKind) (x:Int),cs[j]?≠γ (.int k x):=by
 intro j k x e;have B:(Value.int k x)∈cs.toList:=by
  have:cs.toList[j]? =γ (.int k x):=by simpa using e
  exact wo this
 have:=q8.1 h _ B;simp at this
def gV(w g):∀(i:Nat) (B:List Value),Only g w (puts w g i B)
 |_,[]=>Only.refl _ _
 |i,v::r=>(Only.set w g i v).trans (gV _ g (i+1) r)
def fO{w0 g}(j:Own w0 g):∀(i:Nat) (B:List Value) {w:World},Ext w0 w->Ext w0 (puts w g i B)
 |_,[],_,h=>h
 |i,v::r,w,h=>fO j (i+1) r (show Ext w0 (w.setCell ⟨g,i,δ⟩ v) from h.setCell (by exact j) _)
def dm{g t}:∀(i:Nat) (B:List Value) {w:World} {cs:Array Value},Blk w g t cs->Blk (puts w g i B) g t (gJ cs i B)
 |_,[],_,_,h=>h
 |i,v::r,_,_,h=>dm (i+1) r (h.qG i v)
def QX{w w' w'' g t cs cs'}(i B)(J:Ext w w')(F:Own w g)(hb:Blk w' g t cs)(hn:lS cs=ε)(e:w''=puts w' g i B)(ec:gJ cs i B=cs'):
  Ext w w''/\Blk w'' g t cs'/\(∀g2 t cs,g2≠g->Blk w' g2 t cs->Blk w'' g2 t cs)/\(∀v s l,RX w' v s l->RX w'' v s l)/\∀v z,RI w' v z->RI w'' v z:=by
 subst e;subst ec;have L:∀v s l,RX w' v s l->RX (puts w' g i B) v s l:=fun v s l ⟨A',n',c',D,C⟩=>⟨A',n',c',D,C.only (gV _ _ _ _) hb (uj hn)⟩;exact⟨fO F _ _ J,dm _ _ hb,fun g2 t cs j h=>(gV w' g i B).blk h j,L,fun v z h=>L _ _ _ h⟩
def Dt{w g s1 s2 s3 A1 A2 A3 n1 c1 n2 c2 n3 c3}(hb:Blk w g 42 #[.bool s1,aO A1 n1 c1,.bool s2,aO A2 n2 c2,.bool s3,aO A3 n3 c3]):(loadVar 42 ⟨g,0,δ⟩).run prog w=.ok (gv s1 A1 n1 c1 s2 A2 n2 c2 s3 A3 n3 c3) w:=by
 have hc:=hb.cell;simp[go_sem,hc,gv]
def zY{w g s1 s2 s3 s4 s5 s6 A1 A2 A3 A4 A5 A6 n1 c1 n2 c2 n3 c3 n4 c4 n5 c5 n6 c6}(hb:Blk w g 44 #[.bool s1,aO A1 n1 c1,.bool s2,aO A2 n2 c2,.bool s3,aO A3 n3 c3,.bool s4,aO A4 n4 c4,.bool s5,aO A5 n5 c5,.bool s6,aO A6 n6 c6]):(loadVar 44 ⟨g,0,δ⟩).run prog w=.ok (pv s1 A1 n1 c1 s2 A2 n2 c2 s3 A3 n3 c3 s4 A4 n4 c4 s5 A5 n5 c5 s6 A6 n6 c6) w:=by
 have hc:=hb.cell;simp[go_sem,hc,pv]
section
variable {fn:Func} {R:Ending->World->Prop} {a:Act} {w:World} {t u g:Nat} {s1 s2 s3 s4 s5 s6:Bool} {A1 A2 A3 A4 A5 A6:Option Addr} {n1 c1 n2 c2 n3 c3 n4 c4 n5 c5 n6 c6:Nat}
def dG(B:fn.results= #[.cell t 42])(hd:a.defers=[])(hp:a.tmps[t]?.getD undef=.pointer (γ (aM g 0)))(hb:Blk w g 42 #[.bool s1,aO A1 n1 c1,.bool s2,aO A2 n2 c2,.bool s3,aO A3 n3 c3])(j:R (.returned (gv s1 A1 n1 c1 s2 A2 n2 c2 s3 A3 n3 c3)) w):bodyPost prog fn R .ret a w:=aai (by simp[results,B,hp,asAddr,Dt hb]) hd j
def nI(B:fn.results= #[.cell t 42,.tmp u])(hd:a.defers=[])(hp:a.tmps[t]?.getD undef=.pointer (γ (aM g 0)))(hb:Blk w g 42 #[s1,aO A1 n1 c1,s2,aO A2 n2 c2,s3,aO A3 n3 c3])(j:R (.returned (.tuple #[gv s1 A1 n1 c1 s2 A2 n2 c2 s3 A3 n3 c3,a.tmps.getD u undef])) w):bodyPost prog fn R .ret a w:=aai (v:=.tuple #[gv s1 A1 n1 c1 s2 A2 n2 c2 s3 A3 n3 c3,a.tmps.getD u undef]) (by simp[results,B,hp,asAddr,Dt hb]) hd j
def wQ(B:fn.results= #[.cell t 44])(hd:a.defers=[])(hp:a.tmps[t]?.getD undef=.pointer (γ (aM g 0)))(hb:Blk w g 44 #[.bool s1,aO A1 n1 c1,.bool s2,aO A2 n2 c2,.bool s3,aO A3 n3 c3,.bool s4,aO A4 n4 c4,.bool s5,aO A5 n5 c5,.bool s6,aO A6 n6 c6])(j:R (.returned (pv s1 A1 n1 c1 s2 A2 n2 c2 s3 A3 n3 c3 s4 A4 n4 c4 s5 A5 n5 c5 s6 A6 n6 c6)) w):bodyPost prog fn R .ret a w:=aai (by simp[results,B,hp,asAddr,zY hb]) hd j
def tH(B:fn.results= #[.cell t 44,.tmp u])(hd:a.defers=[])(hp:a.tmps[t]?.getD undef=.pointer (γ (aM g 0)))(hb:Blk w g 44 #[s1,aO A1 n1 c1,s2,aO A2 n2 c2,s3,aO A3 n3 c3,s4,aO A4 n4 c4,s5,aO A5 n5 c5,s6,aO A6 n6 c6])(j:R (.returned (.tuple #[pv s1 A1 n1 c1 s2 A2 n2 c2 s3 A3 n3 c3 s4 A4 n4 c4 s5 A5 n5 c5 s6 A6 n6 c6,a.tmps.getD u undef])) w):bodyPost prog fn R .ret a w:=aai (v:=.tuple #[pv s1 A1 n1 c1 s2 A2 n2 c2 s3 A3 n3 c3 s4 A4 n4 c4 s5 A5 n5 c5 s6 A6 n6 c6,a.tmps.getD u undef]) (by simp[results,B,hp,asAddr,zY hb]) hd j
end
def MK{lo hi N j:Nat}(C:lo<hi)(B:N<j)(h:hi<=N\/j<=lo):lo≠N:=aa
section
variable {w:World} {s1 s2 s3 s4 s5 s6:Bool} {A1 A2 A3 A4 A5 A6:Option Addr} {n1 c1 n2 c2 n3 c3 n4 c4 n5 c5 n6 c6:Nat} {a b d x y z e:Int}
def RG.inj(h:RG w (gv s1 A1 n1 c1 s2 A2 n2 c2 s3 A3 n3 c3) a b d):RI w (iv s1 A1 n1 c1) a/\RI w (iv s2 A2 n2 c2) b/\RI w (iv s3 A3 n3 c3) d:=by
 obtain⟨I,M,m1,K,F,B2,m2,G,H,L,J,d3,j,C,B,D⟩:=h;simp[gv] at j;obtain⟨rfl,⟨rfl,rfl,rfl⟩,rfl,⟨rfl,rfl,rfl⟩,rfl,rfl,rfl,rfl⟩:=j;exact⟨C,B,D⟩
def RG.at1(h:RG w (gv s1 A1 n1 c1 s2 A2 n2 c2 s3 A3 n3 c3) a b d):RI w (iv s1 A1 n1 c1) a:=h.inj.1
def RG.at2(h:RG w (gv s1 A1 n1 c1 s2 A2 n2 c2 s3 A3 n3 c3) a b d):RI w (iv s2 A2 n2 c2) b:=h.inj.2.1
def RG.at3(h:RG w (gv s1 A1 n1 c1 s2 A2 n2 c2 s3 A3 n3 c3) a b d):RI w (iv s3 A3 n3 c3) d:=h.inj.2.2
def RP.inj(h:RP w (pv s1 A1 n1 c1 s2 A2 n2 c2 s3 A3 n3 c3 s4 A4 n4 c4 s5 A5 n5 c5 s6 A6 n6 c6) a b d x y z):RI w (iv s1 A1 n1 c1) a/\RI w (iv s2 A2 n2 c2) b/\RI w (iv s3 A3 n3 c3) d/\RI w (iv s4 A4 n4 c4) x/\RI w (iv s5 A5 n5 c5) y/\RI w (iv s6 A6 n6 c6) z:=by
 obtain⟨S,W,m1,Q,J,B2,m2,K,L,T,N,d3,O,B4,m4,Y,t5,Z,V,U,P,j,M,R,B,F,C,H,D,G,I⟩:=h;simp[pv] at B;obtain⟨rfl,⟨rfl,rfl,rfl⟩,rfl,⟨rfl,rfl,rfl⟩,rfl,⟨rfl,rfl,rfl⟩,rfl,⟨rfl,rfl,rfl⟩,rfl,⟨rfl,rfl,rfl⟩,rfl,rfl,rfl,rfl⟩:=B;exact⟨F,C,H,D,G,I⟩
def RP.at1(h:RP w (pv s1 A1 n1 c1 s2 A2 n2 c2 s3 A3 n3 c3 s4 A4 n4 c4 s5 A5 n5 c5 s6 A6 n6 c6) a b d x y z):RI w (iv s1 A1 n1 c1) a:=h.inj.1
def RP.at2(h:RP w (pv s1 A1 n1 c1 s2 A2 n2 c2 s3 A3 n3 c3 s4 A4 n4 c4 s5 A5 n5 c5 s6 A6 n6 c6) a b d x y z):RI w (iv s2 A2 n2 c2) b:=h.inj.2.1
def RP.at3(h:RP w (pv s1 A1 n1 c1 s2 A2 n2 c2 s3 A3 n3 c3 s4 A4 n4 c4 s5 A5 n5 c5 s6 A6 n6 c6) a b d x y z):RI w (iv s3 A3 n3 c3) d:=h.inj.2.2.1
def RP.at4(h:RP w (pv s1 A1 n1 c1 s2 A2 n2 c2 s3 A3 n3 c3 s4 A4 n4 c4 s5 A5 n5 c5 s6 A6 n6 c6) a b d x y z):RI w (iv s4 A4 n4 c4) x:=h.inj.2.2.2.1
def RP.at5(h:RP w (pv s1 A1 n1 c1 s2 A2 n2 c2 s3 A3 n3 c3 s4 A4 n4 c4 s5 A5 n5 c5 s6 A6 n6 c6) a b d x y z):RI w (iv s5 A5 n5 c5) y:=h.inj.2.2.2.2.1
def RP.at6(h:RP w (pv s1 A1 n1 c1 s2 A2 n2 c2 s3 A3 n3 c3 s4 A4 n4 c4 s5 A5 n5 c5 s6 A6 n6 c6) a b d x y z):RI w (iv s6 A6 n6 c6) z:=h.inj.2.2.2.2.2
def afl(h:∃u,Value.tuple #[pv s1 A1 n1 c1 s2 A2 n2 c2 s3 A3 n3 c3 s4 A4 n4 c4 s5 A5 n5 c5 s6 A6 n6 c6,e]=.tuple #[u,e]/\RP w u a b d x y z):RP w (pv s1 A1 n1 c1 s2 A2 n2 c2 s3 A3 n3 c3 s4 A4 n4 c4 s5 A5 n5 c5 s6 A6 n6 c6) a b d x y z:=by
 obtain⟨u,j,B⟩:=h;simp at j;exact j ▸ B
def agR(h:∃u,Value.tuple #[pv s1 A1 n1 c1 s2 A2 n2 c2 s3 A3 n3 c3 s4 A4 n4 c4 s5 A5 n5 c5 s6 A6 n6 c6,e]=.tuple #[u,e]/\RP w u a b d x y z):RI w (iv s1 A1 n1 c1) a:=(afl h).at1
def agO(h:∃u,Value.tuple #[pv s1 A1 n1 c1 s2 A2 n2 c2 s3 A3 n3 c3 s4 A4 n4 c4 s5 A5 n5 c5 s6 A6 n6 c6,e]=.tuple #[u,e]/\RP w u a b d x y z):RI w (iv s2 A2 n2 c2) b:=(afl h).at2
def agN(h:∃u,Value.tuple #[pv s1 A1 n1 c1 s2 A2 n2 c2 s3 A3 n3 c3 s4 A4 n4 c4 s5 A5 n5 c5 s6 A6 n6 c6,e]=.tuple #[u,e]/\RP w u a b d x y z):RI w (iv s3 A3 n3 c3) d:=(afl h).at3
def agQ(h:∃u,Value.tuple #[pv s1 A1 n1 c1 s2 A2 n2 c2 s3 A3 n3 c3 s4 A4 n4 c4 s5 A5 n5 c5 s6 A6 n6 c6,e]=.tuple #[u,e]/\RP w u a b d x y z):RI w (iv s4 A4 n4 c4) x:=(afl h).at4
def agS(h:∃u,Value.tuple #[pv s1 A1 n1 c1 s2 A2 n2 c2 s3 A3 n3 c3 s4 A4 n4 c4 s5 A5 n5 c5 s6 A6 n6 c6,e]=.tuple #[u,e]/\RP w u a b d x y z):RI w (iv s5 A5 n5 c5) y:=(afl h).at5
def agP(h:∃u,Value.tuple #[pv s1 A1 n1 c1 s2 A2 n2 c2 s3 A3 n3 c3 s4 A4 n4 c4 s5 A5 n5 c5 s6 A6 n6 c6,e]=.tuple #[u,e]/\RP w u a b d x y z):RI w (iv s6 A6 n6 c6) z:=(afl h).at6
end
def jy{z}(j: -9223372036854775808<=z)(B:z<=9223372036854775807):z.natAbs<lim:=SS (k:=2) aa aj
theorem X7:(0:Int).natAbs<lim:=by
 have:0<lim:=by unfold lim;exact Na aj
 simpa using this
abbrev Bk:Type:=Nat×TypeId×Array Value
abbrev Nm:Type:=Value×Bool×List Nat
abbrev nz (v:Value) (z:Int):Nm:=(v,decide (z<0),dF z.natAbs)
def apart (g:Nat):List Bk->Prop
 |[]=>True
 |p::r=>p.1≠g/\apart g r
def uQ:List Bk->Prop
 |[]=>True
 |p::r=>apart p.1 r/\uQ r
structure St (w W:World) (bs:List Bk) (fs:List Nm):Prop where
 ext:Ext w W
 blks:∀p∈bs,Blk W p.1 p.2.1 p.2.2
 nd:uQ bs
 nums:∀q∈fs,RX W q.1 q.2.1 q.2.2
def Dp{g}:∀{bs:List Bk},(∀p∈bs,p.1≠g)->apart g bs
 |[],_=>trivial
 |p::r,h=>⟨h p ag,Dp (fun q hq=>h q (by simp[hq]))⟩
def zx{g}:∀{bs:List Bk},apart g bs->∀p∈bs,p.1≠g
 |[],_,p,hp=>by cases hp
 |q::r,h,p,hp=>by
  rcases kC.1 hp with e|e
  .subst e;exact h.1
  .exact zx h.2 p e
section
variable {w W W':World} {bs:List Bk} {fs:List Nm}
def aeZ(w):St w w [] []:=⟨Ext.refl w,ag,trivial,ag⟩
def St.mv(h:St w W bs fs)(x:Ext W W'):St w W' bs fs:=⟨h.ext.trans x,fun p hp=>(h.blks p hp).ext x,h.nd,fun q hq=>(h.nums q hq).ext x⟩
def St.blk(h:St w W bs fs)(i:Nat){g:Nat}{t cs}(e:bs[i]? =γ (g,t,cs)):Blk W g t cs:=h.blks _ (wo e)
def St.num(h:St w W bs fs)(i:Nat){v s l}(e:fs[i]? =γ (v,s,l)):RX W v s l:=h.nums _ (wo e)
def St.aF{w W : World}{bs : List Bk}{fs : List Nm}(h : St w W bs fs)(i : Nat){v : Value}{s : Bool}{l : List Nat}(e : fs[i]? = γ (v, s, l) := by rfl): RX W v s l := h.num i e
def St.aH{w W : World}{bs : List Bk}{fs : List Nm}(h : St w W bs fs)(i : Nat){g : Nat}{t : TypeId}{cs : Array Value}(e : bs[i]? = γ (g, t, cs) := by rfl): Blk W g t cs := h.blk i e
def St.aD{w W W' : World}{bs : List Bk}{fs : List Nm}(h : St w W bs fs)(i : Nat)(x : Ext W W'){v : Value}{z : Int}(e : fs[i]? = γ (nz v z) := by rfl): RI W' v z := RI.ext (h.num i e) x
def St.lt(h:St w W bs fs):∀p∈bs,p.1<W.heap.size:=fun p hp=>(h.blks p hp).lt
def St.addN(h:St w W bs fs){v s l}(x:RX W v s l):St w W bs ((v,s,l)::fs):=
 ⟨h.ext,h.blks,h.nd,adt.2 ⟨x,h.nums⟩⟩
def St.less{b}(h:St w W (b::bs) fs):St w W bs fs:=⟨h.ext,fun p hp=>h.blks p (nC _ hp),h.nd.2,h.nums⟩
def St.one{f}(h:St w W bs (f::fs)):St w W bs [f]:=⟨h.ext,h.blks,h.nd,fun q hq=>by
 have e:=acL.1 hq;subst e;exact h.nums q ag⟩
def St.sel(h:St w W bs fs)(is:List Nat){j}(e:is.filterMap (fun i=>fs[i]?)=j):St w W bs j:=⟨h.ext,h.blks,h.nd,fun q hq=>by
 rw[<-e] at hq;obtain⟨i,_,hi⟩:=List.mem_filterMap.1 hq;exact h.nums q (wo hi)⟩
def St.bI(h:St w W bs fs){v z}(x:RI W v z):St w W bs (nz v z::fs):=h.addN x
def St.yC(h:St w W bs fs){g t cs}(hb:Blk W g t cs)(ha:apart g bs):St w W ((g,t,cs)::bs) fs:=
 ⟨h.ext,adt.2 ⟨hb,h.blks⟩,⟨ha,h.nd⟩,h.nums⟩
def St.al(h:St w W bs fs)(t cs){g}(j:W.heap.size=g):St w (W.alloc (.cells cs t)) ((g,t,cs)::bs) fs:=
 St.yC (h.mv (Ext.new _ _)) (aeV _ _ j) (Dp fun p hp=>by have:=h.lt p hp;omega)
def BC:∀{bs:List Bk} {i j:Nat} {p q:Bk},uQ bs->i≠j->bs[i]? =γ p->bs[j]? =γ q->p.1≠q.1
 |[],i,j,p,q,_,_,hi,_=>by simp at hi
 |b::r,0,0,p,q,_,h,_,_=>absurd rfl h
 |b::r,0,j+1,p,q,h,_,hi,hj=>by
  simp at hi hj;subst hi;exact(zx h.1 q (wo hj)).symm
 |b::r,i+1,0,p,q,h,_,hi,hj=>by
  simp at hi hj;subst hj;exact zx h.1 p (wo hi)
 |b::r,i+1,j+1,p,q,h,hne,hi,hj=>BC (bs:=r) (i:=i) (j:=j) h.2 aa (by simpa using hi) (by simpa using hj)
def D8{g}:∀{bs:List Bk} {i:Nat} {p:Bk} {cs:Array Value},bs[i]? =γ p->apart g bs->apart g (bs.set i (p.1,p.2.1,cs))
 |[],i,p,cs,h,_=>by simp at h
 |b::r,0,p,cs,h,ha=>by simp at h;subst h;exact ha
 |b::r,i+1,p,cs,h,ha=>⟨ha.1,D8 Ach ha.2⟩
def J5:∀{bs:List Bk} {i:Nat} {p:Bk} {cs:Array Value},bs[i]? =γ p->uQ bs->uQ (bs.set i (p.1,p.2.1,cs))
 |[],i,p,cs,h,_=>by simp at h
 |b::r,0,p,cs,h,ha=>by simp at h;subst h;exact ha
 |b::r,i+1,p,cs,h,ha=>⟨D8 Ach ha.1,J5 Ach ha.2⟩
def St.put(h:St w W bs fs)(i k:Nat){g:Nat}{t cs cs' bs'}(B)(e:bs[i]? =γ (g,t,cs))(J:Own w g)(hn:lS cs=ε)(C:W'=puts W g k B)(ec:gJ cs k B=cs')(F:bs.set i (g,t,cs')=bs'):St w W' bs' fs:=by
 have hb:=h.blk i e;obtain⟨I,G,K,H,_⟩:=QX k B h.ext J hb hn C ec;refine⟨I,fun p hp=> ?_,F ▸ J5 (p:=(g,t,cs)) e h.nd,fun q hq=>H _ _ _ (h.nums q hq)⟩;obtain⟨j,D⟩:=abP hp;rw[<-F] at D;have Y:i<bs.length:=(μ.1 e).1;by_cases L:i=j
 .subst L;rw[abD Y] at D;injection D with D;subst D;exact G
 .rw[aaj L] at D;exact K _ _ _ (fun T=>BC h.nd (fun h=>L h.symm) D e T) (h.blks p (wo D))
end
def gG (zs:List Int):Nat:=zs.foldl (fun g z=>Nat.gcd g z.natAbs) 0
theorem PG{zs:List Int}{k}{z:Int}(h:zs[k]? =γ z):gG (zs.take (k+1))=Nat.gcd (gG (zs.take k)) z.natAbs:=by
 unfold gG;rw[acV,h,acW];rfl
def I7:∀(zs:List Int),zs.foldl (fun g z=>Nat.gcd g z.natAbs) 1=1
 |[]=>rfl
 |z::zs=>by rw[List.foldl_cons,Nat.gcd_one_left];exact I7 zs
theorem Qe{zs k}(h:gG (zs.take k)=1):gG zs=1:=by
 have e:zs=zs.take k++zs.drop k:=(acj k zs).symm;rw[e];unfold gG at h⊢;rw[acW,h];exact I7 _
theorem MM:0<lim:=by unfold lim;exact Na aj
def Ml:∀(zs:List Int) (g:Nat),g<lim->(∀z∈zs,z.natAbs<lim)->zs.foldl (fun g z=>Nat.gcd g z.natAbs) g<lim
 |[],g,hg,_=>hg
 |z::zs,g,hg,h=>by
  rw[List.foldl_cons];refine Ml zs _ ?_ (fun x J=>h x (nC _ J));rcases BB g with j|j
  .subst j;rw[Nat.gcd_zero_left];exact h z ag
  .exact ψ (Nat.gcd_le_left _ j) hg
def NA{zs}(h:∀z∈zs,z.natAbs<lim):gG zs<lim:=Ml zs 0 MM h
def Cs(g gs L zs cs w)(hc:Calm w g)(hb:Blk w gs 40 cs)(hL:zs.length=L)(K:L<=100)(T:∀j z,zs[j]? =γ z->z.natAbs<lim/\∃s A n c,cs[j*2]? =γ (.bool s)/\cs[j*2+1]? =γ (.slice A n c)/\RI w (iv s A n c) z):
  CV 145 #[.pointer (γ ⟨g,0,δ⟩),.slice (γ ⟨gs,0,δ⟩) L L] w fun v w'=>RI w' v (gG zs:Nat):=by
 have HL:=aW hL;have HZ:=aW T;clear hL T;have hS:=((aeZ w).yC hc trivial).al 40 #[.bool ζ,.slice δ 0 0] (g:=w.heap.size) rfl;replace hS:=hS.al 40 #[.bool ζ,.slice δ 0 0] (g:=w.heap.size+1) ag;have o4:Own w w.heap.size:=κ _;have o5:Own w (w.heap.size+1):=abj _;have C:=(hS.aH 0).cell;have S:=(hS.aH 0).frozen;go_enter func145,ntmps145;go_wp2_with fail;clear C S;generalize ((w.alloc (.cells #[.bool ζ,.slice δ 0 0] 40)).alloc (.cells #[.bool ζ,.slice δ 0 0] 40))=w1 at hS⊢;generalize w.heap.size+1=g5 at hS o5⊢;generalize w.heap.size=g4 at hS o4⊢;go_loopw [11] (fun i wr=>∃k:Nat,k<=L/\i=.int .i64 (k:Int)/\∃s A n c,St w wr [(g5,40,#[.bool s,.slice A n c]),(g4,40,#[.bool ζ,.slice δ 0 0]),(g,197,#[.int .i64 0])] [nz (iv s A n c) (gG (zs.take k):Nat)]) (fun i _=>L-(intOf i).toNat)
 case atStart=>
  exact⟨0,aa,rfl,ζ,δ,0,0,hS.bI (RI.zero _)⟩
 case round=>
  clear hS;obtain⟨k,hk,rfl,s5,A5,n5,c5,hS⟩:=hrel;by_cases Yw:k<L
  .have hq:=ν (l:=zs) (i:=k) (by rw[HL.o];exact Yw);obtain⟨z,T⟩:∃z,zs[k]? =γ z:=⟨_,hq⟩;clear hq;obtain⟨D,s6,A6,n6,c6,Q,O,YE⟩:=HZ.o k z T;have B:=(hb.ext hS.ext).cell;have Yv:=(B (k*2)).trans Q;have ZB:=(B (k*2+1)).trans O;clear B Q O;have HG:=aW (PG T);have gl:(gG (zs.take k):Int).natAbs<lim:=NA (fun x J=>by
    obtain⟨j,hj⟩:=abP (adp J);exact(HZ.o j x hj).1)
   have YZ:Hid (gG (zs.take k)=1->gG zs=1):=aW Qe;clear T;replace hS:=hS.bI (YE.ext hS.ext);generalize gG (zs.take k)=G at*
   have e1:((k:Int)*2).toNat=k*2:=aa;have o7:Own w wr.heap.size:=aeX hS.ext (κ _);have hT:=hS.al 40 #[.bool ζ,.slice δ 0 0] (g:=wr.heap.size) rfl;have C:=(hT.aH 0).cell;have S:=(hT.aH 0).frozen;clear hT;replace hS:=hS.al 40 #[.bool s6,.slice A6 n6 c6] (g:=wr.heap.size) rfl;have k3:=(hS.aH 1).cell;go_wp2_with fail;clear C S k3 Yv ZB;generalize wr.alloc (.cells #[.bool s6,.slice A6 n6 c6] 40)=w2 at hS⊢;generalize wr.heap.size=g7 at hS o7⊢;refine(yB _ _ _ (hS.aF 1)).mono ?_;rintro e w3 ⟨rfl,F⟩;replace hS:=hS.mv F;clear F;by_cases V:(G:Int)=1
   .have U:decide ((G:Int)=1)=ε:=by simpa using V
    rw[U];have I:gG zs=1:=YZ.o aa;have H:Hid ((G:Int)=(gG zs:Nat)):=aW (by rw[I];exact V);clear U V I;have C:=(hS.aH 1).cell;have S:=(hS.aH 2).cell;have k3:=(hS.aH 2).frozen;replace hS:=hS.put (W':=((w3.setCell ⟨g4,0,δ⟩ (.bool s5)).setCell ⟨g4,1,δ⟩ (.slice A5 n5 c5))) 2 0 [.bool s5,.slice A5 n5 c5] (cs':= #[.bool s5,.slice A5 n5 c5]) rfl o4 rfl rfl rfl rfl;go_wp2;rw[<-H.o];exact fK rfl rfl rfl (hS.aH 2) ⟨_,rfl,hS.aF 1,hS.ext⟩
   .have U:decide ((G:Int)=1)=ζ:=by simpa using V
    rw[U];clear U V;have C:=(hS.aH 1).cell;have S:=(hS.aH 0).cell;go_wp2_with fail;clear C S;refine(WQ _ _ _ _ _ (hS.aF 1) (hS.aF 0) gl D).mono ?_;rintro e w4 ⟨v_,rfl,⟨P,rfl,M⟩,F⟩;replace hS:=hS.mv F;clear F;have R:RI w4 P ((Nat.gcd (G:Int).natAbs z.natAbs:Nat)):=M;have YR:Hid (Nat.gcd (G:Int).natAbs z.natAbs=gG (zs.take (k+1))):=aW HG.symm;rw[YR.o] at R;clear M;go_wp2_with fail;refine(vF g P _ _ (hS.aH 3) R).mono ?_;rintro e w5 ⟨v_,rfl,M,F⟩;replace hS:=hS.mv F;clear F R;obtain⟨Z,N,Y,W,rfl,R⟩:=RI.opn M;replace hS:=hS.bI R;clear M R;have C:=(hS.aH 1).cell;have S:=(hS.aH 1).frozen;replace hS:=hS.put (W':=((w5.setCell ⟨g5,0,δ⟩ (.bool Z)).setCell ⟨g5,1,δ⟩ (.slice N Y W))) 1 0 [.bool Z,.slice N Y W] (cs':= #[.bool Z,.slice N Y W]) rfl o5 rfl rfl rfl rfl;go_wp2;go_roundw
    case rel=>
     refine⟨k+1,aa,au,Z,N,Y,W,?_⟩;exact St.one (St.less hS)
    case measure=>simp[aT,intOf]<;>omega
  .obtain rfl:k=L:=aa;have H:Hid (gG (zs.take k)=gG zs):=aW (by rw[χ (by rw[HL.o];exact κ _)]);rw[H.o] at hS;have C:=(hS.aH 0).cell;have S:=(hS.aH 1).cell;have k3:=(hS.aH 1).frozen;replace hS:=hS.put (W':=((wr.setCell ⟨g4,0,δ⟩ (.bool s5)).setCell ⟨g4,1,δ⟩ (.slice A5 n5 c5))) 1 0 [.bool s5,.slice A5 n5 c5] (cs':= #[.bool s5,.slice A5 n5 c5]) rfl o4 rfl rfl rfl rfl;go_wp2;exact fK rfl rfl rfl (hS.aH 1) ⟨_,rfl,hS.aF 0,hS.ext⟩
def BN(g C)(x y z:Int)(w){s1 s2 A1 A2 n1 c1 n2 c2}(hc:Calm w g)(hb:Blk w C 40 #[.bool s1,aO A1 n1 c1,.bool s2,aO A2 n2 c2])(F:RI w (iv s1 A1 n1 c1) x)(D:RI w (iv s2 A2 n2 c2) y)(G:x.natAbs<lim)(H:y.natAbs<lim)(E:Hid (z=(gG [x,y]:Nat))):
  CV 145 #[aN g 0,aO (γ (aM C 0)) 2 2] w fun v w'=>RI w' v z:=by
 rw[E.o];refine Cs g C 2 [x,y] _ w hc hb rfl aa (fun j u B=> ?_)
 match j,B with
 |0,B=>injection B with B;subst B;exact⟨G,_,_,_,_,rfl,rfl,F⟩
 |1,B=>injection B with B;subst B;exact⟨H,_,_,_,_,rfl,rfl,D⟩
def ut(g C)(x y t z:Int)(w){s1 s2 s3 A1 A2 A3 n1 c1 n2 c2 n3 c3}(hc:Calm w g)(hb:Blk w C 40 #[.bool s1,aO A1 n1 c1,.bool s2,aO A2 n2 c2,.bool s3,aO A3 n3 c3])(F:RI w (iv s1 A1 n1 c1) x)(D:RI w (iv s2 A2 n2 c2) y)(H:RI w (iv s3 A3 n3 c3) t)(I:x.natAbs<lim)(J:y.natAbs<lim)(G:t.natAbs<lim)(E:Hid (z=(gG [x,y,t]:Nat))):
  CV 145 #[aN g 0,aO (γ (aM C 0)) 3 3] w fun v w'=>RI w' v z:=by
 rw[E.o];refine Cs g C 3 [x,y,t] _ w hc hb rfl aa (fun j u B=> ?_)
 match j,B with
 |0,B=>injection B with B;subst B;exact⟨I,_,_,_,_,rfl,rfl,F⟩
 |1,B=>injection B with B;subst B;exact⟨J,_,_,_,_,rfl,rfl,D⟩
 |2,B=>injection B with B;subst B;exact⟨G,_,_,_,_,rfl,rfl,H⟩
def Qr(g C)(x y t u z:Int)(w){s1 s2 s3 s4 A1 A2 A3 A4 n1 c1 n2 c2 n3 c3 n4 c4}(hc:Calm w g)(hb:Blk w C 40 #[.bool s1,aO A1 n1 c1,.bool s2,aO A2 n2 c2,.bool s3,aO A3 n3 c3,.bool s4,aO A4 n4 c4])(G:RI w (iv s1 A1 n1 c1) x)(D:RI w (iv s2 A2 n2 c2) y)(J:RI w (iv s3 A3 n3 c3) t)(F:RI w (iv s4 A4 n4 c4) u)(K:x.natAbs<lim)(L:y.natAbs<lim)(H:t.natAbs<lim)(I:u.natAbs<lim)(E:Hid (z=(gG [x,y,t,u]:Nat))):
  CV 145 #[aN g 0,aO (γ (aM C 0)) 4 4] w fun v w'=>RI w' v z:=by
 rw[E.o];refine Cs g C 4 [x,y,t,u] _ w hc hb rfl aa (fun j q B=> ?_)
 match j,B with
 |0,B=>injection B with B;subst B;exact⟨K,_,_,_,_,rfl,rfl,G⟩
 |1,B=>injection B with B;subst B;exact⟨L,_,_,_,_,rfl,rfl,D⟩
 |2,B=>injection B with B;subst B;exact⟨H,_,_,_,_,rfl,rfl,J⟩
 |3,B=>injection B with B;subst B;exact⟨I,_,_,_,_,rfl,rfl,F⟩
def Ei{P:Program}{ops:Array Oper}{w0:World}{E:Nat->Bool}{Φ:Nat->Nat->Nat->Value->World->Prop}{Qt:Book->Act->Prop}{o:Oper}{l:List Oper}{k:Nat}{F:Book}{a:Act}{G:Value->World->Prop}{f:FuncId}{args:Array Value}{Q:Bool->Option Addr->Nat->Nat->Nat->Nat->Prop}(x:∀W,Kn ops w0 Φ k F W->Calls P f args W (fun e w'=>∃v,e=.returned v/\G v w'/\Ext W w'))(h:∀s A n c lo hi,Q s A n c lo hi)(t:(∀W,Kn ops w0 Φ k F W->Calls P f args W (fun e w'=>∃v,e=.returned v/\G v w'/\Ext W w'))->(∀s A n c lo hi,Q s A n c lo hi)->wpT P ops w0 E Φ Qt (o::l) k F a:=by
   intro x h;refine dL (by rfl) (by rfl) (by rfl) ?_ ?_
   .intro W I;have y:=x W I;clear x h I;go_simp;exact⟨rfl,y.mono fun e w' ⟨v,O,hv,J⟩=>⟨v,O,J,hv⟩⟩
   .intro v lo hi B;obtain⟨W,j⟩:=B;obtain⟨s,A,n,c,rfl,-⟩:=RI.opn j.get;clear j W x;(try simp only[Act.put,aQ,De,Ej]);exact h s A n c lo hi):wpT P ops w0 E Φ Qt (o::l) k F a:=t x h
def Eg{P:Program}{ops:Array Oper}{w0:World}{E:Nat->Bool}{Φ:Nat->Nat->Nat->Value->World->Prop}{Qt:Book->Act->Prop}{o:Oper}{l:List Oper}{k:Nat}{F:Book}{a:Act}{G:Value->World->Prop}{f:FuncId}{args:Array Value}{Q:Bool->Option Addr->Nat->Nat->Bool->Option Addr->Nat->Nat->Bool->Option Addr->Nat->Nat->Nat->Nat->Prop}(x:∀W,Kn ops w0 Φ k F W->Calls P f args W (fun e w'=>∃v,e=.returned v/\G v w'/\Ext W w'))(h:∀sa j na C L B nb K S D nd H lo hi,Q sa j na C L B nb K S D nd H lo hi)(t:(∀W,Kn ops w0 Φ k F W->Calls P f args W (fun e w'=>∃v,e=.returned v/\G v w'/\Ext W w'))->(∀sa j na C L B nb K S D nd H lo hi,Q sa j na C L B nb K S D nd H lo hi)->wpT P ops w0 E Φ Qt (o::l) k F a:=by
   intro x h;refine dL (by rfl) (by rfl) (by rfl) ?_ ?_
   .intro W I;have y:=x W I;clear x h I;go_simp;exact⟨rfl,y.mono fun e w' ⟨v,O,hv,J⟩=>⟨v,O,J,hv⟩⟩
   .intro v lo hi N;obtain⟨W,M⟩:=N;obtain⟨sa,j,na,C,L,B,nb,K,S,D,nd,H,rfl,-,-,-⟩:=M.get;clear M W x;(try simp only[Act.put,aQ,De,Ej]);exact h sa j na C L B nb K S D nd H lo hi):wpT P ops w0 E Φ Qt (o::l) k F a:=t x h
section
variable {w W w0:World} {bs:List Bk} {fs:List Nm} {Φ:Nat->Nat->Nat->Value->World->Prop} {F:Book} {p:Prop}
def St.aI(h:St w W bs fs)(I:fV w0 Φ F W)(i:Nat){v:Value}{lo hi:Nat}{z:Int}(B:F i=γ (v,lo,hi):=by rfl)(j:Φ i lo hi v W=RI W v z:=by rfl):St w W bs (nz v z::fs):=h.bI (j ▸ I.at_ i B)
section
variable {s1 s2 s3 s4 s5 s6:Bool} {A1 A2 A3 A4 A5 A6:Option Addr} {n1 n2 n3 n4 n5 n6 c1 c2 c3 c4 c5 c6:Nat}
def St.aG(h:St w W bs fs)(I:fV w0 Φ F W)(i:Nat){lo hi:Nat}{a b d:Int}(B:F i=γ (gv s1 A1 n1 c1 s2 A2 n2 c2 s3 A3 n3 c3,lo,hi):=by rfl)(j:Φ i lo hi (gv s1 A1 n1 c1 s2 A2 n2 c2 s3 A3 n3 c3) W=RG W (gv s1 A1 n1 c1 s2 A2 n2 c2 s3 A3 n3 c3) a b d:=by rfl):St w W bs (nz (iv s3 A3 n3 c3) d::nz (iv s2 A2 n2 c2) b::nz (iv s1 A1 n1 c1) a::fs):=
 have x:RG W _ a b d:=j ▸ I.at_ i B
 ((h.bI x.at1).bI x.at2).bI x.at3
def St.aP(h:St w W bs fs)(I:fV w0 Φ F W)(i:Nat){lo hi:Nat}{a b d x y z e:Int}(B:F i=γ (.tuple #[pv s1 A1 n1 c1 s2 A2 n2 c2 s3 A3 n3 c3 s4 A4 n4 c4 s5 A5 n5 c5 s6 A6 n6 c6,e],lo,hi):=by rfl)(j:Φ i lo hi (.tuple #[pv s1 A1 n1 c1 s2 A2 n2 c2 s3 A3 n3 c3 s4 A4 n4 c4 s5 A5 n5 c5 s6 A6 n6 c6,e]) W=∃u,Value.tuple #[pv s1 A1 n1 c1 s2 A2 n2 c2 s3 A3 n3 c3 s4 A4 n4 c4 s5 A5 n5 c5 s6 A6 n6 c6,e]=.tuple #[u,e]/\RP W u a b d x y z:=by rfl):St w W bs (nz (iv s6 A6 n6 c6) z::nz (iv s5 A5 n5 c5) y::nz (iv s4 A4 n4 c4) x::nz (iv s3 A3 n3 c3) d::nz (iv s2 A2 n2 c2) b::nz (iv s1 A1 n1 c1) a::fs):=
 have r:=afl (j ▸ I.at_ i B)
 (((((h.bI r.at1).bI r.at2).bI r.at3).bI r.at4).bI r.at5).bI r.at6
end
def St.aB(h:St w W bs fs)(I:fV w0 Φ F W)(i g:Nat){hi:Nat}{v:Value}{T:TypeId}{cs:Array Value}{r q:Prop}(ha:apart g bs)(B:F i=γ (v,g,hi):=by rfl)(j:Φ i g hi v W=(r/\q/\Blk W g T cs):=by rfl):St w W ((g,T,cs)::bs) fs:=h.yC (j ▸ I.at_ i B).2.2 ha
def St.pt(h:St w W bs fs)(i k:Nat)(B:List Value){g:Nat}{T:TypeId}{cs cs':Array Value}{W':World}{bs':List Bk}(j:Own w g)(e:bs[i]? =γ (g,T,cs):=by rfl)(hn:lS cs=ε:=by kernel_rfl)(C:puts W g k B=W':=by simp only[puts];first|done|rfl)(ec:gJ cs k B=cs':=by simp only[gJ,aQ,De,Ej];first|done|rfl)(D:bs.set i (g,T,cs')=bs':=by simp only[De,Ej];first|done|rfl):St w W' bs' fs:=h.put i k B e j hn C.symm ec D
def gW{Q:World->Prop}(x:St w W bs fs)(h:∀W,St w W bs fs->Q W)(t:(∃W',W=W'/\St w W' bs fs)->(∀W,St w W bs fs->Q W)->p:=by
  intro x h;obtain⟨W',e,y⟩:=x;rw[e];exact h W' y):p:=t ⟨_,rfl,x⟩ h
def gA1{Q:World->Nat->Prop}(x:St w W bs fs)(j:TypeId)(c1:Array Value)(h:∀W',∀g1,Own w g1->St w W' ((g1,j,c1)::bs) fs->Q W' g1)(t:(∃W' g1,(W.alloc (.cells c1 j))=W'/\W.heap.size=g1/\Own w g1/\St w W' ((g1,j,c1)::bs) fs)->(∀W',∀g1,Own w g1->St w W' ((g1,j,c1)::bs) fs->Q W' g1)->p:=by
  intro x h;obtain⟨W',g1,e,e1,o1,y⟩:=x;rw[e];(try rw[e1]);exact h W' g1 o1 y):p:=
 t ⟨_,_,rfl,rfl,aeX x.ext ag,(St.al x j c1 ag)⟩ h
def gA2{Q:World->Nat->Nat->Prop}(x:St w W bs fs)(j:TypeId)(c1:Array Value)(B:TypeId)(c2:Array Value)(h:∀W',∀g1,Own w g1->∀g2,Own w g2->St w W' ((g2,B,c2)::(g1,j,c1)::bs) fs->Q W' g1 g2)(t:(∃W' g1 g2,((W.alloc (.cells c1 j)).alloc (.cells c2 B))=W'/\W.heap.size=g1/\Own w g1/\W.heap.size+1=g2/\Own w g2/\St w W' ((g2,B,c2)::(g1,j,c1)::bs) fs)->(∀W',∀g1,Own w g1->∀g2,Own w g2->St w W' ((g2,B,c2)::(g1,j,c1)::bs) fs->Q W' g1 g2)->p:=by
  intro x h;obtain⟨W',g1,g2,e,e1,o1,D,C,y⟩:=x;rw[e];(try rw[D]);(try rw[e1]);exact h W' g1 o1 g2 C y):p:=
 t ⟨_,_,_,rfl,rfl,aeX x.ext ag,rfl,aeX x.ext ag,(St.al (St.al x j c1 ag) B c2 ag)⟩ h
def gA3{Q:World->Nat->Nat->Nat->Prop}(x:St w W bs fs)(j:TypeId)(c1:Array Value)(B:TypeId)(c2:Array Value)(C:TypeId)(c3:Array Value)(h:∀W',∀g1,Own w g1->∀g2,Own w g2->∀g3,Own w g3->St w W' ((g3,C,c3)::(g2,B,c2)::(g1,j,c1)::bs) fs->Q W' g1 g2 g3)(t:(∃W' g1 g2 g3,(((W.alloc (.cells c1 j)).alloc (.cells c2 B)).alloc (.cells c3 C))=W'/\W.heap.size=g1/\Own w g1/\W.heap.size+1=g2/\Own w g2/\W.heap.size+2=g3/\Own w g3/\St w W' ((g3,C,c3)::(g2,B,c2)::(g1,j,c1)::bs) fs)->(∀W',∀g1,Own w g1->∀g2,Own w g2->∀g3,Own w g3->St w W' ((g3,C,c3)::(g2,B,c2)::(g1,j,c1)::bs) fs->Q W' g1 g2 g3)->p:=by
  intro x h;obtain⟨W',g1,g2,g3,e,e1,o1,F,D,H,G,y⟩:=x;rw[e];(try rw[H]);(try rw[F]);(try rw[e1]);exact h W' g1 o1 g2 D g3 G y):p:=
 t ⟨_,_,_,_,rfl,rfl,aeX x.ext ag,rfl,aeX x.ext ag,rfl,aeX x.ext ag,(St.al (St.al (St.al x j c1 ag) B c2 ag) C c3 ag)⟩ h
def gA4{Q:World->Nat->Nat->Nat->Nat->Prop}(x:St w W bs fs)(j:TypeId)(c1:Array Value)(B:TypeId)(c2:Array Value)(C:TypeId)(c3:Array Value)(D:TypeId)(c4:Array Value)(h:∀W',∀g1,Own w g1->∀g2,Own w g2->∀g3,Own w g3->∀g4,Own w g4->St w W' ((g4,D,c4)::(g3,C,c3)::(g2,B,c2)::(g1,j,c1)::bs) fs->Q W' g1 g2 g3 g4)(t:(∃W' g1 g2 g3 g4,((((W.alloc (.cells c1 j)).alloc (.cells c2 B)).alloc (.cells c3 C)).alloc (.cells c4 D))=W'/\W.heap.size=g1/\Own w g1/\W.heap.size+1=g2/\Own w g2/\W.heap.size+2=g3/\Own w g3/\W.heap.size+3=g4/\Own w g4/\St w W' ((g4,D,c4)::(g3,C,c3)::(g2,B,c2)::(g1,j,c1)::bs) fs)->(∀W',∀g1,Own w g1->∀g2,Own w g2->∀g3,Own w g3->∀g4,Own w g4->St w W' ((g4,D,c4)::(g3,C,c3)::(g2,B,c2)::(g1,j,c1)::bs) fs->Q W' g1 g2 g3 g4)->p:=by
  intro x h;obtain⟨W',g1,g2,g3,g4,e,e1,o1,G,F,J,H,K,I,y⟩:=x;rw[e];(try rw[K]);(try rw[J]);(try rw[G]);(try rw[e1]);exact h W' g1 o1 g2 F g3 H g4 I y):p:=
 t ⟨_,_,_,_,_,rfl,rfl,aeX x.ext ag,rfl,aeX x.ext ag,rfl,aeX x.ext ag,rfl,aeX x.ext ag,(St.al (St.al (St.al (St.al x j c1 ag) B c2 ag) C c3 ag) D c4 ag)⟩ h
def gA5{Q:World->Nat->Nat->Nat->Nat->Nat->Prop}(x:St w W bs fs)(j:TypeId)(c1:Array Value)(B:TypeId)(c2:Array Value)(C:TypeId)(c3:Array Value)(D:TypeId)(c4:Array Value)(F:TypeId)(c5:Array Value)(h:∀W',∀g1,Own w g1->∀g2,Own w g2->∀g3,Own w g3->∀g4,Own w g4->∀g5,Own w g5->St w W' ((g5,F,c5)::(g4,D,c4)::(g3,C,c3)::(g2,B,c2)::(g1,j,c1)::bs) fs->Q W' g1 g2 g3 g4 g5)(t:(∃W' g1 g2 g3 g4 g5,(((((W.alloc (.cells c1 j)).alloc (.cells c2 B)).alloc (.cells c3 C)).alloc (.cells c4 D)).alloc (.cells c5 F))=W'/\W.heap.size=g1/\Own w g1/\W.heap.size+1=g2/\Own w g2/\W.heap.size+2=g3/\Own w g3/\W.heap.size+3=g4/\Own w g4/\W.heap.size+4=g5/\Own w g5/\St w W' ((g5,F,c5)::(g4,D,c4)::(g3,C,c3)::(g2,B,c2)::(g1,j,c1)::bs) fs)->(∀W',∀g1,Own w g1->∀g2,Own w g2->∀g3,Own w g3->∀g4,Own w g4->∀g5,Own w g5->St w W' ((g5,F,c5)::(g4,D,c4)::(g3,C,c3)::(g2,B,c2)::(g1,j,c1)::bs) fs->Q W' g1 g2 g3 g4 g5)->p:=by
  intro x h;obtain⟨W',g1,g2,g3,g4,g5,e,e1,o1,J,I,M,K,N,L,G,H,y⟩:=x;rw[e];(try rw[G]);(try rw[N]);(try rw[M]);(try rw[J]);(try rw[e1]);exact h W' g1 o1 g2 I g3 K g4 L g5 H y):p:=
 t ⟨_,_,_,_,_,_,rfl,rfl,aeX x.ext ag,rfl,aeX x.ext ag,rfl,aeX x.ext ag,rfl,aeX x.ext ag,rfl,aeX x.ext ag,(St.al (St.al (St.al (St.al (St.al x j c1 ag) B c2 ag) C c3 ag) D c4 ag) F c5 ag)⟩ h
end

section
variable {w W:World} {Φ:Nat->Nat->Nat->Value->World->Prop} {F:Book}
def fV.lw(h:fV w Φ F W)(i:Nat){v:Value}{g hi:Nat}(j:F i=γ (v,g,hi):=by rfl):w.heap.size<=g:=h.low i _ j
def fV.hB(h:fV w Φ F W)(i:Nat){v:Value}{g hi:Nat}{T:TypeId}{cs:Array Value}{r q:Prop}(B:F i=γ (v,g,hi):=by rfl)(j:Φ i g hi v W=(r/\q/\Blk W g T cs):=by rfl):Hid (Blk W g T cs):=aW (j ▸ h.at_ i B).2.2
def fV.nn(h:fV w Φ F W)(i j:Nat){v u:Value}{g g' hi B:Nat}(l:g<hi)(G:g'<B)(D:F i=γ (v,g,hi):=by rfl)(C:F j=γ (u,g',B):=by rfl)(hn:i≠j:=by decide):g≠g':=MK l G (h.disj i j _ _ hn D C)
end
def apF{bs:List Bk}{L g:Nat}(h:∀p∈bs,p.1<L)(l:L<=g):apart g bs:=Dp fun p hp=>ad7 (ο (h p hp) l)
def tF{P:Program}{J:Nat}{Q:Exit->Act->World->Prop}{a:Act}{w:World}{l:List Oper}(n:Nat)(m:List (Nat×Fc)){q:Prop}(h:q)(t:q->wpT P l.toArray w (WO m) (Fcs m) (fun F a'=>∀w',fV w (Fcs m) F w'->wpList P l.toArray Q (l.drop n) a' w') (l.take n) 0 Book.none a:=by
   intro h;simp only[aay,abm,ξ,τ];exact h)(j:P.follows .mixedOrders=ε:=by kernel_rfl)(B:Region.lexTailB .any l.toArray n=ε:=by kernel_rfl):(Code.region J l.toArray ε).wp P Q a w:=fP n (WO m) (Fcs m) (R9 _) j B (t h)
def Ng(v z w)(L:RI w v z)(h:z=1):
  CE 144 #[v] w (.bool ε):=by
 have:=yB v z w L;rwa[show decide (z=1)=ε by simpa using h] at this
def WE(v z w)(L:RI w v z)(h:z≠1):
  CE 144 #[v] w (.bool ζ):=by
 have:=yB v z w L;rwa[show decide (z=1)=ζ by simpa using h] at this
def Ov(v u x y q r w)(L:RI w v x)(M:RI w u y)(O:x.natAbs<lim)(S:y.natAbs<lim)(j:y≠0)(hq:q=x/y)(B:r=x%y):
  CV 195 #[v,u] w fun v w'=>Sb q r 0 v w':=by
 subst hq B;exact OU v u x y w L M O S j
def yU(gc v1 x1 m2 w)(hc:Calm w gc)(D:RI w v1 x1)(O:x1.natAbs<lim)(l2: -9223372036854775808<=m2)(u2:m2<=9223372036854775807)(B)(J:Hid (B=x1*(m2)))(F:B.natAbs<lim):
  CV 165 #[aN gc 0,v1,.int .i64 m2] w fun v w'=>RI w' v B:=by
 have hS:=aeZ w;obtain⟨N,H,Q,G,rfl,L⟩:=D.opn;replace hS:=hS.bI L;clear D L;replace hS:=hS.yC hc trivial;clear hc;go_enter func165,ntmps165;go_wp2_with fail;refine gA2 hS 40 #[N,aO H Q G] 40 #[ζ,()] ?_;clear hS;intro w1 g4 o4 g6 o6 hS;have Y4:=aX.blk (hS.aH 1);have C:=hS.ext;refine tF 5 [(3,.ri ((m2))),(4,.ri (B))] ?_;refine Qs ?_;refine Ei (fun R I=>CO (m2) _ l2 u2) ?_;intro W K P S Z V;refine Ei (fun R I=>jh gc _ _ x1 (m2) B _ (Blk.ext (hS.aH 2) I.1) (hS.aD 0 I.1) (I.f 3 ((iv W K P S),Z,V)) O (jy l2 u2) J.o F) ?_;intro Y M U T YK ZY;refine bN ?_;intro w2 I;have j:=hS.lt;replace hS:=hS.mv I.ext;replace hS:=hS.aI I 3;replace hS:=hS.aI I 4;clear I j C Y4;have YN:=(hS.aH 0).cell;have YM:=(hS.aH 0).frozen;go_wp2;replace hS:=hS.pt 0 0 [.bool Y,.slice M U T] o6;exact AaP
def Qh(gc v1 P v2 K w)(hc:Calm w gc)(D:RI w v1 P)(O:P.natAbs<lim)(j:RI w v2 K)(YG:K.natAbs<lim)(H1:Hid (K=1)):
  CV 166 #[aN gc 0,v1,v2] w fun v w'=>RI w' v P:=by
 have hS:=aeZ w;obtain⟨N,H,Q,G,rfl,L⟩:=D.opn;replace hS:=hS.bI L;clear D L;obtain⟨Z,T,U,V,rfl,I⟩:=j.opn;replace hS:=hS.bI I;clear j I;replace hS:=hS.yC hc trivial;clear hc;have B:=(St.al (St.al (St.al hS 40 #[N,aO H Q G] (g:=w.heap.size) ag) 40 #[Z,aO T U V] (g:=(w.heap.size+1)) ag) 40 #[ζ,()] (g:=(w.heap.size+2)) ag);have S:=(B.aH 1).cell;go_enter func166,ntmps166;go_wp2_with fail;clear S;clear B;refine gA3 hS 40 #[N,aO H Q G] 40 #[Z,aO T U V] 40 #[ζ,()] ?_;clear hS;intro w1 g4 o4 g5 o5 g6 o6 hS;refine(Ng _ K _ (hS.aF 0) H1.o).mono ?_;rintro e w2 ⟨rfl,F⟩;replace hS:=hS.mv F;clear F;have R:=(hS.aH 2).cell;go_wp2_with fail;clear R;refine(mV _ P _ (hS.aF 1) O).mono ?_;rintro e w3 ⟨v_,rfl,M,F⟩;replace hS:=hS.mv F;clear F;obtain⟨W,C,Y,c13,rfl,J⟩:=RI.opn M;clear M;replace hS:=hS.bI J;clear J;have YR:=(hS.aH 0).cell;have YS:=(hS.aH 0).frozen;go_wp2;replace hS:=hS.pt 0 0 [.bool W,.slice C Y c13] o6;exact AaP
def Tn(gc v1 x1 v2 x2 w)(hc:Calm w gc)(D:RI w v1 x1)(O:x1.natAbs<lim)(YV:RI w v2 x2)(YG:x2.natAbs<lim)(H1:Hid (x2≠1))(C)(YA:Hid (C=x1/x2))(YB:C.natAbs<lim)(Yy)(Yz:Hid (Yy=x1%x2))(YC:Hid (x2≠0)):
  CV 166 #[aN gc 0,v1,v2] w fun v w'=>RI w' v C:=by
 have hS:=aeZ w;obtain⟨N,H,Q,G,rfl,L⟩:=D.opn;replace hS:=hS.bI L;clear D L;obtain⟨Z,T,U,V,rfl,YF⟩:=YV.opn;replace hS:=hS.bI YF;clear YV YF;replace hS:=hS.yC hc trivial;clear hc;have B:=(St.al (St.al (St.al hS 40 #[N,aO H Q G] (g:=w.heap.size) ag) 40 #[Z,aO T U V] (g:=(w.heap.size+1)) ag) 40 #[ζ,()] (g:=(w.heap.size+2)) ag);have YN:=(B.aH 1).cell;go_enter func166,ntmps166;go_wp2_with fail;clear YN;clear B;refine gA3 hS 40 #[N,aO H Q G] 40 #[Z,aO T U V] 40 #[ζ,()] ?_;clear hS;intro w1 g4 o4 g5 o5 g6 o6 hS;refine(WE _ x2 _ (hS.aF 0) H1.o).mono ?_;rintro e w2 ⟨rfl,F⟩;replace hS:=hS.mv F;clear F;have YM:=(hS.aH 2).cell;have YR:=(hS.aH 1).cell;go_wp2_with fail;clear YM YR;refine(Ov _ _ x1 x2 C Yy _ (hS.aF 1) (hS.aF 0) O YG YC.o YA.o Yz.o).mono ?_;rintro e w3 ⟨v_,rfl,M,F⟩;replace hS:=hS.mv F;clear F;obtain⟨_,_,rfl,j,I⟩:=M;obtain⟨Yu,J,W,R,rfl,P⟩:=RI.opn j;obtain⟨Yw,S,Yv,Yx,rfl,K⟩:=RI.opn I;clear j I;replace hS:=hS.bI P;clear P;replace hS:=hS.bI K;clear K;have YI:=(St.al (St.al hS 40 #[ζ,()] (g:=w3.heap.size) ag) 40 #[ζ,()] (g:=(w3.heap.size+1)) ag);have YS:=(YI.aH 1).cell;have Zh:=(YI.aH 1).frozen;have YT:=(St.al (St.al hS 40 #[Yu,aO J W R] (g:=w3.heap.size) ag) 40 #[ζ,()] (g:=(w3.heap.size+1)) ag);have Zl:=(YT.aH 0).cell;have Zm:=(YT.aH 0).frozen;have YX:=(St.al (St.al hS 40 #[Yu,aO J W R] (g:=w3.heap.size) ag) 40 #[Yw,aO S Yv Yx] (g:=(w3.heap.size+1)) ag);have ZV:=(YX.aH 1).cell;go_wp2_with fail;clear YS Zh Zl Zm ZV;clear YI YT YX;refine gA2 hS 40 #[Yu,aO J W R] 40 #[Yw,aO S Yv Yx] ?_;clear hS;intro w4 g7 o7 g8 o8 hS;refine(vF gc _ C _ (hS.aH 5) (hS.aF 1)).mono ?_;rintro e w5 ⟨v_,rfl,M,F⟩;replace hS:=hS.mv F;clear F;obtain⟨ac,YZ,ad,af,rfl,Y⟩:=RI.opn M;clear M;replace hS:=hS.bI Y;clear Y;have ZX:=(hS.aH 2).cell;have ZE:=(hS.aH 2).frozen;go_wp2;replace hS:=hS.pt 2 0 [.bool ac,.slice YZ ad af] o6;exact fK rfl rfl rfl (hS.aH 2) ⟨_,rfl,(hS.aF 0),hS.ext⟩
def kD{x y:Int}(O:x.natAbs<lim)(R:y∣x):(x/y).natAbs<lim:=by
 obtain⟨k,rfl⟩:=R;by_cases j:y=0
 .subst j;simpa using MM
 .rw[abq _ j];rw[Ex] at O;exact ψ (abC _ aa) O
def gM(j a b x y z w)(hc:Calm w j)(L:RI w a x)(M:RI w b y)(O:x.natAbs<lim)(S:y.natAbs<lim)(R:y≠0)(hd:y∣x)(C:z=x/y):
  CV 166 #[aN j 0,a,b] w fun v w'=>RI w' v z:=by
 by_cases B:y=1
 .have e:z=x:=by rw[C,B];omega
  rw[e];exact Qh j a x b y w hc L O M S (aW B)
 .subst C;exact Tn j a x b y w hc L O M S (aW B) _ (aW rfl) (kD O hd) _ (aW rfl) (aW R)
theorem Bw{x}(h:x<0):ug x 0= -1:=by unfold ug;rw[ι h]
theorem yo{x}(h:0<x):ug x 0=1:=by unfold ug;rw[θ aa,ι h]
def GJ(v x k w)(L:RI w v x)(O:x.natAbs<lim)(h:ug x 0=k):
  CE 143 #[v] w (.int .i64 k):=by
 have:=UY v x w L O;rwa[h] at this
def yh(v x k w)(L:RI w v x)(O:x.natAbs<lim)(h:ug x 0=k):
  CE 99 #[v] w (.int .i64 k):=by
 have:=PW v x w L O;rwa[h] at this
def Hz(gc v1)(x1:Int)(v2)(x2:Int)(v3)(J:Int)(w)(hc:Calm w gc)(D:RI w v1 x1)(O:x1.natAbs<lim)(YV:RI w v2 x2)(YG:x2.natAbs<lim)(Yv:RI w v3 J)(Y:J.natAbs<lim)(H1:Hid (J<0))(K:Int)(ZF:Hid (K=(gG [J,x1,x2]:Nat)))(YZ:K.natAbs<lim)(Yu:Int)(Zj:Hid (Yu= -K))(Zi:Yu.natAbs<lim)(YU:Int)(Zo:Hid (YU=x1/Yu))(Zx:YU.natAbs<lim)(ZI:Hid (Yu≠0))(YJ:Hid (Yu∣x1))(W:Int)(YH:Hid (W=x2/Yu))(Zp:W.natAbs<lim)(YO:Hid (Yu≠0))(YC:Hid (Yu∣x2))(P:Int)(ZP:Hid (P=J/Yu))(ap:P.natAbs<lim)(ad:Hid (Yu≠0))(YL:Hid (Yu∣J)):
  CV 139 #[aN gc 0,v1,v2,v3] w fun v w'=>RG w' v YU W P:=by
 have hS:=aeZ w;obtain⟨N,H,Q,G,rfl,L⟩:=D.opn;replace hS:=hS.bI L;clear D L;obtain⟨Z,T,U,V,rfl,YF⟩:=YV.opn;replace hS:=hS.bI YF;clear YV YF;obtain⟨Yw,Yy,Yz,Yx,rfl,YB⟩:=Yv.opn;replace hS:=hS.bI YB;clear Yv YB;replace hS:=hS.yC hc trivial;clear hc;have B:=(St.al (St.al (St.al (St.al hS 40 #[N,aO H Q G] (g:=w.heap.size) ag) 40 #[Z,aO T U V] (g:=(w.heap.size+1)) ag) 40 #[Yw,aO Yy Yz Yx] (g:=(w.heap.size+2)) ag) 42 aQ3 (g:=(w.heap.size+3)) ag);have YN:=(B.aH 1).cell;have YM:=(B.aH 3).cell;have YR:=(B.aH 2).cell;go_enter func139,ntmps139;go_wp2_with fail;clear YN YM YR;clear B;refine gA5 hS 40 #[N,aO H Q G] 40 #[Z,aO T U V] 40 #[Yw,aO Yy Yz Yx] 42 aQ3 40 #[Yw,aO Yy Yz Yx,N,aO H Q G,Z,aO T U V] ?_;clear hS;intro w1 g5 o5 g6 o6 g7 o7 g8 o8 YY aq hS;refine(ut gc YY J x1 x2 K _ (hS.aH 5) (hS.aH 0) (hS.aF 0) (hS.aF 2) (hS.aF 1) Y O YG ZF).mono ?_;rintro e w2 ⟨v_,rfl,M,F⟩;replace hS:=hS.mv F;clear F;obtain⟨Zf,YW,Ze,Zn,rfl,S⟩:=RI.opn M;clear M;replace hS:=hS.bI S;clear S;have YI:=(St.al hS 40 #[ζ,()] (g:=w2.heap.size) ag);have YS:=(YI.aH 0).cell;have Zh:=(YI.aH 0).frozen;have YT:=(St.al hS 40 #[Zf,aO YW Ze Zn] (g:=w2.heap.size) ag);have Zl:=(YT.aH 3).cell;go_wp2_with fail;clear YS Zh Zl;clear YI YT;refine gA1 hS 40 #[Zf,aO YW Ze Zn] ?_;clear hS;intro w3 g9 o9 hS;refine(GJ _ J (-1) _ (hS.aF 1) Y (Bw H1.o)).mono ?_;rintro e w4 ⟨rfl,F⟩;replace hS:=hS.mv F;clear F;have Zm:=(hS.aH 0).cell;go_wp2_with fail;clear Zm;refine(Nk gc _ K Yu _ (hS.aH 6) (hS.aF 0) YZ Zj.o).mono ?_;rintro e w5 ⟨v_,rfl,M,F⟩;replace hS:=hS.mv F;clear F;obtain⟨Zc,YP,YQ,Za,rfl,YA⟩:=RI.opn M;clear M;replace hS:=hS.bI YA;clear YA;have ZV:=(hS.aH 0).cell;have ZX:=(hS.aH 0).frozen;have YX:=hS.pt 0 0 [.bool Zc,.slice YP YQ Za] o9;have ZE:=(YX.aH 6).cell;go_wp2_with fail;clear ZV ZX ZE;clear YX;replace hS:=hS.pt 0 0 [.bool Zc,.slice YP YQ Za] o9;refine gW hS ?_;clear hS;intro w6 hS;have Y9:=aX.blk (hS.aH 0);have Y7:=aX.blk (hS.aH 3);have Y6:=aX.blk (hS.aH 4);have Y5:=aX.blk (hS.aH 5);have C:=hS.ext;refine tF 13 [(3,.ri (YU)),(7,.ri (W)),(11,.ri (P))] ?_;refine Qs ?_;refine Ei (fun R I=>gM gc _ _ x1 Yu YU _ (Blk.ext (hS.aH 6) I.1) (hS.aD 4 I.1) (hS.aD 0 I.1) O Zi ZI.o YJ.o Zo.o) ?_;intro Zt Zd Zv Zr ZT ZR;refine Qs ?_;refine Ei (fun R I=>gM gc _ _ x2 Yu W _ (Blk.ext (hS.aH 6) I.1) (hS.aD 3 I.1) (hS.aD 0 I.1) YG Zi YO.o YC.o YH.o) ?_;intro YK YD YE Zk am ai;refine Qs ?_;refine Ei (fun R I=>gM gc _ _ J Yu P _ (Blk.ext (hS.aH 6) I.1) (hS.aD 2 I.1) (hS.aD 0 I.1) Y Zi ad.o YL.o ZP.o) ?_;intro ZZ Zg ac ZY af ao;refine Qs ?_;refine bN ?_;intro w7 I;have j:=hS.lt;replace hS:=hS.mv I.ext;replace hS:=hS.aI I 3;replace hS:=hS.aI I 7;replace hS:=hS.aI I 11;clear I j C Y9 Y7 Y6 Y5;have ZQ:=(hS.aH 2).cell;have ZU:=(hS.aH 2).frozen;exact AaT
def IC(gc v1)(x1:Int)(v2)(x2:Int)(v3)(J:Int)(w)(hc:Calm w gc)(D:RI w v1 x1)(O:x1.natAbs<lim)(YV:RI w v2 x2)(YG:x2.natAbs<lim)(Yv:RI w v3 J)(Y:J.natAbs<lim)(H1:Hid (0<J))(K:Int)(ZF:Hid (K=(gG [J,x1,x2]:Nat)))(YZ:K.natAbs<lim)(YU:Int)(Zo:Hid (YU=x1/K))(Zx:YU.natAbs<lim)(ZI:Hid (K≠0))(YJ:Hid (K∣x1))(W:Int)(YH:Hid (W=x2/K))(Zp:W.natAbs<lim)(YO:Hid (K≠0))(YC:Hid (K∣x2))(P:Int)(ZP:Hid (P=J/K))(ap:P.natAbs<lim)(ad:Hid (K≠0))(YL:Hid (K∣J)):
  CV 139 #[aN gc 0,v1,v2,v3] w fun v w'=>RG w' v YU W P:=by
 have hS:=aeZ w;obtain⟨N,H,Q,G,rfl,L⟩:=D.opn;replace hS:=hS.bI L;clear D L;obtain⟨Z,T,U,V,rfl,YF⟩:=YV.opn;replace hS:=hS.bI YF;clear YV YF;obtain⟨Yw,Yy,Yz,Yx,rfl,YB⟩:=Yv.opn;replace hS:=hS.bI YB;clear Yv YB;replace hS:=hS.yC hc trivial;clear hc;have B:=(St.al (St.al (St.al (St.al hS 40 #[N,aO H Q G] (g:=w.heap.size) ag) 40 #[Z,aO T U V] (g:=(w.heap.size+1)) ag) 40 #[Yw,aO Yy Yz Yx] (g:=(w.heap.size+2)) ag) 42 aQ3 (g:=(w.heap.size+3)) ag);have YN:=(B.aH 1).cell;have YM:=(B.aH 3).cell;have YR:=(B.aH 2).cell;go_enter func139,ntmps139;go_wp2_with fail;clear YN YM YR;clear B;refine gA5 hS 40 #[N,aO H Q G] 40 #[Z,aO T U V] 40 #[Yw,aO Yy Yz Yx] 42 aQ3 40 #[Yw,aO Yy Yz Yx,N,aO H Q G,Z,aO T U V] ?_;clear hS;intro w1 g5 o5 g6 o6 g7 o7 g8 o8 YY aq hS;refine(ut gc YY J x1 x2 K _ (hS.aH 5) (hS.aH 0) (hS.aF 0) (hS.aF 2) (hS.aF 1) Y O YG ZF).mono ?_;rintro e w2 ⟨v_,rfl,M,F⟩;replace hS:=hS.mv F;clear F;obtain⟨Zf,YW,Ze,Zn,rfl,S⟩:=RI.opn M;clear M;replace hS:=hS.bI S;clear S;have YI:=(St.al hS 40 #[ζ,()] (g:=w2.heap.size) ag);have YS:=(YI.aH 0).cell;have Zh:=(YI.aH 0).frozen;have YT:=(St.al hS 40 #[Zf,aO YW Ze Zn] (g:=w2.heap.size) ag);have Zl:=(YT.aH 3).cell;go_wp2_with fail;clear YS Zh Zl;clear YI YT;refine gA1 hS 40 #[Zf,aO YW Ze Zn] ?_;clear hS;intro w3 g9 o9 hS;refine(GJ _ J (1) _ (hS.aF 1) Y (yo H1.o)).mono ?_;rintro e w4 ⟨rfl,F⟩;replace hS:=hS.mv F;clear F;have Zm:=(hS.aH 6).cell;go_wp2_with fail;clear Zm;have Y9:=aX.blk (hS.aH 0);have Y7:=aX.blk (hS.aH 3);have Y6:=aX.blk (hS.aH 4);have Y5:=aX.blk (hS.aH 5);have C:=hS.ext;refine tF 13 [(3,.ri (YU)),(7,.ri (W)),(11,.ri (P))] ?_;refine Qs ?_;refine Ei (fun R I=>gM gc _ _ x1 K YU _ (Blk.ext (hS.aH 6) I.1) (hS.aD 3 I.1) (hS.aD 0 I.1) O YZ ZI.o YJ.o Zo.o) ?_;intro Zt Zd Zv Zr ZT ZR;refine Qs ?_;refine Ei (fun R I=>gM gc _ _ x2 K W _ (Blk.ext (hS.aH 6) I.1) (hS.aD 2 I.1) (hS.aD 0 I.1) YG YZ YO.o YC.o YH.o) ?_;intro YK YD YE Zk am ai;refine Qs ?_;refine Ei (fun R I=>gM gc _ _ J K P _ (Blk.ext (hS.aH 6) I.1) (hS.aD 1 I.1) (hS.aD 0 I.1) Y YZ ad.o YL.o ZP.o) ?_;intro ZZ Zg ac ZY af ao;refine Qs ?_;refine bN ?_;intro w5 I;have j:=hS.lt;replace hS:=hS.mv I.ext;replace hS:=hS.aI I 3;replace hS:=hS.aI I 7;replace hS:=hS.aI I 11;clear I j C Y9 Y7 Y6 Y5;have ZV:=(hS.aH 2).cell;have ZX:=(hS.aH 2).frozen;exact AaT
theorem FR(a b d):gG [d,a,b]=g3 a b d:=by
 unfold gG g3;simp[aaE]
def VN{a b d}(ha:a.natAbs<lim)(hb:b.natAbs<lim)(hd:d.natAbs<lim):g3 a b d<lim:=by
 rw[<-FR];refine NA (fun z j=> ?_);simp at j;rcases j with rfl|rfl|rfl<;>assumption
theorem qy(O v1 M L B j J a b d w)(hc:Calm w O)(S:RI w v1 B)(R:RI w M j)(U:RI w L J)(H:B.natAbs<lim)(I:j.natAbs<lim)(D:J.natAbs<lim)(hd:J≠0)(E:(a,b,d)=nf B j J):
  CV 139 #[aN O 0,v1,M,L] w fun v w'=>RG w' v a b d:=by
 obtain⟨Q,P,d3⟩:=Kq B j J;have N:=FE (a:=B) (b:=j) hd;have C:=VN H I D;have V:(gG [J,B,j]:Int)=g3 B j J:=by rw[FR]
 unfold nf gZ sgZ at E;by_cases hn:J<0
 .rw[ι hn] at E;have e1:(-1:Int)*(g3 B j J:Int)= -(g3 B j J:Int):=aa;rw[e1] at E;injection E with K E;injection E with F G;have n1: -(g3 B j J:Int)≠0:=aa;have q1: -(g3 B j J:Int)∣B:=acf.2 Q;have q2: -(g3 B j J:Int)∣j:=acf.2 P;have T: -(g3 B j J:Int)∣J:=acf.2 d3;exact Hz O v1 B M j L J w hc S H R I U D (aW hn) _ (aW V.symm) AdN _ (aW rfl) AdN a (aW K) (by rw[K];exact kD H q1) (aW n1) (aW q1) b (aW F) (by rw[F];exact kD I q2) (aW n1) (aW q2) d (aW G) (by rw[G];exact kD D T) (aW n1) (aW T)
 .rw[θ hn,aeI] at E;injection E with K E;injection E with F G;have n1:(g3 B j J:Int)≠0:=aa;exact IC O v1 B M j L J w hc S H R I U D (aW aa) _ (aW V.symm) AdN a (aW K) (by rw[K];exact kD H Q) (aW n1) (aW Q) b (aW F) (by rw[F];exact kD I P) (aW n1) (aW P) d (aW G) (by rw[G];exact kD D d3) (aW n1) (aW d3)
def Tc(gc v1)(YQ YP YO:Int)(m2 v3)(a7 a8 H:Int)(m4 m5 w)(hc:Calm w gc)(D:RG w v1 YQ YP YO)(ZC:YQ.natAbs<lim)(ZB:YP.natAbs<lim)(Za:YO.natAbs<lim)(l2: -9223372036854775808<=m2)(u2:m2<=9223372036854775807)(Yv:RG w v3 a7 a8 H)(bq:a7.natAbs<lim)(cA:a8.natAbs<lim)(af:H.natAbs<lim)(l4: -9223372036854775808<=m4)(u4:m4<=9223372036854775807)(l5: -9223372036854775808<=m5)(u5:m5<=9223372036854775807)(N:Int)(d4:Hid (N=(gG [YO,H]:Nat)))(ZA:N.natAbs<lim)(YU:Int)(Zo:Hid (YU=H/N))(Zx:YU.natAbs<lim)(ZI:Hid (N≠0))(YJ:Hid (N∣H))(G:Int)(ez:Hid (G=YU*(m2)))(Yw:G.natAbs<lim)(P:Int)(ZP:Hid (P=YO/N))(ef:P.natAbs<lim)(et:Hid (N≠0))(YL:Hid (N∣YO))(K:Int)(ej:Hid (K=P*(m4)))(be:K.natAbs<lim)(Y:Int)(d1:Hid (Y=YQ*G))(cN:Y.natAbs<lim)(U:Int)(ea:Hid (U=a7*K))(cW:U.natAbs<lim)(L:Int)(dl:Hid (L=Y+U))(cX:L.natAbs<lim)(Zq:Int)(ew:Hid (Zq=YP*G))(cI:Zq.natAbs<lim)(Zn:Int)(dn:Hid (Zn=a8*K))(cH:Zn.natAbs<lim)(Zp:Int)(dT:Hid (Zp=Zq+Zn))(cF:Zp.natAbs<lim)(Zy:Int)(es:Hid (Zy=H/N))(du:Zy.natAbs<lim)(ev:Hid (N≠0))(ca:Hid (N∣H))(Z:Int)(c8:Hid (Z=YO*Zy))(cL:Z.natAbs<lim)(W:Int)(ed:Hid (W=Z*(m5)))(cM:W.natAbs<lim)(dw:Hid (W≠0))(Zf Zi YW:Int)(er:Hid ((Zf,Zi,YW)=nf L Zp W))(eS:Zf.natAbs<lim)(eT:Zi.natAbs<lim)(eI:YW.natAbs<lim):
  CV 128 #[aN gc 0,v1,.int .i64 m2,v3,.int .i64 m4,.int .i64 m5] w fun v w'=>RG w' v Zf Zi YW:=by
 have hS:=aeZ w;obtain⟨YC,Yz,Yy,YB,YD,YE,YA,Yx,Q,O,J,V,rfl,YG,YH,YF⟩:=D;replace hS:=hS.bI YG;clear YG;replace hS:=hS.bI YH;clear YH;replace hS:=hS.bI YF;clear YF;obtain⟨ar,aP,a2,a3,aw,aE,aG,av,aq,ai,am,ad,rfl,ax,a0,a1⟩:=Yv;replace hS:=hS.bI ax;clear ax;replace hS:=hS.bI a0;clear a0;replace hS:=hS.bI a1;clear a1;replace hS:=hS.yC hc trivial;clear hc;have B:=(St.al (St.al (St.al hS 42 #[YC,aO Yz Yy YB,YD,aO YE YA Yx,Q,aO O J V] (g:=w.heap.size) ag) 42 #[ar,aO aP a2 a3,aw,aO aE aG av,aq,aO ai am ad] (g:=(w.heap.size+1)) ag) 42 aQ3 (g:=(w.heap.size+2)) ag);have YN:=(B.aH 2).cell;have YM:=(B.aH 1).cell;go_enter func128,ntmps128;go_wp2_with fail;clear YN YM;clear B;refine gA4 hS 42 #[YC,aO Yz Yy YB,YD,aO YE YA Yx,Q,aO O J V] 42 #[ar,aO aP a2 a3,aw,aO aE aG av,aq,aO ai am ad] 42 aQ3 40 #[Q,aO O J V,aq,aO ai am ad] ?_;clear hS;intro w1 g7 o7 g9 o9 g12 ei dx e3 hS;refine(BN gc dx YO H N _ (hS.aH 4) (hS.aH 0) (hS.aF 3) (hS.aF 0) Za af d4).mono ?_;rintro e w2 ⟨v_,rfl,M,F⟩;replace hS:=hS.mv F;clear F;obtain⟨ey,ZG,d2,c6,rfl,ac⟩:=RI.opn M;clear M;replace hS:=hS.bI ac;clear ac;have YI:=(St.al hS 40 #[ζ,()] (g:=w2.heap.size) ag);have YR:=(YI.aH 0).cell;have YS:=(YI.aH 0).frozen;go_wp2_with fail;clear YR YS;clear YI;refine gA1 hS 40 #[ey,aO ZG d2 c6] ?_;clear hS;intro w3 ZW e2 hS;have ba:=aX.blk (hS.aH 0);have Y9:=aX.blk (hS.aH 3);have Y7:=aX.blk (hS.aH 4);have C:=hS.ext;refine tF 18 [(5,.ri (YU)),(7,.ri (G)),(13,.ri (P)),(15,.ri (K)),(16,.box 40 #[ζ,()]),(17,.box 40 #[ζ,()])] ?_;refine Qs ?_;refine Ei (fun R I=>gM gc _ _ H N YU _ (Blk.ext (hS.aH 5) I.1) (hS.aD 1 I.1) (hS.aD 0 I.1) af ZA ZI.o YJ.o Zo.o) ?_;intro Zt Zd Zv Zr ZT ZR;refine Qs ?_;refine Ei (fun R I=>yU gc _ YU (m2) _ (Blk.ext (hS.aH 5) I.1) (I.f 5 ((iv Zt Zd Zv Zr),ZT,ZR)) Zx l2 u2 G ez Yw) ?_;intro cV ay cJ cT eL eA;refine Qs ?_;refine Ei (fun R I=>gM gc _ _ YO N P _ (Blk.ext (hS.aH 5) I.1) (hS.aD 4 I.1) (hS.aD 0 I.1) Za ZA et.o YL.o ZP.o) ?_;intro ZZ Zg eh ZY bV cD;refine Qs ?_;refine Ei (fun R I=>yU gc _ P (m4) _ (Blk.ext (hS.aH 5) I.1) (I.f 13 ((iv ZZ Zg eh ZY),bV,cD)) ef l4 u4 K ej be) ?_;intro d6 bw dp di eN eC;refine Eb ?_;intro YY Zk YK;refine Eb ?_;intro Zw Zc ZO;refine bN ?_;intro w4 I;have j:=hS.lt;replace hS:=hS.mv I.ext;replace hS:=hS.aI I 5;replace hS:=hS.aI I 7;replace hS:=hS.aI I 13;replace hS:=hS.aI I 15;have S:=I.lw 16;have cU:Own w YY:=aeX C S;replace hS:=hS.aB I 16 YY (apF j S);have T:=I.lw 17;have d7:Own w Zw:=aeX C T;replace hS:=hS.aB I 17 Zw ⟨I.nn 16 17 YK ZO,(apF j T)⟩;clear I j C ba Y9 Y7;clear S YK Zk;clear T ZO Zc;have Zh:=(hS.aH 1).cell;have Zl:=(hS.aH 1).frozen;have YT:=hS.pt 1 0 [.bool cV,.slice ay cJ cT] cU;have Zm:=(YT.aH 0).cell;have ZV:=(YT.aH 0).frozen;go_wp2_with fail;clear Zh Zl Zm ZV;clear YT;replace hS:=(hS.pt 1 0 [.bool cV,.slice ay cJ cT] cU).pt 0 0 [.bool d6,.slice bw dp di] d7;refine gW hS ?_;clear hS;intro w5 hS;have a9:=aX.blk (hS.aH 0);have bb:=aX.blk (hS.aH 1);have Y9:=aX.blk (hS.aH 5);have Y7:=aX.blk (hS.aH 6);have C:=hS.ext;refine tF 13 [(5,.ri (Y)),(10,.ri (U)),(11,.ri (L)),(12,.box 40 #[ζ,()])] ?_;refine Qs ?_;refine Ei (fun R I=>jh gc _ _ YQ G Y _ (Blk.ext (hS.aH 7) I.1) (hS.aD 10 I.1) (hS.aD 2 I.1) ZC Yw d1.o cN) ?_;intro d0 cg eo d9 ci ck;refine Qs ?_;refine Ei (fun R I=>jh gc _ _ a7 K U _ (Blk.ext (hS.aH 7) I.1) (hS.aD 7 I.1) (hS.aD 0 I.1) bq be ea.o cW) ?_;intro dc cy dk ds bt bk;refine Ei (fun R I=>yj gc _ _ Y U L _ (Blk.ext (hS.aH 7) I.1) (I.f 5 ((iv d0 cg eo d9),ci,ck)) (I.f 10 ((iv dc cy dk ds),bt,bk)) cN cW dl.o cX) ?_;intro df cv eg dy eW eJ;refine Eb ?_;intro cP ZM cj;refine bN ?_;intro w6 I;have j:=hS.lt;replace hS:=hS.mv I.ext;replace hS:=hS.aI I 5;replace hS:=hS.aI I 10;replace hS:=hS.aI I 11;have Zj:=I.lw 12;have dq:Own w cP:=aeX C Zj;replace hS:=hS.aB I 12 cP (apF j Zj);clear I j C a9 bb Y9 Y7;clear Zj cj ZM;have ZX:=(hS.aH 0).cell;have ZE:=(hS.aH 0).frozen;go_wp2_with fail;clear ZX ZE;replace hS:=hS.pt 0 0 [.bool df,.slice cv eg dy] dq;refine gW hS ?_;clear hS;intro w7 hS;have a9:=aX.blk (hS.aH 1);have bb:=aX.blk (hS.aH 2);have Y9:=aX.blk (hS.aH 6);have Y7:=aX.blk (hS.aH 7);have C:=hS.ext;refine tF 13 [(5,.ri (Zq)),(10,.ri (Zn)),(11,.ri (Zp)),(12,.box 40 #[ζ,()])] ?_;refine Qs ?_;refine Ei (fun R I=>jh gc _ _ YP G Zq _ (Blk.ext (hS.aH 8) I.1) (hS.aD 12 I.1) (hS.aD 5 I.1) ZB Yw ew.o cI) ?_;intro cY bm d8 ee cb bj;refine Qs ?_;refine Ei (fun R I=>jh gc _ _ a8 K Zn _ (Blk.ext (hS.aH 8) I.1) (hS.aD 9 I.1) (hS.aD 3 I.1) cA be dn.o cH) ?_;intro ek ch db ZH ZL ZJ;refine Ei (fun R I=>yj gc _ _ Zq Zn Zp _ (Blk.ext (hS.aH 8) I.1) (I.f 5 ((iv cY bm d8 ee),cb,bj)) (I.f 10 ((iv ek ch db ZH),ZL,ZJ)) cI cH dT.o cF) ?_;intro de bl eb Zz eM eK;refine Eb ?_;intro YZ cn ce;refine bN ?_;intro w8 I;have j:=hS.lt;replace hS:=hS.mv I.ext;replace hS:=hS.aI I 5;replace hS:=hS.aI I 10;replace hS:=hS.aI I 11;have ao:=I.lw 12;have ec:Own w YZ:=aeX C ao;replace hS:=hS.aB I 12 YZ (apF j ao);clear I j C a9 bb Y9 Y7;clear ao ce cn;have ZQ:=(hS.aH 0).cell;have ZU:=(hS.aH 0).frozen;go_wp2_with fail;clear ZQ ZU;replace hS:=hS.pt 0 0 [.bool de,.slice bl eb Zz] ec;refine gW hS ?_;clear hS;intro w9 hS;have ba:=aX.blk (hS.aH 4);have Y9:=aX.blk (hS.aH 7);have Y7:=aX.blk (hS.aH 8);have C:=hS.ext;refine tF 13 [(8,.ri (Zy)),(9,.ri (Z)),(11,.ri (W)),(12,.box 40 #[ζ,()])] ?_;refine Qs ?_;refine Ei (fun R I=>gM gc _ _ H N Zy _ (Blk.ext (hS.aH 9) I.1) (hS.aD 11 I.1) (hS.aD 10 I.1) af ZA ev.o ca.o es.o) ?_;intro da cf dr d5 b0 bx;refine Ei (fun R I=>jh gc _ _ YO Zy Z _ (Blk.ext (hS.aH 9) I.1) (hS.aD 14 I.1) (I.f 8 ((iv da cf dr d5),b0,bx)) Za du c8.o cL) ?_;intro dv bn c7 ep bo cc;refine Qs ?_;refine Ei (fun R I=>yU gc _ Z (m5) _ (Blk.ext (hS.aH 9) I.1) (I.f 9 ((iv dv bn c7 ep),bo,cc)) cL l5 u5 W ed cM) ?_;intro cQ az cR cG eV eE;refine Eb ?_;intro ZK cB cd;refine bN ?_;intro ZN I;have j:=hS.lt;replace hS:=hS.mv I.ext;replace hS:=hS.aI I 8;replace hS:=hS.aI I 9;replace hS:=hS.aI I 11;have ap:=I.lw 12;have cS:Own w ZK:=aeX C ap;replace hS:=hS.aB I 12 ZK (apF j ap);clear I j C ba Y9 Y7;clear ap cd cB;have cp:=(hS.aH 0).cell;have Z7:=(hS.aH 0).frozen;have YX:=hS.pt 0 0 [.bool cQ,.slice az cR cG] cS;have Z8:=(YX.aH 10).cell;have cE:=(YX.aH 2).cell;have Z9:=(YX.aH 1).cell;have cr:=(YX.aH 0).cell;go_wp2_with fail;clear cp Z7 Z8 cE Z9 cr;clear YX;replace hS:=hS.pt 0 0 [.bool cQ,.slice az cR cG] cS;refine gW hS ?_;clear hS;intro ZF hS;refine(qy gc _ _ _ L Zp W Zf Zi YW _ (hS.aH 10) (hS.aF 6) (hS.aF 3) (hS.aF 0) cX cF cM dw.o er.o).mono ?_;rintro e e4 ⟨v_,rfl,M,F⟩;replace hS:=hS.mv F;clear F;obtain⟨cx,a5,bg,bA,bi,a4,cC,cw,cl,a6,bh,bp,rfl,Yu,YV,Ze⟩:=M;replace hS:=hS.bI Yu;clear Yu;replace hS:=hS.bI YV;clear YV;replace hS:=hS.bI Ze;clear Ze;have eR:=(hS.aH 7).cell;have eB:=(hS.aH 7).frozen;go_wp2;replace hS:=hS.pt 7 0 [.bool cx,.slice a5 bg bA,.bool bi,.slice a4 cC cw,.bool cl,.slice a6 bh bp] ei;exact dG rfl rfl rfl (hS.aH 7) ⟨_,rfl,RG.mk (hS.aF 2) (hS.aF 1) (hS.aF 0),hS.ext⟩
theorem bQ{z:Int}{n}(h:z.natAbs<2^n)(hn:n<=12800):z.natAbs<lim:=by
 refine ο h ?_;have e:lim=2^(32*DX):=by unfold lim;rw[Nat.pow_mul]
 rw[e];exact Ad aa (by unfold DX;omega)
def zg{z a:Int}{n}(ha:a≠0)(h:z∣a)(hn:a.natAbs<2^n):z.natAbs<2^n:=
 ψ (Nat.le_of_dvd aa (adm.2 h)) hn
def gP{a z q:Int}{n}(j:z≠0)(h:a=z*q)(hn:a.natAbs<2^n):q.natAbs<2^n:=by
 rw[h,Ex] at hn;exact ψ (abC _ aa) hn
def gF{a z q:Int}(j:z≠0)(h:a=z*q):q=a/z:=by rw[h,abq _ j]
def tJ{a b}(hb:b≠0):∃z p q:Int,z=(gG [a,b]:Nat)/\z≠0/\a=z*p/\b=z*q:=by
 have e:gG [a,b]=Nat.gcd a.natAbs b.natAbs:=by simp[gG]
 have B:((gG [a,b]:Nat):Int)∣a:=by rw[e];exact aac.2 (I4 _ _)
 have j:((gG [a,b]:Nat):Int)∣b:=by rw[e];exact aac.2 (aag _ _)
 have C:0<gG [a,b]:=by rw[e];exact Nat.gcd_pos_of_pos_right _ aa
 obtain⟨p,hp⟩:=B;obtain⟨q,hq⟩:=j;exact⟨_,p,q,rfl,aa,hp,hq⟩
def tQ{a b c}(ha:a≠0):∃z p q r:Int,z=(gG [a,b,c]:Nat)/\z≠0/\a=z*p/\b=z*q/\c=z*r:=by
 have e:gG [a,b,c]=Nat.gcd (Nat.gcd a.natAbs b.natAbs) c.natAbs:=by simp[gG]
 have C:((gG [a,b,c]:Nat):Int)∣a:=by rw[e];exact aac.2 (aaf (I4 _ _) (I4 _ _))
 have j:((gG [a,b,c]:Nat):Int)∣b:=by rw[e];exact aac.2 (aaf (I4 _ _) (aag _ _))
 have d3:((gG [a,b,c]:Nat):Int)∣c:=by rw[e];exact aac.2 (aag _ _)
 have D:0<gG [a,b,c]:=by rw[e];exact abv _ (abv _ aa)
 obtain⟨p,hp⟩:=C;obtain⟨q,hq⟩:=j;obtain⟨r,B⟩:=d3;exact⟨_,p,q,r,rfl,aa,hp,hq,B⟩
def jF{A B D a b d n}(j:D≠0)(E:(a,b,d)=nf A B D)(ha:A.natAbs<2^n)(hb:B.natAbs<2^n)(hd:D.natAbs<2^n):Sz n a b d:=by
 have h:=MI (a:=A) (b:=B) j;rw[<-E] at h;exact⟨ψ h.1 ha,ψ h.2.1 hb,ψ h.2.2 hd⟩
def Sz.nK{n a b d}(h:Sz n a b d)(hn:n<=12800):a.natAbs<lim/\b.natAbs<lim/\d.natAbs<lim:=⟨bQ h.a hn,bQ h.b hn,bQ h.d hn⟩
def DF{m}(j: -9223372036854775808<=m)(B:m<=9223372036854775807):m.natAbs<2^64:=by
 have:(2:Nat)^64=18446744073709551616:=aj;omega
def O3(gc v1 v3 a b d j a' b' d' k m u v t n w)(hc:Calm w gc)(L:RG w v1 a b d)(M:RG w v3 a' b' d')(sx:Sz n a b d)(sy:Sz n a' b' d')(hn:n+n+65<=12800)(hd:d≠0)(hd':d'≠0)(hm:m≠0)(B: -9223372036854775808<=j)(G:j<=9223372036854775807)(C: -9223372036854775808<=k)(k2:k<=9223372036854775807)(m1: -9223372036854775808<=m)(m2:m<=9223372036854775807)(E:(u,v,t)=nf (j*a*d'+k*a'*d) (j*b*d'+k*b'*d) (d*d'*m)):
  CV 128 #[aN gc 0,v1,.int .i64 j,v3,.int .i64 k,.int .i64 m] w fun x w'=>RG w' x u v t:=by
 obtain⟨g,r,p,hg,N,P,U⟩:=tJ (a:=d) (b:=d') hd';have bp:p.natAbs<2^n:=gP N U sy.d;have br:r.natAbs<2^n:=gP N P sx.d;have bg:g.natAbs<2^n:=zg hd ⟨r,P⟩ sx.d;have Y:=DF B G;have bk:=DF C k2;have Z:=DF m1 m2;have F:=bR bp Y;have O:=bR br bk;have Q:=jl (bR sx.a F) (n:=n+n+64) aa;have S:=jl (bR sy.a O) (n:=n+n+64) aa;have R:=jl (bR sx.b F) (n:=n+n+64) aa;have I:=jl (bR sy.b O) (n:=n+n+64) aa;have W:=iV Q S;have K:=iV R I;have T:=bR sx.d bp;have V:=bR T Z;have H:d*p*m≠0:=nk (nk hd (by intro h;rw[h] at U;simp at U;exact hd' U)) hm;have E':(u,v,t)=nf (a*(p*j)+a'*(r*k)) (b*(p*j)+b'*(r*k)) (d*p*m):=by
  rw[E];refine pR (nk (nk hd hd') hm) H ?_ ?_
  .rw[U];generalize hD:d=D at*;subst P;grind
  .rw[U];generalize hD:d=D at*;subst P;grind
 have sz:=jF (n:=n+n+65) H E' W K (jl V aa);obtain⟨x1,x2,J⟩:=sx.nK aa;obtain⟨y1,y2,y3⟩:=sy.nK aa;obtain⟨s1,s2,s3⟩:=sz.nK hn;exact Tc gc v1 a b d j v3 a' b' d' k m w hc L x1 x2 J B G M y1 y2 y3 C k2 m1 m2 g (aW hg) (bQ bg aa)
  p (aW (gF N U)) (bQ bp aa) (aW N) (aW ⟨p,U⟩) _ (aW rfl) (bQ F aa)
  r (aW (gF N P)) (bQ br aa) (aW N) (aW ⟨r,P⟩) _ (aW rfl) (bQ O aa)
  _ (aW rfl) (bQ Q aa) _ (aW rfl) (bQ S aa) _ (aW rfl) (bQ W aa)
  _ (aW rfl) (bQ R aa) _ (aW rfl) (bQ I aa) _ (aW rfl) (bQ K aa)
  p (aW (gF N U)) (bQ bp aa) (aW N) (aW ⟨p,U⟩) _ (aW rfl) (bQ T aa) _ (aW rfl) (bQ V aa) (aW H) u v t (aW E') s1 s2 s3
def Cg(gc v1)(YQ YP YO:Int)(v2)(Zy ZA Zz:Int)(w)(hc:Calm w gc)(D:RG w v1 YQ YP YO)(ZC:YQ.natAbs<lim)(ZB:YP.natAbs<lim)(Za:YO.natAbs<lim)(YV:RG w v2 Zy ZA Zz)(a8:Zy.natAbs<lim)(a4:ZA.natAbs<lim)(a2:Zz.natAbs<lim)(Y:Int)(eR:Hid (Y=(gG [Zz,YQ,YP]:Nat)))(bk:Y.natAbs<lim)(G:Int)(ei:Hid (G=(gG [YO,Zy,ZA]:Nat)))(Yw:G.natAbs<lim)(Yv:Int)(ey:Hid (Yv=YQ/Y))(df:Yv.natAbs<lim)(dy:Hid (Y≠0))(cG:Hid (Y∣YQ))(W:Int)(d5:Hid (W=YP/Y))(cT:W.natAbs<lim)(ef:Hid (Y≠0))(bn:Hid (Y∣YP))(U:Int)(fb:Hid (U=Zy/G))(dp:U.natAbs<lim)(eT:Hid (G≠0))(cI:Hid (G∣Zy))(L:Int)(eJ:Hid (L=ZA/G))(dl:L.natAbs<lim)(e7:Hid (G≠0))(cQ:Hid (G∣ZA))(aP:Int)(eM:Hid (aP=Yv*U))(dv:aP.natAbs<lim)(H:Int)(e2:Hid (H=W*L))(di:H.natAbs<lim)(aE:Int)(eV:Hid (aE=aP-H))(dw:aE.natAbs<lim)(aG:Int)(e8:Hid (aG=Yv*L))(db:aG.natAbs<lim)(a1:Int)(fd:Hid (a1=W*U))(dr:a1.natAbs<lim)(a0:Int)(d6:Hid (a0=aG+a1))(cX:a0.natAbs<lim)(Yu:Int)(d1:Hid (Yu=YO/G))(ee:Yu.natAbs<lim)(eL:Hid (G≠0))(cw:Hid (G∣YO))(az:Int)(eI:Hid (az=Zz/Y))(es:az.natAbs<lim)(d8:Hid (Y≠0))(cM:Hid (Y∣Zz))(P:Int)(ep:Hid (P=Yu*az))(ds:P.natAbs<lim)(eB:Hid (P≠0))(ao ai ap:Int)(ea:Hid ((ao,ai,ap)=nf aE a0 P))(f1:ao.natAbs<lim)(f5:ai.natAbs<lim)(f4:ap.natAbs<lim):
  CV 142 #[aN gc 0,v1,v2] w fun v w'=>RG w' v ao ai ap:=by
 have hS:=aeZ w;obtain⟨YC,Yz,Yy,YB,YD,YE,YA,Yx,Q,O,J,V,rfl,YG,YH,YF⟩:=D;replace hS:=hS.bI YG;clear YG;replace hS:=hS.bI YH;clear YH;replace hS:=hS.bI YF;clear YF;obtain⟨Zv,Zt,Zp,Zq,Ze,Zn,Zd,Zo,Zr,Zx,K,Zf,rfl,ZH,ZI,ZG⟩:=YV;replace hS:=hS.bI ZH;clear ZH;replace hS:=hS.bI ZI;clear ZI;replace hS:=hS.bI ZG;clear ZG;replace hS:=hS.yC hc trivial;clear hc;go_enter func142,ntmps142;go_wp2_with fail;refine gA3 hS 42 #[YC,aO Yz Yy YB,YD,aO YE YA Yx,Q,aO O J V] 42 #[Zv,aO Zt Zp Zq,Ze,aO Zn Zd Zo,Zr,aO Zx K Zf] 42 aQ3 ?_;clear hS;intro w1 g4 o4 g5 o5 g6 o6 hS;have Y5:=aX.blk (hS.aH 1);have Y4:=aX.blk (hS.aH 2);have C:=hS.ext;refine tF 20 [(7,.sl 40 3 #[Zr,aO Zx K Zf,YC,aO Yz Yy YB,YD,aO YE YA Yx]),(8,.ri (Y)),(16,.sl 40 3 #[Q,aO O J V,Zv,aO Zt Zp Zq,Ze,aO Zn Zd Zo]),(17,.ri (G)),(18,.box 40 #[ζ,()]),(19,.box 40 #[ζ,()])] ?_;refine Qs ?_;refine Eb ?_;intro be cc Z;refine Ei (fun R I=>ut gc be Zz YQ YP Y _ (Blk.ext (hS.aH 3) I.1) ((I.2 7 _ rf ah).2.2) (hS.aD 0 I.1) (hS.aD 5 I.1) (hS.aD 4 I.1) a2 ZC ZB eR) ?_;intro dc YZ cW dn fr f6;refine Qs ?_;refine Eb ?_;intro bj cN am;refine Ei (fun R I=>ut gc bj YO Zy ZA G _ (Blk.ext (hS.aH 3) I.1) ((I.2 16 _ rf ah).2.2) (hS.aD 3 I.1) (hS.aD 2 I.1) (hS.aD 1 I.1) Za a8 a4 ei) ?_;intro ev ck ek et fk fj;refine Eb ?_;intro g7 YL YW;refine Eb ?_;intro g8 ZR YJ;refine bN ?_;intro w2 I;have j:=hS.lt;replace hS:=hS.mv I.ext;replace hS:=hS.aI I 8;replace hS:=hS.aI I 17;have ax:=I.lw 7;have f8:Own w be:=aeX C ax;replace hS:=hS.aB I 7 be (apF j ax);have aw:=I.lw 16;have f9:Own w bj:=aeX C aw;replace hS:=hS.aB I 16 bj ⟨I.nn 7 16 Z am,(apF j aw)⟩;have Zg:=I.lw 18;have o7:Own w g7:=aeX C Zg;replace hS:=hS.aB I 18 g7 ⟨I.nn 16 18 am YW,⟨I.nn 7 18 Z YW,(apF j Zg)⟩⟩;have bi:=I.lw 19;have o8:Own w g8:=aeX C bi;replace hS:=hS.aB I 19 g8 ⟨I.nn 18 19 YW YJ,⟨I.nn 16 19 am YJ,⟨I.nn 7 19 Z YJ,(apF j bi)⟩⟩⟩;clear I j C Y5 Y4;clear ax Z cc;clear aw am cN;clear Zg YW YL;clear bi YJ ZR;have YN:=(hS.aH 1).cell;have YM:=(hS.aH 1).frozen;have B:=hS.pt 1 0 [.bool dc,.slice YZ cW dn] o7;have YR:=(B.aH 0).cell;have YS:=(B.aH 0).frozen;go_wp2_with fail;clear YN YM YR YS;clear B;replace hS:=(hS.pt 1 0 [.bool dc,.slice YZ cW dn] o7).pt 0 0 [.bool ev,.slice ck ek et] o8;refine gW hS ?_;clear hS;intro w3 hS;have Y7:=aX.blk (hS.aH 1);have Y4:=aX.blk (hS.aH 6);have C:=hS.ext;refine tF 12 [(4,.ri (Yv)),(9,.ri (W)),(10,.box 40 #[ζ,()]),(11,.box 40 #[ζ,()])] ?_;refine Qs ?_;refine Ei (fun R I=>gM gc _ _ YQ Y Yv _ (Blk.ext (hS.aH 7) I.1) (hS.aD 7 I.1) (hS.aD 1 I.1) ZC bk dy.o cG.o ey.o) ?_;intro cU a7 dk c8 fm fR;refine Qs ?_;refine Ei (fun R I=>gM gc _ _ YP Y W _ (Blk.ext (hS.aH 7) I.1) (hS.aD 6 I.1) (hS.aD 1 I.1) ZB bk ef.o bn.o d5.o) ?_;intro eo cA eg d0 fL fY;refine Eb ?_;intro g9 eS c7;refine Eb ?_;intro g10 YU Zi;refine bN ?_;intro w4 I;have j:=hS.lt;replace hS:=hS.mv I.ext;replace hS:=hS.aI I 4;replace hS:=hS.aI I 9;have bg:=I.lw 10;have o9:Own w g9:=aeX C bg;replace hS:=hS.aB I 10 g9 (apF j bg);have av:=I.lw 11;have ZJ:Own w g10:=aeX C av;replace hS:=hS.aB I 11 g10 ⟨I.nn 10 11 c7 Zi,(apF j av)⟩;clear I j C Y7 Y4;clear bg c7 eS;clear av Zi YU;have Zh:=(hS.aH 1).cell;have Zl:=(hS.aH 1).frozen;have YI:=hS.pt 1 0 [.bool cU,.slice a7 dk c8] o9;have Zm:=(YI.aH 0).cell;have ZV:=(YI.aH 0).frozen;go_wp2_with fail;clear Zh Zl Zm ZV;clear YI;replace hS:=(hS.pt 1 0 [.bool cU,.slice a7 dk c8] o9).pt 0 0 [.bool eo,.slice cA eg d0] ZJ;refine gW hS ?_;clear hS;intro w5 hS;have Y8:=aX.blk (hS.aH 2);have Y5:=aX.blk (hS.aH 7);have C:=hS.ext;refine tF 12 [(4,.ri (U)),(9,.ri (L)),(10,.box 40 #[ζ,()]),(11,.box 40 #[ζ,()])] ?_;refine Qs ?_;refine Ei (fun R I=>gM gc _ _ Zy G U _ (Blk.ext (hS.aH 9) I.1) (hS.aD 6 I.1) (hS.aD 2 I.1) a8 Yw eT.o cI.o fb.o) ?_;intro du a5 c6 N fn fW;refine Qs ?_;refine Ei (fun R I=>gM gc _ _ ZA G L _ (Blk.ext (hS.aH 9) I.1) (hS.aD 5 I.1) (hS.aD 2 I.1) a4 Yw e7.o cQ.o eJ.o) ?_;intro e9 cP e4 fg fx fX;refine Eb ?_;intro ZZ ZY a6;refine Eb ?_;intro g12 ZT ZP;refine bN ?_;intro w6 I;have j:=hS.lt;replace hS:=hS.mv I.ext;replace hS:=hS.aI I 4;replace hS:=hS.aI I 9;have ar:=I.lw 10;have cV:Own w ZZ:=aeX C ar;replace hS:=hS.aB I 10 ZZ (apF j ar);have aq:=I.lw 11;have ec:Own w g12:=aeX C aq;replace hS:=hS.aB I 11 g12 ⟨I.nn 10 11 a6 ZP,(apF j aq)⟩;clear I j C Y8 Y5;clear ar a6 ZY;clear aq ZP ZT;have ZX:=(hS.aH 1).cell;have ZE:=(hS.aH 1).frozen;have YT:=hS.pt 1 0 [.bool du,.slice a5 c6 N] cV;have ZQ:=(YT.aH 0).cell;have ZU:=(YT.aH 0).frozen;go_wp2_with fail;clear ZX ZE ZQ ZU;clear YT;replace hS:=(hS.pt 1 0 [.bool du,.slice a5 c6 N] cV).pt 0 0 [.bool e9,.slice cP e4 fg] ec;refine gW hS ?_;clear hS;intro w7 hS;have bl:=aX.blk (hS.aH 0);have bm:=aX.blk (hS.aH 1);have bh:=aX.blk (hS.aH 2);have Y9:=aX.blk (hS.aH 3);have C:=hS.ext;refine tF 11 [(4,.ri (aP)),(8,.ri (H)),(9,.ri (aE)),(10,.box 40 #[ζ,()])] ?_;refine Qs ?_;refine Ei (fun R I=>jh gc _ _ Yv U aP _ (Blk.ext (hS.aH 11) I.1) (hS.aD 3 I.1) (hS.aD 1 I.1) df dp eM.o dv) ?_;intro eK bq dx ez cx cf;refine Qs ?_;refine Ei (fun R I=>jh gc _ _ W L H _ (Blk.ext (hS.aH 11) I.1) (hS.aD 2 I.1) (hS.aD 0 I.1) cT dl e2.o di) ?_;intro eA bV ej d7 bx ce;refine Ei (fun R I=>Nh gc _ _ aP H aE _ (Blk.ext (hS.aH 11) I.1) (I.f 4 ((iv eK bq dx ez),cx,cf)) (I.f 8 ((iv eA bV ej d7),bx,ce)) dv di eV.o dw) ?_;intro eE bw fa fh fS f2;refine Eb ?_;intro ZW Zj cn;refine bN ?_;intro w8 I;have j:=hS.lt;replace hS:=hS.mv I.ext;replace hS:=hS.aI I 4;replace hS:=hS.aI I 8;replace hS:=hS.aI I 9;have ay:=I.lw 10;have eC:Own w ZW:=aeX C ay;replace hS:=hS.aB I 10 ZW (apF j ay);clear I j C bl bm bh Y9;clear ay cn Zj;have bA:=(hS.aH 0).cell;have Z7:=(hS.aH 0).frozen;go_wp2_with fail;clear bA Z7;replace hS:=hS.pt 0 0 [.bool eE,.slice bw fa fh] eC;refine gW hS ?_;clear hS;intro w9 hS;have bl:=aX.blk (hS.aH 1);have bm:=aX.blk (hS.aH 2);have bh:=aX.blk (hS.aH 3);have Y9:=aX.blk (hS.aH 4);have C:=hS.ext;refine tF 11 [(4,.ri (aG)),(8,.ri (a1)),(9,.ri (a0)),(10,.box 40 #[ζ,()])] ?_;refine Qs ?_;refine Ei (fun R I=>jh gc _ _ Yv L aG _ (Blk.ext (hS.aH 12) I.1) (hS.aD 6 I.1) (hS.aD 3 I.1) df dl e8.o db) ?_;intro e6 bo eb ew ZM ZK;refine Qs ?_;refine Ei (fun R I=>jh gc _ _ W U a1 _ (Blk.ext (hS.aH 12) I.1) (hS.aD 5 I.1) (hS.aD 4 I.1) cT dp fd.o dr) ?_;intro er cl d4 eN cb ca;refine Ei (fun R I=>yj gc _ _ aG a1 a0 _ (Blk.ext (hS.aH 12) I.1) (I.f 4 ((iv e6 bo eb ew),ZM,ZK)) (I.f 8 ((iv er cl d4 eN),cb,ca)) db dr d6.o cX) ?_;intro ff cp e3 e5 fN f7;refine Eb ?_;intro YY Zk YK;refine bN ?_;intro ZN I;have j:=hS.lt;replace hS:=hS.mv I.ext;replace hS:=hS.aI I 4;replace hS:=hS.aI I 8;replace hS:=hS.aI I 9;have S:=I.lw 10;have ed:Own w YY:=aeX C S;replace hS:=hS.aB I 10 YY (apF j S);clear I j C bl bm bh Y9;clear S YK Zk;have Z8:=(hS.aH 0).cell;have cC:=(hS.aH 0).frozen;go_wp2_with fail;clear Z8 cC;replace hS:=hS.pt 0 0 [.bool ff,.slice cp e3 e5] ed;refine gW hS ?_;clear hS;intro ZF hS;have Y8:=aX.blk (hS.aH 6);have Y7:=aX.blk (hS.aH 7);have Y5:=aX.blk (hS.aH 11);have Y4:=aX.blk (hS.aH 12);have C:=hS.ext;refine tF 13 [(5,.ri (Yu)),(10,.ri (az)),(11,.ri (P)),(12,.box 40 #[ζ,()])] ?_;refine Qs ?_;refine Ei (fun R I=>gM gc _ _ YO G Yu _ (Blk.ext (hS.aH 13) I.1) (hS.aD 15 I.1) (hS.aD 10 I.1) Za Yw eL.o cw.o d1.o) ?_;intro dT cv d2 eh cD cS;refine Qs ?_;refine Ei (fun R I=>gM gc _ _ Zz Y az _ (Blk.ext (hS.aH 13) I.1) (hS.aD 12 I.1) (hS.aD 11 I.1) a2 bk d8.o cM.o eI.o) ?_;intro fi cR d9 eW bp bt;refine Ei (fun R I=>jh gc _ _ Yu az P _ (Blk.ext (hS.aH 13) I.1) (I.f 5 ((iv dT cv d2 eh),cD,cS)) (I.f 10 ((iv fi cR d9 eW),bp,bt)) ee es ep.o ds) ?_;intro cY a3 da dq fB fy;refine Eb ?_;intro Zw Zc ZO;refine bN ?_;intro gb I;have j:=hS.lt;replace hS:=hS.mv I.ext;replace hS:=hS.aI I 5;replace hS:=hS.aI I 10;replace hS:=hS.aI I 11;have T:=I.lw 12;have de:Own w Zw:=aeX C T;replace hS:=hS.aB I 12 Zw (apF j T);clear I j C Y8 Y7 Y5 Y4;clear T ZO Zc;have Z9:=(hS.aH 0).cell;have cd:=(hS.aH 0).frozen;have YX:=hS.pt 0 0 [.bool cY,.slice a3 da dq] de;have cL:=(YX.aH 14).cell;have cF:=(YX.aH 2).cell;have cJ:=(YX.aH 1).cell;have b0:=(YX.aH 0).cell;go_wp2_with fail;clear Z9 cd cL cF cJ b0;clear YX;replace hS:=hS.pt 0 0 [.bool cY,.slice a3 da dq] de;refine gW hS ?_;clear hS;intro ZL hS;refine(qy gc _ _ _ aE a0 P ao ai ap _ (hS.aH 14) (hS.aF 6) (hS.aF 3) (hS.aF 0) dw cX ds eB.o ea.o).mono ?_;rintro e ga ⟨v_,rfl,M,F⟩;replace hS:=hS.mv F;clear F;obtain⟨ci,ba,cj,cB,cE,bb,cH,cr,cy,a9,ch,cg,rfl,ad,af,ac⟩:=M;replace hS:=hS.bI ad;clear ad;replace hS:=hS.bI af;clear af;replace hS:=hS.bI ac;clear ac;have f3:=(hS.aH 11).cell;have f0:=(hS.aH 11).frozen;go_wp2;replace hS:=hS.pt 11 0 [.bool ci,.slice ba cj cB,.bool cE,.slice bb cH cr,.bool cy,.slice a9 ch cg] o6;exact dG rfl rfl rfl (hS.aH 11) ⟨_,rfl,RG.mk (hS.aF 2) (hS.aF 1) (hS.aF 0),hS.ext⟩
def Ah(Z v1 Y a b d a' b' d' u v t n w)(hc:Calm w Z)(L:RG w v1 a b d)(M:RG w Y a' b' d')(sx:Sz n a b d)(sy:Sz n a' b' d')(hn:n+n+1<=12800)(hd:d≠0)(hd':d'≠0)(E:(u,v,t)=nf (a*a'-b*b') (a*b'+b*a') (d*d')):
  CV 142 #[aN Z 0,v1,Y] w fun x w'=>RG w' x u v t:=by
 obtain⟨g,I,a1,b1,hg,N,F,S,R⟩:=tQ (a:=d') (b:=a) (c:=b) hd';obtain⟨h,W,K,O,hh,P,Q,B,j⟩:=tQ (a:=d) (b:=a') (c:=b') hd;have T:=gP N S sx.a;have V:=gP N R sx.b;have G:=gP N F sy.d;have D:=gP P B sy.a;have C:=gP P j sy.b;have H:=gP P Q sx.d;have bg:g.natAbs<2^n:=zg hd' ⟨_,F⟩ sy.d;have bh:h.natAbs<2^n:=zg hd ⟨_,Q⟩ sx.d;have p1:=bR T D;have p2:=bR V C;have p3:=bR T C;have p4:=bR V D;have p5:=bR H G;have q1:=sK p1 p2;have q2:=iV p3 p4;have U:W*I≠0:=nk (by intro e;rw[e] at Q;simp at Q;exact hd Q) (by intro e;rw[e] at F;simp at F;exact hd' F);have E':(u,v,t)=nf (a1*K-b1*O) (a1*O+b1*K) (W*I):=by
  rw[E];refine pR (nk hd hd') U ?_ ?_
  .rw[S,R,Q,B,j,F];grind
  .rw[S,R,Q,B,j,F];grind
 have sz:=jF (n:=n+n+1) U E' q1 q2 (jl p5 aa);obtain⟨x1,x2,J⟩:=sx.nK aa;obtain⟨y1,y2,y3⟩:=sy.nK aa;obtain⟨s1,s2,s3⟩:=sz.nK hn;exact Cg Z v1 a b d Y a' b' d' w hc L x1 x2 J M y1 y2 y3 g (aW hg) (bQ bg aa) h (aW hh) (bQ bh aa)
  a1 (aW (gF N S)) (bQ T aa) (aW N) (aW ⟨_,S⟩) b1 (aW (gF N R)) (bQ V aa) (aW N) (aW ⟨_,R⟩)
  K (aW (gF P B)) (bQ D aa) (aW P) (aW ⟨_,B⟩) O (aW (gF P j)) (bQ C aa) (aW P) (aW ⟨_,j⟩)
  _ (aW rfl) (bQ p1 aa) _ (aW rfl) (bQ p2 aa) _ (aW rfl) (bQ q1 aa)
  _ (aW rfl) (bQ p3 aa) _ (aW rfl) (bQ p4 aa) _ (aW rfl) (bQ q2 aa)
  W (aW (gF P Q)) (bQ H aa) (aW P) (aW ⟨_,Q⟩) I (aW (gF N F)) (bQ G aa) (aW N) (aW ⟨_,F⟩)
  _ (aW rfl) (bQ p5 aa) (aW U) u v t (aW E') s1 s2 s3
def equotient_g(gc:Nat)(v1:Value)(YQ YP YO:Int)(v2:Value)(Zy ZA Zz:Int)(w:World)(hc:Calm w gc)(D:RG w v1 YQ YP YO)(ZC:YQ.natAbs<lim)(ZB:YP.natAbs<lim)(Za:YO.natAbs<lim)(YV:RG w v2 Zy ZA Zz)(cS:Zy.natAbs<lim)(cJ:ZA.natAbs<lim)(cG:Zz.natAbs<lim)(L:Int)(j8:Hid (L=(gG [YQ,YP,Zy,ZA]:Nat)))(dT:L.natAbs<lim)(Yw:Int)(hT:Hid (Yw=(gG [YO,Zz]:Nat)))(gH:Yw.natAbs<lim)(bm:Int)(i8:Hid (bm=YQ/L))(go:bm.natAbs<lim)(ir:Hid (L≠0))(eI:Hid (L∣YQ))(Y:Int)(i3:Hid (Y=YP/L))(gC:Y.natAbs<lim)(jx:Hid (L≠0))(ga:Hid (L∣YP))(U:Int)(ia:Hid (U=Zy/L))(gS:U.natAbs<lim)(i5:Hid (L≠0))(gd:Hid (L∣Zy))(bi:Int)(hL:Hid (bi=ZA/L))(gB:bi.natAbs<lim)(kb:Hid (L≠0))(fk:Hid (L∣ZA))(H:Int)(i6:Hid (H=(gG [U,bi]:Nat)))(d9:H.natAbs<lim)(Yv:Int)(j2:Hid (Yv=U/H))(d1:Yv.natAbs<lim)(hZ:Hid (H≠0))(eS:Hid (H∣U))(N:Int)(hG:Hid (N=bi/H))(dx:N.natAbs<lim)(hR:Hid (H≠0))(e4:Hid (H∣bi))(Z:Int)(hD:Hid (Z=bm*Yv))(gj:Z.natAbs<lim)(Yu:Int)(hH:Hid (Yu=Y*N))(gp:Yu.natAbs<lim)(cr:Int)(h3:Hid (cr=Z+Yu))(gT:cr.natAbs<lim)(P:Int)(h4:Hid (P=Y*Yv))(gR:P.natAbs<lim)(cw:Int)(iu:Hid (cw=bm*N))(gq:cw.natAbs<lim)(cv:Int)(ib:Hid (cv=P-cw))(gs:cv.natAbs<lim)(cn:Int)(j1:Hid (cn=Yv*Yv))(gw:cn.natAbs<lim)(cp:Int)(id:Hid (cp=N*N))(hf:cp.natAbs<lim)(ai:Int)(gb:Hid (ai=cn+cp))(cP:ai.natAbs<lim)(f9:Hid (ai≠0))(ar av ax:Int)(fm:Hid ((ar,av,ax)=nf cr cv ai))(hy:ar.natAbs<lim)(hz:av.natAbs<lim)(hC:ax.natAbs<lim)(a2:Int)(f7:Hid (a2=Zz/Yw))(fa:a2.natAbs<lim)(f2:Hid (Yw≠0))(c8:Hid (Yw∣Zz))(a1:Int)(ev:Hid (a1=YO/Yw))(e2:a1.natAbs<lim)(e7:Hid (Yw≠0))(cV:Hid (Yw∣YO))(am:Int)(eC:Hid (am=H*a1))(cR:am.natAbs<lim)(f3:Hid (am≠0))(ac af ad:Int)(f5:Hid ((ac,af,ad)=nf a2 0 am))(ho:ac.natAbs<lim)(hm:af.natAbs<lim)(hl:ad.natAbs<lim)(az ay aw:Int)(HP:Hid (∀(v G:Value) (W:World),Calm W gc->RG W v ar av ax->RG W G ac af ad->CV 142 #[aN gc 0,v,G] W fun x w'=>RG w' x az ay aw))(hg:az.natAbs<lim)(hj:ay.natAbs<lim)(hw:aw.natAbs<lim):
  CV 173 #[aN gc 0,v1,v2] w fun v w'=>RG w' v az ay aw:=by
 have hS:=aeZ w;obtain⟨YC,Yz,Yy,YB,YD,YE,YA,Yx,Q,O,J,V,rfl,YG,YH,YF⟩:=D;replace hS:=hS.bI YG;clear YG;replace hS:=hS.bI YH;clear YH;replace hS:=hS.bI YF;clear YF;obtain⟨Zv,Zt,Zp,Zq,Ze,Zn,Zd,Zo,Zr,Zx,K,Zf,rfl,ZH,ZI,ZG⟩:=YV;replace hS:=hS.bI ZH;clear ZH;replace hS:=hS.bI ZI;clear ZI;replace hS:=hS.bI ZG;clear ZG;replace hS:=hS.yC hc trivial;clear hc;go_enter func173,ntmps173;go_wp2_with fail;refine gA3 hS 42 #[YC,aO Yz Yy YB,YD,aO YE YA Yx,Q,aO O J V] 42 #[Zv,aO Zt Zp Zq,Ze,aO Zn Zd Zo,Zr,aO Zx K Zf] 42 aQ3 ?_;clear hS;intro w1 g4 o4 g5 o5 g6 o6 hS;have Y5:=aX.blk (hS.aH 1);have Y4:=aX.blk (hS.aH 2);have C:=hS.ext;refine tF 20 [(9,.sl 40 4 #[YC,aO Yz Yy YB,YD,aO YE YA Yx,Zv,aO Zt Zp Zq,Ze,aO Zn Zd Zo]),(10,.ri (L)),(16,.sl 40 2 #[Q,aO O J V,Zr,aO Zx K Zf]),(17,.ri (Yw)),(18,.box 40 #[ζ,()]),(19,.box 40 #[ζ,()])] ?_;refine Qs ?_;refine Eb ?_;intro d8 fS bk;refine Ei (fun R I=>Qr gc d8 YQ YP Zy ZA L _ (Blk.ext (hS.aH 3) I.1) ((I.2 9 _ rf ah).2.2) (hS.aD 5 I.1) (hS.aD 4 I.1) (hS.aD 2 I.1) (hS.aD 1 I.1) ZC ZB cS cJ j8) ?_;intro gi cT he gA kx kl;refine Qs ?_;refine Eb ?_;intro d5 e3 bj;refine Ei (fun R I=>BN gc d5 YO Zz Yw _ (Blk.ext (hS.aH 3) I.1) ((I.2 16 _ rf ah).2.2) (hS.aD 3 I.1) (hS.aD 0 I.1) Za cG hT) ?_;intro hY ff j9 jv km kX;refine Eb ?_;intro g7 YL YW;refine Eb ?_;intro g8 ZR YJ;refine bN ?_;intro w2 I;have j:=hS.lt;replace hS:=hS.mv I.ext;replace hS:=hS.aI I 10;replace hS:=hS.aI I 17;have bA:=I.lw 9;have lp:Own w d8:=aeX C bA;replace hS:=hS.aB I 9 d8 (apF j bA);have cf:=I.lw 16;have k7:Own w d5:=aeX C cf;replace hS:=hS.aB I 16 d5 ⟨I.nn 9 16 bk bj,(apF j cf)⟩;have Zg:=I.lw 18;have o7:Own w g7:=aeX C Zg;replace hS:=hS.aB I 18 g7 ⟨I.nn 16 18 bj YW,⟨I.nn 9 18 bk YW,(apF j Zg)⟩⟩;have ec:=I.lw 19;have o8:Own w g8:=aeX C ec;replace hS:=hS.aB I 19 g8 ⟨I.nn 18 19 YW YJ,⟨I.nn 16 19 bj YJ,⟨I.nn 9 19 bk YJ,(apF j ec)⟩⟩⟩;clear I j C Y5 Y4;clear bA bk fS;clear cf bj e3;clear Zg YW YL;clear ec YJ ZR;have YN:=(hS.aH 1).cell;have YM:=(hS.aH 1).frozen;have B:=hS.pt 1 0 [.bool gi,.slice cT he gA] o7;have YR:=(B.aH 0).cell;have YS:=(B.aH 0).frozen;go_wp2_with fail;clear YN YM YR YS;clear B;replace hS:=(hS.pt 1 0 [.bool gi,.slice cT he gA] o7).pt 0 0 [.bool hY,.slice ff j9 jv] o8;refine gW hS ?_;clear hS;intro w3 hS;have Y7:=aX.blk (hS.aH 1);have Y4:=aX.blk (hS.aH 6);have C:=hS.ext;refine tF 12 [(4,.ri (bm)),(9,.ri (Y)),(10,.box 40 #[ζ,()]),(11,.box 40 #[ζ,()])] ?_;refine Qs ?_;refine Ei (fun R I=>gM gc _ _ YQ L bm _ (Blk.ext (hS.aH 7) I.1) (hS.aD 7 I.1) (hS.aD 1 I.1) ZC dT ir.o eI.o i8.o) ?_;intro gn cD g0 gO kc kk;refine Qs ?_;refine Ei (fun R I=>gM gc _ _ YP L Y _ (Blk.ext (hS.aH 7) I.1) (hS.aD 6 I.1) (hS.aD 1 I.1) ZB dT jx.o ga.o i3.o) ?_;intro iS ey ih jz kt k3;refine Eb ?_;intro g9 i4 gr;refine Eb ?_;intro g10 YU Zi;refine bN ?_;intro w4 I;have j:=hS.lt;replace hS:=hS.mv I.ext;replace hS:=hS.aI I 4;replace hS:=hS.aI I 9;have d6:=I.lw 10;have o9:Own w g9:=aeX C d6;replace hS:=hS.aB I 10 g9 (apF j d6);have cc:=I.lw 11;have ZJ:Own w g10:=aeX C cc;replace hS:=hS.aB I 11 g10 ⟨I.nn 10 11 gr Zi,(apF j cc)⟩;clear I j C Y7 Y4;clear d6 gr i4;clear cc Zi YU;have Zh:=(hS.aH 1).cell;have Zl:=(hS.aH 1).frozen;have YI:=hS.pt 1 0 [.bool gn,.slice cD g0 gO] o9;have Zm:=(YI.aH 0).cell;have ZV:=(YI.aH 0).frozen;go_wp2_with fail;clear Zh Zl Zm ZV;clear YI;replace hS:=(hS.pt 1 0 [.bool gn,.slice cD g0 gO] o9).pt 0 0 [.bool iS,.slice ey ih jz] ZJ;refine gW hS ?_;clear hS;intro w5 hS;have Y7:=aX.blk (hS.aH 3);have Y5:=aX.blk (hS.aH 7);have C:=hS.ext;refine tF 12 [(4,.ri (U)),(9,.ri (bi)),(10,.box 40 #[ζ,()]),(11,.box 40 #[ζ,()])] ?_;refine Qs ?_;refine Ei (fun R I=>gM gc _ _ Zy L U _ (Blk.ext (hS.aH 9) I.1) (hS.aD 6 I.1) (hS.aD 3 I.1) cS dT i5.o gd.o ia.o) ?_;intro dy bl d0 dw kq ko;refine Qs ?_;refine Ei (fun R I=>gM gc _ _ ZA L bi _ (Blk.ext (hS.aH 9) I.1) (hS.aD 5 I.1) (hS.aD 3 I.1) cJ dT kb.o fk.o hL.o) ?_;intro d2 b0 ea ed kv kw;refine Eb ?_;intro ZZ ZY cN;refine Eb ?_;intro g12 ZT ZP;refine bN ?_;intro w6 I;have j:=hS.lt;replace hS:=hS.mv I.ext;replace hS:=hS.aI I 4;replace hS:=hS.aI I 9;have cb:=I.lw 10;have cx:Own w ZZ:=aeX C cb;replace hS:=hS.aB I 10 ZZ (apF j cb);have bx:=I.lw 11;have d4:Own w g12:=aeX C bx;replace hS:=hS.aB I 11 g12 ⟨I.nn 10 11 cN ZP,(apF j bx)⟩;clear I j C Y7 Y5;clear cb cN ZY;clear bx ZP ZT;have ZX:=(hS.aH 1).cell;have ZE:=(hS.aH 1).frozen;have YT:=hS.pt 1 0 [.bool dy,.slice bl d0 dw] cx;have ZQ:=(YT.aH 0).cell;have ZU:=(YT.aH 0).frozen;have YX:=(hS.pt 1 0 [.bool dy,.slice bl d0 dw] cx).pt 0 0 [.bool d2,.slice b0 ea ed] d4;have eB:=(YX.aH 1).cell;have Z7:=(YX.aH 0).cell;have j0:Own w w6.heap.size:=aeX hS.ext ag;go_wp2_with fail;clear ZX ZE ZQ ZU eB Z7;clear YT YX;replace hS:=St.al ((hS.pt 1 0 [.bool dy,.slice bl d0 dw] cx).pt 0 0 [.bool d2,.slice b0 ea ed] d4) 40 #[dy,aO bl d0 dw,d2,aO b0 ea ed] (g:=w6.heap.size) ag;refine gW hS ?_;clear hS;intro w7 hS;generalize w6.heap.size=hX at hS j0⊢;refine(BN gc hX U bi H _ (hS.aH 12) (hS.aH 0) (hS.aF 1) (hS.aF 0) gS gB i6).mono ?_;rintro e w8 ⟨v_,rfl,M,F⟩;replace hS:=hS.mv F;clear F;obtain⟨ii,eE,h0,hM,rfl,bo⟩:=RI.opn M;clear M;replace hS:=hS.bI bo;clear bo;have ei:=(St.al hS 40 #[ζ,()] (g:=w8.heap.size) ag);have Z8:=(ei.aH 0).cell;have fy:=(ei.aH 0).frozen;go_wp2_with fail;clear Z8 fy;clear ei;refine gA1 hS 40 #[ii,aO eE h0 hM] ?_;clear hS;intro w9 ZW k9 hS;have ee:=aX.blk (hS.aH 0);have bq:=aX.blk (hS.aH 2);have bt:=aX.blk (hS.aH 3);have C:=hS.ext;refine tF 8 [(3,.ri (Yv)),(7,.ri (N))] ?_;refine Qs ?_;refine Ei (fun R I=>gM gc _ _ U H Yv _ (Blk.ext (hS.aH 13) I.1) (hS.aD 2 I.1) (hS.aD 0 I.1) gS d9 hZ.o eS.o j2.o) ?_;intro gy cB gE g2 kg ki;refine Qs ?_;refine Ei (fun R I=>gM gc _ _ bi H N _ (Blk.ext (hS.aH 13) I.1) (hS.aD 1 I.1) (hS.aD 0 I.1) gB d9 hR.o e4.o hG.o) ?_;intro i9 f0 ie h2 kh kf;refine bN ?_;intro ZN I;have j:=hS.lt;replace hS:=hS.mv I.ext;replace hS:=hS.aI I 3;replace hS:=hS.aI I 7;clear I j C ee bq bt;have Z9:=(hS.aH 3).cell;have e6:=(hS.aH 3).frozen;have ef:=hS.pt 3 0 [.bool gy,.slice cB gE g2] cx;have f8:=(ef.aH 2).cell;have fL:=(ef.aH 2).frozen;go_wp2_with fail;clear Z9 e6 f8 fL;clear ef;replace hS:=(hS.pt 3 0 [.bool gy,.slice cB gE g2] cx).pt 2 0 [.bool i9,.slice f0 ie h2] d4;refine gW hS ?_;clear hS;intro ZF hS;have bq:=aX.blk (hS.aH 2);have bt:=aX.blk (hS.aH 3);have d7:=aX.blk (hS.aH 4);have Y9:=aX.blk (hS.aH 5);have C:=hS.ext;refine tF 11 [(4,.ri (Z)),(8,.ri (Yu)),(9,.ri (cr)),(10,.box 40 #[ζ,()])] ?_;refine Qs ?_;refine Ei (fun R I=>jh gc _ _ bm Yv Z _ (Blk.ext (hS.aH 13) I.1) (hS.aD 6 I.1) (hS.aD 1 I.1) go d1 hD.o gj) ?_;intro h6 fN ij hQ fR es;refine Qs ?_;refine Ei (fun R I=>jh gc _ _ Y N Yu _ (Blk.ext (hS.aH 13) I.1) (hS.aD 5 I.1) (hS.aD 0 I.1) gC dx hH.o gp) ?_;intro hF fr hI hW fB gg;refine Ei (fun R I=>yj gc _ _ Z Yu cr _ (Blk.ext (hS.aH 13) I.1) (I.f 4 ((iv h6 fN ij hQ),fR,es)) (I.f 8 ((iv hF fr hI hW),fB,gg)) gj gp h3.o gT) ?_;intro it eR js ju k1 ke;refine Eb ?_;intro YY Zk YK;refine bN ?_;intro lr I;have j:=hS.lt;replace hS:=hS.mv I.ext;replace hS:=hS.aI I 4;replace hS:=hS.aI I 8;replace hS:=hS.aI I 9;have S:=I.lw 10;have hP:Own w YY:=aeX C S;replace hS:=hS.aB I 10 YY (apF j S);clear I j C bq bt d7 Y9;clear S YK Zk;have f4:=(hS.aH 0).cell;have eJ:=(hS.aH 0).frozen;go_wp2_with fail;clear f4 eJ;replace hS:=hS.pt 0 0 [.bool it,.slice eR js ju] hP;refine gW hS ?_;clear hS;intro ZL hS;have bq:=aX.blk (hS.aH 3);have bt:=aX.blk (hS.aH 4);have d7:=aX.blk (hS.aH 5);have Y9:=aX.blk (hS.aH 6);have C:=hS.ext;refine tF 11 [(4,.ri (P)),(8,.ri (cw)),(9,.ri (cv)),(10,.box 40 #[ζ,()])] ?_;refine Qs ?_;refine Ei (fun R I=>jh gc _ _ Y Yv P _ (Blk.ext (hS.aH 14) I.1) (hS.aD 8 I.1) (hS.aD 4 I.1) gC d1 h4.o gR) ?_;intro hO eN hU iz eT eM;refine Qs ?_;refine Ei (fun R I=>jh gc _ _ bm N cw _ (Blk.ext (hS.aH 14) I.1) (hS.aD 9 I.1) (hS.aD 3 I.1) go dx iu.o gq) ?_;intro i7 e8 ix io f6 e5;refine Ei (fun R I=>Nh gc _ _ P cw cv _ (Blk.ext (hS.aH 14) I.1) (I.f 4 ((iv hO eN hU iz),eT,eM)) (I.f 8 ((iv i7 e8 ix io),f6,e5)) gR gq ib.o gs) ?_;intro h8 fi h7 h5 kr k2;refine Eb ?_;intro Zw Zc ZO;refine bN ?_;intro lj I;have j:=hS.lt;replace hS:=hS.mv I.ext;replace hS:=hS.aI I 4;replace hS:=hS.aI I 8;replace hS:=hS.aI I 9;have T:=I.lw 10;have h9:Own w Zw:=aeX C T;replace hS:=hS.aB I 10 Zw (apF j T);clear I j C bq bt d7 Y9;clear T ZO Zc;have fX:=(hS.aH 0).cell;have fj:=(hS.aH 0).frozen;go_wp2_with fail;clear fX fj;replace hS:=hS.pt 0 0 [.bool h8,.slice fi h7 h5] h9;refine gW hS ?_;clear hS;intro ld hS;have bq:=aX.blk (hS.aH 4);have bt:=aX.blk (hS.aH 5);have C:=hS.ext;refine tF 11 [(4,.ri (cn)),(8,.ri (cp)),(9,.ri (ai)),(10,.box 40 #[ζ,()])] ?_;refine Qs ?_;refine Ei (fun R I=>jh gc _ _ Yv Yv cn _ (Blk.ext (hS.aH 15) I.1) (hS.aD 7 I.1) (hS.aD 7 I.1) d1 d1 j1.o gw) ?_;intro i2 e9 hN hJ ew eW;refine Qs ?_;refine Ei (fun R I=>jh gc _ _ N N cp _ (Blk.ext (hS.aH 15) I.1) (hS.aD 6 I.1) (hS.aD 6 I.1) dx dx id.o hf) ?_;intro jp ej h1 jt fb ep;refine Ei (fun R I=>yj gc _ _ cn cp ai _ (Blk.ext (hS.aH 15) I.1) (I.f 4 ((iv i2 e9 hN hJ),ew,eW)) (I.f 8 ((iv jp ej h1 jt),fb,ep)) gw hf gb.o cP) ?_;intro cH bp cQ cL hB hk;refine Eb ?_;intro g1 ZM eA;refine bN ?_;intro lq I;have j:=hS.lt;replace hS:=hS.mv I.ext;replace hS:=hS.aI I 4;replace hS:=hS.aI I 8;replace hS:=hS.aI I 9;have Zj:=I.lw 10;have gt:Own w g1:=aeX C Zj;replace hS:=hS.aB I 10 g1 (apF j Zj);clear I j C bq bt;clear Zj eA ZM;have gh:=(hS.aH 0).cell;have ez:=(hS.aH 0).frozen;have cy:=hS.pt 0 0 [.bool cH,.slice bp cQ cL] gt;have fY:=(cy.aH 16).cell;have fW:=(cy.aH 2).cell;have er:=(cy.aH 1).cell;have eL:=(cy.aH 0).cell;go_wp2_with fail;clear gh ez fY fW er eL;clear cy;replace hS:=hS.pt 0 0 [.bool cH,.slice bp cQ cL] gt;refine gW hS ?_;clear hS;intro k8 hS;refine(qy gc _ _ _ cr cv ai ar av ax _ (hS.aH 16) (hS.aF 6) (hS.aF 3) (hS.aF 0) gT gs cP f9.o fm.o).mono ?_;rintro e ka ⟨v_,rfl,M,F⟩;replace hS:=hS.mv F;clear F;obtain⟨de,cj,dq,dr,du,cg,cU,df,ds,cl,dp,dn,rfl,a0,aP,aE⟩:=M;replace hS:=hS.bI a0;clear a0;replace hS:=hS.bI aP;clear aP;replace hS:=hS.bI aE;clear aE;have eb:=(St.al hS 42 aQ3 (g:=ka.heap.size) ag);have eK:=(eb.aH 0).cell;have fd:=(eb.aH 0).frozen;go_wp2_with fail;clear eK fd;clear eb;refine gA1 hS 42 #[de,aO cj dq dr,du,aO cg cU df,ds,aO cl dp dn] ?_;clear hS;intro lh YZ li hS;have ee:=aX.blk (hS.aH 4);have Y8:=aX.blk (hS.aH 10);have Y5:=aX.blk (hS.aH 15);have Y4:=aX.blk (hS.aH 16);have C:=hS.ext;refine tF 15 [(4,.ri (a2)),(11,.ri (a1)),(12,.ri (am)),(13,.box 40 #[ζ,()]),(14,.box 40 #[ζ,()])] ?_;refine Qs ?_;refine Ei (fun R I=>gM gc _ _ Zz Yw a2 _ (Blk.ext (hS.aH 17) I.1) (hS.aD 21 I.1) (hS.aD 19 I.1) cG gH f2.o c8.o f7.o) ?_;intro bw bb ca ce hu hr;refine Qs ?_;refine Ei (fun R I=>gM gc _ _ YO Yw a1 _ (Blk.ext (hS.aH 17) I.1) (hS.aD 24 I.1) (hS.aD 19 I.1) Za gH e7.o cV.o ev.o) ?_;intro eV cW eo et da db;refine Ei (fun R I=>jh gc _ _ H a1 am _ (Blk.ext (hS.aH 17) I.1) (hS.aD 14 I.1) (I.f 11 ((iv eV cW eo et),da,db)) d9 e2 eC.o cR) ?_;intro cC bn cE cM ht hh;refine Eb ?_;intro ZK fx cI;refine Eb ?_;intro gU f1 cF;refine bN ?_;intro k5 I;have j:=hS.lt;replace hS:=hS.mv I.ext;replace hS:=hS.aI I 4;replace hS:=hS.aI I 11;replace hS:=hS.aI I 12;have bV:=I.lw 13;have eh:Own w ZK:=aeX C bV;replace hS:=hS.aB I 13 ZK (apF j bV);have cd:=I.lw 14;have gk:Own w gU:=aeX C cd;replace hS:=hS.aB I 14 gU ⟨I.nn 13 14 cI cF,(apF j cd)⟩;clear I j C ee Y8 Y5 Y4;clear bV cI fx;clear cd cF f1;have gf:=(hS.aH 1).cell;have fg:=(hS.aH 1).frozen;have eg:=hS.pt 1 0 [.bool bw,.slice bb ca ce] eh;have fh:=(eg.aH 0).cell;have fn:=(eg.aH 0).frozen;have cA:=(hS.pt 1 0 [.bool bw,.slice bb ca ce] eh).pt 0 0 [.bool cC,.slice bn cE cM] gk;have ek:=(cA.aH 19).cell;go_wp2_with fail;clear gf fg fh fn ek;clear eg cA;replace hS:=(hS.pt 1 0 [.bool bw,.slice bb ca ce] eh).pt 0 0 [.bool cC,.slice bn cE cM] gk;refine gW hS ?_;clear hS;intro k4 hS;have hE:=aX.blk (hS.aH 0);have j7:=aX.blk (hS.aH 1);have jj:=aX.blk (hS.aH 2);have C:=hS.ext;refine tF 8 [(6,.rg (ac) (af) (ad)),(7,.rg (az) (ay) (aw))] ?_;refine Qs ?_;refine Eg (fun R I=>qy gc _ _ _ a2 0 am ac af ad _ (Blk.ext (hS.aH 19) I.1) (hS.aD 2 I.1) (RI.zero _) (hS.aD 0 I.1) fa X7 cR f3.o f5.o) ?_;intro a8 ao be bh ba aq a4 bg a9 ap a6 a5 a3 a7;refine Eg (fun R I=>HP.o _ _ _ (Blk.ext (hS.aH 19) I.1) (RG.mk (hS.aD 5 I.1) (hS.aD 4 I.1) (hS.aD 3 I.1)) (RG.mk (RG.at1 (I.f 6 ((gv a8 ao be bh ba aq a4 bg a9 ap a6 a5),a3,a7))) (RG.at2 (I.f 6 ((gv a8 ao be bh ba aq a4 bg a9 ap a6 a5),a3,a7))) (RG.at3 (I.f 6 ((gv a8 ao be bh ba aq a4 bg a9 ap a6 a5),a3,a7))))) ?_;intro c7 ck di dk cX ci c6 dl dv ch dc cY hA hx;refine bN ?_;intro k6 I;have j:=hS.lt;replace hS:=hS.mv I.ext;replace hS:=hS.aG I 6;replace hS:=hS.aG I 7;clear I j C hE j7 jj;have kj:=(hS.aH 16).cell;have kO:=(hS.aH 16).frozen;go_wp2;replace hS:=hS.pt 16 0 [.bool c7,.slice ck di dk,.bool cX,.slice ci c6 dl,.bool dv,.slice ch dc cY] o6;exact dG rfl rfl rfl (hS.aH 16) ⟨_,rfl,RG.mk (hS.aF 2) (hS.aF 1) (hS.aF 0),hS.ext⟩
def Le3 (k y:Int):Prop:=if 0<=y then (k<=0\/k*k<=3*(y*y)) else (k<0/\3*(y*y)<=k*k)
instance (k y:Int):Decidable (Le3 k y):=by unfold Le3;infer_instance
def pX(x:Int):0<=x*x:=by
 rcases Int.le_total 0 x with h|h
 .exact ab3 h h
 .have:=ab3 (a:= -x) (b:= -x) aa aa;grind
def MB{x:Int}(h:x≠0):0<x*x:=by
 have j:=pX x;have B:x*x≠0:=nk h h;omega
def cm (x y:Int):Int:=if x<y then-1 else if y<x then 1 else 0
def Bc{a b c e}(h:c≠0\/e≠0):∃z p q r s:Int,z=(gG [a,b,c,e]:Nat)/\z≠0/\a=z*p/\b=z*q/\c=z*r/\e=z*s:=by
 have eq:gG [a,b,c,e]=Nat.gcd (Nat.gcd (Nat.gcd a.natAbs b.natAbs) c.natAbs) e.natAbs:=by simp[gG]
 have D:((gG [a,b,c,e]:Nat):Int)∣a:=by rw[eq];exact aac.2 (aaf (I4 _ _) (aaf (I4 _ _) (I4 _ _)))
 have B:((gG [a,b,c,e]:Nat):Int)∣b:=by rw[eq];exact aac.2 (aaf (I4 _ _) (aaf (I4 _ _) (aag _ _)))
 have d3:((gG [a,b,c,e]:Nat):Int)∣c:=by rw[eq];exact aac.2 (aaf (I4 _ _) (aag _ _))
 have j:((gG [a,b,c,e]:Nat):Int)∣e:=by rw[eq];exact aac.2 (aag _ _)
 have C:((gG [a,b,c,e]:Nat):Int)≠0:=by
  intro F;rw[F] at d3 j;have:=Int.zero_dvd.1 d3;have:=Int.zero_dvd.1 j;omega
 obtain⟨p,hp⟩:=D;obtain⟨q,hq⟩:=B;obtain⟨r,G⟩:=d3;obtain⟨s,hs⟩:=j;exact⟨_,p,q,r,s,rfl,C,hp,hq,G,hs⟩
def zI{a b}(h:a≠0\/b≠0):∃z p q:Int,z=(gG [a,b]:Nat)/\z≠0/\a=z*p/\b=z*q:=by
 by_cases hb:b=0
 .have e:gG [a,b]=Nat.gcd a.natAbs b.natAbs:=by simp[gG]
  subst hb;have B:gG [a,0]=a.natAbs:=by rw[e];simp
  rw[B];rcases Int.natAbs_eq a with j|j
  .exact⟨_,1,0,rfl,aa,aa,ag⟩
  .exact⟨_,-1,0,rfl,aa,aa,ag⟩
 .exact tJ hb
def ru{a z q:Int}{n}(hq:a≠0)(h:a=z*q)(hn:a.natAbs<2^n):z.natAbs<2^n:=zg hq ⟨q,h⟩ hn
def qI{p q:Int}(h:p≠0\/q≠0):p*p+q*q≠0:=by
 have B:=pX p;have j:=pX q;rcases h with h|h
 .have:=MB h;omega
 .have:=MB h;omega
def CG{a b d a' b' d' g F b1 p q i p1 q1 h o c1 G P C D H sa S:Int}(O:a=g*F)(J:b=g*b1)(B:a'=g*p)(j:b'=g*q)(U:p=i*p1)(eq:q=i*q1)(L:d'=h*o)(ec:d=h*c1)(e1:F*p1+b1*q1=G*P)(K:b1*p1-F*q1=G*C)(M:p1*p1+q1*q1=G*D)(N:o=H*sa)(I:i*c1=H*S):
  ((a*a'+b*b')*d')*(D*S)=(P*sa)*(d*(a'*a'+b'*b'))/\((b*a'-a*b')*d')*(D*S)=(C*sa)*(d*(a'*a'+b'*b')):=by
 subst O J B j L ec N U eq;have n1:g*(i*p1)*(g*(i*p1))+g*(i*q1)*(g*(i*q1))=g*g*i*i*(G*D):=by rw[<-M];grind
 have n2:g*F*(g*(i*p1))+g*b1*(g*(i*q1))=g*g*i*(G*P):=by rw[<-e1];grind
 have n3:g*b1*(g*(i*p1))-g*F*(g*(i*q1))=g*g*i*(G*C):=by rw[<-K];grind
 rw[n1,n2,n3];constructor
 .have l:g*g*i*(G*P)*(h*(H*sa))*(D*S)=g*g*i*G*P*h*sa*D*(H*S):=ak;rw[l,<-I];grind
 .have l:g*g*i*(G*C)*(h*(H*sa))*(D*S)=g*g*i*G*C*h*sa*D*(H*S):=ak;rw[l,<-I];grind
def Fz{A B D a b d}(j:D≠0)(E:(a,b,d)=nf A B D):∃G:Int,G≠0/\A=G*a/\B=G*b/\D=G*d/\0<d:=by
 obtain⟨N,L,M,e0,J,C,H,hp,K⟩:=vz (a:=A) (b:=B) j;rw[e0] at E;injection E with e1 E;injection E with F I;subst e1 F I;exact⟨_,EN j,J,C,H,hp⟩
def JD(A B D):∃a b d:Int,(a,b,d)=nf A B D:=⟨_,_,_,rfl⟩
def G5(gc v1 v2 a b d a' b' d' u v t n w)(hc:Calm w gc)(L:RG w v1 a b d)(M:RG w v2 a' b' d')(sx:Sz n a b d)(sy:Sz n a' b' d')(hn:4*n+3<=12800)(hd:d≠0)(hd':d'≠0)(R:a'≠0\/b'≠0)(E:(u,v,t)=nf ((a*a'+b*b')*d') ((b*a'-a*b')*d') (d*(a'*a'+b'*b'))):
  CV 173 #[aN gc 0,v1,v2] w fun x w'=>RG w' x u v t:=by
 obtain⟨g,a1,b1,p,q,hg,N,ea,eb,B,j⟩:=Bc (a:=a) (b:=b) R;have F:p≠0\/q≠0:=by
  exact Acd
 obtain⟨h,c1,o,hh,I,ec,eo⟩:=tJ (a:=d) (b:=d') hd';obtain⟨i,p1,q1,hi,O,U,eq⟩:=zI F;have Yy:p1≠0\/q1≠0:=by
  exact Abe
 have bg:g.natAbs<2^n:=by
  rcases R with h|h
  .exact ru h B sy.a
  .exact ru h j sy.b
 have T:=gP N ea sx.a;have V:=gP N eb sx.b;have bp:=gP N B sy.a;have bq:=gP N j sy.b;have Q:i.natAbs<2^n:=by
  rcases F with h|h
  .exact ru h U bp
  .exact ru h eq bq
 have K:=gP O U bp;have Z:=gP O eq bq;have bh:=ru hd ec sx.d;have Yv:=gP I ec sx.d;have bo:=gP I eo sy.d;have m1:=bR T K;have m2:=bR V Z;have m3:=bR V K;have m4:=bR T Z;have m5:=bR K K;have m6:=bR Z Z;have m7:=iV m1 m2;have m8:=sK m3 m4;have m9:=iV m5 m6;have Yw:=bR Q Yv;have hN:=qI Yy;have Y:i*c1≠0:=nk O AdR;obtain⟨P,fb,D,Ef⟩:=JD (a1*p1+b1*q1) (b1*p1-a1*q1) (p1*p1+q1*q1);obtain⟨sa,sb,S,Es⟩:=JD o 0 (i*c1);obtain⟨G,YD,e1,e2,e3,ad⟩:=Fz hN Ef;obtain⟨H,ac,e4,e6,e5,af⟩:=Fz Y Es;have ZP:sb=0:=by
  exact AcW
 subst ZP;have sf:=jF (n:=n+n+1) hN Ef m7 m8 m9;have ss:=jF (n:=n+n+1) Y Es (jl bo aa) (show(0:Int).natAbs<2^(n+n+1) from Na aa) (jl Yw aa);have Yz:d*(a'*a'+b'*b')≠0:=nk hd (qI R);have YA:D*S≠0:=nk aa aa;obtain⟨YC,YB⟩:=CG ea eb B j U eq eo ec e1 e2 e3 e4 e5;have E':(u,v,t)=nf (P*sa-fb*0) (P*0+fb*sa) (D*S):=by
  rw[E];refine pR Yz YA ?_ ?_
  .rw[YC];grind
  .rw[YB];grind
 have C:=bR (iV (bR sx.a sy.a) (bR sx.b sy.b)) sy.d;have k2:=bR (sK (bR sx.b sy.a) (bR sx.a sy.b)) sy.d;have k3:=bR sx.d (iV (bR sy.a sy.a) (bR sy.b sy.b));have sz:=jF (n:=n+(n+n+1)) Yz E (jl C aa) (jl k2 aa) k3;obtain⟨x1,x2,J⟩:=sx.nK aa;obtain⟨y1,y2,y3⟩:=sy.nK aa;obtain⟨f1,f2,f3⟩:=sf.nK aa;obtain⟨t1,t2,t3⟩:=ss.nK aa;obtain⟨s1,s2,s3⟩:=sz.nK aa;exact equotient_g gc v1 a b d v2 a' b' d' w hc L x1 x2 J M y1 y2 y3 g (aW hg) (bQ bg aa) h (aW hh) (bQ bh aa)
  a1 (aW (gF N ea)) (bQ T aa) (aW N) (aW ⟨_,ea⟩) b1 (aW (gF N eb)) (bQ V aa) (aW N) (aW ⟨_,eb⟩)
  p (aW (gF N B)) (bQ bp aa) (aW N) (aW ⟨_,B⟩) q (aW (gF N j)) (bQ bq aa) (aW N) (aW ⟨_,j⟩)
  i (aW hi) (bQ Q aa) p1 (aW (gF O U)) (bQ K aa) (aW O) (aW ⟨_,U⟩) q1 (aW (gF O eq)) (bQ Z aa) (aW O) (aW ⟨_,eq⟩)
  _ (aW rfl) (bQ m1 aa) _ (aW rfl) (bQ m2 aa) _ (aW rfl) (bQ m7 aa)
  _ (aW rfl) (bQ m3 aa) _ (aW rfl) (bQ m4 aa) _ (aW rfl) (bQ m8 aa)
  _ (aW rfl) (bQ m5 aa) _ (aW rfl) (bQ m6 aa) _ (aW rfl) (bQ m9 aa) (aW hN)
  P fb D (aW Ef) f1 f2 f3 o (aW (gF I eo)) (bQ bo aa) (aW I) (aW ⟨_,eo⟩)
  c1 (aW (gF I ec)) (bQ Yv aa) (aW I) (aW ⟨_,ec⟩) _ (aW rfl) (bQ Yw aa) (aW Y)
  sa 0 S (aW Es) t1 t2 t3 u v t (aW fun _ _ W h1 h2 h3=>Ah gc _ _ P fb D sa 0 S u v t (n+n+1) W h1 h2 h3 sf ss aa aa aa E') s1 s2 s3
def Qx(v s l b w)(L:RX w v s l)(h:lM s l=b):
  CE 96 #[v] w (.bool b):=by
 obtain⟨A,n,c,rfl,J⟩:=L;have:=iG s A n c l w J;rwa[h] at this
def yQ(v z w)(L:RI w v z)(D:z.natAbs<lim):
  CE 96 #[v] w (.bool ε):=Qx v _ _ ε w L (ae2 L D)
def PS(v0)(N J I:Int)(w)(Yw:RG w v0 N J I)(Zm:N.natAbs<lim)(Zl:J.natAbs<lim)(R:I.natAbs<lim)(H1:Hid (0<I))(K:Int)(Zo:Hid (K=(gG [I,N,J]:Nat)))(Zx:K.natAbs<lim)(H2:Hid (K=1)):
  CE 95 #[v0] w (.bool ε):=by
 have hS:=aeZ w;obtain⟨Q,O,L,G,W,T,P,Y,U,S,H,Z,rfl,V,YL,YK⟩:=Yw;replace hS:=hS.bI V;clear V;replace hS:=hS.bI YL;clear YL;replace hS:=hS.bI YK;clear YK;have B:=(St.al hS 42 #[Q,aO O L G,W,aO T P Y,U,aO S H Z] (g:=w.heap.size) ag);have YN:=(B.aH 0).cell;go_enter func95,ntmps95;go_wp2_with fail;clear YN;clear B;refine gA1 hS 42 #[Q,aO O L G,W,aO T P Y,U,aO S H Z] ?_;clear hS;intro w1 g1 o1 hS;refine(yQ _ N _ (hS.aF 2) Zm).mono ?_;rintro e w2 ⟨rfl,F⟩;replace hS:=hS.mv F;clear F;have YM:=(hS.aH 0).cell;go_wp2_with fail;clear YM;refine(yQ _ J _ (hS.aF 1) Zl).mono ?_;rintro e w3 ⟨rfl,F⟩;replace hS:=hS.mv F;clear F;have YR:=(hS.aH 0).cell;go_wp2_with fail;clear YR;refine(yQ _ I _ (hS.aF 0) R).mono ?_;rintro e w4 ⟨rfl,F⟩;replace hS:=hS.mv F;clear F;have YS:=(hS.aH 0).cell;go_wp2_with fail;clear YS;refine(GJ _ I (1) _ (hS.aF 0) R (yo H1.o)).mono ?_;rintro e w5 ⟨rfl,F⟩;replace hS:=hS.mv F;clear F;have YI:=(St.al hS 197 #[aJ] (g:=w5.heap.size) ag);have Zh:=(YI.aH 1).cell;go_wp2_with fail;clear Zh;clear YI;refine gA2 hS 197 #[aJ] 40 #[U,aO S H Z,Q,aO O L G,W,aO T P Y] ?_;clear hS;intro w6 g3 o3 C D hS;refine(ut g3 C I N J K _ (hS.aH 1) (hS.aH 0) (hS.aF 0) (hS.aF 2) (hS.aF 1) R Zm Zl Zo).mono ?_;rintro e w7 ⟨v_,rfl,M,F⟩;replace hS:=hS.mv F;clear F;obtain⟨Zt,Zd,Zv,Zr,rfl,j⟩:=RI.opn M;clear M;replace hS:=hS.bI j;clear j;go_wp2_with fail;refine(Ng _ K _ (hS.aF 0) H2.o).mono ?_;rintro e w8 ⟨rfl,F⟩;exact AaK
def Yd:(1:Int).natAbs<lim:=jy aa aa
def Tp(v u x y z w)(L:RI w v x)(M:RI w u y)(O:x.natAbs<lim)(S:y.natAbs<lim)(j:z=x+y)(D:z.natAbs<lim):
  CV 152 #[v,u] w fun v w'=>mM (z,0) v w':=by
 have:=NZ v u x y w L M O S;rwa[<-j,kW D] at this
def TP(v u x y z w)(L:RI w v x)(M:RI w u y)(O:x.natAbs<lim)(S:y.natAbs<lim)(j:z=x-y)(D:z.natAbs<lim):
  CV 148 #[v,u] w fun v w'=>mM (z,0) v w':=by
 have:=Vo v u x y w L M O S;rwa[<-j,kW D] at this
def UW(v u x y z w)(L:RI w v x)(M:RI w u y)(O:x.natAbs<lim)(S:y.natAbs<lim)(j:z=x*y)(D:z.natAbs<lim):
  CV 153 #[v,u] w fun v w'=>mM (z,0) v w':=by
 have:=TW v u x y w L M O S;rwa[<-j,kW D] at this
def Ua(v u)(x y z:Int)(w)(L:RI w v x)(M:RI w u y)(O:x.natAbs<lim)(S:y.natAbs<lim)(j:z=(Nat.gcd x.natAbs y.natAbs:Nat)):
  CV 146 #[v,u] w fun v w'=>mM (z,0) v w':=by
 subst j;exact TY v u x y w L M O S
def LX(v u x y q r w)(L:RI w v x)(M:RI w u y)(O:x.natAbs<lim)(S:y.natAbs<lim)(j:y≠0)(hq:q=x/y)(B:r=x%y):
  CV 182 #[v,u] w fun v w'=>Sb q r 0 v w':=by
 subst hq B;exact KF v u x y w L M O S j
def Qk{x y:Int}(O:x.natAbs<lim)(S:y.natAbs<lim):Nat.gcd x.natAbs y.natAbs<lim:=by
 rcases BB x.natAbs with h|h
 .rw[h,Nat.gcd_zero_left];exact S
 .exact ψ (Nat.gcd_le_left _ h) O
def ze(m0 w)(l0: -9223372036854775808<=m0)(u0:m0<=9223372036854775807):
  CV 55 #[.int .i64 m0] w fun v w'=>RI w' v m0:=by
 have hS:=aeZ w;go_enter func55,ntmps55;go_wp2_with fail;refine gA1 hS 40 #[ζ,()] ?_;clear hS;intro w1 g2 C hS;refine(Ty (m0) _ l0 u0).mono ?_;rintro e w2 ⟨H,rfl,M,F⟩;replace hS:=hS.mv F;clear F;obtain⟨s4,B,n4,c4,rfl,j⟩:=RI.opn M;clear M;replace hS:=hS.bI j;clear j;have G:=(hS.aH 0).cell;have D:=(hS.aH 0).frozen;go_wp2;replace hS:=hS.pt 0 0 [.bool s4,.slice B n4 c4] C;exact AaP
def UQ(v0 x0 v1 x1 w)(T:RI w v0 x0)(YD:x0.natAbs<lim)(D:RI w v1 x1)(O:x1.natAbs<lim)(J)(YH:Hid (J=x0+x1))(YC:J.natAbs<lim):
  CV 103 #[v0,v1] w fun v w'=>RI w' v J:=by
 have hS:=aeZ w;obtain⟨YB,V,Z,Y,rfl,R⟩:=T.opn;replace hS:=hS.bI R;clear T R;obtain⟨N,H,Q,G,rfl,L⟩:=D.opn;replace hS:=hS.bI L;clear D L;have B:=(St.al (St.al (St.al hS 40 #[YB,aO V Z Y] (g:=w.heap.size) ag) 40 #[N,aO H Q G] (g:=(w.heap.size+1)) ag) 40 #[ζ,()] (g:=(w.heap.size+2)) ag);have YN:=(B.aH 2).cell;have YM:=(B.aH 1).cell;go_enter func103,ntmps103;go_wp2_with fail;clear YN YM;clear B;refine gA3 hS 40 #[YB,aO V Z Y] 40 #[N,aO H Q G] 40 #[ζ,()] ?_;clear hS;intro w1 g2 o2 g3 o3 g4 o4 hS;refine(Tp _ _ x0 x1 J _ (hS.aF 1) (hS.aF 0) YD O YH.o YC).mono ?_;exact Aaj
def Dy(v u x y z w)(L:RI w v x)(M:RI w u y)(O:x.natAbs<lim)(S:y.natAbs<lim)(j:z=x+y)(D:z.natAbs<lim):
  CV 103 #[v,u] w fun v w'=>RI w' v z:=UQ v x u y w L O M S z (aW j) D
def P5(v0 x0 v1 x1 w)(T:RI w v0 x0)(YD:x0.natAbs<lim)(D:RI w v1 x1)(O:x1.natAbs<lim)(J)(YH:Hid (J=x0-x1))(YC:J.natAbs<lim):
  CV 100 #[v0,v1] w fun v w'=>RI w' v J:=by
 have hS:=aeZ w;obtain⟨YB,V,Z,Y,rfl,R⟩:=T.opn;replace hS:=hS.bI R;clear T R;obtain⟨N,H,Q,G,rfl,L⟩:=D.opn;replace hS:=hS.bI L;clear D L;have B:=(St.al (St.al (St.al hS 40 #[YB,aO V Z Y] (g:=w.heap.size) ag) 40 #[N,aO H Q G] (g:=(w.heap.size+1)) ag) 40 #[ζ,()] (g:=(w.heap.size+2)) ag);have YN:=(B.aH 2).cell;have YM:=(B.aH 1).cell;go_enter func100,ntmps100;go_wp2_with fail;clear YN YM;clear B;refine gA3 hS 40 #[YB,aO V Z Y] 40 #[N,aO H Q G] 40 #[ζ,()] ?_;clear hS;intro w1 g2 o2 g3 o3 g4 o4 hS;refine(TP _ _ x0 x1 J _ (hS.aF 1) (hS.aF 0) YD O YH.o YC).mono ?_;exact Aaj
def vJ(v u x y z w)(L:RI w v x)(M:RI w u y)(O:x.natAbs<lim)(S:y.natAbs<lim)(j:z=x-y)(D:z.natAbs<lim):
  CV 100 #[v,u] w fun v w'=>RI w' v z:=P5 v x u y w L O M S z (aW j) D
def Sj(v0 x0 v1 x1 w)(T:RI w v0 x0)(YD:x0.natAbs<lim)(D:RI w v1 x1)(O:x1.natAbs<lim)(J)(YH:Hid (J=x0*x1))(YC:J.natAbs<lim):
  CV 104 #[v0,v1] w fun v w'=>RI w' v J:=by
 have hS:=aeZ w;obtain⟨YB,V,Z,Y,rfl,R⟩:=T.opn;replace hS:=hS.bI R;clear T R;obtain⟨N,H,Q,G,rfl,L⟩:=D.opn;replace hS:=hS.bI L;clear D L;have B:=(St.al (St.al (St.al hS 40 #[YB,aO V Z Y] (g:=w.heap.size) ag) 40 #[N,aO H Q G] (g:=(w.heap.size+1)) ag) 40 #[ζ,()] (g:=(w.heap.size+2)) ag);have YN:=(B.aH 2).cell;have YM:=(B.aH 1).cell;go_enter func104,ntmps104;go_wp2_with fail;clear YN YM;clear B;refine gA3 hS 40 #[YB,aO V Z Y] 40 #[N,aO H Q G] 40 #[ζ,()] ?_;clear hS;intro w1 g2 o2 g3 o3 g4 o4 hS;refine(UW _ _ x0 x1 J _ (hS.aF 1) (hS.aF 0) YD O YH.o YC).mono ?_;exact Aaj
def jY(v u x y z w)(L:RI w v x)(M:RI w u y)(O:x.natAbs<lim)(S:y.natAbs<lim)(j:z=x*y)(D:z.natAbs<lim):
  CV 104 #[v,u] w fun v w'=>RI w' v z:=Sj v x u y w L O M S z (aW j) D
def WB(v0)(x0:Int)(v1)(x1:Int)(w)(T:RI w v0 x0)(YD:x0.natAbs<lim)(D:RI w v1 x1)(O:x1.natAbs<lim)(J:Int)(YH:Hid (J=(Nat.gcd x0.natAbs x1.natAbs:Nat)))(YC:J.natAbs<lim):
  CV 98 #[v0,v1] w fun v w'=>RI w' v J:=by
 have hS:=aeZ w;obtain⟨YB,V,Z,Y,rfl,R⟩:=T.opn;replace hS:=hS.bI R;clear T R;obtain⟨N,H,Q,G,rfl,L⟩:=D.opn;replace hS:=hS.bI L;clear D L;have B:=(St.al (St.al (St.al hS 40 #[YB,aO V Z Y] (g:=w.heap.size) ag) 40 #[N,aO H Q G] (g:=(w.heap.size+1)) ag) 40 #[ζ,()] (g:=(w.heap.size+2)) ag);have YN:=(B.aH 2).cell;have YM:=(B.aH 1).cell;go_enter func98,ntmps98;go_wp2_with fail;clear YN YM;clear B;refine gA3 hS 40 #[YB,aO V Z Y] 40 #[N,aO H Q G] 40 #[ζ,()] ?_;clear hS;intro w1 g2 o2 g3 o3 g4 o4 hS;refine(Ua _ _ x0 x1 J _ (hS.aF 1) (hS.aF 0) YD O YH.o).mono ?_;exact Aaj
def AY(v u)(x y z:Int)(w)(L:RI w v x)(M:RI w u y)(O:x.natAbs<lim)(S:y.natAbs<lim)(j:z=(Nat.gcd x.natAbs y.natAbs:Nat)):
  CV 98 #[v,u] w fun v w'=>RI w' v z:=WB v x u y w L O M S z (aW j) (by rw[j];exact Qk O S)
def XT(v0 x0 v1 x1 w)(Yw:RI w v0 x0)(YD:x0.natAbs<lim)(D:RI w v1 x1)(O:x1.natAbs<lim)(P)(Yx:Hid (P=x0/x1))(YE:P.natAbs<lim)(W)(Yu:Hid (W=x0%x1))(YC:Hid (x1≠0)):
  CV 149 #[v0,v1] w fun v w'=>RI w' v P:=by
 have hS:=aeZ w;obtain⟨YB,Yy,YA,Yz,rfl,Yv⟩:=Yw.opn;replace hS:=hS.bI Yv;clear Yw Yv;obtain⟨N,H,Q,G,rfl,L⟩:=D.opn;replace hS:=hS.bI L;clear D L;have B:=(St.al (St.al (St.al hS 40 #[YB,aO Yy YA Yz] (g:=w.heap.size) ag) 40 #[N,aO H Q G] (g:=(w.heap.size+1)) ag) 40 #[ζ,()] (g:=(w.heap.size+2)) ag);have YN:=(B.aH 2).cell;have YM:=(B.aH 1).cell;go_enter func149,ntmps149;go_wp2_with fail;clear YN YM;clear B;refine gA3 hS 40 #[YB,aO Yy YA Yz] 40 #[N,aO H Q G] 40 #[ζ,()] ?_;clear hS;intro w1 g2 o2 g3 o3 g4 o4 hS;refine(LX _ _ x0 x1 P W _ (hS.aF 1) (hS.aF 0) YD O YC.o Yx.o Yu.o).mono ?_;rintro e w2 ⟨v_,rfl,M,F⟩;replace hS:=hS.mv F;clear F;obtain⟨_,_,rfl,j,I⟩:=M;obtain⟨J,C,K,S,rfl,R⟩:=RI.opn j;obtain⟨Z,U,V,Y,rfl,T⟩:=RI.opn I;clear j I;replace hS:=hS.bI R;clear R;replace hS:=hS.bI T;clear T;have o5:Own w w2.heap.size:=aeX hS.ext ag;have o6:Own w (w2.heap.size+1):=aeX hS.ext ag;have YI:=(St.al (St.al hS 40 #[ζ,()] (g:=w2.heap.size) ag) 40 #[ζ,()] (g:=(w2.heap.size+1)) ag);have YR:=(YI.aH 1).cell;have YS:=(YI.aH 1).frozen;have YT:=(St.al (St.al hS 40 #[J,aO C K S] (g:=w2.heap.size) ag) 40 #[ζ,()] (g:=(w2.heap.size+1)) ag);have Zh:=(YT.aH 0).cell;have Zl:=(YT.aH 0).frozen;have YX:=(St.al (St.al hS 40 #[J,aO C K S] (g:=w2.heap.size) ag) 40 #[Z,aO U V Y] (g:=(w2.heap.size+1)) ag);have Zm:=(YX.aH 1).cell;have ZV:=(YX.aH 2).cell;have ZX:=(YX.aH 2).frozen;go_wp2;replace hS:=(St.al (St.al hS 40 #[J,aO C K S] (g:=w2.heap.size) ag) 40 #[Z,aO U V Y] (g:=w2.heap.size+1) ag).pt 2 0 [.bool J,.slice C K S] o4;exact fK rfl rfl rfl (hS.aH 2) ⟨_,rfl,(hS.aF 1),hS.ext⟩
def QE(v u x y z w)(L:RI w v x)(M:RI w u y)(O:x.natAbs<lim)(S:y.natAbs<lim)(R:y≠0)(j:z=x/y)(D:z.natAbs<lim):
  CV 149 #[v,u] w fun v w'=>RI w' v z:=XT v x u y w L O M S z (aW j) D _ (aW rfl) (aW R)
def IX(v0 Y v1 J w)(R:RI w v0 Y)(YD:Y.natAbs<lim)(D:RI w v1 J)(O:J.natAbs<lim)(H1:Hid (0<J))(I)(C:Hid (I=Y/J))(j:I.natAbs<lim)(YC:Hid (J≠0)):
  CV 101 #[v0,v1] w fun v w'=>RI w' v I:=by
 have hS:=aeZ w;obtain⟨W,S,V,U,rfl,K⟩:=R.opn;replace hS:=hS.bI K;clear R K;obtain⟨N,H,Q,G,rfl,L⟩:=D.opn;replace hS:=hS.bI L;clear D L;have B:=(St.al (St.al (St.al hS 40 #[W,aO S V U] (g:=w.heap.size) ag) 40 #[N,aO H Q G] (g:=(w.heap.size+1)) ag) 40 #[ζ,()] (g:=(w.heap.size+2)) ag);have YN:=(B.aH 1).cell;go_enter func101,ntmps101;go_wp2_with fail;clear YN;clear B;refine gA3 hS 40 #[W,aO S V U] 40 #[N,aO H Q G] 40 #[ζ,()] ?_;clear hS;intro w1 g2 o2 g3 o3 g4 o4 hS;refine(yh _ J (1) _ (hS.aF 0) O (yo H1.o)).mono ?_;rintro e w2 ⟨rfl,F⟩;replace hS:=hS.mv F;clear F;have YM:=(hS.aH 2).cell;have YR:=(hS.aH 1).cell;go_wp2_with fail;clear YM YR;refine(QE _ _ Y J I _ (hS.aF 1) (hS.aF 0) YD O YC.o C.o j).mono ?_;rintro e w3 ⟨v_,rfl,M,F⟩;replace hS:=hS.mv F;clear F;obtain⟨YH,T,Z,YG,rfl,P⟩:=RI.opn M;clear M;replace hS:=hS.bI P;clear P;have YS:=(hS.aH 0).cell;have Zh:=(hS.aH 0).frozen;go_wp2;replace hS:=hS.pt 0 0 [.bool YH,.slice T Z YG] o4;exact AaP
def IL(v0 x0 v1 x1 w)(Yw:RI w v0 x0)(YD:x0.natAbs<lim)(D:RI w v1 x1)(O:x1.natAbs<lim)(H1:Hid (x1<0))(J)(YH:Hid (J=(0)-x0))(YC:J.natAbs<lim)(V)(YE:Hid (V=(0)-x1))(YQ:V.natAbs<lim)(YI)(ZM:Hid (YI=J/V))(Zh:YI.natAbs<lim)(YF:Hid (V≠0)):
  CV 101 #[v0,v1] w fun v w'=>RI w' v YI:=by
 have hS:=aeZ w;obtain⟨YB,Yy,YA,Yz,rfl,Yv⟩:=Yw.opn;replace hS:=hS.bI Yv;clear Yw Yv;obtain⟨N,H,Q,G,rfl,L⟩:=D.opn;replace hS:=hS.bI L;clear D L;have B:=(St.al (St.al (St.al hS 40 #[YB,aO Yy YA Yz] (g:=w.heap.size) ag) 40 #[N,aO H Q G] (g:=(w.heap.size+1)) ag) 40 #[ζ,()] (g:=(w.heap.size+2)) ag);have YN:=(B.aH 1).cell;go_enter func101,ntmps101;go_wp2_with fail;clear YN;clear B;refine gA3 hS 40 #[YB,aO Yy YA Yz] 40 #[N,aO H Q G] 40 #[ζ,()] ?_;clear hS;intro w1 g2 o2 g3 o3 g4 o4 hS;refine(yh _ x1 (-1) _ (hS.aF 0) O (Bw H1.o)).mono ?_;rintro e w2 ⟨rfl,F⟩;replace hS:=hS.mv F;clear F;go_wp2_with fail;have Y3:=aX.blk (hS.aH 1);have Y2:=aX.blk (hS.aH 2);have C:=hS.ext;refine tF 7 [(0,.ri ((0))),(2,.ri (J)),(3,.ri ((0))),(5,.ri (V)),(6,.ri (YI))] ?_;refine Ei (fun R I=>ze (0) _ aa aa) ?_;intro s8 Z n8 c8 YS ZR;refine Qs ?_;refine Ei (fun R I=>vJ _ _ (0) x0 J _ (I.f 0 ((iv s8 Z n8 c8),YS,ZR)) (hS.aD 1 I.1) (jy aa aa) YD YH.o YC) ?_;intro W K P S Zf YU;refine Ei (fun R I=>ze (0) _ aa aa) ?_;intro Y M U T YK ZY;refine Qs ?_;refine Ei (fun R I=>vJ _ _ (0) x1 V _ (I.f 3 ((iv Y M U T),YK,ZY)) (hS.aD 0 I.1) (jy aa aa) O YE.o YQ) ?_;intro Yu Yx YP c13 Zi Zj;refine Ei (fun R I=>QE _ _ J V YI _ (I.f 2 ((iv W K P S),Zf,YU)) (I.f 5 ((iv Yu Yx YP c13),Zi,Zj)) YC YQ YF.o ZM.o Zh) ?_;intro YY YV YX c14 Zq Zk;refine bN ?_;intro w3 I;have j:=hS.lt;replace hS:=hS.mv I.ext;replace hS:=hS.aI I 0;replace hS:=hS.aI I 2;replace hS:=hS.aI I 3;replace hS:=hS.aI I 5;replace hS:=hS.aI I 6;clear I j C Y3 Y2;have YM:=(hS.aH 0).cell;have YR:=(hS.aH 0).frozen;go_wp2;replace hS:=hS.pt 0 0 [.bool YY,.slice YV YX c14] o4;exact AaP
def kZ(v u x y z w)(L:RI w v x)(M:RI w u y)(O:x.natAbs<lim)(S:y.natAbs<lim)(R:y≠0)(hd:y∣x)(j:z=x/y):
  CV 101 #[v,u] w fun v w'=>RI w' v z:=by
 have Z:z.natAbs<lim:=by rw[j];exact kD O hd
 by_cases h:y<0
 .refine IL v x u y w L O M S (aW h) (0-x) (aW rfl) aa (0-y) (aW rfl) aa z (aW ?_) Z (aW aa);rw[j];obtain⟨k,rfl⟩:=hd;have e:0-y*k=(0-y)*k:=ak;rw[e,abq _ R,abq _ aa]
 .exact IX v x u y w L O M S (aW aa) z (aW j) Z (aW R)
def Vv(v0)(x0:Int)(v1)(x1:Int)(v2)(x2:Int)(w)(Yw:RI w v0 x0)(YD:x0.natAbs<lim)(D:RI w v1 x1)(O:x1.natAbs<lim)(YV:RI w v2 x2)(YG:x2.natAbs<lim)(H1:Hid (x2<0))(J:Int)(YH:Hid (J=(Nat.gcd x0.natAbs x1.natAbs:Nat)))(YC:J.natAbs<lim)(M:Int)(ZF:Hid (M=(Nat.gcd J.natAbs x2.natAbs:Nat)))(YO:M.natAbs<lim)(Yx:Int)(ZJ:Hid (Yx=(0)-M))(Zd:Yx.natAbs<lim)(Yu:Int)(Zj:Hid (Yu=x0/Yx))(Zi:Yu.natAbs<lim)(ZE:Hid (Yx≠0))(Zv:Hid (Yx∣x0))(Y:Int)(ac:Hid (Y=x1/Yx))(aq:Y.natAbs<lim)(Zy:Hid (Yx≠0))(YX:Hid (Yx∣x1))(YI:Int)(Zz:Hid (YI=x2/Yx))(ZL:YI.natAbs<lim)(ZC:Hid (Yx≠0))(YY:Hid (Yx∣x2)):
  CV 54 #[v0,v1,v2] w fun v w'=>RG w' v Yu Y YI:=by
 have hS:=aeZ w;obtain⟨YB,Yy,YA,Yz,rfl,Yv⟩:=Yw.opn;replace hS:=hS.bI Yv;clear Yw Yv;obtain⟨N,H,Q,G,rfl,L⟩:=D.opn;replace hS:=hS.bI L;clear D L;obtain⟨Z,T,U,V,rfl,YF⟩:=YV.opn;replace hS:=hS.bI YF;clear YV YF;go_enter func54,ntmps54;go_wp2_with fail;refine gA4 hS 40 #[YB,aO Yy YA Yz] 40 #[N,aO H Q G] 40 #[Z,aO T U V] 42 aQ3 ?_;clear hS;intro w1 g3 o3 g4 o4 g5 o5 g6 o6 hS;have Y5:=aX.blk (hS.aH 1);have Y4:=aX.blk (hS.aH 2);have Y3:=aX.blk (hS.aH 3);have C:=hS.ext;refine tF 6 [(2,.ri (J)),(4,.ri (M)),(5,.box 40 #[ζ,()])] ?_;refine Qs ?_;refine Ei (fun R I=>AY _ _ x0 x1 J _ (hS.aD 2 I.1) (hS.aD 1 I.1) YD O YH.o) ?_;intro W K P S Zf YU;refine Qs ?_;refine Ei (fun R I=>AY _ _ J x2 M _ (I.f 2 ((iv W K P S),Zf,YU)) (hS.aD 0 I.1) YC YG ZF.o) ?_;intro YJ YT YE YK ZU ZT;refine Eb ?_;intro g7 YL YW;refine bN ?_;intro w2 I;have j:=hS.lt;replace hS:=hS.mv I.ext;replace hS:=hS.aI I 2;replace hS:=hS.aI I 4;have Zg:=I.lw 5;have o7:Own w g7:=aeX C Zg;replace hS:=hS.aB I 5 g7 (apF j Zg);clear I j C Y5 Y4 Y3;clear Zg YW YL;have YN:=(hS.aH 0).cell;have YM:=(hS.aH 0).frozen;have B:=hS.pt 0 0 [.bool YJ,.slice YT YE YK] o7;have YR:=(B.aH 2).cell;go_wp2_with fail;clear YN YM YR;clear B;replace hS:=hS.pt 0 0 [.bool YJ,.slice YT YE YK] o7;refine gW hS ?_;clear hS;intro w3 hS;refine(yh _ x2 (-1) _ (hS.aF 2) YG (Bw H1.o)).mono ?_;rintro e w4 ⟨rfl,F⟩;replace hS:=hS.mv F;clear F;go_wp2_with fail;have Y7:=aX.blk (hS.aH 0);have C:=hS.ext;refine tF 3 [(0,.ri ((0))),(2,.ri (Yx))] ?_;refine Ei (fun R I=>ze (0) _ aa aa) ?_;intro Zo ZK Zp Zw Z8 ZM;refine Qs ?_;refine Ei (fun R I=>vJ _ _ (0) M Yx _ (I.f 0 ((iv Zo ZK Zp Zw),Z8,ZM)) (hS.aD 0 I.1) (jy aa aa) YO ZJ.o Zd) ?_;intro Zx ZI Zk Zq ZN ao;refine bN ?_;intro w5 I;have j:=hS.lt;replace hS:=hS.mv I.ext;replace hS:=hS.aI I 0;replace hS:=hS.aI I 2;clear I j C Y7;have YS:=(hS.aH 0).cell;have Zh:=(hS.aH 0).frozen;go_wp2_with fail;clear YS Zh;replace hS:=hS.pt 0 0 [.bool Zx,.slice ZI Zk Zq] o7;refine gW hS ?_;clear hS;intro w6 hS;have Y7:=aX.blk (hS.aH 0);have Y5:=aX.blk (hS.aH 2);have Y4:=aX.blk (hS.aH 3);have Y3:=aX.blk (hS.aH 4);have C:=hS.ext;refine tF 10 [(2,.ri (Yu)),(5,.ri (Y)),(8,.ri (YI))] ?_;refine Qs ?_;refine Ei (fun R I=>kZ _ _ x0 Yx Yu _ (hS.aD 6 I.1) (hS.aD 0 I.1) YD Zd ZE.o Zv.o Zj.o) ?_;intro Zc YP YQ Za ZH ZG;refine Qs ?_;refine Ei (fun R I=>kZ _ _ x1 Yx Y _ (hS.aD 5 I.1) (hS.aD 0 I.1) O Zd Zy.o YX.o ac.o) ?_;intro ad YZ af ai ap am;refine Qs ?_;refine Ei (fun R I=>kZ _ _ x2 Yx YI _ (hS.aD 4 I.1) (hS.aD 0 I.1) YG Zd ZC.o YY.o Zz.o) ?_;intro Zr Ze Zn Zt ZB ZA;refine Qs ?_;refine bN ?_;intro w7 I;have j:=hS.lt;replace hS:=hS.mv I.ext;replace hS:=hS.aI I 2;replace hS:=hS.aI I 5;replace hS:=hS.aI I 8;clear I j C Y7 Y5 Y4 Y3;have Zl:=(hS.aH 1).cell;have Zm:=(hS.aH 1).frozen;exact AaU
def UM(v0)(x0:Int)(v1)(x1:Int)(v2)(x2:Int)(w)(Yw:RI w v0 x0)(YD:x0.natAbs<lim)(D:RI w v1 x1)(O:x1.natAbs<lim)(YV:RI w v2 x2)(YG:x2.natAbs<lim)(H1:Hid (0<x2))(J:Int)(YH:Hid (J=(Nat.gcd x0.natAbs x1.natAbs:Nat)))(YC:J.natAbs<lim)(M:Int)(ZF:Hid (M=(Nat.gcd J.natAbs x2.natAbs:Nat)))(YO:M.natAbs<lim)(Yu:Int)(Zj:Hid (Yu=x0/M))(Zi:Yu.natAbs<lim)(ZE:Hid (M≠0))(Zv:Hid (M∣x0))(Y:Int)(ac:Hid (Y=x1/M))(ap:Y.natAbs<lim)(Zy:Hid (M≠0))(YX:Hid (M∣x1))(YI:Int)(Zz:Hid (YI=x2/M))(ZL:YI.natAbs<lim)(ZC:Hid (M≠0))(YY:Hid (M∣x2)):
  CV 54 #[v0,v1,v2] w fun v w'=>RG w' v Yu Y YI:=by
 have hS:=aeZ w;obtain⟨YB,Yy,YA,Yz,rfl,Yv⟩:=Yw.opn;replace hS:=hS.bI Yv;clear Yw Yv;obtain⟨N,H,Q,G,rfl,L⟩:=D.opn;replace hS:=hS.bI L;clear D L;obtain⟨Z,T,U,V,rfl,YF⟩:=YV.opn;replace hS:=hS.bI YF;clear YV YF;go_enter func54,ntmps54;go_wp2_with fail;refine gA4 hS 40 #[YB,aO Yy YA Yz] 40 #[N,aO H Q G] 40 #[Z,aO T U V] 42 aQ3 ?_;clear hS;intro w1 g3 o3 g4 o4 g5 o5 g6 o6 hS;have Y5:=aX.blk (hS.aH 1);have Y4:=aX.blk (hS.aH 2);have Y3:=aX.blk (hS.aH 3);have C:=hS.ext;refine tF 6 [(2,.ri (J)),(4,.ri (M)),(5,.box 40 #[ζ,()])] ?_;refine Qs ?_;refine Ei (fun R I=>AY _ _ x0 x1 J _ (hS.aD 2 I.1) (hS.aD 1 I.1) YD O YH.o) ?_;intro W K P S Zf YU;refine Qs ?_;refine Ei (fun R I=>AY _ _ J x2 M _ (I.f 2 ((iv W K P S),Zf,YU)) (hS.aD 0 I.1) YC YG ZF.o) ?_;intro YJ YT YE YK ZU ZT;refine Eb ?_;intro g7 YL YW;refine bN ?_;intro w2 I;have j:=hS.lt;replace hS:=hS.mv I.ext;replace hS:=hS.aI I 2;replace hS:=hS.aI I 4;have Zg:=I.lw 5;have o7:Own w g7:=aeX C Zg;replace hS:=hS.aB I 5 g7 (apF j Zg);clear I j C Y5 Y4 Y3;clear Zg YW YL;have YN:=(hS.aH 0).cell;have YM:=(hS.aH 0).frozen;have B:=hS.pt 0 0 [.bool YJ,.slice YT YE YK] o7;have YR:=(B.aH 2).cell;go_wp2_with fail;clear YN YM YR;clear B;replace hS:=hS.pt 0 0 [.bool YJ,.slice YT YE YK] o7;refine gW hS ?_;clear hS;intro w3 hS;refine(yh _ x2 (1) _ (hS.aF 2) YG (yo H1.o)).mono ?_;rintro e w4 ⟨rfl,F⟩;replace hS:=hS.mv F;clear F;go_wp2_with fail;have Y7:=aX.blk (hS.aH 0);have Y5:=aX.blk (hS.aH 2);have Y4:=aX.blk (hS.aH 3);have Y3:=aX.blk (hS.aH 4);have C:=hS.ext;refine tF 10 [(2,.ri (Yu)),(5,.ri (Y)),(8,.ri (YI))] ?_;refine Qs ?_;refine Ei (fun R I=>kZ _ _ x0 M Yu _ (hS.aD 4 I.1) (hS.aD 0 I.1) YD YO ZE.o Zv.o Zj.o) ?_;intro Zc YP YQ Za ZH ZG;refine Qs ?_;refine Ei (fun R I=>kZ _ _ x1 M Y _ (hS.aD 3 I.1) (hS.aD 0 I.1) O YO Zy.o YX.o ac.o) ?_;intro ad YZ af ai ao am;refine Qs ?_;refine Ei (fun R I=>kZ _ _ x2 M YI _ (hS.aD 2 I.1) (hS.aD 0 I.1) YG YO ZC.o YY.o Zz.o) ?_;intro Zr Ze Zn Zt ZB ZA;refine Qs ?_;refine bN ?_;intro w5 I;have j:=hS.lt;replace hS:=hS.mv I.ext;replace hS:=hS.aI I 2;replace hS:=hS.aI I 5;replace hS:=hS.aI I 8;clear I j C Y7 Y5 Y4 Y3;have YS:=(hS.aH 1).cell;have Zh:=(hS.aH 1).frozen;exact AaU
theorem CK(v1 M L B j J a b d w)(R:RI w v1 B)(Q:RI w M j)(T:RI w L J)(C:B.natAbs<lim)(D:j.natAbs<lim)(F:J.natAbs<lim)(hd:J≠0)(E:(a,b,d)=nf B j J):
  CV 54 #[v1,M,L] w fun v w'=>RG w' v a b d:=by
 obtain⟨P,O,d3⟩:=Kq B j J;have N:=FE (a:=B) (b:=j) hd;have K:=VN C D F;have U:((Nat.gcd (Nat.gcd B.natAbs j.natAbs:Int).natAbs J.natAbs:Nat):Int)=g3 B j J:=by rw[Int.natAbs_natCast,W9]
 have g1:=Qk C D;unfold nf gZ sgZ at E;by_cases hn:J<0
 .rw[ι hn] at E;have e1:(-1:Int)*(g3 B j J:Int)=0-(g3 B j J:Int):=aa;rw[e1] at E;injection E with I E;injection E with G H;have n1:0-(g3 B j J:Int)≠0:=aa;have q1:0-(g3 B j J:Int)∣B:=by rw[ad8];exact acf.2 P
  have q2:0-(g3 B j J:Int)∣j:=by rw[ad8];exact acf.2 O
  have S:0-(g3 B j J:Int)∣J:=by rw[ad8];exact acf.2 d3
  exact Vv v1 B M j L J w R C Q D T F (aW hn) _ (aW rfl) (by simpa using g1) _ (aW U.symm) (by simpa using K) _ (aW rfl) aa a (aW I) (by rw[I];exact kD C q1) (aW n1) (aW q1) b (aW G) (by rw[G];exact kD D q2) (aW n1) (aW q2) d (aW H) (by rw[H];exact kD F S) (aW n1) (aW S)
 .rw[θ hn,aeI] at E;injection E with I E;injection E with G H;have n1:(g3 B j J:Int)≠0:=aa;exact UM v1 B M j L J w R C Q D T F (aW aa) _ (aW rfl) (by simpa using g1) _ (aW U.symm) (by simpa using K) a (aW I) (by rw[I];exact kD C P) (aW n1) (aW P) b (aW G) (by rw[G];exact kD D O) (aW n1) (aW O) d (aW H) (by rw[H];exact kD F d3) (aW n1) (aW d3)
def Xi(m0 m1 w)(l0: -9223372036854775808<=m0)(u0:m0<=9223372036854775807)(l1: -9223372036854775808<=m1)(u1:m1<=9223372036854775807)(Yu:Hid ((1:Int)≠0))(G H C)(YH:Hid ((G,H,C)=nf (m0) (m1) (1:Int)))(Yx:G.natAbs<lim)(Yw:H.natAbs<lim)(Yv:C.natAbs<lim):
  CV 18 #[.int .i64 m0,.int .i64 m1] w fun v w'=>RG w' v G H C:=by
 have hS:=aeZ w;go_enter func18,ntmps18;go_wp2_with fail;refine gA1 hS 42 aQ3 ?_;clear hS;intro w1 g4 o4 hS;refine(ze (m0) _ l0 u0).mono ?_;rintro e w2 ⟨v_,rfl,M,F⟩;replace hS:=hS.mv F;clear F;obtain⟨s6,Yy,n6,c6,rfl,I⟩:=RI.opn M;clear M;replace hS:=hS.bI I;clear I;go_wp2_with fail;refine(ze (m1) _ l1 u1).mono ?_;rintro e w3 ⟨v_,rfl,M,F⟩;replace hS:=hS.mv F;clear F;obtain⟨s8,Z,n8,c8,rfl,J⟩:=RI.opn M;clear M;replace hS:=hS.bI J;clear J;go_wp2_with fail;refine(ze (1) _ aa aa).mono ?_;rintro e w4 ⟨v_,rfl,M,F⟩;replace hS:=hS.mv F;clear F;obtain⟨s9,ac,n9,c9,rfl,K⟩:=RI.opn M;clear M;replace hS:=hS.bI K;clear K;go_wp2_with fail;refine(CK _ _ _ (m0) (m1) (1:Int) G H C _ (hS.aF 2) (hS.aF 1) (hS.aF 0) (jy l0 u0) (jy l1 u1) (jy aa aa) Yu.o YH.o).mono ?_;rintro e w5 ⟨v_,rfl,M,F⟩;replace hS:=hS.mv F;clear F;obtain⟨T,O,P,S,W,N,R,Q,Y,L,V,U,rfl,j,D,B⟩:=M;replace hS:=hS.bI j;clear j;replace hS:=hS.bI D;clear D;replace hS:=hS.bI B;clear B;have YN:=(hS.aH 0).cell;have YM:=(hS.aH 0).frozen;go_wp2;replace hS:=hS.pt 0 0 [.bool T,.slice O P S,.bool W,.slice N R Q,.bool Y,.slice L V U] o4;exact dG rfl rfl rfl (hS.aH 0) ⟨_,rfl,RG.mk (hS.aF 2) (hS.aF 1) (hS.aF 0),hS.ext⟩
theorem Xq(a b):Low a b 1:=⟨aa,by unfold g3;simp⟩
def MH(m n w)(l0: -9223372036854775808<=m)(u0:m<=9223372036854775807)(l1: -9223372036854775808<=n)(u1:n<=9223372036854775807):
  CV 18 #[.int .i64 m,.int .i64 n] w fun v w'=>RG w' v m n 1:=
 Xi m n w l0 u0 l1 u1 (aW aa) m n 1 (aW (BM (Xq m n)).symm) (jy l0 u0) (jy l1 u1) Yd
structure Df (m n:Nat) (a b d a' b' d' u v t:Int):Prop where
 sx:Sz m a b d
 sy:Sz n a' b' d'
 hn:m+n+1<=12800
 hd:d≠0
 hd':d'≠0
 E:(u,v,t)=nf (a*d'+a'*d) (b*d'+b'*d) (d*d')
structure zD (m n:Nat) (a b d a' b' d' u v t:Int):Prop where
 sx:Sz m a b d
 sy:Sz n a' b' d'
 hn:m+n+1<=12800
 hd:d≠0
 hd':d'≠0
 E:(u,v,t)=nf (a*a'-b*b') (a*b'+b*a') (d*d')
def Df.size{m n a b d a' b' d' u v t}(h:Df m n a b d a' b' d' u v t):Sz (m+n+1) u v t:=by
 refine jF (nk h.hd h.hd') h.E (iV (bR h.sx.a h.sy.d) ?_) (iV (bR h.sx.b h.sy.d) ?_) (jl (bR h.sx.d h.sy.d) aa)
 .rw[aaX];exact bR h.sy.a h.sx.d
 .rw[aaX];exact bR h.sy.b h.sx.d
def zD.size{m n a b d a' b' d' u v t}(h:zD m n a b d a' b' d' u v t):Sz (m+n+1) u v t:=
 jF (nk h.hd h.hd') h.E (sK (bR h.sx.a h.sy.a) (bR h.sx.b h.sy.b)) (iV (bR h.sx.a h.sy.b) (bR h.sx.b h.sy.a)) (jl (bR h.sx.d h.sy.d) aa)
def af8{x y m n a b d a' b' d' u v t}(J:Is x a b d)(sx:Sz m a b d)(R:Is y a' b' d')(sy:Sz n a' b' d')(h:Is (x+y) u v t)(hn:m+n+1<=12800):Df m n a b d a' b' d' u v t:=by
 have B:=gL J.dne;have j:=gL R.dne;refine⟨sx,sy,hn,J.dne,R.dne,(h.EC (nk J.dne R.dne) ?_ ?_).symm⟩
 .rw[GQ.bT,J.re,R.re];exact AaF
 .rw[GQ.bS,J.im,R.im];exact AaF
def afJ{x y m n a b d a' b' d' u v t}(J:Is x a b d)(sx:Sz m a b d)(R:Is y a' b' d')(sy:Sz n a' b' d')(h:Is (x*y) u v t)(hn:m+n+1<=12800):zD m n a b d a' b' d' u v t:=by
 have B:=gL J.dne;have j:=gL R.dne;refine⟨sx,sy,hn,J.dne,R.dne,(h.EC (nk J.dne R.dne) ?_ ?_).symm⟩
 .exact Acn
 .rw[GQ.bK,J.re,R.re,J.im,R.im];exact AaF
def Wn(v0 Zj Zi Zg v1 YQ YP YO w)(Yw:RG w v0 Zj Zi Zg)(Zm:Zj.natAbs<lim)(Zl:Zi.natAbs<lim)(YT:Zg.natAbs<lim)(D:RG w v1 YQ YP YO)(ZC:YQ.natAbs<lim)(ZB:YP.natAbs<lim)(Za:YO.natAbs<lim)(z9)(E9:Hid (z9=Zj*YO))(A9:z9.natAbs<lim)(YI)(ZM:Hid (YI=YQ*Zg))(Zh:YI.natAbs<lim)(K)(ZF:Hid (K=z9+YI))(YZ:K.natAbs<lim)(YS)(ap:Hid (YS=Zi*YO))(ZE:YS.natAbs<lim)(N)(ax:Hid (N=YP*Zg))(ZA:N.natAbs<lim)(YR)(aE:Hid (YR=YS+N))(Z8:YR.natAbs<lim)(YU)(Zo:Hid (YU=Zg*YO))(Zx:YU.natAbs<lim)(am:Hid (YU≠0))(F M B)(az:Hid ((F,M,B)=nf K YR YU))(a2:F.natAbs<lim)(a0:M.natAbs<lim)(a1:B.natAbs<lim):
  CV 56 #[v0,v1] w fun v w'=>RG w' v F M B:=by
 have hS:=aeZ w;obtain⟨Yv,Yu,L,G,W,T,P,Y,U,S,H,Z,rfl,YJ,YL,YK⟩:=Yw;replace hS:=hS.bI YJ;clear YJ;replace hS:=hS.bI YL;clear YL;replace hS:=hS.bI YK;clear YK;obtain⟨YC,Yz,Yy,YB,YD,YE,YA,Yx,Q,O,J,V,rfl,YG,YH,YF⟩:=D;replace hS:=hS.bI YG;clear YG;replace hS:=hS.bI YH;clear YH;replace hS:=hS.bI YF;clear YF;go_enter func56,ntmps56;go_wp2_with fail;refine gA3 hS 42 #[Yv,aO Yu L G,W,aO T P Y,U,aO S H Z] 42 #[YC,aO Yz Yy YB,YD,aO YE YA Yx,Q,aO O J V] 42 aQ3 ?_;clear hS;intro w1 g2 o2 g3 o3 g4 o4 hS;have Y3:=aX.blk (hS.aH 1);have Y2:=aX.blk (hS.aH 2);have C:=hS.ext;refine tF 28 [(4,.ri (z9)),(9,.ri (YI)),(10,.ri (K)),(15,.ri (YS)),(20,.ri (N)),(21,.ri (YR)),(26,.ri (YU)),(27,.rg (F) (M) (B))] ?_;refine Qs ?_;refine Ei (fun R I=>jY _ _ Zj YO z9 _ (hS.aD 5 I.1) (hS.aD 0 I.1) Zm Za E9.o A9) ?_;intro s9 ay n9 c9 ZU aw;refine Qs ?_;refine Ei (fun R I=>jY _ _ YQ Zg YI _ (hS.aD 2 I.1) (hS.aD 3 I.1) ZC YT ZM.o Zh) ?_;intro YY YV YX c14 Zq Zk;refine Ei (fun R I=>Dy _ _ z9 YI K _ (I.f 4 ((iv s9 ay n9 c9),ZU,aw)) (I.f 9 ((iv YY YV YX c14),Zq,Zk)) A9 Zh ZF.o YZ) ?_;intro Zf YW Ze Zn ZV Zc;refine Qs ?_;refine Ei (fun R I=>jY _ _ Zi YO YS _ (hS.aD 4 I.1) (hS.aD 0 I.1) Zl Za ap.o ZE) ?_;intro Zy Zp Zw Zz ZL ZK;refine Qs ?_;refine Ei (fun R I=>jY _ _ YP Zg N _ (hS.aD 1 I.1) (hS.aD 3 I.1) ZB YT ax.o ZA) ?_;exact Aao
def Wp(v0 Zj Zi Zg v1 YQ YP YO w)(Yw:RG w v0 Zj Zi Zg)(Zm:Zj.natAbs<lim)(Zl:Zi.natAbs<lim)(YT:Zg.natAbs<lim)(D:RG w v1 YQ YP YO)(ZC:YQ.natAbs<lim)(ZB:YP.natAbs<lim)(Za:YO.natAbs<lim)(z9)(E9:Hid (z9=Zj*YQ))(A9:z9.natAbs<lim)(YI)(ZM:Hid (YI=Zi*YP))(Zh:YI.natAbs<lim)(K)(ZF:Hid (K=z9-YI))(YZ:K.natAbs<lim)(YS)(ap:Hid (YS=Zj*YP))(ZE:YS.natAbs<lim)(N)(ax:Hid (N=Zi*YQ))(ZA:N.natAbs<lim)(YR)(aE:Hid (YR=YS+N))(Z8:YR.natAbs<lim)(YU)(Zo:Hid (YU=Zg*YO))(Zx:YU.natAbs<lim)(am:Hid (YU≠0))(F M B)(az:Hid ((F,M,B)=nf K YR YU))(a2:F.natAbs<lim)(a0:M.natAbs<lim)(a1:B.natAbs<lim):
  CV 57 #[v0,v1] w fun v w'=>RG w' v F M B:=by
 have hS:=aeZ w;obtain⟨Yv,Yu,L,G,W,T,P,Y,U,S,H,Z,rfl,YJ,YL,YK⟩:=Yw;replace hS:=hS.bI YJ;clear YJ;replace hS:=hS.bI YL;clear YL;replace hS:=hS.bI YK;clear YK;obtain⟨YC,Yz,Yy,YB,YD,YE,YA,Yx,Q,O,J,V,rfl,YG,YH,YF⟩:=D;replace hS:=hS.bI YG;clear YG;replace hS:=hS.bI YH;clear YH;replace hS:=hS.bI YF;clear YF;go_enter func57,ntmps57;go_wp2_with fail;refine gA3 hS 42 #[Yv,aO Yu L G,W,aO T P Y,U,aO S H Z] 42 #[YC,aO Yz Yy YB,YD,aO YE YA Yx,Q,aO O J V] 42 aQ3 ?_;clear hS;intro w1 g2 o2 g3 o3 g4 o4 hS;have Y3:=aX.blk (hS.aH 1);have Y2:=aX.blk (hS.aH 2);have C:=hS.ext;refine tF 28 [(4,.ri (z9)),(9,.ri (YI)),(10,.ri (K)),(15,.ri (YS)),(20,.ri (N)),(21,.ri (YR)),(26,.ri (YU)),(27,.rg (F) (M) (B))] ?_;refine Qs ?_;refine Ei (fun R I=>jY _ _ Zj YQ z9 _ (hS.aD 5 I.1) (hS.aD 2 I.1) Zm ZC E9.o A9) ?_;intro s9 ay n9 c9 ZU aw;refine Qs ?_;refine Ei (fun R I=>jY _ _ Zi YP YI _ (hS.aD 4 I.1) (hS.aD 1 I.1) Zl ZB ZM.o Zh) ?_;intro YY YV YX c14 Zq Zk;refine Ei (fun R I=>vJ _ _ z9 YI K _ (I.f 4 ((iv s9 ay n9 c9),ZU,aw)) (I.f 9 ((iv YY YV YX c14),Zq,Zk)) A9 Zh ZF.o YZ) ?_;intro Zf YW Ze Zn ZV Zc;refine Qs ?_;refine Ei (fun R I=>jY _ _ Zj YP YS _ (hS.aD 5 I.1) (hS.aD 1 I.1) Zm ZB ap.o ZE) ?_;intro Zy Zp Zw Zz ZL ZK;refine Qs ?_;refine Ei (fun R I=>jY _ _ Zi YQ N _ (hS.aD 4 I.1) (hS.aD 2 I.1) Zl ZC ax.o ZA) ?_;exact Aao
def MF(v1 j a b d a' b' d' u v t m n w)(L:RG w v1 a b d)(M:RG w j a' b' d')(K:Df m n a b d a' b' d' u v t):
  CV 56 #[v1,j] w fun x w'=>RG w' x u v t:=by
 have hn:=K.hn;obtain⟨I,H,J⟩:=K.sx.nK aa;obtain⟨F,N,G⟩:=K.sy.nK aa;obtain⟨s1,s2,s3⟩:=K.size.nK hn;have p1:=bR K.sx.a K.sy.d;have p2:=jl (bR K.sy.a K.sx.d) (n:=m+n) aa;have B:=bR K.sx.b K.sy.d;have C:=jl (bR K.sy.b K.sx.d) (n:=m+n) aa;have D:=bR K.sx.d K.sy.d;exact Wn v1 a b d j a' b' d' w L I H J M F N G _ (aW rfl) (bQ p1 aa) _ (aW rfl) (bQ p2 aa) _ (aW rfl) (bQ (iV p1 p2) aa)
  _ (aW rfl) (bQ B aa) _ (aW rfl) (bQ C aa) _ (aW rfl) (bQ (iV B C) aa) _ (aW rfl) (bQ D aa) (aW (nk K.hd K.hd')) u v t (aW K.E) s1 s2 s3
def MS(v1 j a b d a' b' d' u v t m n w)(L:RG w v1 a b d)(M:RG w j a' b' d')(K:zD m n a b d a' b' d' u v t):
  CV 57 #[v1,j] w fun x w'=>RG w' x u v t:=by
 have hn:=K.hn;obtain⟨I,H,J⟩:=K.sx.nK aa;obtain⟨F,N,G⟩:=K.sy.nK aa;obtain⟨s1,s2,s3⟩:=K.size.nK hn;have p1:=bR K.sx.a K.sy.a;have p2:=bR K.sx.b K.sy.b;have B:=bR K.sx.a K.sy.b;have C:=bR K.sx.b K.sy.a;have D:=bR K.sx.d K.sy.d;exact Wp v1 a b d j a' b' d' w L I H J M F N G _ (aW rfl) (bQ p1 aa) _ (aW rfl) (bQ p2 aa) _ (aW rfl) (bQ (sK p1 p2) aa)
  _ (aW rfl) (bQ B aa) _ (aW rfl) (bQ C aa) _ (aW rfl) (bQ (iV B C) aa) _ (aW rfl) (bQ D aa) (aW (nk K.hd K.hd')) u v t (aW K.E) s1 s2 s3
def gI(q):∃a b d:Int,Is q a b d:=by
 have B:((q.re.den:Nat):Int)≠0:=by have:=q.re.den_nz;omega
 have j:((q.im.den:Nat):Int)≠0:=by have:=q.im.den_nz;omega
 have e1:q.re=((q.re.num:Int):Rat)/(((q.re.den:Nat):Int):Rat):=by
  rw[<-Rat.divInt_eq_div];exact(Rat.num_divInt_den q.re).symm
 have D:q.im=((q.im.num:Int):Rat)/(((q.im.den:Nat):Int):Rat):=by
  rw[<-Rat.divInt_eq_div];exact(Rat.num_divInt_den q.im).symm
 generalize q.re.num=a at*
 generalize ((q.re.den:Nat):Int)=d at*
 generalize q.im.num=b at*
 generalize ((q.im.den:Nat):Int)=f at*
 have C:=gL B;have F:=gL j;have h:=Ta (a:=a*f) (b:=b*d) (d:=d*f) (nk B j);refine⟨_,_,_,⟨h.low,?_,?_⟩⟩
 .rw[<-h.re,e1];simp only[aan];grind
 .rw[<-h.im,D];simp only[aan];grind
def XH{a b}(l1: -9223372036854775808<=a)(u1:a<=9223372036854775807)(l2: -9223372036854775808<=b)(u2:b<=9223372036854775807):Sz 64 a b 1:=⟨DF l1 u1,DF l2 u2,aj⟩
def GV (w:World) (v:Value) (q:GQ) (n:Nat):Prop:=∃a b d:Int,RG w v a b d/\Is q a b d/\Sz n a b d
def GV.ext{w w' v q n}(h:GV w v q n)(x:Ext w w'):GV w' v q n:=by
 obtain⟨a,b,d,B,j,C⟩:=h;exact⟨a,b,d,B.ext x,j,C⟩
def PV (w:World) (v:Value) (p:PQ) (n:Nat):Prop:=∃a b d x y z:Int,RP w v a b d x y z/\Is p.u a b d/\Sz n a b d/\Is p.v x y z/\Sz n x y z
def PV.ext{w w' v p n}(h:PV w v p n)(e:Ext w w'):PV w' v p n:=by
 obtain⟨a,b,d,x,y,z,B,j⟩:=h;exact⟨a,b,d,x,y,z,B.ext e,j⟩
def U0{n}(hn:1<=n):Sz n 0 0 1:=Sz.mono (m:=1) ⟨aj,aj,aj⟩ hn
def Ot(v0 q0 n0 w)(Yw:GV w v0 q0 n0)(hn:1<=n0):
  CV 36 #[v0] w fun v w'=>PV w' v (PQ.plain q0) (n0):=by
 have hS:=aeZ w;obtain⟨Zj,Zi,Zg,Yw,I0,S0⟩:=Yw;obtain⟨Yv,Yu,L,G,W,T,P,Y,U,S,H,Z,rfl,YJ,YL,YK⟩:=Yw;replace hS:=hS.bI YJ;clear YJ;replace hS:=hS.bI YL;clear YL;replace hS:=hS.bI YK;clear YK;go_enter func36,ntmps36;go_wp2_with fail;refine gA2 hS 42 #[Yv,aO Yu L G,W,aO T P Y,U,aO S H Z] 44 aQ6 ?_;clear hS;intro w1 g1 o1 g2 o2 hS;have Y1:=aX.blk (hS.aH 1);have C:=hS.ext;refine tF 3 [(1,.rg ((0:Int)) ((0:Int)) ((1:Int)))] ?_;refine Qs ?_;refine Eg (fun R I=>MH (0) (0) _ aa aa aa aa) ?_;intro V J Yy N M B O YA K F Q Yz D Yx;refine Qs ?_;refine bN ?_;intro w2 I;have j:=hS.lt;replace hS:=hS.mv I.ext;replace hS:=hS.aG I 1;clear I j C Y1;have YN:=(hS.aH 0).cell;have YM:=(hS.aH 0).frozen;go_wp2;replace hS:=hS.pt 0 0 [.bool Yv,.slice Yu L G,.bool W,.slice T P Y,.bool U,.slice S H Z,.bool V,.slice J Yy N,.bool M,.slice B O YA,.bool K,.slice F Q Yz] o2;exact wQ rfl rfl rfl (hS.aH 0) ⟨_,rfl,⟨_,_,_,_,_,_,RP.mk (hS.aF 5) (hS.aF 4) (hS.aF 3) (hS.aF 2) (hS.aF 1) (hS.aF 0),I0,S0,(L8 0 0),(U0 hn)⟩,hS.ext⟩
def F5(v0 q0 n0 v1 q1 n1 w)(Yw:PV w v0 q0 n0)(D:PV w v1 q1 n1)(hn:n0+n1+1<=12800):
  CV 19 #[v0,v1] w fun v w'=>PV w' v (q0+q1) (n0+n1+1):=by
 have hS:=aeZ w;obtain⟨Zj,Zi,Zg,aB,aw,ao,Yw,ZO,ZP,ZN,ZQ⟩:=Yw;obtain⟨Yv,Yu,L,G,W,T,P,Y,U,S,H,Z,Zd,YW,YV,YU,Za,YX,N,Ze,YZ,Zc,YY,Zf,rfl,YJ,YL,YK,Zn,Zp,Zo⟩:=Yw;replace hS:=hS.bI YJ;clear YJ;replace hS:=hS.bI YL;clear YL;replace hS:=hS.bI YK;clear YK;replace hS:=hS.bI Zn;clear Zn;replace hS:=hS.bI Zp;clear Zp;replace hS:=hS.bI Zo;clear Zo;obtain⟨YQ,YP,YO,ZC,ZE,ZB,D,aE,ai,aI,aP⟩:=D;obtain⟨YC,Yz,Yy,YB,YD,YE,YA,Yx,Q,O,J,V,Zy,ZA,Zv,Zl,Zz,Zt,Zx,Zm,Zh,Zw,Zr,YT,rfl,YG,YH,YF,YI,K,M⟩:=D;replace hS:=hS.bI YG;clear YG;replace hS:=hS.bI YH;clear YH;replace hS:=hS.bI YF;clear YF;replace hS:=hS.bI YI;clear YI;replace hS:=hS.bI K;clear K;replace hS:=hS.bI M;clear M;go_enter func19,ntmps19;go_wp2_with fail;refine gA3 hS 44 #[Yv,aO Yu L G,W,aO T P Y,U,aO S H Z,Zd,aO YW YV YU,Za,aO YX N Ze,YZ,aO Zc YY Zf] 44 #[YC,aO Yz Yy YB,YD,aO YE YA Yx,Q,aO O J V,Zy,aO ZA Zv Zl,Zz,aO Zt Zx Zm,Zh,aO Zw Zr YT] 44 aQ6 ?_;clear hS;intro w1 g2 o2 g3 o3 g4 o4 hS;obtain⟨Z8,ZL,ZT,I9⟩:=gI (q0.u+q1.u);have K9:=af8 ZO ZP aE ai I9 aa;have S9:=K9.size;obtain⟨B,YR,F,ZZ⟩:=gI (q0.v+q1.v);have ZH:=af8 ZN ZQ aI aP ZZ aa;have ay:=ZH.size;have Y3:=aX.blk (hS.aH 1);have Y2:=aX.blk (hS.aH 2);have C:=hS.ext;refine tF 11 [(4,.rg (Z8) (ZL) (ZT)),(9,.rg (B) (YR) (F))] ?_;refine Qs ?_;refine Eg (fun R I=>MF _ _ Zj Zi Zg YQ YP YO Z8 ZL ZT _ _ _ (RG.mk (hS.aD 11 I.1) (hS.aD 10 I.1) (hS.aD 9 I.1)) (RG.mk (hS.aD 5 I.1) (hS.aD 4 I.1) (hS.aD 3 I.1)) K9) ?_;intro af Z9 ax ap am ZV ar az ad ZR av aq ZU a0;refine Qs ?_;refine Eg (fun R I=>MF _ _ aB aw ao ZC ZE ZB B YR F _ _ _ (RG.mk (hS.aD 8 I.1) (hS.aD 7 I.1) (hS.aD 6 I.1)) (RG.mk (hS.aD 2 I.1) (hS.aD 1 I.1) (hS.aD 0 I.1)) ZH) ?_;intro ZK ZF Z7 ZW ZJ ZG ZX ZM ac YS ZY ZI Zq Zk;refine Qs ?_;refine bN ?_;intro w2 I;have j:=hS.lt;replace hS:=hS.mv I.ext;replace hS:=hS.aG I 4;replace hS:=hS.aG I 9;clear I j C Y3 Y2;have YN:=(hS.aH 0).cell;have YM:=(hS.aH 0).frozen;go_wp2;replace hS:=hS.pt 0 0 [.bool af,.slice Z9 ax ap,.bool am,.slice ZV ar az,.bool ad,.slice ZR av aq,.bool ZK,.slice ZF Z7 ZW,.bool ZJ,.slice ZG ZX ZM,.bool ac,.slice YS ZY ZI] o4;exact wQ rfl rfl rfl (hS.aH 0) ⟨_,rfl,⟨_,_,_,_,_,_,RP.mk (hS.aF 5) (hS.aF 4) (hS.aF 3) (hS.aF 2) (hS.aF 1) (hS.aF 0),I9,S9,ZZ,ay⟩,hS.ext⟩
def KV(v0 q0 n0 v1 q1 n1 w)(Yw:PV w v0 q0 n0)(D:GV w v1 q1 n1)(hn:n0+n1+1<=12800):
  CV 23 #[v0,v1] w fun v w'=>PV w' v (⟨q0.u*q1,q0.v*q1⟩) (n0+n1+1):=by
 have hS:=aeZ w;obtain⟨Zj,Zi,Zg,af,ad,ac,Yw,ZO,ZP,ZN,ZQ⟩:=Yw;obtain⟨Yv,Yu,L,G,W,T,P,Y,U,S,H,Z,Zd,YW,YV,YU,Za,YX,N,Ze,YZ,Zc,YY,Zf,rfl,YJ,YL,YK,Zn,Zp,Zo⟩:=Yw;replace hS:=hS.bI YJ;clear YJ;replace hS:=hS.bI YL;clear YL;replace hS:=hS.bI YK;clear YK;replace hS:=hS.bI Zn;clear Zn;replace hS:=hS.bI Zp;clear Zp;replace hS:=hS.bI Zo;clear Zo;obtain⟨YQ,YP,YO,D,I1,S1⟩:=D;obtain⟨YC,Yz,Yy,YB,YD,YE,YA,Yx,Q,O,J,V,rfl,YG,YH,YF⟩:=D;replace hS:=hS.bI YG;clear YG;replace hS:=hS.bI YH;clear YH;replace hS:=hS.bI YF;clear YF;go_enter func23,ntmps23;go_wp2_with fail;refine gA3 hS 44 #[Yv,aO Yu L G,W,aO T P Y,U,aO S H Z,Zd,aO YW YV YU,Za,aO YX N Ze,YZ,aO Zc YY Zf] 42 #[YC,aO Yz Yy YB,YD,aO YE YA Yx,Q,aO O J V] 44 aQ6 ?_;clear hS;intro w1 g2 o2 g3 o3 g4 o4 hS;obtain⟨Zt,Zz,Zk,I8⟩:=gI (q0.u*q1);have K8:=afJ ZO ZP I1 S1 I8 aa;have S8:=K8.size;obtain⟨F,B,K,Zh⟩:=gI (q0.v*q1);have Zx:=afJ ZN ZQ I1 S1 Zh aa;have ZW:=Zx.size;have Y3:=aX.blk (hS.aH 1);have Y2:=aX.blk (hS.aH 2);have C:=hS.ext;refine tF 9 [(3,.rg (Zt) (Zz) (Zk)),(7,.rg (F) (B) (K))] ?_;refine Qs ?_;refine Eg (fun R I=>MS _ _ Zj Zi Zg YQ YP YO Zt Zz Zk _ _ _ (RG.mk (hS.aD 8 I.1) (hS.aD 7 I.1) (hS.aD 6 I.1)) (RG.mk (hS.aD 2 I.1) (hS.aD 1 I.1) (hS.aD 0 I.1)) K8) ?_;intro ZI ZA ZH ZK ZM Zm ZF ZJ ZV Zq ZL ZG YS ZR;refine Qs ?_;refine Eg (fun R I=>MS _ _ af ad ac YQ YP YO F B K _ _ _ (RG.mk (hS.aD 5 I.1) (hS.aD 4 I.1) (hS.aD 3 I.1)) (RG.mk (hS.aD 2 I.1) (hS.aD 1 I.1) (hS.aD 0 I.1)) Zx) ?_;intro ZC YI Zy ZE Zw M ZB Zl YT YR Zv Zr ZU ZT;refine Qs ?_;refine bN ?_;intro w2 I;have j:=hS.lt;replace hS:=hS.mv I.ext;replace hS:=hS.aG I 3;replace hS:=hS.aG I 7;clear I j C Y3 Y2;have YN:=(hS.aH 0).cell;have YM:=(hS.aH 0).frozen;go_wp2;replace hS:=hS.pt 0 0 [.bool ZI,.slice ZA ZH ZK,.bool ZM,.slice Zm ZF ZJ,.bool ZV,.slice Zq ZL ZG,.bool ZC,.slice YI Zy ZE,.bool Zw,.slice M ZB Zl,.bool YT,.slice YR Zv Zr] o4;exact wQ rfl rfl rfl (hS.aH 0) ⟨_,rfl,⟨_,_,_,_,_,_,RP.mk (hS.aF 5) (hS.aF 4) (hS.aF 3) (hS.aF 2) (hS.aF 1) (hS.aF 0),I8,S8,Zh,ZW⟩,hS.ext⟩
def GV.at_{w v q n a b d}(h:GV w v q n)(I:Is q a b d):RG w v a b d:=by
 obtain⟨C,b1,D,B,j,_⟩:=h;obtain⟨rfl,rfl,rfl⟩:=j.unique I;exact B
def PV.at_{w v p n a b d x y z}(h:PV w v p n)(I:Is p.u a b d)(J:Is p.v x y z):RP w v a b d x y z:=by
 obtain⟨G,b1,F,H,D,z1,B,j,_,C,_⟩:=h;obtain⟨rfl,rfl,rfl⟩:=j.unique I;obtain⟨rfl,rfl,rfl⟩:=C.unique J;exact B
def Bd (q:GQ) (n:Nat):Prop:=∃a b d:Int,Is q a b d/\Sz n a b d
def Bd.sz{q n a b d}(h:Bd q n)(I:Is q a b d):Sz n a b d:=by
 obtain⟨C,b1,D,B,j⟩:=h;obtain⟨rfl,rfl,rfl⟩:=B.unique I;exact j
def Bd.mono{q m n}(h:Bd q m)(Q:m<=n):Bd q n:=by
 obtain⟨a,b,d,B,j⟩:=h;exact⟨a,b,d,B,j.mono Q⟩
def Bd.add{x y m n}(J:Bd x m)(R:Bd y n):Bd (x+y) (m+n+1):=by
 obtain⟨a,b,d,D,B⟩:=J;obtain⟨a',b',d',F,C⟩:=R;obtain⟨u,v,t,j⟩:=gI (x+y);exact⟨u,v,t,j,D.Q7 B F C j⟩
def Bd.mul{x y m n}(J:Bd x m)(R:Bd y n):Bd (x*y) (m+n+1):=by
 obtain⟨a,b,d,D,B⟩:=J;obtain⟨a',b',d',F,C⟩:=R;obtain⟨u,v,t,j⟩:=gI (x*y);exact⟨u,v,t,j,D.Q9 B F C j⟩
def agF{q:GQ}{a b d:Int}{n:Nat}(hd:d≠0)(j:q.re=(a:Rat)/(d:Rat))(hi:q.im=(b:Rat)/(d:Rat))(s:Sz n a b d):Bd q n:=by
 obtain⟨u,v,t,h⟩:=gI q;exact⟨u,v,t,h,h.size hd j hi s⟩
def aeY:Nat->GQ
 |0=>GQ.i 1 0
 |n+1=>aeY n*GQ.i 0 1
def af7(q):q*GQ.i 1 0=q:=by
 ext<;>simp only[GQ.bL,GQ.bK,GQ.dH,GQ.dC]<;>grind
theorem Is.turn{q a b d k}(h:Is (q*aeY k) a b d):Is (q*aeY (k+1)) (-b) a d:=by
 have e:q*aeY (k+1)=(q*aeY k)*GQ.i 0 1:=(GQ.dE q (aeY k) (GQ.i 0 1)).symm;rw[e];have hd:=gL h.dne;refine⟨⟨h.low.1,?_⟩,?_,?_⟩
 .have:=h.low.2;unfold g3 at*
  rw[Int.natAbs_neg,ach,aaE b.natAbs,<-ach];exact this
 .rw[GQ.bL,h.re,h.im];simp only[GQ.dH,GQ.dC,Rat.intCast_neg];grind
 .rw[GQ.bK,h.re,h.im];simp only[GQ.dH,GQ.dC];grind
def Sz.turn{n a b d}(h:Sz n a b d):Sz n (-b) a d:=⟨by rw[Int.natAbs_neg];exact h.b,h.a,h.d⟩
def O6(gc:Nat)(v1 q1)(n1:Nat)(K:Nat)(w)(hc:Calm w gc)(D:GV w v1 q1 n1)(hn:n1<=12800)(I:K<=100):
  CV 130 #[aN gc 0,v1,((K:Int))] w fun v w'=>GV w' v (q1*aeY K) (n1):=by
 have hS:=aeZ w;obtain⟨YQ,YP,YO,D,I1,S1⟩:=D;obtain⟨YC,Yz,Yy,YB,YD,YE,YA,Yx,Q,O,J,V,rfl,YG,YH,YF⟩:=D;replace hS:=hS.bI YG;clear YG;replace hS:=hS.bI YH;clear YH;replace hS:=hS.bI YF;clear YF;replace hS:=hS.yC hc trivial;clear hc;go_enter func130,ntmps130;go_wp2_with fail;refine gA2 hS 42 #[YC,aO Yz Yy YB,YD,aO YE YA Yx,Q,aO O J V] 42 aQ3 ?_;clear hS;intro w1 g4 o4 g6 o6 hS;have Y4:=aX.blk (hS.aH 1);have C:=hS.ext;refine tF 8 [(2,.ri (YQ)),(5,.ri (YP)),(6,.box 40 #[ζ,()]),(7,.box 40 #[ζ,()])] ?_;refine Qs ?_;refine Ei (fun R I=>mV _ YQ _ (hS.aD 2 I.1) (bQ S1.a aa)) ?_;intro Y M U T YK ZY;refine Qs ?_;refine Ei (fun R I=>mV _ YP _ (hS.aD 1 I.1) (bQ S1.b aa)) ?_;intro YY YV YX c14 Zq Zk;refine Eb ?_;intro g7 YL YW;refine Eb ?_;intro g8 ZR YJ;refine bN ?_;intro w2 I;have j:=hS.lt;replace hS:=hS.mv I.ext;replace hS:=hS.aI I 2;replace hS:=hS.aI I 5;have Zg:=I.lw 6;have o7:Own w g7:=aeX C Zg;replace hS:=hS.aB I 6 g7 (apF j Zg);have ac:=I.lw 7;have o8:Own w g8:=aeX C ac;replace hS:=hS.aB I 7 g8 ⟨I.nn 6 7 YW YJ,(apF j ac)⟩;clear I j C Y4;clear Zg YW YL;clear ac YJ ZR;have YN:=(hS.aH 1).cell;have YM:=(hS.aH 1).frozen;have B:=hS.pt 1 0 [.bool Y,.slice M U T] o7;have YR:=(B.aH 0).cell;have YS:=(B.aH 0).frozen;go_wp2_with fail;clear YN YM YR YS;clear B;replace hS:=(hS.pt 1 0 [.bool Y,.slice M U T] o7).pt 0 0 [.bool YY,.slice YV YX c14] o8;refine gW hS ?_;clear hS;intro w3 hS;go_loopw [16] (fun i wr=>∃k:Nat,k<=K/\i=.int .i64 (k:Int)/\∃(W G:Int) (P Yv:Bool) (F S:Option Addr) (L N Yu Z:Nat),(Is (q1*aeY k) W G YO/\Sz n1 W G YO)/\St w wr [(g8,40,#[Yv,aO S Yu Z]),(g7,40,#[P,aO F L N]),(g6,42,aQ3),(g4,42,#[YC,aO Yz Yy YB,YD,aO YE YA Yx,Q,aO O J V]),(gc,197,#[aJ])] [nz (iv P F L N) (W),nz (iv Yv S Yu Z) (G),nz (iv YC Yz Yy YB) (YQ),nz (iv YD YE YA Yx) (YP),nz (iv Q O J V) (YO)]) (aT K)
 case atStart=>exact⟨0,aa,rfl,YQ,YP,Y,YY,M,YV,U,T,YX,c14,⟨by rw[show aeY 0=GQ.i 1 0 from rfl,af7];exact I1,S1⟩,hS.sel [1,0,4,3,2] rfl⟩
 case round=>
  clear hS;obtain⟨k,hk,rfl,W,G,P,Yv,F,S,L,N,Yu,Z,H,hS⟩:=hrel;by_cases Yw:k<K
  .skip;go_wp2_with fail;have Y8:=aX.blk (hS.aH 0);have Y7:=aX.blk (hS.aH 1);have C:=hS.ext;refine tF 4 [(2,.ri ((-G)))] ?_;refine Qs ?_;refine Ei (fun R I=>Nk gc _ G (-G) _ (Blk.ext (hS.aH 4) I.1) (hS.aD 1 I.1) (bQ H.2.b aa) rfl) ?_;intro Zy Zp Zw Zz ZL ZK;refine Qs ?_;refine bN ?_;intro w4 I;have j:=hS.lt;replace hS:=hS.mv I.ext;replace hS:=hS.aI I 2;clear I j C Y8 Y7;have Zh:=(hS.aH 1).cell;have Zl:=(hS.aH 1).frozen;have YI:=hS.pt 1 0 [.bool Zy,.slice Zp Zw Zz] o7;have Zm:=(YI.aH 0).cell;have ZV:=(YI.aH 0).frozen;go_wp2;replace hS:=(hS.pt 1 0 [.bool Zy,.slice Zp Zw Zz] o7).pt 0 0 [.bool P,.slice F L N] o8;go_roundw
   case rel=>exact⟨k+1,aa,au,(-G),W,Zy,P,Zp,F,Zw,Zz,L,N,⟨H.1.turn,H.2.turn⟩,St.sel hS [0,1,3,4,5] rfl⟩
   case measure=>simp[aT,intOf]<;>omega
  .obtain rfl:k=K:=aa;go_wp2_with fail;have Y8:=aX.blk (hS.aH 0);have Y7:=aX.blk (hS.aH 1);have Y4:=aX.blk (hS.aH 3);have C:=hS.ext;refine tF 6 [(4,.ri (YO))] ?_;refine Qs ?_;refine Ei (fun R I=>mV _ YO _ (hS.aD 4 I.1) (bQ S1.d aa)) ?_;intro Zr Ze Zn Zt ZB ZA;refine Qs ?_;refine bN ?_;intro w5 I;have j:=hS.lt;replace hS:=hS.mv I.ext;replace hS:=hS.aI I 4;clear I j C Y8 Y7 Y4;have ZX:=(hS.aH 2).cell;have ZE:=(hS.aH 2).frozen;go_wp2;replace hS:=hS.pt 2 0 [.bool P,.slice F L N,.bool Yv,.slice S Yu Z,.bool Zr,.slice Ze Zn Zt] o6;exact dG rfl rfl rfl (hS.aH 2) ⟨_,rfl,⟨_,_,_,RG.mk (hS.aF 1) (hS.aF 2) (hS.aF 0),H.1,H.2⟩,hS.ext⟩
def Lg(j:Nat)(v1 q1)(n1 K:Nat)(w)(hc:Calm w j)(D:GV w v1 q1 n1)(hn:n1<=12800)(I:K<=100):
  CV 130 #[aN j 0,v1,(K:Int)] w fun v w'=>GV w' v (q1*aeY K) n1:=O6 j v1 q1 n1 K w hc D hn I
def mX{f args w q n a b d}(h:CV f args w fun v w'=>GV w' v q n)(I:Is q a b d):
  CV f args w fun v w'=>RG w' v a b d:=h.mono fun e w' ⟨v,O,j,J⟩=>⟨v,O,j.at_ I,J⟩
def Xz{m:Int}{K:Nat}(h:m%12=(K:Int)):(m.tmod 12+12).tmod 12=(K:Int):=by
 have B: -12<m.tmod 12/\m.tmod 12<12:=⟨by have:=Int.lt_tmod_of_pos m (b:=12) aa;omega,Int.tmod_lt_of_pos m aa⟩;have j:m.tmod 12%12=m%12:=by
  have:=Int.mul_tdiv_add_tmod m 12;omega
 rw[abd aa];omega
theorem J4{m:Int}{K:Nat}(h:m%12=(K:Int)):(wrap64 (m.tmod 12+12)).tmod 12=(K:Int):=by
 have j: -12<m.tmod 12/\m.tmod 12<12:=⟨by have:=Int.lt_tmod_of_pos m (b:=12) aa;omega,Int.tmod_lt_of_pos m aa⟩;have e:wrap64 (m.tmod 12+12)=m.tmod 12+12:=by
  generalize m.tmod 12=t at*
  first|(unfold wrap64;omega)|go_num|(simp[wrap64];omega)
 rw[e];exact Xz h
def yT(v u x y w)(L:RI w v x)(M:RI w u y)(h:x=y):
  CE 69 #[v,u] w (.bool ε):=by
 have:=OD v u x y w L M;rwa[show decide (x=y)=ε by simpa using h] at this
def Tt(v0 Zj Zi Zg v1 YQ YP YO w)(Yw:RG w v0 Zj Zi Zg)(D:RG w v1 YQ YP YO)(C:Hid (Zj=YQ))(j:Hid (Zi=YP))(Hd:Hid (Zg=YO)):
  CE 37 #[v0,v1] w (.bool ε):=by
 have hS:=aeZ w;obtain⟨Yv,Yu,L,G,W,T,P,Y,U,S,H,Z,rfl,I,R,K⟩:=Yw;replace hS:=hS.bI I;clear I;replace hS:=hS.bI R;clear R;replace hS:=hS.bI K;clear K;obtain⟨YC,N,Yy,YB,YD,YE,YA,M,Q,O,J,V,rfl,YG,YH,YF⟩:=D;replace hS:=hS.bI YG;clear YG;replace hS:=hS.bI YH;clear YH;replace hS:=hS.bI YF;clear YF;have B:=(St.al (St.al hS 42 #[Yv,aO Yu L G,W,aO T P Y,U,aO S H Z] (g:=w.heap.size) ag) 42 #[YC,aO N Yy YB,YD,aO YE YA M,Q,aO O J V] (g:=(w.heap.size+1)) ag);have YN:=(B.aH 1).cell;have YM:=(B.aH 0).cell;go_enter func37,ntmps37;go_wp2_with fail;clear YN YM;clear B;refine gA2 hS 42 #[Yv,aO Yu L G,W,aO T P Y,U,aO S H Z] 42 #[YC,aO N Yy YB,YD,aO YE YA M,Q,aO O J V] ?_;clear hS;intro w1 g2 o2 g3 o3 hS;refine(yT _ _ Zj YQ _ (hS.aF 5) (hS.aF 2) C.o).mono ?_;rintro e w2 ⟨rfl,F⟩;replace hS:=hS.mv F;clear F;have YR:=(hS.aH 1).cell;have YS:=(hS.aH 0).cell;go_wp2_with fail;clear YR YS;refine(yT _ _ Zi YP _ (hS.aF 4) (hS.aF 1) j.o).mono ?_;rintro e w3 ⟨rfl,F⟩;replace hS:=hS.mv F;clear F;have Zh:=(hS.aH 1).cell;have Zl:=(hS.aH 0).cell;go_wp2_with fail;clear Zh Zl;refine(yT _ _ Zg YO _ (hS.aF 3) (hS.aF 0) Hd.o).mono ?_;rintro e w4 ⟨rfl,F⟩;exact AaK
def EO(v u a b d a' b' d' w)(L:RG w v a b d)(M:RG w u a' b' d')(h:a=a'/\b=b'/\d=d'):
  CE 37 #[v,u] w (.bool ε):=Tt v a b d u a' b' d' w L M (aW h.1) (aW h.2.1) (aW h.2.2)
def DL(v0 Zj Zi Zg af ad ac v1 YQ YP YO ZC ZE ZB w)(Yw:RP w v0 Zj Zi Zg af ad ac)(D:RP w v1 YQ YP YO ZC ZE ZB)(C:Hid (Zj=YQ/\Zi=YP/\Zg=YO))(j:Hid (af=ZC/\ad=ZE/\ac=ZB)):
  CE 21 #[v0,v1] w (.bool ε):=by
 have hS:=aeZ w;obtain⟨Yv,Yu,L,G,W,T,P,Y,U,S,H,Z,Zd,YW,YV,YU,Za,YX,N,Ze,YZ,Zc,YY,Zf,rfl,I,YL,R,Zn,Zp,Zo⟩:=Yw;replace hS:=hS.bI I;clear I;replace hS:=hS.bI YL;clear YL;replace hS:=hS.bI R;clear R;replace hS:=hS.bI Zn;clear Zn;replace hS:=hS.bI Zp;clear Zp;replace hS:=hS.bI Zo;clear Zo;obtain⟨YC,Yz,Yy,YB,YD,YE,YA,Yx,Q,O,J,V,Zy,ZA,Zv,Zl,Zz,Zt,Zx,Zm,Zh,Zw,Zr,YT,rfl,YG,YH,YF,YI,K,M⟩:=D;replace hS:=hS.bI YG;clear YG;replace hS:=hS.bI YH;clear YH;replace hS:=hS.bI YF;clear YF;replace hS:=hS.bI YI;clear YI;replace hS:=hS.bI K;clear K;replace hS:=hS.bI M;clear M;have B:=(St.al (St.al hS 44 #[Yv,aO Yu L G,W,aO T P Y,U,aO S H Z,Zd,aO YW YV YU,Za,aO YX N Ze,YZ,aO Zc YY Zf] (g:=w.heap.size) ag) 44 #[YC,aO Yz Yy YB,YD,aO YE YA Yx,Q,aO O J V,Zy,aO ZA Zv Zl,Zz,aO Zt Zx Zm,Zh,aO Zw Zr YT] (g:=(w.heap.size+1)) ag);have YN:=(B.aH 1).cell;have YM:=(B.aH 0).cell;go_enter func21,ntmps21;go_wp2_with fail;clear YN YM;clear B;refine gA2 hS 44 #[Yv,aO Yu L G,W,aO T P Y,U,aO S H Z,Zd,aO YW YV YU,Za,aO YX N Ze,YZ,aO Zc YY Zf] 44 #[YC,aO Yz Yy YB,YD,aO YE YA Yx,Q,aO O J V,Zy,aO ZA Zv Zl,Zz,aO Zt Zx Zm,Zh,aO Zw Zr YT] ?_;clear hS;intro w1 g2 o2 g3 o3 hS;refine(EO _ _ Zj Zi Zg YQ YP YO _ (RG.mk (hS.aF 11) (hS.aF 10) (hS.aF 9)) (RG.mk (hS.aF 5) (hS.aF 4) (hS.aF 3)) C.o).mono ?_;rintro e w2 ⟨rfl,F⟩;replace hS:=hS.mv F;clear F;have YR:=(hS.aH 1).cell;have YS:=(hS.aH 0).cell;go_wp2_with fail;clear YR YS;refine(EO _ _ af ad ac ZC ZE ZB _ (RG.mk (hS.aF 8) (hS.aF 7) (hS.aF 6)) (RG.mk (hS.aF 2) (hS.aF 1) (hS.aF 0)) j.o).mono ?_;rintro e w3 ⟨rfl,F⟩;exact AaK
def C9(v u p m n w)(L:PV w v p m)(M:PV w u p n):
  CE 21 #[v,u] w (.bool ε):=by
 obtain⟨a,b,d,x,y,z,B,j,_,C,_⟩:=L;exact DL v a b d x y z u a b d x y z w B (M.at_ j C) (aW ⟨rfl,rfl,rfl⟩) (aW ⟨rfl,rfl,rfl⟩)
end Go.Proofs.YtbfnfkppkmpieaaGreat
