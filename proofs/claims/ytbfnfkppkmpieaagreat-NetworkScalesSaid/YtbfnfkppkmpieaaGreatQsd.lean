import Derived.Test.YtbfnfkppkmpieaaGreatQsc
set_option linter.unusedVariables false
set_option linter.unusedSimpArgs false
set_option maxHeartbeats 25600000
set_option maxRecDepth 200000
set_option linter.defProp false
namespace Go.Proofs.YtbfnfkppkmpieaaGreat
open Go.RowKit
open Go.RowKit Go.ChangeShapes Go.WideShapes Go.ChangeAt Go.Joins Go.Deep
open Go.RowKit Go.Deep
open Go.Proofs.Tryz
open Option renaming some->γ,none->δ
open Bool renaming true->ε,false->ζ
open Inhabited renaming default->η
open Value renaming slice->aO
open World renaming alloc->aU
open Mc
def Iu{A B D a b d}(j:D≠0)(E:(a,b,d)=nf A B D):Low a b d:=by
 have h:=SS (a:=A) (b:=B) j;rw[<-E] at h;exact h.low
def Hq(Q v1 v2 a b d a' b' d' u v t m n w)(hc:Calm w Q)(L:RG w v1 a b d)(l:RG w v2 a' b' d')(sx:Sz m a b d)(sy:Sz n a' b' d')(hn:m+n+1<=12800)(Zh:n+n+1<=12800)(K)(I:K<=12800)(C:m+n+1<=K)(YA:n+n+1<=K)(sz:Sz K u v t)(hd:d≠0)(hd':d'≠0)(R:a'≠0\/b'≠0)(E:(u,v,t)=nf ((a*a'+b*b')*d') ((b*a'-a*b')*d') (d*(a'*a'+b'*b'))):
  CV 173 #[aN Q 0,v1,v2] w fun x w'=>RG w' x u v t:=by
 obtain⟨g,a1,b1,p,q,hg,N,ea,eb,B,j⟩:=Bb (a:=a) (b:=b) R;have F:p≠0\/q≠0:=by
  exact Acc
 obtain⟨h,c1,o,hh,Yt,ec,eo⟩:=tu (a:=d) (b:=d') hd';obtain⟨i,p1,q1,hi,M,Z,eq⟩:=zt F;have Yu:p1≠0\/q1≠0:=by
  exact Aba
 have bg:g.natAbs<2^n:=by
  rcases R with h|h
  .exact qW h B sy.a
  .exact qW h j sy.b
 have O:=gM N ea sx.a;have T:=gM N eb sx.b;have bp:=gM N B sy.a;have bq:=gM N j sy.b;have U:i.natAbs<2^n:=by
  rcases F with h|h
  .exact qW h Z bp
  .exact qW h eq bq
 have Yp:=gM M Z bp;have Y:=gM M eq bq;have bh:=qW hd ec sx.d;have Yq:=gM Yt ec sx.d;have bo:=gM Yt eo sy.d;have m1:=bS O Yp;have m2:=bS T Y;have m3:=bS T Yp;have m4:=bS O Y;have m5:=bS Yp Yp;have m6:=bS Y Y;have m7:=jC m1 m2;have m8:=sG m3 m4;have m9:=jC m5 m6;have Yr:=bS U Yq;have hN:=qI Yu;have V:i*c1≠0:=nk M (by intro e;rw[e] at ec;simp at ec;exact hd ec);obtain⟨P,fb,D,Ef⟩:=Jy (a1*p1+b1*q1) (b1*p1-a1*q1) (p1*p1+q1*q1);obtain⟨sa,sb,S,Es⟩:=Jy o 0 (i*c1);obtain⟨G,Yz,e1,e2,e3,ad⟩:=Fh hN Ef;obtain⟨H,ac,e4,e6,e5,af⟩:=Fh V Es;have ZH:sb=0:=by
  exact AcS
 subst ZH;have sf:=jR (n:=K) hN Ef (jA m7 aa) (jA m8 aa) (jA m9 aa);have ss:=jR (n:=K) V Es (jA bo aa) (show(0:Int).natAbs<2^K from KP aa) (jA Yr aa);have Yv:d*(a'*a'+b'*b')≠0:=nk hd (qI R);have Yw:D*S≠0:=nk aa aa;obtain⟨Yy,Yx⟩:=CF ea eb B j Z eq eo ec e1 e2 e3 e4 e5;have E':(u,v,t)=nf (P*sa) (fb*sa) (D*S):=by
  rw[E];refine pW Yv Yw ?_ ?_
  .rw[Yy]
  .rw[Yx]
 obtain⟨x1,x2,J⟩:=sx.pM aa;obtain⟨y1,y2,y3⟩:=sy.pM aa;obtain⟨f1,f2,f3⟩:=sf.pM aa;obtain⟨t1,t2,t3⟩:=ss.pM aa;obtain⟨s1,s2,s3⟩:=sz.pM aa;exact equotient_g Q v1 a b d v2 a' b' d' w hc L x1 x2 J l y1 y2 y3 g (aW hg) (bR bg aa) h (aW hh) (bR bh aa)
  a1 (aW (gz N ea)) (bR O aa) (aW N) (aW ⟨_,ea⟩) b1 (aW (gz N eb)) (bR T aa) (aW N) (aW ⟨_,eb⟩)
  p (aW (gz N B)) (bR bp aa) (aW N) (aW ⟨_,B⟩) q (aW (gz N j)) (bR bq aa) (aW N) (aW ⟨_,j⟩)
  i (aW hi) (bR U aa) p1 (aW (gz M Z)) (bR Yp aa) (aW M) (aW ⟨_,Z⟩) q1 (aW (gz M eq)) (bR Y aa) (aW M) (aW ⟨_,eq⟩)
  _ (aW rfl) (bR m1 aa) _ (aW rfl) (bR m2 aa) _ (aW rfl) (bR m7 aa)
  _ (aW rfl) (bR m3 aa) _ (aW rfl) (bR m4 aa) _ (aW rfl) (bR m8 aa)
  _ (aW rfl) (bR m5 aa) _ (aW rfl) (bR m6 aa) _ (aW rfl) (bR m9 aa) (aW hN)
  P fb D (aW Ef) f1 f2 f3 o (aW (gz Yt eo)) (bR bo aa) (aW Yt) (aW ⟨_,eo⟩)
  c1 (aW (gz Yt ec)) (bR Yq aa) (aW Yt) (aW ⟨_,ec⟩) _ (aW rfl) (bR Yr aa) (aW V)
  sa 0 S (aW Es) t1 t2 t3 u v t (aW fun _ _ W h1 h2 h3=>Ls Q _ _ P fb D sa S u v t K I W h1 h2 h3 (Iu hN Ef) (Iu V Es) sf ss E' sz) s1 s2 s3
def Jw(Q v1 B x y n1 n2 j w)(hc:Calm w Q)(L:GV w v1 x n1)(l:GV w B y n2)(hn:n1+n2+1<=12800)(C:n2+n2+1<=12800)(hb:Bd (x/y) j)(I:j<=12800)(R:y≠GQ.i 0 0):
  CV 173 #[aN Q 0,v1,B] w fun v w'=>GV w' v (x/y) j:=by
 obtain⟨a,b,d,G,i1,s1⟩:=L;obtain⟨a',b',d',F,M,s2⟩:=l;obtain⟨u,v,t,h⟩:=gX (x/y);have D:=M.ne0 R;have E:=i1.Lf M D h;have sz:=hb.sz h;exact(Hq Q v1 B a b d a' b' d' u v t n1 n2 w hc G F s1 s2 hn C (max j (max (n1+n2+1) (n2+n2+1))) aa aa aa (sz.mono aa) i1.dne M.dne D E).mono fun e w' ⟨z,O,H,J⟩=>⟨z,O,⟨u,v,t,H,h,sz⟩,J⟩
def Ta(v0 q0 n0 v1 q1 n1 w)(Yp:GV w v0 q0 n0)(D:GV w v1 q1 n1)(H0:Hid (q1≠GQ.i 0 0))(nr)(hn:n0+n1+1<=12800)(Zh:n1+n1+1<=12800)(hb:Bd (q0/q1) nr)(hr:nr<=12800):
  CV 137 #[v0,v1] w fun v w'=>(∃u,v=.tuple #[u,aJ]/\GV w' u (q0/q1) nr):=by
 have hS:=ae0 w;obtain⟨Ze,Zd,Zc,Yp,I0,S0⟩:=Yp;obtain⟨Z,Y,H,C,U,Q,L,V,S,P,G,W,rfl,YH,YJ,YI⟩:=Yp;replace hS:=hS.bI YH;clear YH;replace hS:=hS.bI YJ;clear YJ;replace hS:=hS.bI YI;clear YI;obtain⟨YL,YK,YG,D,I1,S1⟩:=D;obtain⟨Yx,Yu,Yt,Yw,Yy,Yz,Yv,Yr,T,O,J,Yq,rfl,YE,YF,YD⟩:=D;replace hS:=hS.bI YE;clear YE;replace hS:=hS.bI YF;clear YF;replace hS:=hS.bI YD;clear YD;have l:=(St.al (St.al (St.al hS 42 #[Z,aO Y H C,U,aO Q L V,S,aO P G W] (g:=w.heap.size) ag) 42 #[Yx,aO Yu Yt Yw,Yy,aO Yz Yv Yr,T,aO O J Yq] (g:=(w.heap.size+1)) ag) 42 aQ3 (g:=(w.heap.size+2)) ag);have YC:=(l.aH 2).cell;have YB:=(l.aH 1).cell;go_enter func137,ntmps137;go_wp2_with fail;clear YC YB;clear l;refine gA4 hS 42 #[Z,aO Y H C,U,aO Q L V,S,aO P G W] 42 #[Yx,aO Yu Yt Yw,Yy,aO Yz Yv Yr,T,aO O J Yq] 42 aQ3 42 #[Z,aO Y H C,U,aO Q L V,S,aO P G W,Yx,aO Yu Yt Yw,Yy,aO Yz Yv Yr,T,aO O J Yq] ?_;clear hS;intro w1 g2 o2 g3 o3 g4 o4 g9 o9 hS;refine(kN g9 q0 q1 n0 n1 _ (hS.aH 0) ⟨_,_,_,RG.mk (hS.aF 5) (hS.aF 4) (hS.aF 3),I0,S0⟩ aa ⟨_,_,_,RG.mk (hS.aF 2) (hS.aF 1) (hS.aF 0),I1,S1⟩ aa).mono ?_;rintro e w2 ⟨rfl,F⟩;replace hS:=hS.mv F;clear F;have YM:=(hS.aH 2).cell;go_wp2_with fail;clear YM;refine(IJ _ q1 (n1) _ ⟨_,_,_,RG.mk (hS.aF 2) (hS.aF 1) (hS.aF 0),I1,S1⟩ H0.o).mono ?_;rintro e w3 ⟨rfl,F⟩;replace hS:=hS.mv F;clear F;have YA:=(St.al hS 197 #[aJ] (g:=w3.heap.size) ag);have YN:=(YA.aH 4).cell;have Za:=(YA.aH 3).cell;go_wp2_with fail;clear YN Za;clear YA;refine gA1 hS 197 #[aJ] ?_;clear hS;intro w4 g6 o6 hS;obtain⟨YQ,YO,YP,YR⟩:=gX (q0/q1);have YU:Sz nr YQ YO YP:=hb.sz YR;refine(mX (Jw g6 _ _ q0 q1 _ _ nr _ (hS.aH 0) ⟨_,_,_,RG.mk (hS.aF 5) (hS.aF 4) (hS.aF 3),I0,S0⟩ ⟨_,_,_,RG.mk (hS.aF 2) (hS.aF 1) (hS.aF 0),I1,S1⟩ aa aa hb hr H0.o) YR).mono ?_;exact Aar
def WA(g v0 v1 q0 q1 n0 n1 w)(hc:jP w g)(L:GV w v0 q0 n0)(l:GV w v1 q1 n1)(h0:q1≠GQ.i 0 0)(B)(hn:n0+n1+1<=12800)(Zh:n1+n1+1<=12800)(hb:Bd (q0/q1) B)(hr:B<=12800):
  CV 213 #[aN g 0,v0,v1] w fun v w'=>GV w' v (q0/q1) B:=by
 obtain⟨N,H,T,G,Yt,V,Z,Yr,Yu,Yw,Yy,Yv,rfl⟩:=L.opn;obtain⟨D,U,C,I,W,M,Yx,P,R,Yq,S,K,rfl⟩:=l.opn;have HX:=aW L;have HY:=aW l;clear L l;obtain⟨Y,F,Q,j⟩:=an3 w 42 #[N,aO H T G,Yt,aO V Z Yr,Yu,aO Yw Yy Yv] 42 #[D,aO U C I,W,aO M Yx P,R,aO Yq S K] 42 aQ3;have O:=hc.ext Y;have k0:=Blk.cell O;go_enter func213,ntmps213;go_wp2_with fail;refine(Ta _ q0 n0 _ q1 n1 _ (HX.ext Y) (HY.ext Y) (aW h0) B hn Zh hb hr).mono ?_;exact AbL
def bps (Z W:Nat->Nat->GQ) (m i j:Nat):Nat->GQ
 |0=>Z i (m+j)
 |s+1=>bps Z W m i j s-Z i (i+1+s)*W (i+1+s) j
def jE (Z:Nat->Nat->GQ) (m:Nat):Nat->Nat->Nat->GQ
 |0=>fun _ _=>GQ.i 0 0
 |k+1=>upd (jE Z m k) (m-1-k) (fun j=>bps Z (jE Z m k) m (m-1-k) j k/Z (m-1-k) (m-1-k))
def DT(Z){m k i}(j:k<m)(hi:m-k<=i):jE Z m (k+1) i=jE Z m k i:=by
 show upd _ _ _ i=_;rw[upd_ne aa]
structure BI (w W:World) (gf Ga Gb G m nb:Nat) (PA PB:Nat->Prop) (Z:Nat->Nat->GQ) (k:Nat) (RX:Nat->Rw):Prop where
 calm:jP W gf
 a:∃R,MxI W Ga m m PA R Z
 b:∃R Y,MxI W Gb m nb PB R Y/\∀i j,i<m-k->Y i j=Z i (m+j)
 x:Blk W G 174 (mxc m RX).toArray
 gx:w.heap.size<=G
 row:∀i,m-k<=i->i<m->(RX i).A=γ ⟨(RX i).b,0,δ⟩/\(RX i).n=nb/\(RX i).c=nb/\w.heap.size<=(RX i).b/\dN W (RX i).b nb (jE Z m k i)
 mod:Mod PB w W
theorem R7(gf G M nb C D Nx Ny B Z l v F I q w)(hc:jP w gf)(hq:GV w v q B)(Q:0<nb->Z=γ ⟨G,0,δ⟩/\dN w G nb F)(N:0<nb->l=γ ⟨M,0,δ⟩/\dN w M nb I)(K:0<nb->G≠M)(Zf:nb<=1000)(L:∀j,j<nb->Bd (F j) Nx)(R:∀j,j<nb->Bd (I j) Ny)(hN:2*max Nx (B+Ny+1)+65<=12800)(P:2*max B Ny+1<=12800):
  Calls prog 212 #[aN gf 0,aO Z nb C,aO l nb D,v] w.drew fun e w'=>e=.returned (.tuple #[])/\(0<nb->dN w' G nb (fun j=>F j-q*I j))/\Mod (fun g=>0<nb/\g=G) w w':=by
 have hd:Ext w w.drew:=(Ext.refl _).drew;by_cases h:0<nb
 .obtain⟨Y,r1⟩:=Q h;obtain⟨U,r2⟩:=N h;refine(zA gf G M 0 0 nb nb nb C nb D Nx Ny B Z l v F I q w.drew (hc.ext hd) (r1.ext hd) (r2.ext hd) (K h) (fun _=>by simpa using Y) (fun _=>by simpa using U) (κ _) aa aa aa aa (hq.ext hd) (fun j H=>by simpa using L j H) (fun j H=>by simpa using R j H) hN P).mono ?_;rintro e w' ⟨O,V,W⟩;refine⟨O,fun _=>V.congr fun j H=> ?_,(ae1 hd).trans (W.mono fun g T=>⟨h,T⟩)⟩;unfold wI;rw[ι aa];simp
 .obtain rfl:nb=0:=aa;refine(zU gf C 0 D Z l v q B w.drew (hq.ext hd)).mono ?_;rintro e w' ⟨O,J⟩;exact⟨O,fun S=>absurd S aa,(ae1 hd).trans (ae1 J)⟩
def GG(m Z):∀c,(ech m Z c).r<=c
 |0=>κ _
 |c+1=>by
  have B:=GG m Z c;show(kM m c (ech m Z c)).r<=c+1;cases j:fp (ech m Z c).X c (m-(ech m Z c).r) (ech m Z c).r with
  |none=>rw[fA j];omega
  |some k=>rw[dW j];show(ech m Z c).r+1<=c+1;omega
theorem C9(m Z):∀c,(ech m Z c).r=c->∀i,i<c->(ech m Z c).X i i≠GQ.i 0 0
 |0,_,i,hi=>aa
 |c+1,h,i,hi=>by
  have D:=GG m Z c;have e:ech m Z (c+1)=kM m c (ech m Z c):=rfl;rw[e] at h⊢;cases j:fp (ech m Z c).X c (m-(ech m Z c).r) (ech m Z c).r with
  |none=>rw[fA j] at h;omega
  |some k=>
   rw[dW j] at h⊢;have C:(ech m Z c).r=c:=by have K:(ech m Z c).r+1=c+1:=h;omega
   have B:=C9 m Z c C;obtain⟨F,H,G,I⟩:=iW j;show clr (fun i=>(ech m Z c).X (swp k (ech m Z c).r i)) (ech m Z c).r c i i≠_;rw[C] at F⊢;unfold clr;rw[θ aa];show(ech m Z c).X (swp k c i) i≠_;by_cases l:i=c
   .subst l;rw[oZ];exact G
   .rw[wQ aa l];exact B i aa
theorem JY{na X Y i j}(h:j<na):side na X Y i j=X i j:=by unfold side;rw[ι h]
theorem Rk{na X Y i j}:side na X Y i (na+j)=Y i j:=by unfold side;rw[θ aa,show na+j-na=j by omega]
structure Out (W:World) (G m n:Nat) (RX:Nat->Rw) (X:Nat->Nat->GQ):Prop where
 x:Blk W G 174 (mxc m RX).toArray
 row:∀i,i<m->(RX i).A=γ ⟨(RX i).b,0,δ⟩/\(RX i).n=n/\(RX i).c=n/\dN W (RX i).b n (X i)
def Out.ext{W W' G m n RX X}(h:Out W G m n RX X)(x:Ext W W'):Out W' G m n RX X:=
 ⟨h.x.ext x,fun i hi=>⟨(h.row i hi).1,(h.row i hi).2.1,(h.row i hi).2.2.1,(h.row i hi).2.2.2.ext x⟩⟩
structure MI (N Ns Nd Nx m nb:Nat) (Z:Nat->Nat->GQ):Prop where
 a:∀i l,i<m->l<m->Bd (Z i l) N
 s:∀k j s,k<m->j<nb->s<k->Bd (bps Z (jE Z m k) m (m-1-k) j s) Ns
 d:∀k j,k<m->j<nb->Bd (bps Z (jE Z m k) m (m-1-k) j k) Nd
 x:∀k i j,k<=m->m-k<=i->i<m->j<nb->Bd (jE Z m k i j) Nx
 c1:2*max Ns (N+Nx+1)+65<=12800
 c2:2*max N Nx+1<=12800
 c3:Nd+N+1<=12800
 c4:N+N+1<=12800
 c5:Nx<=12800
def UE{N Ns Nd Nx m nb k i j Z}(h:MI N Ns Nd Nx m nb Z)(hi:i=m-1-k)(D:k<m)(C:j<nb):Bd (bps Z (jE Z m k) m i j k/Z i i) Nx:=by
 have l:=h.x (k+1) (m-1-k) j aa aa aa C;have B:jE Z m (k+1) (m-1-k) j=bps Z (jE Z m k) m (m-1-k) j k/Z (m-1-k) (m-1-k):=by
  show(upd (jE Z m k) (m-1-k) (fun j=>bps Z (jE Z m k) m (m-1-k) j k/Z (m-1-k) (m-1-k))) (m-1-k) j=_;rw[upd_same]
 rw[B] at l;rwa[<-hi] at l
theorem Vg(gf Ga Gb m cA cB nb N Ns Nd Nx PA PB Z w)(h:EI w gf Ga Gb m m nb PA PB Z)(hd:∀g,PA g->PB g->False)(Zq:∀g,PA g->g<w.heap.size)(YO:∀g,PB g->g<w.heap.size)(hm:m<=24)(Zf:nb<=24)(hz:∀i,i<m->Z i i≠GQ.i 0 0)(hR:MI N Ns Nd Nx m nb Z):
  Calls prog 193 #[aN gf 0,aO (γ (aM Ga 0)) m cA,aO (γ (aM Gb 0)) m cB] w fun e w'=>∃(G:Nat) (RX:Nat->Rw),e=.returned (.slice (γ (aM G 0)) m m)/\BI w w' gf Ga Gb G m nb PA PB Z m RX:=by
 have HH:=aW h;have HD:=aW hd;have ZF:=aW Zq;have YX:=aW YO;have HZ:=aW hz;have HR:=aW hR;clear h hd Zq YO hz hR;have Zc:=FT m aa;have ZR:=Cn nb aa;have Ze:(0:Int)<=m:=aa;have ZB:Hid (Ga<w.heap.size/\Gb<w.heap.size):=aW (by
  obtain⟨_,⟨_,a⟩,⟨_,b⟩⟩:=HH.o;exact⟨a.o.lt,b.o.lt⟩)
 go_enter func193,ntmps193;go_wp2_with fail;clear Zc;go_loopw [8] (fun i wr=>∃(k:Nat) (RX:Nat->Rw),k<=m/\i=.int .i64 ((m:Int)-1-(k:Int))/\BI w wr gf Ga Gb w.heap.size m nb PA PB Z k RX) (fun i _=>(intOf i+1).toNat)
 case atStart=>
  obtain⟨hc,⟨R,ha⟩,⟨R2,hb⟩⟩:=HH.o;have J:=Ext.new w (.cells (mxc m fun _=>BS).toArray 174);exact⟨0,fun _=>BS,aa,au,⟨hc.ext J,⟨R,ha.ext J⟩,⟨R2,_,hb.ext J,fun _ _ _=>rfl⟩,Blk.new _ _ _,κ _,fun i h1 h2=>absurd h1 aa,ae1 J⟩⟩
 case round=>
  obtain⟨k,RX,hk,rfl,hB⟩:=hrel;have HB:=aW hB;clear hB HH;by_cases Yp:k<m
  .obtain⟨i,hi⟩:∃i,i=m-1-k:=⟨_,rfl⟩;have ZE:(m:Int)-1-(k:Int)=(i:Int):=aa;have B:i<m:=aa;rw[ZE];have HI:=aW hi;clear hi ZE;have d1:decide ((i:Int)≥0)=ε:=ag;go_wp2_with fail;obtain⟨ac,⟨R,hA⟩,⟨R2,Y,ZZ,l⟩,J,YP,F,V⟩:=HB.o;have HC:=aW ac;have HA:=aW hA;have L:=aW ZZ;have HY:=aW l;have ZC:=aW J;have ZG:=aW F;have ax:=aW V;clear ac hA ZZ l J YP F V HB;have Zy:Far (fun g=>0<nb/\g=(R2 i).b) wr:=by
    rintro g ⟨hn,rfl⟩ _;obtain⟨ff,Zl,_⟩:=(L.o.row i B hn).2;exact⟨_,_,Zl,dI _ _⟩
   have ZM:=aW Zy;clear Zy;have T:Hid (m-k=i+1):=aW (by have:=HI.o;omega);go_loopw [9] (fun i9 w2=>∃s j:Nat,s<=k/\j=i+1+s/\i9=.int .i64 j/\(0<nb->dN w2 (R2 i).b nb (fun j=>bps Z (jE Z m k) m i j s))/\Mod (fun g=>0<nb/\g=(R2 i).b) wr w2) (aT m)
   case atStart=>exact⟨0,i+1,aa,aa,au,fun hn=>(L.o.row i B hn).2.congr fun j hj=>HY.o i j (by have:=HI.o;omega),Mod.refl _ _⟩
   case round=>
    obtain⟨s,j,hs,hj,rfl,Zm,YD⟩:=hrel;have Zz:=aW Zm;have Yu:=aW YD;have HJ:=aW hj;clear Zm YD hj;rename World=>w2;have YJ:=aW (HA.o.mod Yu.o ZM.o (by rintro⟨hn,e⟩;exact L.o.ne B hn HA.o.o e.symm) (by rintro H YA _ ⟨hn,e⟩;exact HD.o _ (HA.o.mem H YA aa) (e ▸ L.o.mem i B hn)));have YS:=aW (Blk.mod HC.o Yu.o (by
     rintro⟨hn,e⟩;exact jP.ne HC.o (L.o.row i B hn).2 e))
    have W:=aW (ZC.o.mod Yu.o (by rintro⟨hn,e⟩;exact L.o.ne B hn ZC.o e.symm));have Zo:=aW (L.o.o.mod Yu.o (by rintro⟨hn,e⟩;exact L.o.ne B hn L.o.o e.symm));by_cases ZU:s<k
    .have YU:j<m:=by have:=HI.o;have:=HJ.o;omega
     have YB:i<j:=by have:=HJ.o;omega
     have dj:decide ((j:Int)<m)=ε:=ae;have di:decide ((i:Int)<m)=ε:=ae;obtain⟨Zw,f,hf,hv⟩:=YJ.o.row i B aa;have C:=YJ.o.cell B;rw[Zw] at C;obtain⟨a0,a1,a2,a3,a4,a5⟩:=dN.cells hf YU rfl;have Z7:=aW ((hv j YU).to (HR.o.a i j B YU));clear Zw hf hv;go_wp2_with fail;refine(ym _ _ _ _ Z7.o (by have:=HR.o.c2;omega)).mono ?_;rintro e w3 ⟨rfl,Yq⟩;by_cases h0:Z i j=GQ.i 0 0
     .rw[Δ h0];have aw:Hid (∀H,bps Z (jE Z m k) m i H (s+1)=bps Z (jE Z m k) m i H s):=aW fun H=>by
       show _-Z i (i+1+s)*_=_;rw[<-HJ.o,h0,GQ.fC,GQ.fo]
      have Yx:=aW Yq;clear h0 C a0 a1 a2 a3 a4 a5 Yq;go_wp2_with fail
      go_roundw
      case rel=>exact⟨s+1,j+1,aa,by have:=HJ.o;omega,au,fun hn=>((Zz.o hn).ext Yx.o).congr fun H _=>(aw.o H).symm,Yu.o.trans (ae1 Yx.o)⟩
      case measure=>exact aV
     .rw[π h0];obtain⟨xa,xn,xc,xb,xr⟩:=ZG.o j Aa1 YU;have ZA:0<nb->(RX j).A=γ ⟨(RX j).b,0,δ⟩/\dN w3 (RX j).b nb (jE Z m k j):=fun hn=>⟨xa,(xr.mod Yu.o ZM.o (by rintro⟨YH,e⟩;have h1:=YX.o _ (L.o.mem i B YH);omega)).ext Yq⟩;have K1:=aX.cell (Yq.cell_ C);have K2:=aX.cell (show w3.cell? (aM Gb i)=γ (.slice (R2 i).A nb nb) from Yq.cell_ (by rw[Zo.o.cell,jf B,L.o.v0 B]));have K3:=aX.cell (show w3.cell? (aM w.heap.size j)=γ (.slice (γ (aM ((RX j).b) 0)) nb nb) from Yq.cell_ (by rw[W.o.cell,jf YU];unfold Rw.v;rw[xa,xn,xc]));have A0:=aX.cell (Yq.cell_ a0);have A1:=aX.cell (Yq.cell_ a1);have A2:=aX.cell (Yq.cell_ a2);have A3:=aX.cell (Yq.cell_ a3);have A4:=aX.cell (Yq.cell_ a4);have A5:=aX.cell (Yq.cell_ a5);have HS:=aW (R7 gf (R2 i).b (RX j).b nb nb nb Ns Nx N (R2 i).A (γ ⟨(RX j).b,0,δ⟩) _ (fun j=>bps Z (jE Z m k) m i j s) (jE Z m k j) (Z i j) w3 (YS.o.ext Yq) (Z7.o.ext Yq) (fun hn=>⟨(L.o.row i B hn).1,(Zz.o hn).ext Yq⟩) (fun hn=>⟨rfl,(ZA hn).2⟩) (fun hn e=>by have h1:=YX.o _ (L.o.mem i B hn);omega) aa (fun H YA=>by have:=HR.o.s k H s Yp YA ZU;rwa[<-HI.o] at this) (fun H YA=>HR.o.x k j H hk Aa1 YU YA) HR.o.c1 HR.o.c2);have Yx:=aW Yq;clear ZA C a0 a1 a2 a3 a4 a5 Yq xa xn xc xb xr;go_wp2_with fail;refine bM 16 [(ε,0),(ε,1),(ε,2),(ε,3),(ε,4),(ε,5),(ε,6),(ε,7),(ε,8),(ε,9),(ε,10),(ε,11),(ε,12),(ε,13),(ε,14),(ε,15)] ah ah ?_;refine bC [0,1,2,3,4,5,6,7,8,9,10,11,12,13,14,15] [] _ ah ?_;refine Gq ?_;clear K1 K2 K3 A0 A1 A2 A3 A4 A5;simp only[cK,ξ,τ];go_wp2_with fail;refine HS.o.mono ?_;rintro e w5 ⟨rfl,Z9,YV⟩;have Zj:=aW Z9;have ap:=aW ((Yu.o.trans (ae1 Yx.o)).trans YV);clear Z9 YV;go_wp2_with fail
      go_roundw
      case rel=>
       refine⟨s+1,j+1,aa,by have:=HJ.o;omega,au,fun hn=>(Zj.o hn).congr fun H _=> ?_,ap.o⟩;show _=bps Z (jE Z m k) m i H s-Z i (i+1+s)*jE Z m k (i+1+s) H;rw[<-HJ.o]
      case measure=>exact aV
    .obtain rfl:k=s:=aa;obtain rfl:m=j:=by have:=HI.o;have:=HJ.o;omega
     have dj:decide ((m:Int)<m)=ζ:=ag;have di:decide ((i:Int)<m)=ε:=ae;have Zn:=Ext.new w2 (.cells (bD nb fun _=>zEn).toArray 42);have YI:=W.o.ext Zn;have fr:=YI.frozen;have C:(w2.alloc (.cells (bD nb fun _=>zEn).toArray 42)).cell? (aM w.heap.size i)=γ (RX i).v:=by rw[YI.cell];exact jf B
     have kb:w2.cell? (aM Gb i)=γ (.slice (R2 i).A nb nb):=by rw[Zo.o.cell,jf B,L.o.v0 B]
     have YR:Blk ((w2.alloc (.cells (bD nb fun _=>zEn).toArray 42)).setCell ⟨w.heap.size,i,δ⟩ (.slice (γ (aM w2.heap.size 0)) nb nb)) w.heap.size 174 (mxc m (upd RX i ⟨γ ⟨w2.heap.size,0,δ⟩,w2.heap.size,0,nb,nb⟩)).toArray:=by
      rw[<-Gf];exact YI.mM _ _
     have k2:((w2.alloc (.cells (bD nb fun _=>zEn).toArray 42)).setCell ⟨w.heap.size,i,δ⟩ (.slice (γ (aM w2.heap.size 0)) nb nb)).cell? (aM w.heap.size i)=γ (aO (γ (aM w2.heap.size 0)) nb nb):=by rw[YR.cell,jf B,upd_same];rfl
     have YN:w.heap.size<w2.heap.size:=W.o.lt;have Yy:Blk ((w2.alloc (.cells (bD nb fun _=>zEn).toArray 42)).setCell ⟨w.heap.size,i,δ⟩ (.slice (γ (aM w2.heap.size 0)) nb nb)) w2.heap.size 42 (bD nb fun _=>zEn).toArray:=(Blk.new _ _ _).far (by show w2.heap.size≠w.heap.size;omega) _;have ZV:Mod (fun g=>g=w.heap.size) w2 ((w2.alloc (.cells (bD nb fun _=>zEn).toArray 42)).setCell ⟨w.heap.size,i,δ⟩ (.slice (γ (aM w2.heap.size 0)) nb nb)):=(ae1 Zn).trans (Mod.only (Only.set _ _ _ _) rfl);have Zx:Far (fun g=>g=w.heap.size) w2:=fun g hg _=>by subst hg;exact⟨_,_,W.o,kS _ _⟩
     have Za:=aW YR;have U:=aW Yy;have O:=aW ZV;have ao:=aW Zx;have YT:=aW YN;clear YR Yy ZV Zx YN Zn YI;go_wp2_with fail;clear C k2 fr kb;generalize ZK:World.setCell _ _ _=w4 at Za U O⊢;clear ZK;generalize Zg:w2.heap.size=g at*
     have YC:=aW Zg;clear Zg;have ZO:=aW (Blk.mod YS.o O.o (by exact fun e=>YS.o.eY W.o aj e));have aq:=aW (YJ.o.mod O.o ao.o (by have:=ZB.o.1;exact fun e=>aa) (fun H YA _=>YJ.o.ne YA aa W.o));have af:=aW (Zo.o.mod O.o (by have:=ZB.o.2;exact fun e=>aa));have ai:Hid (0<nb->dN w4 (R2 i).b nb (fun j=>bps Z (jE Z m k) m i j k)):=aW fun hn=>(Zz.o hn).mod O.o ao.o (by
      obtain⟨cs,YE⟩:=(Zz.o hn).blk;exact fun e=>YE.eY W.o aj e)
     have Zi:Hid (w.heap.size<g/\Ga<g/\Gb<g/\gf<g/\(0<nb->(R2 i).b<g)/\∀D,D<m->(R D).b<g):=aW (by
      have h1:=YC.o;have h2:=YT.o;have h3:=ZB.o;refine⟨h2,aa,aa,by have:=Blk.lt YS.o;omega,fun hn=> ?_,fun D Yr=> ?_⟩
      .obtain⟨cs,YE⟩:=(Zz.o hn).blk;have:=YE.lt;omega
      .obtain⟨cs,YE⟩:=(YJ.o.row D Yr aa).2.blk;have:=YE.lt;omega)
     clear YJ YS Zo;go_loopw [69] (fun ZN wz=>∃(H:Nat) (f:Nat->En),H<=nb/\ZN=.int .i64 H/\Blk wz g 42 (bD nb f).toArray/\(∀j,j<H->GV wz (f j).v (bps Z (jE Z m k) m i j k/Z i i) 12800)/\Mod (fun g'=>g'=g) w4 wz) (aT nb)
     case atStart=>exact⟨0,_,aa,rfl,U.o,fun j hj=>aa,Mod.refl _ _⟩
     case round=>
      clear dj;obtain⟨H,f,YA,rfl,hb,YM,Zh⟩:=hrel;have YL:=aW hb;have YF:=aW YM;have YG:=aW Zh;clear hb YM Zh;rename World=>wz;have ZW:Far (fun g'=>g'=g) w4:=fun g' hg _=>by subst hg;exact⟨_,_,U.o,dI _ _⟩
      have Z8:=aW ZW;clear ZW;have Zp:=aW (Za.o.mod YG.o (by have:=Zi.o.1;exact fun e=>aa));have ZP:=aW (Blk.mod ZO.o YG.o (by have:=Zi.o.2.2.2.1;exact fun e=>aa));have ZQ:=aW (aq.o.mod YG.o Z8.o (by have:=Zi.o.2.1;exact fun e=>aa) (fun D Yr _=>by have:=Zi.o.2.2.2.2.2 D Yr;exact fun e=>aa));have ZY:=aW (af.o.mod YG.o (by have:=Zi.o.2.2.1;exact fun e=>aa));have ZI:Hid (0<nb->dN wz (R2 i).b nb (fun j=>bps Z (jE Z m k) m i j k)):=aW fun hn=>(ai.o hn).mod YG.o Z8.o (by have:=Zi.o.2.2.2.2.1 hn;exact fun e=>aa);by_cases Yz:H<nb
      .have dj:decide ((H:Int)<nb)=ε:=ae;have Yw:0<nb:=aa;have ZX:=(L.o.row i B Yw).1;have K1:=aX.cell (show wz.cell? (aM w.heap.size i)=γ (aO (γ (aM g 0)) nb nb) by rw[Zp.o.cell,jf B,upd_same];rfl);have K2:=aX.cell (show wz.cell? (aM Gb i)=γ (.slice (γ (aM ((R2 i).b) 0)) nb nb) by rw[ZY.o.cell,jf B,L.o.v B Yw]);obtain⟨Zw,P,ZT,Zt⟩:=ZQ.o.row i B aa;have K3:=aX.cell (show wz.cell? (aM Ga i)=γ (.slice (γ (aM ((R i).b) 0)) m m) by rw[ZQ.o.cell B,Zw]);obtain⟨fb,am,YQ⟩:=ZI.o Yw;obtain⟨a0,a1,a2,a3,a4,a5⟩:=dN.cells ZT B rfl;obtain⟨b0,b1,b2,b3,b4,b5⟩:=dN.cells am Yz rfl;have A0:=aX.cell a0;have A1:=aX.cell a1;have A2:=aX.cell a2;have A3:=aX.cell a3;have A4:=aX.cell a4;have A5:=aX.cell a5;have B0:=aX.cell b0;have B1:=aX.cell b1;have B2:=aX.cell b2;have B3:=aX.cell b3;have B4:=aX.cell b4;have B5:=aX.cell b5;have Zr:=aW ((Zt i B).to (HR.o.a i i B B));have Zv:=aW ((YQ H Yz).to (by have:=HR.o.d k H Yp Yz;rwa[<-HI.o] at this));clear Zw ZT Zt am YQ a0 a1 a2 a3 a4 a5 b0 b1 b2 b3 b4 b5 ZX;go_wp2_with fail;refine bM 21 [(ε,0),(ε,1),(ε,2),(ε,3),(ε,4),(ε,5),(ε,6),(ε,7),(ε,8),(ε,9),(ε,10),(ε,11),(ε,12),(ε,13),(ε,14),(ε,15),(ε,16),(ε,17),(ε,18),(ε,19),(ζ,20)] ah ah ?_;refine bC [0,1,2,3,4,5,6,7,8,9,10,11,12,13,14,15,16,17,18,19] [(ζ,20)] _ ah ?_;refine Gq ?_;refine bz 20 [] ah ?_;intro K I;simp only[bG];go_wp2_with fail;have YY:Ext wz wz.drew:=(Ext.refl _).drew;refine(WA gf _ _ (bps Z (jE Z m k) m i H k) (Z i i) Nd N _ (Blk.ext ZP.o YY) (Zv.o.ext YY) (Zr.o.ext YY) (HZ.o i B) Nx HR.o.c3 HR.o.c4 (UE HR.o HI.o Yp Yz) HR.o.c5).mono ?_;rintro e w5 ⟨v5,rfl,Zk,Yv⟩;obtain⟨u1,D1,p1,q1,u2,D2,p2,q2,u3,D3,p3,q3,rfl⟩:=Zk.opn;have YK:=aW Yv.jF;have ZJ:=aW Zk;clear Yv Zk YY;go_wp2;refine I _ _ ⟨⟨w5,YK.o⟩,rfl⟩ ?_;clear I K K1 K2 K3 A0 A1 A2 A3 A4 A5 B0 B1 B2 B3 B4 B5;simp only[cK,ξ,τ];have Yt:=YL.aA YK.o;obtain⟨a0,a1,a2,a3,a4,a5⟩:=dN.cells Yt.o Yz rfl;have fr:=Yt.o.frozen;have YV:Mod (fun g'=>g'=g) w5 (puts w5 g (H*6) [.bool u1,.slice D1 p1 q1,.bool u2,.slice D2 p2 q2,.bool u3,.slice D3 p3 q3]):=Mod.only (gP _ _ _ _) rfl;have ZL:Far (fun g'=>g'=g) w5:=fun g' hg _=>by subst hg;exact⟨_,_,Yt.o,dI _ _⟩
       have Q:=dm (H*6) [.bool u1,.slice D1 p1 q1,.bool u2,.slice D2 p2 q2,.bool u3,.slice D3 p3 q3] Yt.o;have ZH:=ou (f:=f) ⟨u1,D1,p1,q1,u2,D2,p2,q2,u3,D3,p3,q3⟩ Yz;rw[show gI (bD nb f).toArray (H*6) [.bool u1,.slice D1 p1 q1,.bool u2,.slice D2 p2 q2,.bool u3,.slice D3 p3 q3]=_ from ZH] at Q;have S:=aW Q;have Zd:=aW ((YG.o.trans (ae1 YK.o)).trans YV);have av:Hid (∀j,j<H+1->GV (puts w5 g (H*6) [.bool u1,.slice D1 p1 q1,.bool u2,.slice D2 p2 q2,.bool u3,.slice D3 p3 q3]) (upd f H ⟨u1,D1,p1,q1,u2,D2,p2,q2,u3,D3,p3,q3⟩ j).v (bps Z (jE Z m k) m i j k/Z i i) 12800):=aW fun j hj=>by
        by_cases e:j=H
        .subst e;rw[upd_same];exact((ZJ.o.up HR.o.c5).mod YV ZL)
        .rw[upd_ne e];exact((YF.o j aa).ext YK.o).mod YV ZL
       clear YV ZL Q ZH;go_wp2_with fail
       go_roundw
       case rel=>exact⟨H+1,_,aa,au,S.o,av.o,Zd.o⟩
       case measure=>exact aV
      .obtain rfl:nb=H:=aa;have dj:decide ((nb:Int)<nb)=ζ:=ag;have e0:=Blk.cell ZP.o;go_wp2_with fail;have hS:Far (fun g'=>(0<nb/\g'=(R2 i).b)\/g'=w.heap.size\/g'=g) wr:=by
        rintro g' (h|rfl|rfl) ad
        .exact ZM.o g' h ad
        .exact⟨_,_,ZC.o,kS _ _⟩
        .have h1:=YC.o;have h2:=Yu.o.size;omega
       have hM:Mod (fun g'=>(0<nb/\g'=(R2 i).b)\/g'=w.heap.size\/g'=g) wr wz:=((Yu.o.mono fun g' h=> .inl h).trans (O.o.mono fun g' h=> .inr (.inl h))).trans (YG.o.mono fun g' h=> .inr (.inr h));have ay:=Zi.o.1;have YO:∀j,j<m->0<nb->(R2 j).b<w.heap.size:=fun j hj hn=>YX.o _ (L.o.mem j hj hn);have ar:(i:Int)-1=(m:Int)-1-((k+1:Nat):Int):=by have:=HI.o;omega
       refine⟨⟨k+1,upd RX i ⟨γ ⟨g,0,δ⟩,g,0,nb,nb⟩,aa,by rw[ar],?_⟩,by simp[aT,intOf]⟩;refine⟨ZP.o,⟨R,ZQ.o⟩,⟨R2,upd Y i (fun j=>bps Z (jE Z m k) m i j k),?_,fun D j Yr=> ?_⟩,Zp.o,κ _,fun D h1 h2=> ?_,?_⟩
       .refine L.o.U0 hM hS ?_ ?_ (fun hn=>ZI.o hn)
        .rintro(⟨hn,e⟩|e|e)
         .exact L.o.ne B hn L.o.o e.symm
         .have:=ZB.o.2;omega
         .have:=Zi.o.2.2.1;omega
        .rintro j hj M hn (⟨_,e⟩|e|e)
         .exact M (L.o.inj j i hj B hn e)
         .have:=YO j hj hn;omega
         .have:=YO j hj hn;omega
       .have:=HI.o;rw[upd_ne aa];exact HY.o D j aa
       .have hI:=HI.o;by_cases e:D=i
        .subst e;rw[upd_same];refine⟨rfl,rfl,rfl,by show w.heap.size<=g;omega,f,YL.o,fun j hj=> ?_⟩;have hb:=YF.o j hj;have e2:jE Z m (k+1) D j=bps Z (jE Z m k) m D j k/Z D D:=by
          show upd (jE Z m k) (m-1-k) (fun j=>bps Z (jE Z m k) m (m-1-k) j k/Z (m-1-k) (m-1-k)) D j=_;rw[<-hI,upd_same]
         rw[e2];exact hb
        .rw[upd_ne e];obtain⟨h3,h4,h5,h6,h7⟩:=ZG.o D aa h2;refine⟨h3,h4,h5,h6,?_⟩;rw[DT Z Yp aa];refine h7.mod hM hS ?_;obtain⟨cs,YE⟩:=h7.blk;rintro(⟨hn,e'⟩|e'|e')
         .have:=YO i B hn;omega
         .exact YE.eY ZC.o aj e'
         .have h8:=YE.lt;have h9:=YC.o;have YZ:=Yu.o.size;omega
       .have hm:=ax.o;exact⟨hM.os.trans hm.os,hM.tape.trans hm.tape,hM.output.trans hm.output,Ξ hm.size hM.size,fun k' YW hn=>(hM.block k' (ο YW hm.size) (by
         rintro(⟨YH,e'⟩|e'|e')
         .exact hn (e' ▸ L.o.mem i B YH)
         .omega
         .omega)).trans (hm.block k' YW hn)⟩
  .obtain rfl:k=m:=aa;have ZE:(k:Int)-1-(k:Int)= -1:=aa;rw[ZE];go_wp2_with fail;go_ret;exact⟨_,RX,rfl,HB.o⟩
theorem Vn{A A2 B O B2 O2 m c c2 nb N Ns Nd Nx R R2}{E E2:Nat->Nat->En}{X Y w}{vb vb2:Nat->Nat->Bool}(h:Mem w A B O m R E)(h2:Mem w A2 B2 O2 m R2 E2)(YQ:∀i j,i<m->j<(R i).n->VB w (E i j).v (vb i j))(Yp:∀i j,i<m->j<(R2 i).n->VB w (E2 i j).v (vb2 i j))(hM:IsM m R vb)(Zw:IsM m R2 vb2)(hn:∀i,i<m->(R i).n=m)(Zh:∀i,i<m->(R2 i).n=nb)(Zf:nb<=24)(hv:∀i j,i<m->j<m->GV w (E i j).v (X i j) 12800)(ZE:∀i j,i<m->j<nb->GV w (E2 i j).v (Y i j) 12800)(hN:4*N+67<=12800)(I:Room N m m nb (side m X Y))(YL:(ech m (side m X Y) m).r=m->MI N Ns Nd Nx m nb (ech m (side m X Y) m).X):
  Calls prog 159 #[aO A m c,aO A2 m c2] w fun e w'=>((ech m (side m X Y) m).r<m/\e=.returned (.tuple #[(),(45:Int)])\/(ech m (side m X Y) m).r=m/\∃G RX,e=.returned (.tuple #[aO (γ (aM G 0)) m m,aJ])/\Out w' G m nb RX (jE (ech m (side m X Y) m).X m m))/\Ext w w':=by
 have hm:=hM.1;have ZN:=C9 m (side m X Y) m;have Yy:=GG m (side m X Y) m;have HM:=aW h;have Yt:=aW h2;have Q:=aW hv;have Yr:=aW ZE;have HN:=aW hn;have Yw:=aW Zh;have HR:=aW I;have T:=aW YL;have YH:=aW ZN;have YM:=aW (fun(w':World) (x:Ext w w')=>Dk (c:=c) (h.ext x) (fun i j hi hj=>(YQ i j hi hj).ext x) ε ⟨fun _=>hM,fun _=>rfl⟩);have YO:=aW (fun(w':World) (x:Ext w w')=>Dk (c:=c2) (h2.ext x) (fun i j hi hj=>(Yp i j hi hj).ext x) ε ⟨fun _=>Zw,fun _=>rfl⟩);have YK:=aW (fun(w':World) (x:Ext w w')=>rC (c:=c) (h.ext x));have D:wd m R=m:=by
  unfold wd;by_cases e:m=0
  .rw[ι e];exact e.symm
  .rw[θ e];exact hn 0 aa
 rw[D] at YK;clear h h2 hv ZE hn Zh I YL YQ Yp hM Zw D ZN;have YS:((m:Int) !=m)=ζ:=ag;go_enter func159,ntmps159;go_wp2_with fail;refine(YM.o _ (Ext.refl _)).mono ?_;rintro e w1 ⟨rfl,H⟩;have Zj:=aW H;clear H;go_wp2_with fail;refine(YO.o _ Zj.o).mono ?_;rintro e w2 ⟨rfl,P⟩;have Zd:=Zj.aC P;clear P Zj;go_wp2_with fail;refine(YK.o _ Zd.o).mono ?_;rintro e w3 ⟨rfl,Yq⟩;have YA:=(Zd.o.trans Yq).alloc (.cells #[aJ] 250);have Yu:=PX w3;clear Zd Yq;go_wp2_with fail;generalize aU _ _=w4 at Yu YA⊢;generalize w3.heap.size=gf at Yu⊢;have ZO:=aW Yu;have YV:=aW YA;clear Yu YA;refine(Vv (HM.o.ext YV.o) HN.o (fun i j hi hj=>(Q.o i j hi hj).ext YV.o) hm hm).mono ?_;rintro e wa ⟨Ga,Ra,rfl,YC⟩;have YB:=YV.aC YC.ext;have C:=aW YC;clear YC;go_wp2_with fail;refine(Vv (Yt.o.ext YB.o) Yw.o (fun i j hi hj=>(Yr.o i j hi hj).ext YB.o) hm Zf).mono ?_;rintro e wb ⟨Gb,Rb,rfl,YF⟩;have YU:=YB.aC YF.ext;have l:=aW YF;clear YF;have ad:∀i,i<m->(Ra i).b<wa.heap.size:=fun i hi=>by
  obtain⟨cs,YE⟩:=(C.o.row i hi).2.1.blk;exact YE.lt
 have M:∀i,i<m->wa.heap.size<=(Rb i).b/\(Rb i).b<wb.heap.size:=fun i hi=>by
  obtain⟨cs,YE⟩:=(l.o.row i hi).2.1.blk;exact⟨(l.o.row i hi).2.2,YE.lt⟩
 have YN:w4.heap.size<=wa.heap.size:=C.o.ext.size;have Yv:wa.heap.size<=wb.heap.size:=l.o.ext.size;have YR:=aW (EI.mk (gf:=gf) (Ga:=Ga) (Gb:=Gb) (m:=m) (na:=m) (nb:=nb) (PA:=fun g=>∃i,i<m/\g=(Ra i).b) (PB:=fun g=>∃i,i<m/\g=(Rb i).b) (Z:=side m X Y) (W:=wb) ((ZO.o.ext C.o.ext).ext l.o.ext) ⟨Ra,(C.o.mx l.o.ext).congr fun i j hi hj=>(JY hj).symm⟩ ⟨Rb,(l.o.mx (Ext.refl _)).congr fun i j hi hj=>(Rk).symm⟩);have S:Ga≠Gb:=by have h1:=C.o.o.lt;have h2:=l.o.gx;omega
 have YI:=aW S;clear S;have ZF:=aW ad;have YX:=aW M;clear ad M;have ac:=aW (And.intro YN Yv);clear YN Yv;go_wp2_with fail;refine(JS gf Ga Gb m m m m nb N _ _ (fun g=>w4.heap.size<=g) (side m X Y) wb YR.o YI.o ?_ ⟨C.o.gx,Ξ ac.o.1 l.o.gx,?_,?_⟩ (fun h=>h) hm hm Zf hN HR.o ?_).mono ?_
 .exact Abq
 .rintro g ⟨i,hi,rfl⟩;exact(C.o.row i hi).2.2
 .rintro g ⟨i,hi,rfl⟩;exact Ξ ac.o.1 (YX.o i hi).1
 .intro w' x;exact Ol ((C.o.mx l.o.ext).ext x) (fun h=>h) m aa
 rintro e w5 ⟨rfl,U,YD⟩;have Yx:=aW U;have YJ:=aW (YV.o.trans (YD.V9 (C.o.ext.trans l.o.ext) (κ _)));have Yz:=aW YD.size;have e0:=U.calm.cell;clear YD;generalize hs:ech m (side m X Y) m=s at T YH Yx Yy⊢;have HS:=aW hs;clear hs;by_cases hr:s.r<m
 .have K:decide ((s.r:Int)<(m:Int))=ε:=ae;have F:=aW hr;clear hr;go_wp2_with fail;refine xw rfl rfl ⟨.inl ⟨?_,rfl⟩,YJ.o⟩;rw[HS.o];exact F.o
 .have K:decide ((s.r:Int)<(m:Int))=ζ:=ae;have YT:¬((s.r:Int)<(m:Int)):=aa;have F:Hid (s.r=m):=aW aa;clear hr Yy;go_wp2_with fail;refine(Vg gf Ga Gb m m m nb N Ns Nd Nx _ _ s.X _ Yx.o ?_ ?_ ?_ hm Zf (YH.o F.o) (T.o F.o)).mono ?_
  .exact Abq
  .rintro g ⟨i,hi,rfl⟩;have h1:=ZF.o i hi;have h2:=ac.o;have h3:=Yz.o;omega
  .rintro g ⟨i,hi,rfl⟩;have h1:=(YX.o i hi).2;have h3:=Yz.o;omega
  rintro e w6 ⟨G,RX,rfl,J⟩;have e1:=J.calm.cell;have V:=J.mod;have YG:Ext w w6:=by
   have L:=YJ.o;exact⟨V.os.trans L.os,V.tape.trans L.tape,V.output.trans L.output,Ξ L.size V.size,fun k' YW=>(V.block k' (ο YW L.size) (by
    rintro⟨i,hi,e⟩;have h1:=(YX.o i hi).1;have h2:=ac.o;have h3:=YV.o.size;omega)).trans (L.block k' YW)⟩
  have YP:=aW YG;have ZG:=aW J;clear YG J V;go_wp2_with fail;refine xw rfl rfl ⟨.inr ⟨?_,G,RX,rfl,?_⟩,YP.o⟩
  .rw[HS.o];exact F.o
  .rw[HS.o];exact⟨ZG.o.x,fun i hi=>⟨(ZG.o.row i aa hi).1,(ZG.o.row i aa hi).2.1,(ZG.o.row i aa hi).2.2.1,(ZG.o.row i aa hi).2.2.2.2⟩⟩
structure BrD where
 a:Nat
 b:Nat
 z0:Imp
 z1:Imp
 n:Int
 d:Int
 emf:Int
 deriving DecidableEq,Inhabited
def jZ (s:StD) (p:dH) (i:Nat):Bool:=p.closed.getD i ζ&&decide ((sides s p i).1.1=1)
def iG (s:StD) (p:dH) (i:Nat):Nat:=13+(sides s p i).1.2.toNat
def lW (s:StD) (p:dH) (l e i:Nat):Bool:=
 jZ s p i&&decide ((s.bays.getD i η).kind=1)&&decide ((s.bays.getD i η).obj=(l:Int))&&decide ((s.bays.getD i η).en=(e:Int))
def wL (s:StD) (p:dH) (l e:Nat):Nat->Nat
 |0=>2*l+e
 |n+1=>if lW s p l e n=ε then iG s p n else wL s p l e n
def jy (s:StD) (p:dH) (l e:Nat):Nat:=wL s p l e s.bays.length
def gG (s:StD) (p:dH) (i:Nat):Option BrD:=
 let x:=s.bays.getD i η
 if jZ s p i=ε then
  if x.kind=2 then
   let g:=s.srcs.getD x.obj.toNat η
   γ ⟨iG s p i,17,g.z0,g.z1,1,1,g.emf⟩
  else if x.kind=3/\(sides s p i).1≠(sides s p i).2 then
   γ ⟨iG s p i,13+(sides s p i).2.2.toNat,x.z,x.z,1,1,0⟩
  else δ
 else δ
def fV (s:StD) (p:dH):Nat->List BrD
 |0=>[]
 |n+1=>fV s p n++(gG s p n).toList
def nu (f:dY) (l:Nat):Bool:=f.line&&decide (f.obj=(l:Int))
def half (s:StD) (p:dH) (f:dY) (l e:Nat):BrD:=
 let x:=s.lines.getD l η
 if nu f l=ε then ⟨jy s p l e,12,x.z0,x.z1,(if e=0 then f.num else f.den-f.num),f.den,0⟩
 else ⟨jy s p l e,jy s p l (1-e),x.z0,x.z1,1,1,0⟩
def kZ (s:StD) (p:dH) (f:dY) (l:Nat):List BrD:=
 if nu f l=ε then [half s p f l 0,half s p f l 1] else [half s p f l 0]
def fG (s:StD) (p:dH) (f:dY):Nat->List BrD
 |0=>[]
 |n+1=>fG s p f n++kZ s p f n
def dD (s:StD) (p:dH) (f:dY):List BrD:=fV s p s.bays.length++fG s p f s.lines.length
def way (s:StD) (p:dH) (f:dY) (i:Nat):Option BrD:=
 if (s.bays.getD i η).kind=1 then γ (half s p f (s.bays.getD i η).obj.toNat (s.bays.getD i η).en.toNat)
 else gG s p i
def eZ (s:StD) (p:dH) (f:dY):Nat:=
 if f.line=ε then 12 else if f.kind=0 then 17 else 13+((groups s p).getD f.obj.toNat 0).toNat
def rH (L:Nat->Bool) (b:BrD):Nat->Bool:=
 fun n=>L n||((decide (b.b=17)||L b.a||L b.b)&&decide (n≠17)&&(decide (n=b.a)||decide (n=b.b)))
structure yI (bs:List BrD) (L:Nat->Bool):Prop where
 closed:∀b∈bs,(b.b=17\/L b.a=ε\/L b.b=ε)->(b.a≠17->L b.a=ε)/\(b.b≠17->L b.b=ε)
 none:L 17=ζ
def agu{bs L}(B:L 17=ζ)(h:∀b∈bs,∀n,rH L b n=L n):yI bs L:=by
 refine⟨fun b hb Z=> ?_,B⟩;have ha:=h b hb b.a;have hc:=h b hb b.b;simp only[rH] at ha hc;have J:(decide (b.b=17)||L b.a||L b.b)=ε:=by
  rcases Z with h|h|h<;>simp[h]
 constructor
 .intro hn;cases j:L b.a with
  |true=>rfl
  |false=>rw[J,j] at ha;simp[hn] at ha
 .intro hn;cases j:L b.b with
  |true=>rfl
  |false=>rw[J,j] at hc;simp[hn] at hc
def dh (w:World) (g:Nat):Prop:=Blk w g 109 #[aJ]
def dh.ext{w w' g}(h:dh w g)(x:Ext w w'):dh w' g:=Blk.ext h x
def rV(g v q n w)(hc:dh w g)(L:GV w v q n):
  CV 172 #[aN g 0,v,aJ] w fun v w'=>GV w' v q n:=by
 obtain⟨N,H,T,G,Q,V,Z,J,P,D,I,K,rfl⟩:=L.opn;obtain⟨Y,F,j⟩:=an2 w 42 #[N,aO H T G,Q,aO V Z J,P,aO D I K] 42 aQ3;have S:=Blk.cell hc;have l:=Blk.frozen hc;have B:Ext w (w.setCell ⟨g,0,δ⟩ (.int .i64 0)):=(Ext.refl w).stay hc rfl;have O:=hc.ext B;have C:=Blk.cell O;have R:g<w.heap.size:=Blk.lt hc;have M:=aW (L.ext B);clear L Y F j;go_enter func172,ntmps172;go_wp2_with fail;exact dG rfl rfl rfl (aeW _ _ Abc) ⟨_,rfl,M.ext ((Ext.new _ _).alloc _),B.trans ((Ext.new _ _).alloc _)⟩
def Ku(g v0 v1 q0 q1 n0 n1 w)(hc:dh w g)(L:GV w v0 q0 n0)(l:GV w v1 q1 n1)(hn:2*max n0 n1+65<=12800):
  CV 134 #[aN g 0,v0,v1,.func (Fn.func 194) #[] #[]] w fun v w'=>GV w' v (q0+q1) (n0+n1+65):=by
 obtain⟨N,H,T,G,Yt,V,Z,Yr,Yu,Yw,Yy,Yv,rfl⟩:=L.opn;obtain⟨D,U,C,I,W,M,Yx,P,R,Yq,S,K,rfl⟩:=l.opn;have HX:=aW L;have HY:=aW l;clear L l;obtain⟨Y,F,Q,j⟩:=an3 w 42 #[N,aO H T G,Yt,aO V Z Yr,Yu,aO Yw Yy Yv] 42 #[D,aO U C I,W,aO M Yx P,R,aO Yq S K] 42 aQ3;have O:=hc.ext Y;have k0:=Blk.cell O;have k4:=F.cell;have k5:=Q.cell;have Yp:g<w.heap.size:=Blk.lt hc;go_enter adc,acQ;go_wp2_with fail;refine(Ur _ q0 n0 _ q1 n1 _ (HX.ext Y) (HY.ext Y) hn).mono ?_;exact AbJ
def L8(g v0 v1 q0 q1 n0 n1 w)(hc:dh w g)(L:GV w v0 q0 n0)(l:GV w v1 q1 n1)(hn:2*max n0 n1+65<=12800):
  CV 134 #[aN g 0,v0,v1,.func (Fn.func 135) #[] #[]] w fun v w'=>GV w' v (q0-q1) (n0+n1+65):=by
 obtain⟨N,H,T,G,Yt,V,Z,Yr,Yu,Yw,Yy,Yv,rfl⟩:=L.opn;obtain⟨D,U,C,I,W,M,Yx,P,R,Yq,S,K,rfl⟩:=l.opn;have HX:=aW L;have HY:=aW l;clear L l;obtain⟨Y,F,Q,j⟩:=an3 w 42 #[N,aO H T G,Yt,aO V Z Yr,Yu,aO Yw Yy Yv] 42 #[D,aO U C I,W,aO M Yx P,R,aO Yq S K] 42 aQ3;have O:=hc.ext Y;have k0:=Blk.cell O;have k4:=F.cell;have k5:=Q.cell;have Yp:g<w.heap.size:=Blk.lt hc;go_enter adc,acQ;go_wp2_with fail;refine(NV _ q0 n0 _ q1 n1 _ (HX.ext Y) (HY.ext Y) hn).mono ?_;exact AbJ
def JR(g v0 v1 q0 q1 n0 n1 w)(hc:dh w g)(L:GV w v0 q0 n0)(l:GV w v1 q1 n1)(hn:2*max n0 n1+1<=12800):
  CV 134 #[aN g 0,v0,v1,.func (Fn.func 164) #[] #[]] w fun v w'=>GV w' v (q0*q1) (n0+n1+1):=by
 obtain⟨N,H,T,G,Yt,V,Z,Yr,Yu,Yw,Yy,Yv,rfl⟩:=L.opn;obtain⟨D,U,C,I,W,M,Yx,P,R,Yq,S,K,rfl⟩:=l.opn;have HX:=aW L;have HY:=aW l;clear L l;obtain⟨Y,F,Q,j⟩:=an3 w 42 #[N,aO H T G,Yt,aO V Z Yr,Yu,aO Yw Yy Yv] 42 #[D,aO U C I,W,aO M Yx P,R,aO Yq S K] 42 aQ3;have O:=hc.ext Y;have k0:=Blk.cell O;have k4:=F.cell;have k5:=Q.cell;have Yp:g<w.heap.size:=Blk.lt hc;go_enter adc,acQ;go_wp2_with fail;refine(RH _ q0 n0 _ q1 n1 _ (HX.ext Y) (HY.ext Y) hn).mono ?_;exact AbJ
def Kc(g v0 v1 q0 q1 n0 n1 w)(hc:dh w g)(L:GV w v0 q0 n0)(l:GV w v1 q1 n1)(h0:q1≠GQ.i 0 0)(nr)(hn:n0+n1+1<=12800)(Zh:n1+n1+1<=12800)(hb:Bd (q0/q1) nr)(hr:nr<=12800):
  CV 134 #[aN g 0,v0,v1,.func (Fn.func 137) #[] #[]] w fun v w'=>GV w' v (q0/q1) (nr):=by
 obtain⟨N,H,T,G,Yt,V,Z,Yr,Yu,Yw,Yy,Yv,rfl⟩:=L.opn;obtain⟨D,U,C,I,W,M,Yx,P,R,Yq,S,K,rfl⟩:=l.opn;have HX:=aW L;have HY:=aW l;clear L l;have H0:=aW h0;clear h0;obtain⟨Y,F,Q,j⟩:=an3 w 42 #[N,aO H T G,Yt,aO V Z Yr,Yu,aO Yw Yy Yv] 42 #[D,aO U C I,W,aO M Yx P,R,aO Yq S K] 42 aQ3;have O:=hc.ext Y;have k0:=Blk.cell O;have k4:=F.cell;have k5:=Q.cell;have Yp:g<w.heap.size:=Blk.lt hc;go_enter adc,acQ;go_wp2_with fail;refine(Ta _ q0 n0 _ q1 n1 _ (HX.ext Y) (HY.ext Y) H0 nr hn Zh hb hr).mono ?_;exact AbJ
def nQ(g v0 v1 q0 q1 n0 n1 w)(hc:dh w g)(L:GV w v0 q0 n0)(l:GV w v1 q1 n1)(hn:2*max n0 n1+65<=12800):
  CV 161 #[aN g 0,v0,v1] w fun v w'=>GV w' v (q0+q1) (n0+n1+65):=by
 obtain⟨N,H,T,G,Yt,V,Z,Yr,Yu,B,Yy,Yv,rfl⟩:=L.opn;obtain⟨D,U,C,I,W,M,Yx,P,R,Yq,S,K,rfl⟩:=l.opn;have HX:=aW L;have HY:=aW l;clear L l;obtain⟨Y,F,Q,j⟩:=an3 w 42 #[N,aO H T G,Yt,aO V Z Yr,Yu,aO B Yy Yv] 42 #[D,aO U C I,W,aO M Yx P,R,aO Yq S K] 42 aQ3;have O:=hc.ext Y;have k4:=F.cell;have k5:=Q.cell;go_enter func161,ntmps161;go_wp2_with fail;clear k4 k5 F Q;refine(Ku g _ _ q0 q1 n0 n1 _ O (HX.ext Y) (HY.ext Y) hn).mono ?_;exact Acx
def uR(g v0 v1 q0 q1 n0 n1 w)(hc:dh w g)(L:GV w v0 q0 n0)(l:GV w v1 q1 n1)(hn:2*max n0 n1+65<=12800):
  CV 89 #[aN g 0,v0,v1] w fun v w'=>GV w' v (q0-q1) (n0+n1+65):=by
 obtain⟨N,H,T,G,Yt,V,Z,Yr,Yu,B,Yy,Yv,rfl⟩:=L.opn;obtain⟨D,U,C,I,W,M,Yx,P,R,Yq,S,K,rfl⟩:=l.opn;have HX:=aW L;have HY:=aW l;clear L l;obtain⟨Y,F,Q,j⟩:=an3 w 42 #[N,aO H T G,Yt,aO V Z Yr,Yu,aO B Yy Yv] 42 #[D,aO U C I,W,aO M Yx P,R,aO Yq S K] 42 aQ3;have O:=hc.ext Y;have k4:=F.cell;have k5:=Q.cell;go_enter func89,ntmps89;go_wp2_with fail;clear k4 k5 F Q;refine(L8 g _ _ q0 q1 n0 n1 _ O (HX.ext Y) (HY.ext Y) hn).mono ?_;exact Acx
def uX(g v0 v1 q0 q1 n0 n1 w)(hc:dh w g)(L:GV w v0 q0 n0)(l:GV w v1 q1 n1)(hn:2*max n0 n1+1<=12800):
  CV 127 #[aN g 0,v0,v1] w fun v w'=>GV w' v (q0*q1) (n0+n1+1):=by
 obtain⟨N,H,T,G,Yt,V,Z,Yr,Yu,B,Yy,Yv,rfl⟩:=L.opn;obtain⟨D,U,C,I,W,M,Yx,P,R,Yq,S,K,rfl⟩:=l.opn;have HX:=aW L;have HY:=aW l;clear L l;obtain⟨Y,F,Q,j⟩:=an3 w 42 #[N,aO H T G,Yt,aO V Z Yr,Yu,aO B Yy Yv] 42 #[D,aO U C I,W,aO M Yx P,R,aO Yq S K] 42 aQ3;have O:=hc.ext Y;have k4:=F.cell;have k5:=Q.cell;go_enter func127,ntmps127;go_wp2_with fail;clear k4 k5 F Q;refine(JR g _ _ q0 q1 n0 n1 _ O (HX.ext Y) (HY.ext Y) hn).mono ?_;exact Acx
def nS(g v0 v1 q0 q1 n0 n1 w)(hc:dh w g)(L:GV w v0 q0 n0)(l:GV w v1 q1 n1)(h0:q1≠GQ.i 0 0)(B)(hn:n0+n1+1<=12800)(Zh:n1+n1+1<=12800)(hb:Bd (q0/q1) B)(hr:B<=12800):
  CV 91 #[aN g 0,v0,v1] w fun v w'=>GV w' v (q0/q1) (B):=by
 obtain⟨N,H,T,G,Yt,V,Z,Yr,Yu,Yw,Yy,Yv,rfl⟩:=L.opn;obtain⟨D,U,C,I,W,M,Yx,P,R,Yq,S,K,rfl⟩:=l.opn;have HX:=aW L;have HY:=aW l;clear L l;obtain⟨Y,F,Q,j⟩:=an3 w 42 #[N,aO H T G,Yt,aO V Z Yr,Yu,aO Yw Yy Yv] 42 #[D,aO U C I,W,aO M Yx P,R,aO Yq S K] 42 aQ3;have O:=hc.ext Y;have k4:=F.cell;have k5:=Q.cell;go_enter func91,ntmps91;go_wp2_with fail;clear k4 k5 F Q;refine(Kc g _ _ q0 q1 n0 n1 _ O (HX.ext Y) (HY.ext Y) h0 B hn Zh hb hr).mono ?_;exact Acx
def RU(g re im den w)(hc:dh w g)(l0: -9223372036854775808<=re)(u0:re<=9223372036854775807)(l1: -9223372036854775808<=im)(u1:im<=9223372036854775807)(l2: -9223372036854775808<=den)(u2:den<=9223372036854775807)(hd:den≠0):
  CV 133 #[aN g 0,.int .i64 re,.int .i64 im,.int .i64 den] w fun v w'=>GV w' v ⟨(re:Rat)/(den:Rat),(im:Rat)/(den:Rat)⟩ 64:=by
 obtain⟨Y,j⟩:=an1 w 42 aQ3;have O:=hc.ext Y;have HO:=aW (fun w=>Vy re im den w l0 u0 l1 u1 l2 u2 hd);clear l0 u0 l1 u1 l2 u2 hd;go_enter func133,ntmps133;go_wp2_with fail;refine(HO.o _).mono ?_;rintro e w2 ⟨v,rfl,⟨u,rfl,N⟩,J⟩;replace Y:=Y.trans J;replace j:=j.ext J;replace O:=O.ext J;have ZC:=J.size;clear J;obtain⟨P,Q,D,C,G,F,l,K,I,R,M,H,rfl⟩:=N.opn;obtain⟨B,L⟩:=an1 w2 42 #[P,aO Q D C,G,aO F l K,I,aO R M H];have HU:=aW (N.ext B);clear N;replace Y:=Y.trans B;replace j:=j.ext B;replace O:=O.ext B;have k7:=L.cell;go_wp2_with fail;refine(rV g _ _ _ _ O HU.o).mono ?_;rintro e w3 ⟨v,rfl,hv,J⟩;replace Y:=Y.trans J;replace j:=j.ext J;clear J;obtain⟨YJ,YE,YI,Z,YF,V,YD,YK,T,YH,U,YG,rfl⟩:=hv.opn;have k6:=j.cell;have f6:=j.frozen;obtain⟨p1,p2,S⟩:=fe Y aa j hv;have P1:=aW p1;have P2:=aW p2;have W:=aW S;clear p1 p2 S Y j hv;go_wp2_with fail;exact dG rfl rfl rfl P2.o ⟨_,rfl,W.o,P1.o⟩
def dO(g m w)(hc:dh w g)(l0: -9223372036854775808<=m)(u0:m<=9223372036854775807):
  CV 88 #[aN g 0,.int .i64 m] w fun v w'=>GV w' v (GQ.i m 0) 64:=by
 obtain⟨Y,j⟩:=an1 w 42 aQ3;have O:=hc.ext Y;have C:(⟨(m:Rat)/((1:Int):Rat),((0:Int):Rat)/((1:Int):Rat)⟩:GQ)=GQ.i m 0:=by ext<;>simp only[GQ.dM,GQ.dJ]<;>grind
 have B:=aW (fun w hc=>RU g m 0 1 w hc l0 u0 aa aa aa aa aa);rw[C] at B;clear l0 u0;go_enter func88,ntmps88;go_wp2_with fail;refine(B.o _ O).mono ?_;rintro e V ⟨v,rfl,hv,J⟩;replace Y:=Y.trans J;replace j:=j.ext J;clear J;obtain⟨T,N,S,I,P,G,K,U,D,R,F,Q,rfl⟩:=hv.opn;have W:=j.cell;have Z:=j.frozen;obtain⟨p1,p2,l⟩:=fe Y aa j hv;have L:=aW p1;have M:=aW p2;have H:=aW l;clear p1 p2 l Y j hv;go_wp2_with fail;exact dG rfl rfl rfl M.o ⟨_,rfl,H.o,L.o⟩
def ofC (n:Nat) (C:Nat->Value):Array Value:=((List.range n).map C).toArray
def Ig(n C):(ofC n C).size=n:=by simp[ofC]
def CW{n k C}(h:k<n):(ofC n C)[k]? =γ (C k):=by
 simp[ofC,z8,aaA h]
def Fv{n k C}(h:n<=k):(ofC n C)[k]? =δ:=by
 rw[aau];rw[Ig];exact h
theorem Ou{n C D}(h:∀k,k<n->C k=D k):ofC n C=ofC n D:=by
 unfold ofC;rw[acA (fun k j=>h k (aav.1 j))]
def Ty{a b:Array Value}(h:∀k:Nat,a[k]? =b[k]?):a=b:=Array.ext_getElem? h
def MP{n k C}(v)(h:k<n):(ofC n C).setIfInBounds k v=ofC n (upd C k v):=by
 refine Ty fun i=> ?_;rw[Array.getElem?_setIfInBounds];by_cases hi:i<n
 .rw[CW hi];by_cases e:k=i
  .subst e;rw[ι rfl,ι (by rw[Ig];exact h),CW h,upd_same]
  .rw[θ e,CW hi,upd_ne (fun h=>e h.symm)]
 .rw[Fv aa,θ aa,Fv aa]
def FX (C:Nat->Value) (k:Nat):List Value->Nat->Value
 |[]=>C
 |v::vs=>FX (upd C k v) (k+1) vs
def FU:∀(B:List Value) {C:Nat->Value} {k i:Nat},(i<k\/k+B.length<=i)->FX C k B i=C i
 |[],_,_,_,_=>rfl
 |v::B,C,k,i,h=>by
  show FX (upd C k v) (k+1) B i=C i;rw[nV] at h;rw[FU B aa,upd_ne aa]
def M9:∀(B:List Value) {C:Nat->Value} {k j:Nat} {v:Value},B[j]? =γ v->FX C k B (k+j)=v
 |[],_,_,_,_,h=>by simp at h
 |u::B,C,k,0,v,h=>by
  show FX (upd C k u) (k+1) B (k+0)=v;simp only[adg,aay] at h;rw[FU B aa,I4,upd_same,h]
 |u::B,C,k,j+1,v,h=>by
  show FX (upd C k u) (k+1) B (k+(j+1))=v;rw[aa2] at h;rw[show k+(j+1)=k+1+j by omega];exact M9 B h
def EF:∀(B:List Value) {n k:Nat} {C:Nat->Value},k+B.length<=n->gI (ofC n C) k B=ofC n (FX C k B)
 |[],_,_,_,_=>rfl
 |v::B,n,k,C,h=>by
  rw[nV] at h;show gI ((ofC n C).setIfInBounds k v) (k+1) B=_;rw[MP v aa];exact EF B aa
def fP (w:World) (g:Nat) (t:TypeId) (n:Nat) (C:Nat->Value):Prop:=Blk w g t (ofC n C)
section
variable {w w':World} {g n:Nat} {t:TypeId} {C D:Nat->Value}
def fP.blk(h:fP w g t n C):Blk w g t (ofC n C):=h
def fP.lt(h:fP w g t n C):g<w.heap.size:=Blk.lt h
def fP.ext(h:fP w g t n C)(x:Ext w w'):fP w' g t n C:=Blk.ext h x
def fP.mod{S}(h:fP w g t n C)(m:Mod S w w')(j:¬S g):fP w' g t n C:=Blk.mod h m j
theorem fP.congr(h:fP w g t n C)(e:∀k,k<n->C k=D k):fP w g t n D:=by unfold fP;rw[<-Ou e];exact h
def fP.cell(h:fP w g t n C){k}(j:k<n):w.cell? (aM g k)=γ (C k):=(Blk.cell h k).trans (CW j)
def fP.cell_(h:fP w g t n C){k v}(j:k<n)(hv:C k=v):w.cell? (aM g k)=γ v:=(h.cell j).trans (by rw[hv])
def fP.frozen(h:fP w g t n C)(k):w.frozen? ⟨g,k,δ⟩=ζ:=Blk.frozen h k
def fP.set(h:fP w g t n C){k}(v)(j:k<n):fP (w.setCell ⟨g,k,δ⟩ v) g t n (upd C k v):=by
 have:=Blk.mM h k v;rw[MP v j] at this;exact this
def fP.puts(h:fP w g t n C){k:Nat}(B:List Value)(j:k+B.length<=n):fP (puts w g k B) g t n (FX C k B):=by
 have:=dm k B h;rw[EF B j] at this;exact this
def Mod.set{S}(w g k v)(j:S g):Mod S w (w.setCell ⟨g,k,δ⟩ v):=Mod.only (Only.set w g k v) j
def Mod.puts{S:Nat->Prop}(w:World)(g k:Nat)(B:List Value)(j:S g):Mod S w (puts w g k B):=Mod.only (gP w g k B) j
end
def fP.rangeAt{w g n o t C}(h:fP w g t n C){B}(hn:o+B.length<=n)(hv:∀j v,B[j]? =γ v->C (o+j)=v):w.rangeAt g o B:=fun j v l=>by
 have:=(μ.1 l).1;exact h.cell_ aa (hv j v l)
def fP.there{w g n o m t C}(h:fP w g t n C)(hn:o+m<=n):w.there g o m:=fun j l=>
 ⟨by rw[h.cell (k:=o+j) aa];rfl,h.frozen _⟩
def nP(g):∀(B:List Value) (o:Nat) (w:World),w.setCells g o B=puts w g o B
 |[],_,_=>rfl
 |v::B,o,w=>by
  show(w.setCell ⟨g,o,δ⟩ v).setCells g (o+1) B=_;rw[nP g B (o+1)];rfl
def fQ{S w0 w w'}(h:Ext w0 w)(m:Mod S w w')(hs:∀k,S k->w0.heap.size<=k):Ext w0 w':=
 ⟨m.os.trans h.os,m.tape.trans h.tape,m.output.trans h.output,Ξ h.size m.size,fun k j=>(m.block k (ο j h.size) (fun e=>by have:=hs k e;omega)).trans (h.block k j)⟩
def nY (v:Value):Bool:=match v with| .int .u32 _=>ζ|_=>ε
def iq (S:Nat->Prop) (w:World):Prop:=∀g,S g->g<w.heap.size->∃(t:TypeId) (cs:Array Value),Blk w g t cs/\∀(j:Nat) (v:Value),cs[j]? =γ v->nY v=ε
def afl{S w g n t C}(h:fP w g t n C)(Y:∀k,k<n->nY (C k)=ε)(hS:∀k,S k->k=g):iq S w:=by
 intro k B _;obtain rfl:=hS k B;refine⟨t,_,h.blk,fun j v l=> ?_⟩;by_cases hn:j<n
 .rw[CW hn] at l;injection l with l;rw[<-l];exact Y j hn
 .rw[Fv aa] at l;cases l
section
variable {S:Nat->Prop} {w w':World}
def RM.fM{A n c l}(h:RM w A n c l)(m:Mod S w w')(hS:iq S w):RM w' A n c l:=by
 refine⟨⟨h.rd.1,fun hn=> ?_⟩,h.dg,h.nc,h.cm⟩;obtain⟨b,o,rfl,B,hc⟩:=h.rd.plain hn;obtain⟨I,x,e,_,J,_,_⟩:=h.at_ hn;have C:¬S b:=by
  intro hs;obtain⟨t,cs,hb,D⟩:=hS b hs B;have:=hc 0 _ (p9 J);rw[hb.cell] at this;have:=D _ _ this;cases this
 exact Aa0
def RI.fM{v z}(h:RI w v z)(m:Mod S w w')(hS:iq S w):RI w' v z:=by
 obtain⟨A,n,c,e,h⟩:=h;exact⟨A,n,c,e,h.fM m hS⟩
def GV.fM{v q n}(h:GV w v q n)(m:Mod S w w')(hS:iq S w):GV w' v q n:=by
 obtain⟨a,b,d,⟨s1,A1,n1,c1,s2,A2,n2,c2,s3,A3,n3,c3,e,l,j,B⟩,I,Z⟩:=h;exact⟨a,b,d,⟨s1,A1,n1,c1,s2,A2,n2,c2,s3,A3,n3,c3,e,l.fM m hS,j.fM m hS,B.fM m hS⟩,I,Z⟩
end
def IK(a f):∀b,bD a f++bD b (fun _=>zEn)=bD (a+b) (fun i=>if i<a then f i else zEn)
 |0=>by
  show bD a f++[]=_;rw[Z6];exact BJ fun i hi=>by rw[ι hi]
 |b+1=>by
  rw[jg,<-HV,IK a f b,show a+(b+1)=(a+b)+1 by omega,jg,θ aa]
def af9(w g cs):Mod (fun k=>k=g) w (w.setRow g cs):=Mod.only (Only.setRow w g cs) rfl
def KG{w g t old cs}(h:Blk w g t old):Blk (w.setRow g cs) g t cs:=aeL w g old cs t (0,0) h
theorem LM{P w ops rest o a Q}(D:o.guard=δ)(s x:Operand)(t)(l:o.op=.call {callee:=.builtin .append,args:= #[s,x],argTypes:= #[t,t]}){B j L w'}(hs:a.eval s=B)(J:a.eval x=j)(C:(Builtin.append_ #[t,t] o.type #[B,j]).run P w=.ok L w')(h:wpList P ops Q rest (a.put o.dst L) w'):wpList P ops Q (o::rest) a w:=by
 refine adQ D fun _ I=> ?_;unfold Oper.wp execOp;simp only[l,Go.resolve,invoke,builtin,aaD,aa7,aax,List.map_toArray,abR,List.map_nil,hs,J,C];exact I _ _ h
def afD(x y):x/y=GQ.i 1 0/y*x:=by
 ext<;>simp only[GQ.yN,GQ.uB,GQ.bL,GQ.bK,GQ.dM,GQ.dJ]<;>grind
def agC(a b c:GQ):a*(b/c)=a/c*b:=by
 rw[afD b,afD a,<-GQ.dB,GQ.dZ a,GQ.dB]
def afW{x}(h:x≠GQ.i 0 0):x/x=GQ.i 1 0:=by
 have:=GQ.Mv (x:=GQ.i 1 0) h;rw[GQ.kF] at this;exact this
def agt: -(GQ.i 0 0)=GQ.i 0 0:=by(ext<;>simp only[GQ.cO,GQ.bY,GQ.dU,GQ.dV,GQ.bL,GQ.bK,GQ.lI,GQ.lM,GQ.dM,GQ.dJ]<;>grind)
def agH(x:GQ): - -x=x:=by(ext<;>simp only[GQ.cO,GQ.bY,GQ.dU,GQ.dV,GQ.bL,GQ.bK,GQ.lI,GQ.lM,GQ.dM,GQ.dJ]<;>grind)
def afj{x y}(h:x-y=GQ.i 0 0):x=y:=by
 have a:=congrArg GQ.re h;have b:=congrArg GQ.im h;simp only[GQ.dU,GQ.dV,GQ.dM,GQ.dJ] at a b;ext<;>grind
def Spn (v:Nat->GQ) (P:List (Nat->GQ)):Prop:=∀cs,det (v::P) cs=GQ.i 0 0
def Spn.more{v b P}(h:Spn v P):Spn v (b::P):=by
 intro cs;rw[xz];have:det (v::P)=fun _=>GQ.i 0 0:=funext h;show-dC b (det (v::P)) cs=_;rw[this,nJ,agt]
def afK{y a P}(h:Says y a P):Spn y (a::P):=fun cs=>by
 rw[h.more cs,rF a (a::P) cs (q8)]
def Spn.XI{x y P}(J:Spn x P)(R:Spn y P)(f):Spn (fun c=>x c-f*y c) P:=fun cs=>by
 have j:det ((fun c=>x c-f*y c)::P) cs=det (x::P) cs-f*det (y::P) cs:=xZ x y f cs (det P);rw[j,J cs,R cs,GQ.bQ,GQ.fo]
def Spn.QN{x P}(J:Spn x P)(f):Spn (fun c=>x c/f) P:=fun cs=>by
 have e:(fun c=>x c/f)=fun c=>GQ.i 1 0/f*x c:=funext fun c=>afD _ _;rw[e];have j:det ((fun c=>GQ.i 1 0/f*x c)::P) cs=GQ.i 1 0/f*det (x::P) cs:=sO _ _ _;rw[j,J cs,GQ.bQ]
def EB{v}:∀(cs:List Nat) (k:Nat) (D:List Nat->GQ),k<cs.length->(∀t d,cs[t]? =γ d->v d=if t=k then GQ.i 1 0 else GQ.i 0 0)->dC v D cs=D (cs.eraseIdx k)\/dC v D cs= -D (cs.eraseIdx k)
 |[],k,D,hk,_=>by simp at hk
 |c::cs,0,D,_,h=>by
  left
  show v c*D cs-dC v (fun l=>D (c::l)) cs=D cs;rw[h 0 c rfl,ι rfl,GQ.kF,nI cs _ (fun d hd=>by
   obtain⟨t,j⟩:=abO hd;rw[h (t+1) d j,θ aa]),GQ.fo]
 |c::cs,k+1,D,hk,h=>by
  have hv:v c=GQ.i 0 0:=by rw[h 0 c rfl,θ aa]
  have B:=EB (v:=v) cs k (fun l=>D (c::l)) (by simpa using hk) (fun t d j=>by
   rw[h (t+1) d j];by_cases e:t=k
   .rw[ι aa,ι e]
   .rw[θ aa,θ e])
  have e:dC v D (c::cs)= -dC v (fun l=>D (c::l)) cs:=by
   show v c*D cs-dC v (fun l=>D (c::l)) cs=_;rw[hv,GQ.fC,GQ.OY]
  rw[e];rcases B with B|B
  .right;rw[B];rfl
  .left;rw[B,agH];rfl
def Spn.entry{v P q k}(h:Spn v P)(B:k<q.length)(hq:∀t d,q[t]? =γ d->v d=if t=k then GQ.i 1 0 else GQ.i 0 0)(j):
  v j*det P q=det P (j::q.eraseIdx k)\/v j*det P q= -det P (j::q.eraseIdx k):=by
 have e:v j*det P q=dC v (fun l=>det P (j::l)) q:=afj (h (j::q));rw[e];exact EB q k _ B hq
def Wh.neg{x B}(h:Wh x B):Wh (-x) B:=by
 obtain⟨a,b,rfl,j⟩:=h;exact⟨-a,-b,by(ext<;>simp only[GQ.cO,GQ.bY,GQ.dU,GQ.dV,GQ.bL,GQ.bK,GQ.lI,GQ.lM,GQ.dM,GQ.dJ]<;>grind),aa⟩
def red (Y:Nat->Nat->GQ) (r c:Nat):Nat->Nat->GQ:=fun i j=>if i=r then Y r j/Y r c else Y i j-Y i c*(Y r j/Y r c)
structure Rc where
 r:Nat
 X:Nat->Nat->GQ
 d:GQ
def CK (m c:Nat) (s:Rc):Rc:=
 match fp s.X c (m-s.r) s.r with
 |none=>s
 |some k=>⟨s.r+1,red (fun i=>s.X (swp k s.r i)) s.r c,(if k=s.r then s.d else s.d*GQ.i (-1) 0)*s.X k c⟩
def oD (m:Nat) (X:Nat->Nat->GQ):Nat->Rc
 |0=>⟨0,X,GQ.i 1 0⟩
 |c+1=>CK m c (oD m X c)
theorem Ky{m c}{s:Rc}(h:fp s.X c (m-s.r) s.r=δ):CK m c s=s:=by unfold CK;rw[h]
theorem J9{m c k}{s:Rc}(h:fp s.X c (m-s.r) s.r=γ k):CK m c s=⟨s.r+1,red (fun i=>s.X (swp k s.r i)) s.r c,(if k=s.r then s.d else s.d*GQ.i (-1) 0)*s.X k c⟩:=by unfold CK;rw[h]
def Aw(m Z):∀c,(ech m Z c).r<=c
 |0=>κ _
 |c+1=>by
  have B:=Aw m Z c;show(kM m c (ech m Z c)).r<=c+1;cases j:fp (ech m Z c).X c (m-(ech m Z c).r) (ech m Z c).r with
  |none=>rw[fA j];omega
  |some k=>rw[dW j];show(ech m Z c).r+1<=c+1;omega
def zM{X Y}:∀{k:Nat},(∀i,i<k->X i i=Y i i)->rM X k=rM Y k
 |0,_=>rfl
 |k+1,h=>by
  show rM X k*X k k=rM Y k*Y k k;rw[zM (fun i hi=>h i aa),h k aa]
structure RInv (m:Nat) (X0:Nat->Nat->GQ) (c:Nat) (s:Ec) (t:Rc) (o:Nat->Nat) (P:List (Nat->GQ)):Prop where
 inv:Inv m X0 c s o P
 re:t.r=s.r
 lo:∀i,s.r<=i->i<m->t.X i=s.X i
 sp:∀i,i<s.r->Spn (t.X i) P
 un:∀i,i<s.r->∀k d,s.q[k]? =γ d->t.X i d=if k+i+1=s.r then GQ.i 1 0 else GQ.i 0 0
 dd:t.d=if s.odd then-det P s.q else det P s.q
 pp:s.r=c->rM s.X c=det P s.q
def afH(m l):RInv m l 0 (ech m l 0) (oD m l 0) (fun i=>i) []:=
 ⟨afv m l,rfl,fun _ _ _=>rfl,fun i hi=>absurd hi (acx i),fun i hi=>absurd hi (acx i),rfl,fun _=>rfl⟩
theorem RInv.step{m c l}{s:Ec}{t:Rc}{o P}(h:RInv m l c s t o P)(YO:s.r<=c):(fp s.X c (m-s.r) s.r=δ/\RInv m l (c+1) (kM m c s) (CK m c t) o P)\/∃k,fp s.X c (m-s.r) s.r=γ k/\RInv m l (c+1) (kM m c s) (CK m c t) (fun i=>o (swp k s.r i)) (l (o k)::P):=by
 have YM:=h.inv.rm;cases Q:fp s.X c (m-s.r) s.r with
 |none=>
  have K:fp t.X c (m-t.r) t.r=δ:=by
   rw[h.re];refine AP fun i O N=> ?_;rw[h.lo i O aa];exact qC Q i O N
  have V:Inv m l (c+1) s o P:=⟨h.inv.rm,h.inv.pl,h.inv.ql,h.inv.ne,fun d hd=>aca (h.inv.qc d hd),h.inv.pm,h.inv.om,h.inv.sy,fun i j O N Z=>by
   by_cases e:j=c
   .subst e;exact qC Q i O aa
   .exact h.inv.z i j O N aa⟩
  rw[fA Q,Ky K];exact .inl ⟨rfl,V,h.re,h.lo,h.sp,h.un,h.dd,fun e=>aa⟩
 |some k=>
  obtain⟨C,k2,T,k4⟩:=iW Q;have S:k<m:=aa;have I:∀i,s.r<=i->i<m->t.X i=s.X i:=h.lo;have K:fp t.X c (m-t.r) t.r=γ k:=by
   rw[h.re];refine AJ C aa (fun i O N=> ?_) ?_
   .rw[I i O aa];exact k4 i O N
   .rw[I k C S];exact T
  have L:=(h.inv.sy k C aa).entry (fun d hd=>h.inv.z k d C aa (h.inv.qc d hd)) c;have G:Spn (s.X k) (l (o k)::P):=afK (h.inv.sy k C aa);have M:∀d∈s.q,s.X k d=GQ.i 0 0:=fun d hd=>h.inv.z k d C S (h.inv.qc d hd);have B:swp k s.r s.r=k:=oZ _ _;have H:∀i,i<s.r->swp k s.r i=i:=fun i hi=>wQ aa aa;have F:∀i,s.r<i->i<m->s.r<=swp k s.r i/\swp k s.r i<m:=fun i O N=>⟨by unfold swp;split<;>(try split)<;>omega,mI S aa N⟩;have V:Inv m l (c+1) (kM m c s) (fun i=>o (swp k s.r i)) (l (o k)::P):=by
   rw[dW Q];refine⟨by show s.r+1<=m;omega,by simp[h.inv.pl],by simp[h.inv.ql],?_,?_,?_,?_,?_,?_⟩
   .show det (l (o k)::P) (c::s.q)≠_;rw[L];exact GQ.jc T h.inv.ne
   .intro d hd;rcases lh.1 hd with rfl|hd
    .omega
    .exact aca (h.inv.qc d hd)
   .intro p hp;rcases lh.1 hp with rfl|hp
    .exact⟨o k,h.inv.om k aa,rfl⟩
    .exact h.inv.pm p hp
   .intro i hi;exact h.inv.om _ (mI aa aa hi)
   .intro i O N;have D:s.r<i:=O;have e:(clr (fun i=>s.X (swp k s.r i)) s.r c) i=fun j=>s.X (swp k s.r i) j-(s.X (swp k s.r i) c/s.X k c)*s.X k j:=by
     funext j;unfold clr;rw[ι D];simp only[B]
    show Says ((clr (fun i=>s.X (swp k s.r i)) s.r c) i) _ _;rw[e];exact Says.step (h.inv.sy _ (F i D N).1 (F i D N).2) (h.inv.sy k C aa) _
   .intro i j O N Z;have D:s.r<i:=O;show(clr (fun i=>s.X (swp k s.r i)) s.r c) i j=_;unfold clr;rw[ι D];simp only[B];by_cases e:j=c
    .subst e;rw[afb T,GQ.rD]
    .rw[h.inv.z _ j (F i D N).1 (F i D N).2 aa,h.inv.z k j C aa aa,GQ.bQ,GQ.fo]
  rw[J9 K];refine .inr ⟨k,rfl,V,?_,?_,?_,?_,?_,?_⟩
  .rw[dW Q];show t.r+1=s.r+1;rw[h.re]
  .rw[dW Q];intro i O N;have D:s.r<i:=O;funext j;show red (fun i=>t.X (swp k t.r i)) t.r c i j=clr (fun i=>s.X (swp k s.r i)) s.r c i j;rw[h.re];unfold red clr;rw[θ aa,ι D];simp only[B];rw[I _ (F i D N).1 (F i D N).2,I k C S,agC]
  .rw[dW Q];intro i hi;have U:i<s.r+1:=hi;show Spn (red (fun i=>t.X (swp k t.r i)) t.r c i) _;rw[h.re];by_cases e:i=s.r
   .subst e;have R:red (fun i=>t.X (swp k s.r i)) s.r c s.r=fun j=>s.X k j/s.X k c:=by
     funext j;unfold red;rw[ι rfl];simp only[B];rw[I k C S]
    rw[R];exact G.QN _
   .have R:red (fun i=>t.X (swp k s.r i)) s.r c i=fun j=>t.X i j-t.X i c*(s.X k j/s.X k c):=by
     funext j;unfold red;rw[θ e];simp only[B];rw[I k C S,H i aa]
    rw[R];exact(h.sp i aa).more.XI (G.QN _) _
  .rw[dW Q];intro i hi n d hd;have U:i<s.r+1:=hi;show red (fun i=>t.X (swp k t.r i)) t.r c i d=if n+i+1=s.r+1 then _ else _;rw[h.re];by_cases e:i=s.r
   .subst e;have R:red (fun i=>t.X (swp k s.r i)) s.r c s.r d=s.X k d/s.X k c:=by
     unfold red;rw[ι rfl];simp only[B];rw[I k C S]
    rw[R]
    match n,hd with
    |0,hd=>
     obtain rfl:c=d:=by simpa using hd
     rw[ι aa,afW T]
    |n+1,hd=>
     have hd':s.q[n]? =γ d:=by simpa using hd
     rw[θ aa,M d (wo hd'),aft]
   .have R:red (fun i=>t.X (swp k s.r i)) s.r c i d=t.X i d-t.X i c*(s.X k d/s.X k c):=by
     unfold red;rw[θ e];simp only[B];rw[I k C S,H i aa]
    rw[R]
    match n,hd with
    |0,hd=>
     obtain rfl:c=d:=by simpa using hd
     rw[θ aa,afW T,GQ.pX,GQ.rD]
    |n+1,hd=>
     have hd':s.q[n]? =γ d:=by simpa using hd
     rw[M d (wo hd'),aft,GQ.bQ,GQ.fo,h.un i aa n d hd'];by_cases Y:n+i+1=s.r
     .rw[ι Y,ι aa]
     .rw[θ Y,θ aa]
  .rw[dW Q];show(if k=t.r then t.d else t.d*GQ.i (-1) 0)*t.X k c=if (s.odd^^decide (k≠s.r)) then-det (l (o k)::P) (c::s.q) else det (l (o k)::P) (c::s.q);rw[L,I k C S,h.re,h.dd];generalize s.X k c=x;generalize det P s.q=y;by_cases e:k=s.r
   .have J:(s.odd^^decide (k≠s.r))=s.odd:=by simp[e]
    rw[ι e,J];cases s.odd
    .show y*x=x*y;exact GQ.dZ _ _
    .show-y*x= -(x*y)
     (ext<;>simp only[GQ.cO,GQ.bY,GQ.dU,GQ.dV,GQ.bL,GQ.bK,GQ.lI,GQ.lM,GQ.dM,GQ.dJ]<;>grind)
   .have J:(s.odd^^decide (k≠s.r))= !s.odd:=by simp[e]
    rw[θ e,J];cases s.odd
    .show y*GQ.i (-1) 0*x= -(x*y)
     (ext<;>simp only[GQ.cO,GQ.bY,GQ.dU,GQ.dV,GQ.bL,GQ.bK,GQ.lI,GQ.lM,GQ.dM,GQ.dJ]<;>grind)
    .show-y*GQ.i (-1) 0*x=x*y
     (ext<;>simp only[GQ.cO,GQ.bY,GQ.dU,GQ.dV,GQ.bL,GQ.bK,GQ.lI,GQ.lM,GQ.dM,GQ.dJ]<;>grind)
  .rw[dW Q];intro e;have W:s.r=c:=by have:s.r+1=c+1:=e;omega
   show rM (clr (fun i=>s.X (swp k s.r i)) s.r c) c*clr (fun i=>s.X (swp k s.r i)) s.r c c c=det (l (o k)::P) (c::s.q);rw[L,<-h.pp W];have a1:clr (fun i=>s.X (swp k s.r i)) s.r c c c=s.X k c:=by
    unfold clr;rw[θ aa];simp only[];rw[<-W,B]
   have a2:rM (clr (fun i=>s.X (swp k s.r i)) s.r c) c=rM s.X c:=zM fun i hi=>by
    unfold clr;rw[θ aa];simp only[];rw[H i aa]
   rw[a1,a2,GQ.dZ]
def Out.mem{W G m n RX X}(h:Out W G m n RX X)(I:m<=1000)(hn:n<=1000):∃(R:Nat->Rw) (E:Nat->Nat->En),Mem W (γ ⟨G,0,δ⟩) G 0 m R E/\(∀i,i<m->(R i).n=n)/\∀i j,i<m->j<n->GV W (E i j).v (X i j) 12800:=by
 have hc:∀i,∃f:Nat->En,i<m->Blk W (RX i).b 42 (bD n f).toArray/\∀j,j<n->GV W (f j).v (X i j) 12800:=fun i=>by
  by_cases hi:i<m
  .obtain⟨f,H,D⟩:=(h.row i hi).2.2.2;exact⟨f,fun _=>⟨H,D⟩⟩
  .exact⟨fun _=>zEn,fun h=>absurd h hi⟩
 obtain⟨E,Y⟩:=Classical.axiomOfChoice hc;refine⟨fun i=>⟨(RX i).A,(RX i).b,0,(RX i).n,(RX i).c⟩,E,⟨fun _=>rfl,fun i hi=> ?_,fun i hi _=>(h.row i hi).1,fun i j hi B t u C=> ?_,aa,fun i hi=> ?_⟩,fun i hi=>(h.row i hi).2.1,fun i j hi B=>(Y i hi).2 j B⟩
 .rw[h.x.cell,aan,jf hi];rfl
 .have l:j<n:=by have:=(h.row i hi).2.1;have T:j<(RX i).n:=B;omega
  have F:t<6:=(μ.1 C).1;show W.cell? (aM ((RX i).b) (0+(j*6+t)))=γ u;rw[aan,(Y i hi).1.cell,Γ,dP F l];exact C
 .have:=(h.row i hi).2.1;show(RX i).n<=_;omega
def Fa{a b n}(ha:a.natAbs<2^n)(hb:b.natAbs<2^n)(hn:1<=n):Bd (GQ.i a b) n:=by
 refine⟨a,b,1,LX a b,ha,hb,?_⟩;have:2^1<=2^n:=Ab aa hn;show(1:Int).natAbs<2^n;simp;omega
def mx2 (a b c d:GQ):Nat->Nat->GQ:=fun i j=>if i=0 then (if j=0 then a else b) else (if j=0 then c else d)
def kA:Nat->Nat->GQ:=mx2 (GQ.i 0 0) (GQ.i 1 0) (GQ.i 1 0) (GQ.i 0 0)
def kB:Nat->Nat->GQ:=mx2 (GQ.i 5 0) (GQ.i 5 0) (GQ.i 7 0) (GQ.i 7 0)
def kp(k)(j:k<=2):Bd (rM (ech 2 kA 2).X k) 64:=by
 match k,j with
 |0,_=>rw[show rM (ech 2 kA 2).X 0=GQ.i 1 0 by decide+kernel];exact Fa aj aj aj
 |1,_=>rw[show rM (ech 2 kA 2).X 1=GQ.i 1 0 by decide+kernel];exact Fa aj aj aj
 |2,_=>rw[show rM (ech 2 kA 2).X 2=GQ.i 1 0 by decide+kernel];exact Fa aj aj aj
def kd(i)(hi:i<2):Bd ((ech 2 kA 2).X i i) 64:=by
 match i,hi with
 |0,_=>rw[show(ech 2 kA 2).X 0 0=GQ.i 1 0 by decide+kernel];exact Fa aj aj aj
 |1,_=>rw[show(ech 2 kA 2).X 1 1=GQ.i 1 0 by decide+kernel];exact Fa aj aj aj
def qg (X Y:Nat->Nat->GQ) (i j:Nat):Nat->GQ
 |0=>GQ.i 0 0
 |s+1=>qg X Y i j s+X i s*Y s j
def D2 (X:Nat->Nat->GQ):GQ:=X 0 0*X 1 1-X 0 1*X 1 0
def D3 (X:Nat->Nat->GQ):GQ:=X 0 0*(X 1 1*X 2 2-X 1 2*X 2 1)-X 0 1*(X 1 0*X 2 2-X 1 2*X 2 0)+X 0 2*(X 1 0*X 2 1-X 1 1*X 2 0)
def d3 (a b c d e f g h i:GQ):GQ:=a*(e*i-f*h)-b*(d*i-f*g)+c*(d*h-e*g)
theorem MR(m X):∀c,(ech m X c).r=c->∀i j,i<m->j<i->j<c->(ech m X c).X i j=GQ.i 0 0
 |0,_,i,j,_,_,h=>aa
 |c+1,h,i,j,hi,hji,hjc=>by
  have H:=GG m X c;by_cases l:c+1<=i
  .obtain⟨o,P,C⟩:=pQ m X (c+1);exact C.z i j aa hi hjc
  have e:ech m X (c+1)=kM m c (ech m X c):=rfl;rw[e] at h⊢;cases B:fp (ech m X c).X c (m-(ech m X c).r) (ech m X c).r with
  |none=>rw[fA B] at h;omega
  |some k=>
   rw[dW B] at h⊢;have F:(ech m X c).r=c:=by have K:(ech m X c).r+1=c+1:=h;omega
   obtain⟨G,I,L,J⟩:=iW B;show clr (fun i=>(ech m X c).X (swp k (ech m X c).r i)) (ech m X c).r c i j=_;rw[F] at G⊢;unfold clr;rw[θ aa];show(ech m X c).X (swp k c i) j=_;by_cases D:i=c
   .subst D;rw[oZ];obtain⟨o,P,C⟩:=pQ m X i;exact C.z k j aa aa aa
   .rw[wQ aa D];exact MR m X c F i j hi hji aa
def F3:Nat->Nat:=fun k=>if k=0 then 402 else if k=1 then 1607 else 3617
theorem Jz(m X c):∀d,c<=d->∀i,i<(ech m X c).r->(ech m X d).X i=(ech m X c).X i/\(ech m X c).r<=(ech m X d).r
 |0,hd,i,hi=>by rw[show c=0 by omega] at hi⊢;exact⟨rfl,κ _⟩
 |d+1,hd,i,hi=>by
  by_cases e:c=d+1
  .rw[e];exact⟨rfl,κ _⟩
  .obtain⟨D,B⟩:=Jz m X c d aa i hi;have G:ech m X (d+1)=kM m d (ech m X d):=rfl;rw[G,<-D];cases l:fp (ech m X d).X d (m-(ech m X d).r) (ech m X d).r with
   |none=>rw[fA l];exact⟨rfl,B⟩
   |some k=>
    obtain⟨C,F,H,I⟩:=iW l;rw[dW l];refine⟨?_,by show(ech m X c).r<=(ech m X d).r+1;omega⟩;funext j;show clr (fun i=>(ech m X d).X (swp k (ech m X d).r i)) (ech m X d).r d i j=_;unfold clr;rw[θ aa];show(ech m X d).X (swp k (ech m X d).r i) j=_;rw[wQ aa aa]
def Qu(m X c):∀e,(ech m X (c+e)).r<=(ech m X c).r+e
 |0=>κ _
 |e+1=>by
  have B:=Qu m X c e;show(kM m (c+e) (ech m X (c+e))).r<=_;cases j:fp (ech m X (c+e)).X (c+e) (m-(ech m X (c+e)).r) (ech m X (c+e)).r with
  |none=>rw[fA j];omega
  |some k=>rw[dW j];show(ech m X (c+e)).r+1<=_;omega
def zx{m X}(h:¬(ech m X m).r<m){k}(l:k<=m):(ech m X k).r=k:=by
 have B:=Aw m X k;have j:=Qu m X k (m-k);rw[show k+(m-k)=m by omega] at j;omega
def Sj{A B c n k}(h:∀i,k<=i->i<k+n->A i c=B i c):fp A c n k=fp B c n k:=by
 cases D:fp B c n k with
 |none=>exact AP fun i j l=>by rw[h i j l];exact qC D i j l
 |some p=>
  obtain⟨C,F,G,H⟩:=iW D;exact AJ C F (fun i j l=>by rw[h i j aa];exact H i j l) (by rw[h p C F];exact G)
theorem EJ{m n A B}(h:∀i j,i<m->j<n->A i j=B i j):∀c,c<=n->(ech m A c).r=(ech m B c).r/\(ech m A c).odd=(ech m B c).odd/\∀i j,i<m->j<n->(ech m A c).X i j=(ech m B c).X i j
 |0,_=>⟨rfl,rfl,h⟩
 |c+1,hc=>by
  obtain⟨D,I,l⟩:=EJ h c aa;have L:ech m A (c+1)=kM m c (ech m A c):=rfl;have J:ech m B (c+1)=kM m c (ech m B c):=rfl;obtain⟨o,P,K⟩:=pQ m B c;have M:=K.rm;have G:fp (ech m A c).X c (m-(ech m A c).r) (ech m A c).r=fp (ech m B c).X c (m-(ech m B c).r) (ech m B c).r:=by
   rw[D];exact Sj fun i _ hi=>l i c aa aa
  rw[L,J];cases F:fp (ech m B c).X c (m-(ech m B c).r) (ech m B c).r with
  |none=>rw[fA (G.trans F),fA F];exact⟨D,I,l⟩
  |some k=>
   obtain⟨C,O,N,Q⟩:=iW F;rw[dW (G.trans F),dW F];refine⟨by show _+1=_+1;rw[D],by show(_^^_)=(_^^_);rw[D,I],fun i j hi H=> ?_⟩;show clr (fun i=>(ech m A c).X (swp k (ech m A c).r i)) (ech m A c).r c i j=clr (fun i=>(ech m B c).X (swp k (ech m B c).r i)) (ech m B c).r c i j;rw[D];have hs:∀i,i<m->swp k (ech m B c).r i<m:=fun i hi=>mI aa aa hi;unfold clr;by_cases e:(ech m B c).r<i
   .rw[ι e,ι e];simp only[];rw[l _ j (hs i hi) H,l _ c (hs i hi) aa,l _ c (hs _ aa) aa,l _ j (hs _ aa) H]
   .rw[θ e,θ e];exact l _ j (hs i hi) H
def Lh{m X Y}:∀c,c<=m->(ech m (side m X Y) c).r=(ech m X c).r/\(ech m (side m X Y) c).odd=(ech m X c).odd/\∀i j,i<m->j<m->(ech m (side m X Y) c).X i j=(ech m X c).X i j:=
 EJ fun i j _ l=>JY l
structure Mr (m:Nat) (X0:Nat->Nat->GQ) (c:Nat) (s:Ec) (t:Rc) (o:Nat->Nat) (P:List (Nat->GQ)):Prop where
 r:RInv m X0 c s t o P
 cov:∀p,p<m->X0 p∈P\/∃i,s.r<=i/\i<m/\o i=p
 sp:∀i,i<s.r->Spn (s.X i) P
 qd:s.r=c->∀k,k<c->s.q[k]? =γ (c-1-k)
theorem lU(m l):∀c,∃o P,Mr m l c (ech m l c) (oD m l c) o P
 |0=>⟨_,_,afH m l,fun p hp=> .inr ⟨p,q9 _,hp,rfl⟩,fun i hi=>absurd hi (acx i),fun _ k K=>absurd K (acx k)⟩
 |c+1=>by
  obtain⟨o,P,h⟩:=lU m l c;have I:=Aw m l c;have G:ech m l (c+1)=kM m c (ech m l c):=rfl;rcases h.r.step I with ⟨D,H⟩|⟨k,D,H⟩
  .refine⟨o,P,H,?_,?_,?_⟩
   .rw[G,fA D];exact h.cov
   .rw[G,fA D];exact h.sp
   .rw[G,fA D];intro e;omega
  .obtain⟨C,S,R,T⟩:=iW D;have O:=h.r.inv.rm;refine⟨_,_,H,?_,?_,?_⟩
   .rw[G,dW D];intro p hp;rcases h.cov p hp with hc|⟨i,Q,N,J⟩
    .exact .inl (nC _ hc)
    .by_cases e:i=k
     .subst e;subst J;exact .inl q8
     .right
      refine⟨swp k (ech m l c).r i,?_,mI aa aa N,by simp only[Fg];exact J⟩;show(ech m l c).r+1<=_;by_cases B:i=(ech m l c).r
      .rw[B,oZ];omega
      .rw[wQ e B];omega
   .rw[G,dW D];intro i hi;have M:i<(ech m l c).r+1:=hi;by_cases e:i=(ech m l c).r
    .have B:clr (fun i=>(ech m l c).X (swp k (ech m l c).r i)) (ech m l c).r c i=(ech m l c).X k:=by
      funext j;unfold clr;rw[θ aa];simp only[];rw[e,oZ]
     show Spn (clr (fun i=>(ech m l c).X (swp k (ech m l c).r i)) (ech m l c).r c i) _;rw[B];exact afK (h.r.inv.sy k C aa)
    .have B:clr (fun i=>(ech m l c).X (swp k (ech m l c).r i)) (ech m l c).r c i=(ech m l c).X i:=by
      funext j;unfold clr;rw[θ aa];simp only[];rw[wQ aa e]
     show Spn (clr (fun i=>(ech m l c).X (swp k (ech m l c).r i)) (ech m l c).r c i) _;rw[B];exact(h.sp i aa).more
   .rw[G,dW D];intro e F L;have B:(ech m l c).r=c:=by have:(ech m l c).r+1=c+1:=e;omega
    show(c::(ech m l c).q)[F]? =_
    match F with
    |0=>rw[show c+1-1-0=c by omega];rfl
    |F+1=>
     have:=h.qd B F aa;rw[show c+1-1-(F+1)=c-1-F by omega];exact this
def Spn.zero{v P q}(h:Spn v P)(C:det P q≠GQ.i 0 0)(D:∀c∈q,v c=GQ.i 0 0)(j):v j=GQ.i 0 0:=by
 have e:v j*det P q=dC v (fun l=>det P (j::l)) q:=afj (h (j::q));rw[nI q _ D] at e;rcases aeh (v j=GQ.i 0 0) with B|B
 .exact B
 .exact absurd e (GQ.jc B C)
def rest (v:Nat->GQ) (T:Nat->Nat->GQ):Nat->Nat->GQ
 |0=>v
 |s+1=>fun c=>rest v T s c-v s*T s c
def Hl{v T P}(hv:Spn v P):∀s,(∀l,l<s->Spn (T l) P)->Spn (rest v T s) P
 |0,_=>hv
 |s+1,h=>(Hl hv s (fun l Z=>h l aa)).XI (h s aa) (v s)
def NW{v T m c}(j:∀l,l<m->T l c=if l=c then GQ.i 1 0 else GQ.i 0 0):∀s,s<=m->rest v T s c=if c<s then GQ.i 0 0 else v c
 |0,_=>by rw[θ aa];rfl
 |s+1,hs=>by
  show rest v T s c-v s*T s c=_;rw[NW j s aa,j s aa];by_cases e:s=c
  .subst e;rw[θ aa,ι rfl,ι aa,GQ.pX,GQ.rD]
  .rw[θ e,GQ.bQ,GQ.fo];by_cases h:c<s
   .rw[ι h,ι aa]
   .rw[θ h,θ aa]
def JA{v T c}:∀s,rest v T s c=v c-qg (fun _ l=>v l) (fun l _=>T l c) 0 0 s
 |0=>by show v c=v c-GQ.i 0 0;rw[GQ.fo]
 |s+1=>by
  show rest v T s c-v s*T s c=v c-(qg (fun _ l=>v l) (fun l _=>T l c) 0 0 s+v s*T s c);rw[JA s];generalize qg (fun _ l=>v l) (fun l _=>T l c) 0 0 s=y;ext<;>simp only[GQ.dU,GQ.dV,GQ.cO,GQ.bY]<;>grind
def wM{X Y X' Y' i j D H}:∀s,(∀l,l<s->X i l=X' D l/\Y l j=Y' l H)->qg X Y i j s=qg X' Y' D H s
 |0,_=>rfl
 |s+1,h=>by
  show qg X Y i j s+X i s*Y s j=qg X' Y' D H s+X' D s*Y' s H;rw[wM s (fun l Z=>h l aa),(h s aa).1,(h s aa).2]
section
variable {m nb:Nat} {Z0:Nat->Nat->GQ}
def Jl{v o P}(h:Mr m Z0 m (ech m Z0 m) (oD m Z0 m) o P)(C:(ech m Z0 m).r=m)(hv:Spn v P)(j):v j=qg (fun _ l=>v l) (oD m Z0 m).X 0 j m:=by
 have F:∀c,c<m->∀l,l<m->(oD m Z0 m).X l c=if l=c then GQ.i 1 0 else GQ.i 0 0:=fun c hc l Z=>by
  have hq:=h.qd C (m-1-c) aa;rw[show m-1-(m-1-c)=c by omega] at hq;rw[h.r.un l aa _ _ hq,C];by_cases e:l=c
  .rw[ι e,ι aa]
  .rw[θ e,θ aa]
 have D:=Spn.zero (Hl (T:=(oD m Z0 m).X) hv m fun l Z=>h.r.sp l aa) h.r.inv.ne (fun c hc=>by
  have B:=h.r.inv.qc c hc;rw[NW (F c B) m (κ _),ι B]) j
 rw[JA] at D;have:=afj D;rw[this];exact wM m fun l _=>⟨rfl,rfl⟩
def Ah{o P}(h:Mr m Z0 m (ech m Z0 m) (oD m Z0 m) o P)(G:(ech m Z0 m).r=m)(j):∀k,k<=m->∀i,m-k<=i->i<m->jE (ech m Z0 m).X m k i j=(oD m Z0 m).X i (m+j)
 |0,_,i,h1,h2=>aa
 |k+1,hk,i,h1,h2=>by
  have B:=Ah h G j k aa;by_cases e:i=m-1-k
  .have hs:∀s,s<=k->bps (ech m Z0 m).X (jE (ech m Z0 m).X m k) m i j s=(ech m Z0 m).X i (m+j)-qg (fun _ l=>(ech m Z0 m).X i (i+1+l)) (fun l _=>(oD m Z0 m).X (i+1+l) (m+j)) 0 0 s:=by
    intro s
    induction s with
    |zero=>intro _;show(ech m Z0 m).X i (m+j)=_-GQ.i 0 0;rw[GQ.fo]
    |succ s ihs=>
     intro hs;show bps _ _ m i j s-(ech m Z0 m).X i (i+1+s)*jE (ech m Z0 m).X m k (i+1+s) j=(ech m Z0 m).X i (m+j)-(qg _ _ 0 0 s+(ech m Z0 m).X i (i+1+s)*(oD m Z0 m).X (i+1+s) (m+j));rw[ihs aa,B (i+1+s) aa aa];generalize qg _ _ 0 0 s=y;ext<;>simp only[GQ.dU,GQ.dV,GQ.cO,GQ.bY]<;>grind
   have D:=Jl h G (h.sp i aa) (m+j);have C:∀t,i+1+t<=m->qg (fun _ l=>(ech m Z0 m).X i l) (oD m Z0 m).X 0 (m+j) (i+1+t)=(ech m Z0 m).X i i*(oD m Z0 m).X i (m+j)+qg (fun _ l=>(ech m Z0 m).X i (i+1+l)) (fun l _=>(oD m Z0 m).X (i+1+l) (m+j)) 0 0 t:=by
    have J:∀t,t<=i->qg (fun _ l=>(ech m Z0 m).X i l) (oD m Z0 m).X 0 (m+j) t=GQ.i 0 0:=by
     intro t
     induction t with
     |zero=>intro _;rfl
     |succ t iht=>
      intro K;show qg _ _ 0 (m+j) t+(ech m Z0 m).X i t*_=_;rw[iht aa,MR m Z0 m G i t h2 aa aa,GQ.fC,GQ.add_zero']
    intro t
    induction t with
    |zero=>
     intro _;show qg _ _ 0 (m+j) i+(ech m Z0 m).X i i*_=_+GQ.i 0 0;rw[J i (κ _),GQ.EA]
    |succ t iht=>
     intro K;show qg _ _ 0 (m+j) (i+1+t)+(ech m Z0 m).X i (i+1+t)*(oD m Z0 m).X (i+1+t) (m+j)=_+(qg _ _ 0 0 t+(ech m Z0 m).X i (i+1+t)*(oD m Z0 m).X (i+1+t) (m+j));rw[iht aa,GQ.JL]
   have H:=C k aa;rw[show i+1+k=m by omega,<-D] at H;have F:=hs k (κ _);rw[H] at F;have hd:=C9 m Z0 m G i aa;have I:jE (ech m Z0 m).X m (k+1) i j=bps (ech m Z0 m).X (jE (ech m Z0 m).X m k) m i j k/(ech m Z0 m).X i i:=by
    show(upd (jE (ech m Z0 m).X m k) (m-1-k) (fun j=>bps (ech m Z0 m).X (jE (ech m Z0 m).X m k) m (m-1-k) j k/(ech m Z0 m).X (m-1-k) (m-1-k))) i j=_;rw[<-e,upd_same]
   rw[I,F];generalize qg (fun _ l=>(ech m Z0 m).X i (i+1+l)) (fun l _=>(oD m Z0 m).X (i+1+l) (m+j)) 0 0 k=y;generalize (oD m Z0 m).X i (m+j)=x;have L:(ech m Z0 m).X i i*x+y-y=x*(ech m Z0 m).X i i:=by
    ext<;>simp only[GQ.dU,GQ.dV,GQ.cO,GQ.bY,GQ.bL,GQ.bK]<;>grind
   rw[L,GQ.Mv hd]
  .rw[DT (ech m Z0 m).X aa aa];exact B i aa h2
def agp{v P}(h:v∈P):Spn v P:=fun cs=>rF v P cs h
end
def yR (j:GQ) (e x:Nat->GQ):Nat->GQ
 |0=>j
 |s+1=>yR j e x s-e s*x s
def NJ{j M F e x C l D}(w2:Wh M C)(B:Wh (j*F) l):∀s,(∀t,t<s->Wh (j*e t) l)->(∀t,t<s->Wh (M*x t) D)->Wh (j*M*yR F e x s) (l*C+s*(l*D))
 |0,_,_=>by
  have h:=B.mul w2;have e:j*M*yR F e x 0=j*F*M:=by
   show j*M*F=_;ext<;>simp only[GQ.bL,GQ.bK]<;>grind
  rw[e];simpa using h
 |s+1,we,wx=>by
  have H:=NJ w2 B s (fun t I=>we t aa) (fun t I=>wx t aa);have G:=(we s aa).mul (wx s aa);have e:j*M*yR F e x (s+1)=j*M*yR F e x s-j*e s*(M*x s):=by
   show j*M*(yR F e x s-e s*x s)=_;ext<;>simp only[GQ.bL,GQ.bK,GQ.dU,GQ.dV]<;>grind
  rw[e];refine(H.sub G).mono ?_;rw[Z4,aaw];omega
def UC{j M H e x F C l D n s}(G:j≠GQ.i 0 0)(I:M≠GQ.i 0 0)(w1:Wh j F)(w2:Wh M C)(B:Wh (j*H) l)(K:∀t,t<s->Wh (j*e t) l)(J:∀t,t<s->Wh (M*x t) D)(n1:(l*C+s*(l*D))*(F*C)<2^n)(n2:F*C*(F*C)<2^n):Bd (yR H e x s) n:=
 xI (NJ w2 B s K J) (w1.mul w2) (GQ.jc G I) (GQ.dZ _ _) n1 n2
def Ht(Z W m i j):∀s,bps Z W m i j s=yR (Z i (m+j)) (fun t=>Z i (i+1+t)) (fun t=>W (i+1+t) j) s
 |0=>rfl
 |s+1=>by
  show bps Z W m i j s-_=yR _ _ _ s-_;rw[Ht Z W m i j s]
def Cq{j e x x'}:∀s,(∀t,t<s->x t=x' t)->yR j e x s=yR j e x' s
 |0,_=>rfl
 |s+1,h=>by
  show yR j e x s-e s*x s=yR j e x' s-e s*x' s;rw[Cq s (fun t l=>h t aa),h s aa]
section
variable {m nb:Nat} {X Y:Nat->Nat->GQ}
def sol (m:Nat) (X Y:Nat->Nat->GQ):Nat->Nat->GQ:=jE (ech m (side m X Y) m).X m m
def FV(l:(ech m (side m X Y) m).r=m){i}(hi:i<m)(j):sol m X Y i j=(oD m (side m X Y) m).X i (m+j):=by
 obtain⟨o,P,h⟩:=lU m (side m X Y) m;exact Ah h l j m (κ m) i aa hi
def yY(C:(ech m (side m X Y) m).r=m){i}(hi:i<m)(j):qg X (sol m X Y) i j m=Y i j:=by
 obtain⟨o,P,h⟩:=lU m (side m X Y) m;have B:side m X Y i∈P:=by
  rcases h.cov i hi with D|⟨t,D,F,_⟩
  .exact D
  .omega
 have:=Jl h C (agp B) (m+j);rw[Rk] at this;rw[this];exact wM m fun l Z=>⟨(JY Z).symm,FV C Z j⟩
end
def iK (f:Nat->GQ):Nat->GQ
 |0=>GQ.i 0 0
 |n+1=>iK f n+f n
def jo{f g}:∀n,(∀i,i<n->f i=g i)->iK f n=iK g n
 |0,_=>rfl
 |n+1,h=>by
  show iK f n+f n=iK g n+g n;rw[jo n (fun i hi=>h i aa),h n aa]
def mR:∀n,iK (fun _=>GQ.i 0 0) n=GQ.i 0 0
 |0=>rfl
 |n+1=>by
  show iK _ n+GQ.i 0 0=_;rw[mR n,GQ.add_zero']
def mi(f g):∀n,iK (fun i=>f i+g i) n=iK f n+iK g n
 |0=>(GQ.add_zero' _).symm
 |n+1=>by
  show iK _ n+(f n+g n)=iK f n+f n+(iK g n+g n);rw[mi f g n];generalize iK f n=a;generalize iK g n=b;ext<;>simp only[GQ.cO,GQ.bY]<;>grind
def Ba(a f):∀n,iK (fun i=>a*f i) n=a*iK f n
 |0=>(GQ.bQ _).symm
 |n+1=>by
  show iK _ n+a*f n=a*(iK f n+f n);rw[Ba a f n,GQ.qD]
def r9{f c}:∀n,c<n->(∀i,i<n->i≠c->f i=GQ.i 0 0)->iK f n=f c
 |0,h,_=>aa
 |n+1,h,hz=>by
  show iK f n+f n=f c;by_cases e:c=n
  .subst e;rw[jo (g:=fun _=>GQ.i 0 0) c (fun i hi=>hz i aa aa),mR,GQ.EA,GQ.add_zero']
  .rw[r9 n aa (fun i hi=>hz i aa),hz n aa (fun h=>e h.symm),GQ.add_zero']
def unit (c:Nat):Nat->GQ:=fun i=>if i=c then GQ.i 1 0 else GQ.i 0 0
def Dx{v u}:∀(cs:List Nat) (D:List Nat->GQ),(∀c∈cs,v c=u c)->dC v D cs=dC u D cs
 |[],_,_=>rfl
 |c::cs,D,h=>by
  show v c*D cs-dC v (fun l=>D (c::l)) cs=u c*D cs-dC u (fun l=>D (c::l)) cs;rw[h c q8,Dx cs _ (fun d hd=>h d (nC _ hd))]
def Ev(v u cs)(D:List Nat->GQ):dC (fun c=>v c+u c) D cs=dC v D cs+dC u D cs:=by
 have e:(fun c=>v c+u c)=fun c=>v c-GQ.i (-1) 0*u c:=funext fun c=>by
  ext<;>simp only[GQ.cO,GQ.bY,GQ.dU,GQ.dV,GQ.bL,GQ.bK,GQ.dM,GQ.dJ]<;>grind
 rw[e,xZ];generalize dC v D cs=a;generalize dC u D cs=b;ext<;>simp only[GQ.cO,GQ.bY,GQ.dU,GQ.dV,GQ.bL,GQ.bK,GQ.dM,GQ.dJ]<;>grind
def El(F:Nat->Nat->GQ)(cs:List Nat)(D:List Nat->GQ):∀n,dC (fun c=>iK (fun i=>F i c) n) D cs=iK (fun i=>dC (F i) D cs) n
 |0=>nI cs D (fun c _=>rfl)
 |n+1=>by
  show dC (fun c=>iK (fun i=>F i c) n+F n c) D cs=iK _ n+_;rw[Ev (fun c=>iK (fun i=>F i c) n) (F n) cs D,El F cs D n]
def Kz{v n}(cs)(D:List Nat->GQ)(h:∀c∈cs,c<n):dC v D cs=iK (fun c=>v c*dC (unit c) D cs) n:=by
 have e:dC v D cs=dC (fun c=>iK (fun i=>v i*unit i c) n) D cs:=Dx cs D fun c hc=>by
  rw[r9 (c:=c) n (h c hc) (fun i _ hi=>by
   show v i*(if c=i then _ else _)=_;rw[θ (fun e=>hi e.symm),GQ.bQ])]
  show v c=v c*(if c=c then _ else _);rw[ι rfl,GQ.pX]
 rw[e,El (fun i c=>v i*unit i c) cs D n];exact jo n fun i _=>sO _ _ _
def all_in:∀(n:Nat) (q:List Nat),(∀j,j<n->j∈q)->n<=q.length
 |0,_,_=>q9 _
 |n+1,q,h=>by
  have l:=all_in n (q.erase n) (fun j B=>(List.mem_erase_of_ne aa).2 (h j aa));rw[List.length_erase_of_mem (h n aa)] at l;have:0<q.length:=List.length_pos_of_mem (h n aa);omega
def Wo{n}:∀(q:List Nat),q.length<n->∃j,j<n/\j∉q:=by
 intro q hq;rcases aeh (∃j,j<n/\j∉q) with h|h
 .exact h
 .exfalso;have hs:∀j,j<n->j∈q:=fun j B=>by
   rcases aeh (j∈q) with l|l
   .exact l
   .exact absurd ⟨j,B,l⟩ h
  have:=all_in n q hs;omega
def Pe{n X}(h:(ech n X n).r<n):∃v:Nat->GQ,(∃c,c<n/\v c≠GQ.i 0 0)/\∀i,i<n->iK (fun c=>X i c*v c) n=GQ.i 0 0:=by
 obtain⟨o,P,C⟩:=lU n X n;obtain⟨j,H,B⟩:=Wo (n:=n) (ech n X n).q (by rw[C.r.inv.ql];exact h);have D:∀c∈j::(ech n X n).q,c<n:=fun c hc=>by
  rcases lh.1 hc with rfl|hc
  .exact H
  .exact C.r.inv.qc c hc
 refine⟨fun c=>dC (unit c) (det P) (j::(ech n X n).q),⟨j,H,?_⟩,fun i hi=> ?_⟩
 .show unit j j*det P (ech n X n).q-dC (unit j) (fun l=>det P (j::l)) (ech n X n).q≠_;rw[nI (ech n X n).q _ (fun c hc=>by show(if c=j then _ else _)=_;rw[θ (fun e=>B (by rw[<-e];exact hc))]),GQ.fo];show(if j=j then _ else _)*_≠_;rw[ι rfl,GQ.kF];exact C.r.inv.ne
 .show iK (fun c=>X i c*dC (unit c) (det P) (j::(ech n X n).q)) n=_;rw[<-Kz (j::(ech n X n).q) (det P) D];show det (X i::P) (j::(ech n X n).q)=_;rcases C.cov i hi with F|⟨t,F,G,I⟩
  .exact rF _ _ _ F
  .rw[<-I,<-C.r.inv.sy t F G];exact nI _ _ (fun c hc=>C.r.inv.z t c F G (D c hc))
namespace GQ
def PH (x:GQ):GQ:=⟨x.re,-x.im⟩
def Nj(x):(PH x).re=x.re:=rfl
def Fw(x):(PH x).im= -x.im:=rfl
end GQ
def qf (n:Nat) (X:Nat->Nat->GQ) (v:Nat->GQ):GQ:=iK (fun i=>GQ.PH (v i)*iK (fun c=>X i c*v c) n) n
theorem F8{n X v}(h:∀i,i<n->iK (fun c=>X i c*v c) n=GQ.i 0 0):qf n X v=GQ.i 0 0:=by
 unfold qf;rw[jo (g:=fun _=>GQ.i 0 0) n (fun i hi=>by rw[h i hi,GQ.bQ]),mR]
theorem BH(n X Y v):qf n (fun i j=>X i j+Y i j) v=qf n X v+qf n Y v:=by
 unfold qf;rw[<-mi];refine jo n fun i _=> ?_;rw[<-GQ.qD,<-mi];congr 1;refine jo n fun c _=> ?_;ext<;>simp only[GQ.cO,GQ.bY,GQ.bL,GQ.bK]<;>grind
def jX (i j:Nat) (y:GQ):Nat->Nat->GQ:=fun p q=>if p=i/\q=j then y else GQ.i 0 0
theorem Cw{n i j}(hi:i<n)(l:j<n)(y v):qf n (jX i j y) v=GQ.PH (v i)*(y*v j):=by
 unfold qf;rw[r9 (c:=i) n hi (fun p _ hp=>by
  rw[jo (g:=fun _=>GQ.i 0 0) n (fun c _=>by show(if p=i/\c=j then y else GQ.i 0 0)*_=_;rw[θ (fun h=>hp h.1),GQ.fC]),mR,GQ.bQ])]
 rw[r9 (c:=j) n l (fun c _ hc=>by show(if i=i/\c=j then y else GQ.i 0 0)*_=_;rw[θ (fun h=>hc h.2),GQ.fC])];show _*((if i=i/\j=j then y else GQ.i 0 0)*v j)=_;rw[ι ⟨rfl,rfl⟩]

def JC (x:GQ):Rat:=x.re*x.re+x.im*x.im
def zg(x:Rat):0<=x*x:=by
 rcases adV (a:=0) (b:=x) with h|h
 .exact aaR h h
 .have:=aaR (a:= -x) (b:= -x) ak ak;grind
theorem zV(x):0<=JC x:=by
 unfold JC;have j:=zg x.re;have l:=zg x.im;grind
theorem yz{x}(h:JC x=0):x=GQ.i 0 0:=by
 unfold JC at h;have C:=zg x.re;have B:=zg x.im;have j:x.re*x.re=0:=ak;have l:x.im*x.im=0:=ak;ext<;>simp only[GQ.dM,GQ.dJ]
 .rcases abw.1 j with h|h<;>simpa using h
 .rcases abw.1 l with h|h<;>simpa using h
structure Br where
 p:Nat
 q:Nat
 nt:Bool
 y:GQ
def stm (X:Nat->Nat->GQ) (b:Br):Nat->Nat->GQ:=
 if b.nt then fun p q=>X p q+jX b.p b.p b.y p q
 else fun p q=>X p q+jX b.p b.p b.y p q+jX b.q b.q b.y p q+jX b.p b.q (-b.y) p q+jX b.q b.p (-b.y) p q
def fq (X:Nat->Nat->GQ) (bs:List Br):Nat->Nat->GQ:=bs.foldl stm X
def Br.w (b:Br) (v:Nat->GQ):Rat:=if b.nt then JC (v b.p) else JC (v b.p-v b.q)
theorem Xd{n X}{b:Br}(v)(hp:b.p<n)(hq:b.nt=ζ->b.q<n):(qf n (stm X b) v).im=(qf n X v).im+b.y.im*b.w v:=by
 unfold stm Br.w;cases hb:b.nt
 .simp only[RS,ab0];rw[BH n (fun p q=>X p q+jX b.p b.p b.y p q+jX b.q b.q b.y p q+jX b.p b.q (-b.y) p q) (jX b.q b.p (-b.y)),BH n (fun p q=>X p q+jX b.p b.p b.y p q+jX b.q b.q b.y p q) (jX b.p b.q (-b.y)),BH n (fun p q=>X p q+jX b.p b.p b.y p q) (jX b.q b.q b.y),BH n X (jX b.p b.p b.y),Cw hp hp,Cw (hq hb) (hq hb),Cw hp (hq hb),Cw (hq hb) hp];unfold JC;simp only[GQ.bY,GQ.bK,GQ.bL,GQ.Nj,GQ.Fw,GQ.lI,GQ.lM,GQ.dU,GQ.dV];grind
 .simp only[aag];rw[BH n X (jX b.p b.p b.y),Cw hp hp];unfold JC;simp only[GQ.bY,GQ.bK,GQ.bL,GQ.Nj,GQ.Fw];grind
theorem Br.Ri(b:Br)(v):0<=b.w v:=by
 unfold Br.w;split
 .exact zV _
 .exact zV _
def Az{n}(v):∀(bs:List Br) (X:Nat->Nat->GQ),(∀b∈bs,b.p<n/\(b.nt=ζ->b.q<n)/\b.y.im<0)->(qf n (fq X bs) v).im<=(qf n X v).im/\((qf n (fq X bs) v).im=(qf n X v).im->∀b∈bs,b.w v=0)
 |[],X,_=>⟨Rat.le_refl,fun _ b hb=>by simp at hb⟩
 |b::bs,X,h=>by
  obtain⟨C,B,H⟩:=h b q8;obtain⟨i1,M⟩:=Az v bs (stm X b) (fun c hc=>h c (nC _ hc));have e:=Xd (X:=X) v C B;have F:=b.Ri v;have j:b.y.im*b.w v<=0:=by
   have:=aaR (a:= -b.y.im) (b:=b.w v) ak F;grind
  show(qf n (fq (stm X b) bs) v).im<=_/\_;refine⟨ak,fun D c hc=> ?_⟩;have I:(qf n (fq (stm X b) bs) v).im=(qf n X v).im:=D;have G:b.y.im*b.w v=0:=ak;have l:(qf n (fq (stm X b) bs) v).im=(qf n (stm X b) v).im:=ak;rcases lh.1 hc with rfl|hc
  .rcases abw.1 G with h|h
   .grind
   .exact h
  .exact M l c hc
inductive Joined (bs:List Br):Nat->Prop
 |neutral (b:Br) (h:b∈bs) (hn:b.nt=ε):Joined bs b.p
 |fro (b:Br) (h:b∈bs) (hn:b.nt=ζ) (hq:Joined bs b.q):Joined bs b.p
 |fwd (b:Br) (h:b∈bs) (hn:b.nt=ζ) (hp:Joined bs b.p):Joined bs b.q
theorem uC{bs:List Br}{v}(j:∀b∈bs,b.w v=0){p}(h:Joined bs p):v p=GQ.i 0 0:=by
 induction h with
 |neutral b h hn=>
  have:=j b h;unfold Br.w at this;rw[hn] at this;exact yz this
 |fro b h hn hq ih=>
  have:=j b h;unfold Br.w at this;rw[hn] at this;have:=afj (yz this);rw[this];exact ih
 |fwd b h hn hp ih=>
  have:=j b h;unfold Br.w at this;rw[hn] at this;have:=afj (yz this);rw[<-this];exact ih
def zmx:Nat->Nat->GQ:=fun _ _=>GQ.i 0 0
def LF(n v):qf n zmx v=GQ.i 0 0:=F8 fun i _=>by
 rw[jo (f:=fun c=>zmx i c*v c) (g:=fun _=>GQ.i 0 0) n (fun c _=>GQ.fC _),mR]
def Gx{n}{bs:List Br}(h:∀b∈bs,b.p<n/\(b.nt=ζ->b.q<n)/\b.y.im<0)(G:∀p,p<n->Joined bs p):(ech n (fq zmx bs) n).r=n:=by
 have H:=Aw n (fq zmx bs) n;rcases Na (ech n (fq zmx bs) n).r n with j|l
 .exfalso;obtain⟨v,⟨c,hc,hv⟩,D⟩:=Pe j;have C:=F8 (n:=n) (X:=fq zmx bs) (v:=v) D;obtain⟨_,B⟩:=Az (n:=n) v bs zmx h;have F:=B (by rw[C,LF]);exact hv (uC F (G c hc))
 .omega
def pw (w:Nat->Nat):List Nat->Nat
 |[]=>1
 |c::cs=>w c*pw w cs
def Ho{x w}:∀(M:Nat) (cs:List Nat) (D:List Nat->GQ),(∀c∈cs,Wh (x c) (w c))->(∀l,l.Sublist cs->l.length+1=cs.length->Wh (D l) (M*pw w l))->Wh (dC x D cs) (cs.length*(M*pw w cs))
 |M,[],D,_,_=>by
  show Wh (GQ.i 0 0) _;exact iC _
 |M,c::cs,D,hx,hD=>by
  show Wh (x c*D cs-dC x (fun l=>D (c::l)) cs) _;have C:=(hx c q8).mul (hD cs (List.sublist_cons_self c cs) rfl);have B:=Ho (M*w c) cs (fun l=>D (c::l)) (fun d hd=>hx d (nC _ hd)) (fun l Z T=>by
   have:=hD (c::l) (Z.cons_cons c) (by simp only[nV];omega);rw[φ];exact this)
  refine(C.sub B).mono ?_;show w c*(M*pw w cs)+cs.length*(M*w c*pw w cs)<=(cs.length+1)*(M*(w c*pw w cs));have j:w c*(M*pw w cs)=M*(w c*pw w cs):=by ac_rfl
  have F:M*w c*pw w cs=M*(w c*pw w cs):=by ac_rfl
  rw[j,F,Z4,aaw];omega
def M3{w}:∀(R:List (Nat->GQ)) (cs:List Nat),R.length=cs.length->(∀r∈R,∀c∈cs,Wh (r c) (w c))->Wh (det R cs) (fct cs.length*pw w cs)
 |[],cs,h,_=>by
  obtain rfl:cs=[]:=I5 h.symm;exact vV
 |v::R,cs,h,hr=>by
  have Z:R.length+1=cs.length:=by simpa using h
  show Wh (dC v (det R) cs) _;have:=Ho (x:=v) (w:=w) (fct (cs.length-1)) cs (det R) (hr v q8) (fun l B T=>by
   have e:l.length=cs.length-1:=aa;rw[<-e];exact M3 R l aa (fun r G c hc=>hr r (nC _ G) c (B.subset hc)))
  refine this.mono ?_;have e:fct cs.length=cs.length*fct (cs.length-1):=by
   rw[<-Z];rfl
  rw[e,φ];exact κ _
def Wh.add{x y B C}(J:Wh x B)(R:Wh y C):Wh (x+y) (B+C):=by
 have h:=J.sub R.neg;have e:x- -y=x+y:=by
  ext<;>simp only[GQ.cO,GQ.bY,GQ.dU,GQ.dV,GQ.lI,GQ.lM]<;>grind
 rwa[e] at h
def uO(X Y i j):∀s,qg X Y i j s=iK (fun l=>X i l*Y l j) s
 |0=>rfl
 |s+1=>by
  show qg X Y i j s+_=iK _ s+_;rw[uO X Y i j s]
structure Psv (n:Nat) (bs:List Br):Prop where
 ok:∀b∈bs,b.p<n/\(b.nt=ζ->b.q<n)/\b.y.im<0
 jn:∀p,p<n->Joined bs p
section
variable {n:Nat} {bs:List Br}
def Psv.full(h:Psv n bs):(ech n (fq zmx bs) n).r=n:=Gx h.ok h.jn
def Psv.zero(h:Psv n bs){d:Nat->GQ}(l:∀i,i<n->iK (fun c=>fq zmx bs i c*d c) n=GQ.i 0 0){c:Nat}(hc:c<n):d c=GQ.i 0 0:=by
 have C:=F8 (n:=n) (X:=fq zmx bs) (v:=d) l;obtain⟨_,B⟩:=Az (n:=n) d bs zmx h.ok;have j:=B (by rw[C,LF]);exact uC j (h.jn c hc)
def Psv.unique(h:Psv n bs){x y:Nat->GQ}(e:∀i,i<n->iK (fun c=>fq zmx bs i c*x c) n=iK (fun c=>fq zmx bs i c*y c) n){c:Nat}(hc:c<n):x c=y c:=by
 refine afj (h.zero (d:=fun c=>x c-y c) (fun i hi=> ?_) hc);have j:(fun c=>fq zmx bs i c*(x c-y c))=fun c=>fq zmx bs i c*x c+GQ.i (-1) 0*(fq zmx bs i c*y c):=funext fun c=>by
  ext<;>simp only[GQ.cO,GQ.bY,GQ.dU,GQ.dV,GQ.bL,GQ.bK,GQ.dM,GQ.dJ]<;>grind
 rw[j,mi,Ba,e i hi];generalize iK (fun c=>fq zmx bs i c*y c) n=z;ext<;>simp only[GQ.cO,GQ.bY,GQ.bL,GQ.bK,GQ.dM,GQ.dJ]<;>grind
theorem Tw{X x f}(l:f<n)(J:∀i,i<n->iK (fun c=>X i c*x c) n=unit f i):qf n X x=GQ.PH (x f):=by
 unfold qf;rw[r9 (c:=f) n l (fun i hi j=>by
  rw[J i hi];show _*(if i=f then _ else _)=_;rw[θ j,GQ.bQ]),J f l]
 show _*(if f=f then _ else _)=_;rw[ι rfl,GQ.pX]
def Psv.drive(h:Psv n bs){x:Nat->GQ}{f:Nat}(C:f<n)(J:∀i,i<n->iK (fun c=>fq zmx bs i c*x c) n=unit f i):0<(x f).im:=by
 have hq:=Tw C J;obtain⟨B,j⟩:=Az (n:=n) x bs zmx h.ok;rw[LF,hq] at B j;simp only[GQ.Fw,GQ.dJ] at B j;have G: -(x f).im<=0:=by simpa using B
 rcases(by grind:0<(x f).im\/-(x f).im=0) with l|l
 .exact l
 .exfalso;have F:=j (by simpa using l);have D:∀c,c<n->x c=GQ.i 0 0:=fun c hc=>uC F (h.jn c hc);have:=J f C;rw[jo (g:=fun _=>GQ.i 0 0) n (fun c hc=>by rw[D c hc,GQ.bQ]),mR] at this;have e:unit f f=GQ.i 1 0:=ι rfl;rw[e] at this;have:=congrArg GQ.re this;simp only[GQ.dM] at this;exact absurd this aj
end
def MV{z}(h:0<z.im):z≠GQ.i 0 0:=by
 intro e;rw[e] at h;simp only[GQ.dJ] at h;exact absurd h aj
theorem Uf{z}(h:z≠GQ.i 0 0):0<z.nrm:=by
 have j:=GQ.Dh h;have l:0<=z.nrm:=by
  unfold GQ.nrm;have:=zg z.re;have:=zg z.im;grind
 grind
def col (v:Nat->GQ):Nat->Nat->GQ:=fun i _=>v i
def F9 (v u:Nat->GQ):Nat->Nat->GQ:=fun i j=>if j=0 then v i else u i
section
variable {n:Nat} {bs:List Br}
def Ch{m X Y}(h:(ech m X m).r=m):(ech m (side m X Y) m).r=m:=by rw[(Lh m (κ m)).1];exact h
def Psv.ze(h:Psv n bs){v i}(hi:i<n):iK (fun c=>fq zmx bs i c*sol n (fq zmx bs) (col v) c 0) n=v i:=by
 rw[<-uO (fq zmx bs) (sol n (fq zmx bs) (col v)) i 0 n];exact yY (Ch h.full) hi 0
def Psv.NG(h:Psv n bs){v u i}(hi:i<n):sol n (fq zmx bs) (col v) i 0=sol n (fq zmx bs) (F9 v u) i 0/\sol n (fq zmx bs) (col u) i 0=sol n (fq zmx bs) (F9 v u) i 1:=by
 constructor
 .refine h.unique (x:=fun c=>sol n (fq zmx bs) (col v) c 0) (y:=fun c=>sol n (fq zmx bs) (F9 v u) c 0) (fun p hp=> ?_) hi;rw[h.ze hp,<-uO (fq zmx bs) (sol n (fq zmx bs) (F9 v u)) p 0 n,yY (Ch h.full) hp 0];exact(ι rfl).symm
 .refine h.unique (x:=fun c=>sol n (fq zmx bs) (col u) c 0) (y:=fun c=>sol n (fq zmx bs) (F9 v u) c 1) (fun p hp=> ?_) hi;rw[h.ze hp,<-uO (fq zmx bs) (sol n (fq zmx bs) (F9 v u)) p 1 n,yY (Ch h.full) hp 1];exact(θ aa).symm
end
structure Bu where
 y:GQ
 al:Nat->GQ
 u:Nat->GQ
def pg (r0:Nat->Nat->GQ):List Bu->Nat->Nat->GQ
 |[],i=>r0 i
 |b::bs,i=>fun c=>pg r0 bs i c+b.y*(b.al i*b.u c)
inductive NdR
 |nd (i:Nat)
 |co (u:Nat->GQ)
def NdR.row (r0:Nat->Nat->GQ) (bs:List Bu):NdR->Nat->GQ
 | .nd i=>pg r0 bs i
 | .co u=>u
def pU(v):∀(cs:List Nat) (D E:List Nat->GQ),dC v (fun l=>D l+E l) cs=dC v D cs+dC v E cs
 |[],_,_=>(GQ.add_zero' _).symm
 |c::cs,D,E=>by
  show v c*(D cs+E cs)-dC v (fun l=>D (c::l)+E (c::l)) cs=(v c*D cs-dC v (fun l=>D (c::l)) cs)+(v c*E cs-dC v (fun l=>E (c::l)) cs);rw[pU v cs (fun l=>D (c::l)) (fun l=>E (c::l))];generalize dC v (fun l=>D (c::l)) cs=a;generalize dC v (fun l=>E (c::l)) cs=b;ext<;>simp only[GQ.cO,GQ.bY,GQ.dU,GQ.dV,GQ.bL,GQ.bK]<;>grind
def part (r0:Nat->Nat->GQ) (bs:List Bu) (b:Bu):List NdR->List Nat->GQ
 |[],_=>GQ.i 0 0
 | .nd i::L,cs=>dC (pg r0 bs i) (part r0 bs b L) cs+b.al i*det (b.u::L.map (NdR.row r0 bs)) cs
 | .co u::L,cs=>dC u (part r0 bs b L) cs
def yU(r0)(bs:List Bu)(b:Bu):∀(L:List NdR) (cs:List Nat),dC b.u (part r0 bs b L) cs=GQ.i 0 0
 |[],cs=>nJ b.u cs
 | .nd i::L,cs=>by
  show dC b.u (fun l=>dC (pg r0 bs i) (part r0 bs b L) l+b.al i*det (b.u::L.map (NdR.row r0 bs)) l) cs=_;rw[pU b.u cs (fun l=>dC (pg r0 bs i) (part r0 bs b L) l) (fun l=>b.al i*det (b.u::L.map (NdR.row r0 bs)) l)];have j:=rA b.u (pg r0 bs i) cs (part r0 bs b L);have B:dC (pg r0 bs i) (dC b.u (part r0 bs b L)) cs=GQ.i 0 0:=by
   exact Abg
  rw[B,GQ.add_zero'] at j;have C:dC b.u (fun l=>dC (pg r0 bs i) (part r0 bs b L) l) cs=GQ.i 0 0:=j;rw[C,kE];have D:dC b.u (fun l=>det (b.u::L.map (NdR.row r0 bs)) l) cs=GQ.i 0 0:=rF b.u (b.u::L.map (NdR.row r0 bs)) cs q8;rw[D,GQ.bQ,GQ.add_zero']
 | .co u::L,cs=>by
  show dC b.u (fun l=>dC u (part r0 bs b L) l) cs=_;have j:=rA b.u u cs (part r0 bs b L);have B:dC u (dC b.u (part r0 bs b L)) cs=GQ.i 0 0:=by
   exact Abg
  rw[B,GQ.add_zero'] at j;exact j
def Bj(r0)(bs:List Bu)(b:Bu):∀(L:List NdR) (cs:List Nat),det (L.map (NdR.row r0 (b::bs))) cs=det (L.map (NdR.row r0 bs)) cs+b.y*part r0 bs b L cs
 |[],cs=>by
  show GQ.i 1 0=GQ.i 1 0+b.y*GQ.i 0 0;rw[GQ.bQ,GQ.add_zero']
 | .nd i::L,cs=>by
  show dC (fun c=>pg r0 bs i c+b.y*(b.al i*b.u c)) (det (L.map (NdR.row r0 (b::bs)))) cs=dC (pg r0 bs i) (det (L.map (NdR.row r0 bs))) cs+b.y*(dC (pg r0 bs i) (part r0 bs b L) cs+b.al i*dC b.u (det (L.map (NdR.row r0 bs))) cs);have e:det (L.map (NdR.row r0 (b::bs)))=fun l=>det (L.map (NdR.row r0 bs)) l+b.y*part r0 bs b L l:=funext fun l=>Bj r0 bs b L l;have j:(fun c=>pg r0 bs i c+b.y*(b.al i*b.u c))=fun c=>pg r0 bs i c+(b.y*b.al i)*b.u c:=funext fun c=>by rw[GQ.dB]
  rw[e,j,Ev (pg r0 bs i) (fun c=>(b.y*b.al i)*b.u c),sO (b.y*b.al i) cs,pU (pg r0 bs i) cs,pU b.u cs,kE b.y cs (part r0 bs b L),kE b.y cs (part r0 bs b L),yU r0 bs b L cs,GQ.bQ,GQ.add_zero'];generalize dC (pg r0 bs i) (det (L.map (NdR.row r0 bs))) cs=a;generalize dC (pg r0 bs i) (part r0 bs b L) cs=c;generalize dC b.u (det (L.map (NdR.row r0 bs))) cs=d;generalize b.y=y;generalize b.al i=t;ext<;>simp only[GQ.cO,GQ.bY,GQ.bL,GQ.bK]<;>grind
 | .co u::L,cs=>by
  show dC u (det (L.map (NdR.row r0 (b::bs)))) cs=dC u (det (L.map (NdR.row r0 bs))) cs+b.y*dC u (part r0 bs b L) cs;have e:det (L.map (NdR.row r0 (b::bs)))=fun l=>det (L.map (NdR.row r0 bs)) l+b.y*part r0 bs b L l:=funext fun l=>Bj r0 bs b L l;rw[e,pU u cs,kE b.y cs (part r0 bs b L)]
def iM {α:Type} (f:α->GQ):List α->GQ
 |[]=>GQ.i 0 0
 |a::l=>iM f l+f a
def qA{α β:Type}(f:β->GQ)(g:α->β):∀l:List α,iM f (l.map g)=iM (fun a=>f (g a)) l
 |[]=>rfl
 |a::l=>by
  show iM f (l.map g)+_=_;rw[qA f g l];rfl
def yx{α:Type}(v)(F:α->List Nat->GQ)(cs):∀l:List α,dC v (fun x=>iM (fun a=>F a x) l) cs=iM (fun a=>dC v (F a) cs) l
 |[]=>nJ v cs
 |a::l=>by
  show dC v (fun x=>iM (fun a=>F a x) l+F a x) cs=iM _ l+_;rw[pU v cs (fun x=>iM (fun a=>F a x) l) (F a),yx v F cs l]
def ut (b:Bu):List NdR->List (GQ×List NdR)
 |[]=>[]
 | .nd i::L=>(b.al i,.co b.u::L)::(ut b L).map fun x=>(x.1,.nd i::x.2)
 | .co u::L=>(ut b L).map fun x=>(x.1,.co u::x.2)
def Cc(r0)(bs:List Bu)(b:Bu):∀(L:List NdR) (cs:List Nat),part r0 bs b L cs=iM (fun x:GQ×List NdR=>x.1*det (x.2.map (NdR.row r0 bs)) cs) (ut b L)
 |[],_=>rfl
 | .nd i::L,cs=>by
  show dC (pg r0 bs i) (part r0 bs b L) cs+b.al i*det (b.u::L.map (NdR.row r0 bs)) cs=iM _ ((ut b L).map fun x=>(x.1,.nd i::x.2))+b.al i*det (b.u::L.map (NdR.row r0 bs)) cs;have e:part r0 bs b L=fun l=>iM (fun x:GQ×List NdR=>x.1*det (x.2.map (NdR.row r0 bs)) l) (ut b L):=funext fun l=>Cc r0 bs b L l;rw[qA,e,yx (pg r0 bs i) (fun(x:GQ×List NdR) l=>x.1*det (x.2.map (NdR.row r0 bs)) l) cs (ut b L)];congr 2;funext x;exact kE x.1 cs _
 | .co u::L,cs=>by
  show dC u (part r0 bs b L) cs=iM _ ((ut b L).map fun x=>(x.1,.co u::x.2));have e:part r0 bs b L=fun l=>iM (fun x:GQ×List NdR=>x.1*det (x.2.map (NdR.row r0 bs)) l) (ut b L):=funext fun l=>Cc r0 bs b L l;rw[qA,e,yx u (fun(x:GQ×List NdR) l=>x.1*det (x.2.map (NdR.row r0 bs)) l) cs (ut b L)];congr 1;funext x;exact kE x.1 cs _
def Cok (w:Nat->Nat) (cs:List Nat):NdR->Prop
 | .nd _=>True
 | .co u=>∀c∈cs,Wh (u c) (w c)
def GL{b:Bu}{w cs}(B:∀c∈cs,Wh (b.u c) (w c))(ha:∀i,Wh (b.al i) 1):∀(L:List NdR),(∀d∈L,Cok w cs d)->(ut b L).length<=L.length/\∀x∈ut b L,Wh x.1 1/\x.2.length=L.length/\∀d∈x.2,Cok w cs d
 |[],_=>⟨κ _,by simp[ut]⟩
 | .nd i::L,h=>by
  obtain⟨F,j⟩:=GL B ha L (fun d hd=>h d (nC _ hd));refine⟨by simp only[ut,nV,aar];omega,fun x J=> ?_⟩;rcases lh.1 (show x∈(b.al i,NdR.co b.u::L)::(ut b L).map (fun x=>(x.1,NdR.nd i::x.2)) from J) with rfl|J
  .refine⟨ha i,rfl,fun d hd=> ?_⟩;rcases lh.1 hd with rfl|hd
   .exact B
   .exact h d (nC _ hd)
  .obtain⟨y,R,rfl⟩:=Nq.1 J;obtain⟨C,D,l⟩:=j y R;refine⟨C,by simp only[nV,D],fun d hd=> ?_⟩;rcases lh.1 hd with rfl|hd
   .trivial
   .exact l d hd
 | .co u::L,h=>by
  obtain⟨F,j⟩:=GL B ha L (fun d hd=>h d (nC _ hd));refine⟨by simp only[ut,nV,aar];omega,fun x J=> ?_⟩;obtain⟨y,R,rfl⟩:=Nq.1 (show x∈(ut b L).map (fun x=>(x.1,NdR.co u::x.2)) from J);obtain⟨C,D,l⟩:=j y R;refine⟨C,by simp only[nV,D],fun d hd=> ?_⟩;rcases lh.1 hd with rfl|hd
  .exact h _ q8
  .exact l d hd
def M5{α:Type}{f:α->GQ}{Q C}:∀l:List α,(∀a∈l,Wh (Q*f a) C)->Wh (Q*iM f l) (l.length*C)
 |[],_=>by
  show Wh (Q*GQ.i 0 0) _;rw[GQ.bQ];exact iC _
 |a::l,h=>by
  show Wh (Q*(iM f l+f a)) _;rw[GQ.qD];refine((M5 l (fun x J=>h x (nC _ J))).add (h a q8)).mono ?_;rw[nV,Z4];omega
structure Zu (b:Bu) (Z K:Nat):Prop where
 wh:∃(zn:GQ) (zd:Nat),zn≠GQ.i 0 0/\Wh zn Z/\b.y*zn=GQ.i zd 0/\zd<=K
 al:∀i,Wh (b.al i) 1
def cz (f:Bu->Nat) (K m B0:Nat):List Bu->Nat
 |[]=>fct m*B0
 |b::bs=>(f b+m*K)*cz f K m B0 bs
def yu{r0 w}{f:Bu->Nat}{K}:∀(bs:List Bu),(∀b∈bs,Zu b (f b) K)->∃Q,Q≠GQ.i 0 0/\∀(B0:Nat) (cs:List Nat),pw w cs<=B0->(∀b∈bs,∀c∈cs,Wh (b.u c) (w c))->(∀i,∀c∈cs,Wh (r0 i c) (w c))->∀(L:List NdR),L.length=cs.length->(∀d∈L,Cok w cs d)->Wh (Q*det (L.map (NdR.row r0 bs)) cs) (cz f K cs.length B0 bs)
 |[],_=>⟨GQ.i 1 0,aj,fun B0 cs N M I L H hc=>by
  rw[GQ.kF];refine(M3 (w:=w) (L.map (NdR.row r0 [])) cs (by simpa using H) (fun r G c F=> ?_)).mono (aaa (κ _) N);obtain⟨d,hd,rfl⟩:=Nq.1 G;cases d with
  |nd i=>exact I i c F
  |co u=>exact hc _ hd c F⟩
 |b::bs,h=>by
  obtain⟨Q,q0,P⟩:=yu bs (fun c hc=>h c (nC _ hc));obtain⟨⟨j,U,z0,z1,R,V⟩,ha⟩:=h b q8;refine⟨j*Q,GQ.jc z0 q0,fun B0 cs N M I L H hc=> ?_⟩;have l:=P B0 cs N (fun c hc=>M c (nC _ hc)) I;obtain⟨l1,l2⟩:=GL (M b q8) ha L hc;have hp:Wh (Q*part r0 bs b L cs) (cs.length*cz f K cs.length B0 bs):=by
   rw[Cc];refine(M5 (C:=cz f K cs.length B0 bs) (ut b L) (fun x J=> ?_)).mono (aaa aa (κ _));obtain⟨W,Y,T⟩:=l2 x J;have S:=W.mul (l x.2 (Y.trans H) T);have e:Q*(x.1*det (x.2.map (NdR.row r0 bs)) cs)=x.1*(Q*det (x.2.map (NdR.row r0 bs)) cs):=by
    rw[<-GQ.dB,GQ.dZ Q,GQ.dB]
   rw[e];exact S.mono aa
  rw[Bj];have e:j*Q*(det (L.map (NdR.row r0 bs)) cs+b.y*part r0 bs b L cs)=j*(Q*det (L.map (NdR.row r0 bs)) cs)+b.y*j*(Q*part r0 bs b L cs):=by
   generalize det (L.map (NdR.row r0 bs)) cs=x;generalize part r0 bs b L cs=y;generalize b.y=t;ext<;>simp only[GQ.cO,GQ.bY,GQ.bL,GQ.bK]<;>grind
  rw[e,R];have O:=(pu (D:=(U:Int)) (B:=K) (by simpa using V)).mul hp;refine((z1.mul (l L H hc)).add O).mono ?_;show f b*cz f K cs.length B0 bs+K*(cs.length*cz f K cs.length B0 bs)<=(f b+cs.length*K)*cz f K cs.length B0 bs;rw[Z4,<-φ,nG K];exact κ _
def Jd{a b}(h:a<=b):fct a<=fct b:=by
 induction b with
 |zero=>
  obtain rfl:a=0:=aa;exact κ _
 |succ b ih=>
  by_cases e:a=b+1
  .subst e;exact κ _
  .refine Ξ (ih aa) ?_;show fct b<=(b+1)*fct b;exact abA _ aa
def FQ{f:Bu->Nat}{K B0 k m}(h:k<=m):∀bs:List Bu,cz f K k B0 bs<=cz f K m B0 bs
 |[]=>aaa (Jd h) (κ _)
 |b::bs=>aaa (Nat.add_le_add_left (aaa h (κ _)) _) (FQ h bs)
structure sF (Z0:Nat->Nat->GQ) (m W:Nat) (Q:GQ) (BD:Nat):Prop where
 q0:Q≠GQ.i 0 0
 min:∀(P:List (Nat->GQ)) (j:Nat) (cs:List Nat),(∀p∈P,∃i,i<m/\p=Z0 i)->(∀c∈cs,c<m)->(P.length=cs.length->P.length<=m->Wh (Q*det P cs) BD)/\(P.length=cs.length+1->P.length<=m->j<W->Wh (Q*det P (j::cs)) BD)
def Iz{m Z0}:∀(P:List (Nat->GQ)),(∀p∈P,∃i,i<m/\p=Z0 i)->∃L:List Nat,L.length=P.length/\P=L.map Z0
 |[],_=>⟨[],rfl,rfl⟩
 |p::P,h=>by
  obtain⟨L,l,j⟩:=Iz P (fun q hq=>h q (nC _ hq));obtain⟨i,_,rfl⟩:=h p q8;exact⟨i::L,by simp[l],by rw[j];rfl⟩
def NQ{w m}(j:∀c,c<m->w c=1):∀(cs:List Nat),(∀c∈cs,c<m)->pw w cs=1
 |[],_=>rfl
 |c::cs,h=>by
  show w c*pw w cs=1;rw[NQ j cs (fun d hd=>h d (nC _ hd)),j c (h c q8)]
def agG{r0:Nat->Nat->GQ}{w:Nat->Nat}{f:Bu->Nat}{K m W B0:Nat}{bs:List Bu}{Z0:Nat->Nat->GQ}(T:∀b∈bs,Zu b (f b) K)(U:∀c,c<m->w c=1)(I:∀c,c<W->w c<=B0)(Z:1<=B0)(N:∀b∈bs,∀c,c<W->Wh (b.u c) (w c))(M:∀i c,c<W->Wh (r0 i c) (w c))(F:m<=W)(V:∀i,i<m->Z0 i=pg r0 bs i):
  ∃Q,sF Z0 m W Q (cz f K m B0 bs):=by
 obtain⟨Q,q0,J⟩:=yu (r0:=r0) (w:=w) bs T;refine⟨Q,q0,fun P j cs Y hc=> ?_⟩;have C:∀p∈P,∃i,i<m/\p=pg r0 bs i:=fun p hp=>by
  obtain⟨i,hi,e⟩:=Y p hp;exact⟨i,hi,e.trans (V i hi)⟩
 obtain⟨L,hL,D⟩:=Iz P C;have e:P=(L.map NdR.nd).map (NdR.row r0 bs):=by
  rw[D,aei];rfl
 have l:∀cs,∀d∈L.map NdR.nd,Cok w cs d:=fun cs d hd=>by
  obtain⟨i,_,rfl⟩:=Nq.1 hd;trivial
 have H:=NQ U cs hc;constructor
 .intro S R;have:=J B0 cs (by rw[H];exact Z) (fun b hb c G=>N b hb c (by have:=hc c G;omega)) (fun i c G=>M i c (by have:=hc c G;omega)) (L.map NdR.nd) (by rw[aar];omega) (l cs);rw[<-e] at this;exact this.mono (FQ aa bs)
 .intro S R O;have B:∀c∈j::cs,c<W:=fun c G=>by
   rcases lh.1 G with rfl|G
   .exact O
   .have:=hc c G;omega
  have:=J B0 (j::cs) (by show w j*pw w cs<=B0;rw[H,aaq];exact I j O) (fun b hb c G=>N b hb c (B c G)) (fun i c G=>M i c (B c G)) (L.map NdR.nd) (by rw[aar,nV];omega) (l _);rw[<-e] at this;exact this.mono (FQ Abw bs)
section
variable {m W BD N Ns:Nat} {Z0:Nat->Nat->GQ} {Q:GQ}
def sF.QN(h:sF Z0 m W Q BD){x A D}(B:Wh (Q*A) BD)(l:Wh (Q*D) BD)(C:D≠GQ.i 0 0)(J:A=x*D)(j:BD*BD<2^N):Bd x N:=by
 refine xI B l (GQ.jc h.q0 C) ?_ j j;rw[J];ext<;>simp only[GQ.bL,GQ.bK]<;>grind
def Inv.bdM{c}{s:Ec}{o P}(h:Inv m Z0 c s o P)(B:sF Z0 m W Q BD)(H:BD*BD<2^N)(hc:c<=m){i j}(C:s.r<=i)(l:i<m)(D:j<W):Bd (s.X i j) N:=by
 have I:∀d∈s.q,d<m:=fun d hd=>by have:=h.qc d hd;omega
 have F:=(B.min (Z0 (o i)::P) j s.q (fun p hp=>by
  rcases lh.1 hp with rfl|hp
  .exact⟨o i,h.om i l,rfl⟩
  .exact h.pm p hp) I).2 (by rw[nV,h.pl,h.ql]) (by rw[nV,h.pl];omega) D
 have G:=(B.min P j s.q h.pm I).1 (by rw[h.pl,h.ql]) (by rw[h.pl];omega);exact B.QN F G h.ne ((h.sy i C l).entry (fun d hd=>h.z i d C l (h.qc d hd)) j) H
def Inv.Yf{c k i}{s:Ec}{o P}(h:Inv m Z0 c s o P)(G:sF Z0 m W Q BD)(M:BD*BD<2^N)(hc:c<m)(j:c<W)(D:s.r<=i)(B:i<m)(C:s.r<=k)(F:k<m)(H:s.X k c≠GQ.i 0 0):Bd (s.X i c/s.X k c) N:=by
 have I:∀d∈s.q,d<m:=fun d hd=>by have:=h.qc d hd;omega
 have l:∀t,s.r<=t->t<m->Wh (Q*det (Z0 (o t)::P) (c::s.q)) BD:=fun t O K=>(G.min (Z0 (o t)::P) c s.q (fun p hp=>by
  rcases lh.1 hp with rfl|hp
  .exact⟨o t,h.om t K,rfl⟩
  .exact h.pm p hp) I).2 (by rw[nV,h.pl,h.ql]) (by rw[nV,h.pl];omega) j
 have L:=(h.sy i D B).entry (fun d hd=>h.z i d D B (h.qc d hd)) c;have J:=(h.sy k C F).entry (fun d hd=>h.z k d C F (h.qc d hd)) c;refine G.QN (l i D B) (l k C F) (by rw[J];exact GQ.jc H h.ne) ?_ M;rw[L,J,<-GQ.dB,afb H]
def XL(l:sF Z0 m (m+1) Q BD)(C:BD*BD<2^N):Room N m m 1 Z0:=by
 intro c hc M;obtain⟨o,P,B⟩:=pQ m Z0 c;exact⟨fun i j F D J=>B.bdM l C aa F D J,fun i k K L G I H=>B.Yf l C hc aa K L G I H⟩
theorem L9(G:sF Z0 m W Q BD)(H:BD*BD<2^N):∀c,c<=m->∀i j,i<m->j<W->Bd ((ech m Z0 c).X i j) N
 |0,_,i,j,hi,hj=>by
  obtain⟨o,P,F⟩:=pQ m Z0 0;exact F.bdM G H aa (q9 _) hi hj
 |c+1,hc,i,j,hi,hj=>by
  by_cases l:(ech m Z0 (c+1)).r<=i
  .obtain⟨o,P,F⟩:=pQ m Z0 (c+1);exact F.bdM G H hc l hi hj
  have B:=L9 G H c aa;have e:ech m Z0 (c+1)=kM m c (ech m Z0 c):=rfl;rw[e] at l⊢;cases D:fp (ech m Z0 c).X c (m-(ech m Z0 c).r) (ech m Z0 c).r with
  |none=>rw[fA D];exact B i j hi hj
  |some k=>
   rw[dW D] at l⊢;obtain⟨K,I,L,J⟩:=iW D;have C:¬(ech m Z0 c).r+1<=i:=l;show Bd (clr (fun i=>(ech m Z0 c).X (swp k (ech m Z0 c).r i)) (ech m Z0 c).r c i j) N;unfold clr;rw[θ aa];exact B _ j (mI aa aa hi) hj
def ww{o P}(h:Mr m Z0 m (ech m Z0 m) (oD m Z0 m) o P)(H:(ech m Z0 m).r=m)(G:sF Z0 m W Q BD):
  ∃M,M≠GQ.i 0 0/\Wh M BD/\∀l j,l<m->j<W->Wh (M*(oD m Z0 m).X l j) BD:=by
 have N:P.length=m:=h.r.inv.pl.trans H;have hq:(ech m Z0 m).q.length=m:=h.r.inv.ql.trans H;have I:∀d∈(ech m Z0 m).q,d<m:=fun d hd=>h.r.inv.qc d hd;refine⟨Q*det P (ech m Z0 m).q,GQ.jc G.q0 h.r.inv.ne,(G.min P 0 _ h.r.inv.pm I).1 aa aa,fun l j B L=> ?_⟩;have C:((ech m Z0 m).q.eraseIdx (m-1-l)).length=m-1:=by
  rw[List.length_eraseIdx,ι aa];omega
 have D:∀d∈(ech m Z0 m).q.eraseIdx (m-1-l),d<m:=fun d hd=>I d (List.mem_of_mem_eraseIdx hd);have K:=(G.min P j _ h.r.inv.pm D).2 aa aa L;have J:=(h.r.sp l aa).entry (k:=m-1-l) (q:=(ech m Z0 m).q) aa (fun n d F=>by
  rw[h.r.un l aa n d F,H];have:n<(ech m Z0 m).q.length:=(μ.1 F).1;by_cases e:n=m-1-l
  .rw[ι e,ι aa]
  .rw[θ e,θ aa]) j
 have e:Q*det P (ech m Z0 m).q*(oD m Z0 m).X l j=Q*det P (j::(ech m Z0 m).q.eraseIdx (m-1-l))\/Q*det P (ech m Z0 m).q*(oD m Z0 m).X l j= -(Q*det P (j::(ech m Z0 m).q.eraseIdx (m-1-l))):=by
  rw[GQ.dB,GQ.dZ (det P _)];rcases J with J|J
  .left;rw[J]
  .right;rw[J]
   ext<;>simp only[GQ.bL,GQ.bK,GQ.lI,GQ.lM]<;>grind
 rcases e with e|e
 .rw[e];exact K
 .rw[e];exact K.neg
theorem OI{i}(R:(ech m Z0 m).r=m)(hi:i<m)(K:sF Z0 m W Q BD):∃D,D≠GQ.i 0 0/\Wh D BD/\∀l,l<W->Wh (D*(ech m Z0 m).X i l) BD:=by
 have J:=zx (X:=Z0) (m:=m) aa (show i<=m by omega);have H:=zx (X:=Z0) (m:=m) aa (show i+1<=m by omega);obtain⟨o,P,h⟩:=pQ m Z0 i;have G:ech m Z0 (i+1)=kM m i (ech m Z0 i):=rfl;cases M:fp (ech m Z0 i).X i (m-(ech m Z0 i).r) (ech m Z0 i).r with
 |none=>rw[G,fA M] at H;omega
 |some k=>
  obtain⟨C,S,O,U⟩:=iW M;have F:(ech m Z0 m).X i=(ech m Z0 i).X k:=by
   rw[(Jz m Z0 (i+1) m aa i aa).1,G,dW M];funext j;show clr (fun t=>(ech m Z0 i).X (swp k (ech m Z0 i).r t)) (ech m Z0 i).r i i j=_;unfold clr;rw[θ aa];show(ech m Z0 i).X (swp k (ech m Z0 i).r i) j=_;rw[J,oZ]
  have T:P.length=i:=h.pl.trans J;have hq:(ech m Z0 i).q.length=i:=h.ql.trans J;have I:∀d∈(ech m Z0 i).q,d<m:=fun d hd=>by have:=h.qc d hd;omega
  refine⟨Q*det P (ech m Z0 i).q,GQ.jc K.q0 h.ne,(K.min P 0 _ h.pm I).1 aa aa,fun l B=> ?_⟩;have N:=(K.min (Z0 (o k)::P) l _ (fun p hp=>by
   rcases lh.1 hp with rfl|hp
   .exact⟨o k,h.om k aa,rfl⟩
   .exact h.pm p hp) I).2 Abw Abw B
  have L:=(h.sy k C aa).entry (fun d hd'=>h.z k d C aa (h.qc d hd')) l;rw[L] at N;rw[F,GQ.dB,GQ.dZ (det P _)];exact N
end
section
variable {m BD N Ns:Nat} {Z0:Nat->Nat->GQ} {Q:GQ}
def Me{W}(F:(ech m Z0 m).r=m)(G:sF Z0 m W Q BD)(B:BD*BD<2^N){l j}(Z:l<m)(C:j<W):Bd ((oD m Z0 m).X l j) N:=by
 obtain⟨o,P,h⟩:=lU m Z0 m;obtain⟨M,I,H,D⟩:=ww h F G;exact xI (D l j Z C) H I (GQ.dZ _ _) B B
def Jf(F:(ech m Z0 m).r=m)(H:sF Z0 m (m+1) Q BD)(J:(BD*BD+m*(BD*BD))*(BD*BD)<2^Ns){k s}(L:k<m)(K:s<=k):
  Bd (bps (ech m Z0 m).X (jE (ech m Z0 m).X m k) m (m-1-k) 0 s) Ns:=by
 obtain⟨o,P,h⟩:=lU m Z0 m;rw[Ht,Cq (x':=fun t=>(oD m Z0 m).X (m-1-k+1+t) m) s (fun t I=>Ah h F 0 k aa _ aa aa)];obtain⟨M,V,l,G⟩:=ww h F H;obtain⟨D,C,B,j⟩:=OI (i:=m-1-k) F aa H;refine UC C V B l (j _ aa) (fun t I=>j _ aa) (fun t I=>G _ _ aa aa) (ψ (aaa ?_ (κ _)) J) (ψ (aaa ?_ (κ _)) J)
 .have:=aaa (show s<=m by omega) (κ (BD*BD));omega
 .omega
def Xg(G:(ech m Z0 m).r=m)(F:sF Z0 m (m+1) Q BD)(J:BD*BD<2^N)(B:(BD*BD+m*(BD*BD))*(BD*BD)<2^Ns)(c1:2*max Ns (N+N+1)+65<=12800)(c3:Ns+N+1<=12800):
  MI N Ns Ns N m 1 (ech m Z0 m).X:=by
 refine⟨fun i l hi Z=>L9 F J m (κ m) i l hi aa,fun k j s D I C=> ?_,fun k j D I=> ?_,fun k i j D K H I=> ?_,c1,aa,c3,aa,aa⟩
 .obtain rfl:j=0:=aa;exact Jf G F B D aa
 .obtain rfl:j=0:=aa;exact Jf G F B D (κ k)
 .obtain rfl:j=0:=aa;obtain⟨o,P,h⟩:=lU m Z0 m;rw[Ah h G 0 k D i K H];exact Me G F J H aa
end
def zq (z:Imp) (n d:Int):GQ:=⟨((n*z.r:Int):Rat)/(d:Rat),((n*z.x:Int):Rat)/(d:Rat)⟩
structure Nb where
 a:Nat
 b:Nat
 y:GQ
 e:GQ
def Nb.at_ (b:Nb) (k:Nat) (U:Nat->GQ):GQ:=(if k=b.a then b.y*(U b.a-U b.b) else GQ.i 0 0)+(if k=b.b then b.y*(U b.b-U b.a) else GQ.i 0 0)
def Nb.src (b:Nb) (k:Nat):GQ:=if b.b=17/\k=b.a then b.y*b.e else GQ.i 0 0
def Nb.br (rw_:Nat->Nat) (b:Nb):Br:=⟨rw_ b.a,rw_ b.b,decide (b.b=17),b.y⟩
def nE{α:Type}{f g:α->GQ}:∀l:List α,(∀a∈l,f a=g a)->iM f l=iM g l
 |[],_=>rfl
 |a::l,h=>by
  show iM f l+f a=iM g l+g a;rw[nE l (fun x J=>h x (nC _ J)),h a q8]
def Db{α:Type}(c)(f:α->GQ):∀l:List α,iM (fun a=>c*f a) l=c*iM f l
 |[]=>(GQ.bQ _).symm
 |a::l=>by
  show iM (fun a=>c*f a) l+c*f a=c*(iM f l+f a);rw[Db c f l,GQ.qD]
def sw{n D j:Nat}(l:j<n)(y:GQ)(x:Nat->GQ)(i:Nat):iK (fun c=>jX D j y i c*x c) n=if i=D then y*x j else GQ.i 0 0:=by
 rw[r9 (c:=j) n l (fun c _ hc=>by show(if i=D/\c=j then y else GQ.i 0 0)*_=_;rw[θ (fun h=>hc h.2),GQ.fC])];show(if i=D/\j=j then y else GQ.i 0 0)*x j=_;by_cases h:i=D
 .rw[ι ⟨h,rfl⟩,ι h]
 .rw[θ (fun e=>h e.1),θ h,GQ.fC]
def Br.part (b:Br) (i:Nat) (x:Nat->GQ):GQ:=
 if b.nt then (if i=b.p then b.y*x b.p else GQ.i 0 0) else (if i=b.p then b.y*(x b.p-x b.q) else GQ.i 0 0)+(if i=b.q then b.y*(x b.q-x b.p) else GQ.i 0 0)
theorem U8{n X}{b:Br}(x)(hp:b.p<n)(hq:b.nt=ζ->b.q<n)(i):iK (fun c=>stm X b i c*x c) n=iK (fun c=>X i c*x c) n+b.part i x:=by
 unfold stm Br.part;cases hb:b.nt
 .simp only[RS,ab0];have hq:=hq hb;have e:(fun c=>(X i c+jX b.p b.p b.y i c+jX b.q b.q b.y i c+jX b.p b.q (-b.y) i c+jX b.q b.p (-b.y) i c)*x c)=fun c=>(((X i c*x c+jX b.p b.p b.y i c*x c)+jX b.q b.q b.y i c*x c)+jX b.p b.q (-b.y) i c*x c)+jX b.q b.p (-b.y) i c*x c:=funext fun c=>by
   ext<;>simp only[GQ.cO,GQ.bY,GQ.bL,GQ.bK]<;>grind
  rw[e,mi,mi,mi,mi,sw hp,sw hq,sw hq,sw hp];generalize iK (fun c=>X i c*x c) n=s;by_cases l:i=b.p<;>by_cases j:i=b.q<;>simp only[l,j,aag,ab0]
  (all_goals (try subst l);(try subst j));all_goals (try split)<;>(ext<;>simp only[GQ.cO,GQ.bY,GQ.bL,GQ.bK,GQ.dU,GQ.dV,GQ.lI,GQ.lM,GQ.dM,GQ.dJ]<;>grind)
 .simp only[aag];have e:(fun c=>(X i c+jX b.p b.p b.y i c)*x c)=fun c=>X i c*x c+jX b.p b.p b.y i c*x c:=funext fun c=>by
   ext<;>simp only[GQ.cO,GQ.bY,GQ.bL,GQ.bK]<;>grind
  rw[e,mi,sw hp]
def H8{n}(x i):∀(bs:List Br) (X:Nat->Nat->GQ),(∀b∈bs,b.p<n/\(b.nt=ζ->b.q<n))->iK (fun c=>fq X bs i c*x c) n=iK (fun c=>X i c*x c) n+iM (fun b=>b.part i x) bs
 |[],X,_=>(GQ.add_zero' _).symm
 |b::bs,X,h=>by
  have hb:=h b q8;show iK (fun c=>fq (stm X b) bs i c*x c) n=_+(iM _ bs+b.part i x);rw[H8 x i bs (stm X b) (fun c hc=>h c (nC _ hc)),U8 x hb.1 hb.2];generalize iK (fun c=>X i c*x c) n=s;generalize iM _ bs=t;generalize b.part i x=u;ext<;>simp only[GQ.cO,GQ.bY]<;>grind
def SF(i:Nat)(x:Nat->GQ)(n:Nat):iK (fun c=>zmx i c*x c) n=GQ.i 0 0:=by
 rw[jo (g:=fun _=>GQ.i 0 0) n (fun c _=>by show GQ.i 0 0*_=_;rw[GQ.fC]),mR]
structure Rwx (L:Nat->Bool) (rw_:Nat->Nat) (n:Nat):Prop where
 lt:∀k,L k=ε->rw_ k<n
 inj:∀j k,L j=ε->L k=ε->rw_ j=rw_ k->j=k
 onto:∀i,i<n->∃k,L k=ε/\rw_ k=i
structure Yb (L:Nat->Bool) (us:List Nb):Prop where
 none:L 17=ζ
 ab:∀b∈us,L b.a=ε/\(b.b=17\/L b.b=ε)/\b.a≠b.b
inductive JoinN (us:List Nb):Nat->Prop
 |neutral (b:Nb) (h:b∈us) (hn:b.b=17):JoinN us b.a
 |fro (b:Nb) (h:b∈us) (hn:b.b≠17) (hq:JoinN us b.b):JoinN us b.a
 |fwd (b:Nb) (h:b∈us) (hn:b.b≠17) (hp:JoinN us b.a):JoinN us b.b
def JoinN.br{us}(rw_){k}(h:JoinN us k):Joined (us.map (Nb.br rw_)) (rw_ k):=by
 induction h with
 |neutral b h hn=>exact Joined.neutral (Nb.br rw_ b) (aaB h) (by simp[Nb.br,hn])
 |fro b h hn _ ih=>exact Joined.fro (Nb.br rw_ b) (aaB h) (by simp[Nb.br,hn]) ih
 |fwd b h hn _ ih=>exact Joined.fwd (Nb.br rw_ b) (aaB h) (by simp[Nb.br,hn]) ih
structure yV (L:Nat->Bool) (rw_:Nat->Nat) (n:Nat) (us:List Nb):Prop where
 r:Rwx L rw_ n
 u:Yb L us
 im:∀b∈us,b.y.im<0
 jn:∀k,L k=ε->JoinN us k
section
variable {L:Nat->Bool} {rw_:Nat->Nat} {n:Nat} {us:List Nb}
def yV.psv(h:yV L rw_ n us):Psv n (us.map (Nb.br rw_)):=by
 refine⟨fun b hb=> ?_,fun p hp=> ?_⟩
 .obtain⟨c,hc,rfl⟩:=Nq.1 hb;obtain⟨B,l,C⟩:=h.u.ab c hc;refine⟨h.r.lt _ B,fun hn=> ?_,h.im c hc⟩;have:c.b≠17:=by simpa[Nb.br] using hn
  exact h.r.lt _ (l.resolve_left this)
 .obtain⟨k,j,rfl⟩:=h.r.onto p hp;exact(h.jn k j).br rw_
noncomputable def oM (L:Nat->Bool) (rw_:Nat->Nat) (n:Nat) (us:List Nb) (v:Nat->GQ) (k:Nat):GQ:=if L k=ε then sol n (fq zmx (us.map (Nb.br rw_))) (col v) (rw_ k) 0 else GQ.i 0 0
theorem mH{v k}(h:L k=ζ):oM L rw_ n us v k=GQ.i 0 0:=by unfold oM;rw[h];rfl
theorem pO{v k}(h:L k=ε):oM L rw_ n us v k=sol n (fq zmx (us.map (Nb.br rw_))) (col v) (rw_ k) 0:=by unfold oM;rw[ι h]
def yV.kcl(h:yV L rw_ n us){v k}(l:L k=ε):iM (fun b=>b.at_ k (oM L rw_ n us v)) us=v (rw_ k):=by
 have F:=h.psv.ze (v:=v) (h.r.lt k l);rw[H8 _ _ _ _ (fun b hb=>⟨(h.psv.ok b hb).1,(h.psv.ok b hb).2.1⟩),SF,qA] at F;have B:k≠17:=fun e=>by rw[e,h.u.none] at l;cases l
 rw[<-F,nE (g:=fun a=>(Nb.br rw_ a).part (rw_ k) (fun c=>sol n (fq zmx (us.map (Nb.br rw_))) (col v) c 0)) us]
 .ext<;>simp only[GQ.cO,GQ.bY,GQ.dM,GQ.dJ]<;>grind
 .intro b hb;obtain⟨ha,D,G⟩:=h.u.ab b hb;show(if k=b.a then b.y*(oM L rw_ n us v b.a-oM L rw_ n us v b.b) else GQ.i 0 0)+(if k=b.b then b.y*(oM L rw_ n us v b.b-oM L rw_ n us v b.a) else GQ.i 0 0)=
   if decide (b.b=17)=ε then (if rw_ k=rw_ b.a then b.y*sol n (fq zmx (us.map (Nb.br rw_))) (col v) (rw_ b.a) 0 else GQ.i 0 0)
   else (if rw_ k=rw_ b.a then b.y*(sol n (fq zmx (us.map (Nb.br rw_))) (col v) (rw_ b.a) 0-sol n (fq zmx (us.map (Nb.br rw_))) (col v) (rw_ b.b) 0) else GQ.i 0 0)+
    (if rw_ k=rw_ b.b then b.y*(sol n (fq zmx (us.map (Nb.br rw_))) (col v) (rw_ b.b) 0-sol n (fq zmx (us.map (Nb.br rw_))) (col v) (rw_ b.a) 0) else GQ.i 0 0)
  rw[pO ha];by_cases hn:b.b=17
  .rw[ι (show decide (b.b=17)=ε by simp[hn]),θ (show ¬k=b.b by omega),GQ.add_zero',mH (k:=b.b) (by rw[hn];exact h.u.none)];by_cases j:k=b.a
   .rw[ι j,ι (by rw[j])];generalize sol n _ _ _ _=z;ext<;>simp only[GQ.dU,GQ.dV,GQ.bL,GQ.bK,GQ.dM,GQ.dJ]<;>grind
   .rw[θ j,θ (fun e=>j (h.r.inj _ _ l ha e))]
  .have C:=D.resolve_left hn;rw[θ (show ¬decide (b.b=17)=ε by simp[hn]),pO C];have I:(rw_ k=rw_ b.a)=(k=b.a):=propext ⟨fun e=>h.r.inj _ _ l ha e,fun e=>by rw[e]⟩;have H:(rw_ k=rw_ b.b)=(k=b.b):=propext ⟨fun e=>h.r.inj _ _ l C e,fun e=>by rw[e]⟩;simp only[I,H]
def yV.drive(h:yV L rw_ n us){f}(j:L f=ε):0<(oM L rw_ n us (unit (rw_ f)) f).im:=by
 rw[pO j];exact h.psv.drive (x:=fun c=>sol n (fq zmx (us.map (Nb.br rw_))) (col (unit (rw_ f))) c 0) (h.r.lt f j) (fun i hi=>h.psv.ze (v:=unit (rw_ f)) hi)
def yV.scale(h:yV L rw_ n us)(c){v u}(hv:∀i,i<n->u i=c*v i)(k):oM L rw_ n us u k=c*oM L rw_ n us v k:=by
 cases j:L k with
 |false=>rw[mH j,mH j,GQ.bQ]
 |true=>
  rw[pO j,pO j];refine h.psv.unique (x:=fun i=>sol n (fq zmx (us.map (Nb.br rw_))) (col u) i 0) (y:=fun i=>c*sol n (fq zmx (us.map (Nb.br rw_))) (col v) i 0) (fun i hi=> ?_) (h.r.lt k j);rw[h.psv.ze hi,hv i hi];have e:(fun d=>fq zmx (us.map (Nb.br rw_)) i d*(c*sol n (fq zmx (us.map (Nb.br rw_))) (col v) d 0))=fun d=>c*(fq zmx (us.map (Nb.br rw_)) i d*sol n (fq zmx (us.map (Nb.br rw_))) (col v) d 0):=funext fun d=>by
   ext<;>simp only[GQ.bL,GQ.bK]<;>grind
  rw[e,Ba,h.psv.ze hi]
def feed (rw_:Nat->Nat) (us:List Nb) (i:Nat):GQ:=iM (fun b=>if b.b=17/\i=rw_ b.a then b.y*b.e else GQ.i 0 0) us
theorem yV.U3(h:yV L rw_ n us){k}(j:L k=ε):feed rw_ us (rw_ k)=iM (fun b=>b.src k) us:=by
 refine nE us fun b hb=> ?_;have l:(rw_ k=rw_ b.a)=(k=b.a):=propext ⟨fun e=>h.r.inj _ _ j (h.u.ab b hb).1 e,fun e=>by rw[e]⟩;unfold Nb.src;simp only[l]
end
def CS(g)(z:Imp)(n d w)(hc:dh w g)(D:0<=z.r/\z.r<=1000)(J:0<=z.x/\z.x<=1000)(hn:0<=n/\n<=16)(hd:1<=d/\d<=16):
  CV 156 #[aN g 0,.agg #[z.r,z.x],.int .i64 n,.int .i64 d] w fun v w'=>GV w' v (zq z n d) 64:=by
 obtain⟨Y,Q,j⟩:=an2 w 54 #[z.r,z.x] 42 aQ3;have O:=hc.ext Y;have N:=Q.cell;have b1:0<=n*z.r/\n*z.r<=16000:=⟨abI hn.1 D.1,by have:=abj hn.2 D.2 D.1 aa;omega⟩;have b2:0<=n*z.x/\n*z.x<=16000:=⟨abI hn.1 J.1,by have:=abj hn.2 J.2 J.1 aa;omega⟩;have S:=aW (fun w hc=>RU g (n*z.r) (n*z.x) d w hc aa aa aa aa aa aa aa);clear D J hn hd;obtain⟨b10,l⟩:=b1;obtain⟨C,B⟩:=b2;go_enter func156,ntmps156;go_wp2_with fail;clear N Q;refine(S.o _ O).mono ?_;rintro e w3 ⟨v,rfl,hv,J⟩;replace Y:=Y.trans J;replace j:=j.ext J;clear J;obtain⟨YJ,T,Z,L,U,I,M,YK,G,W,H,V,rfl⟩:=hv.opn;have k6:=j.cell;have f6:=j.frozen;obtain⟨p1,p2,F⟩:=fe Y aa j hv;have P:=aW p1;have R:=aW p2;have K:=aW F;clear p1 p2 F Y j hv;go_wp2_with fail;exact dG rfl rfl rfl R.o ⟨_,rfl,K.o,P.o⟩
def lD(g)(z:Imp)(w)(hc:dh w g)(B:0<=z.r/\z.r<=1000)(J:0<=z.x/\z.x<=1000):
  CV 120 #[aN g 0,.agg #[z.r,z.x]] w fun v w'=>GV w' v (zq z 1 1) 64:=by
 obtain⟨Y,Q,j⟩:=an2 w 54 #[z.r,z.x] 42 aQ3;have O:=hc.ext Y;have K:=Q.cell;have N:=aW (fun w hc=>CS g z 1 1 w hc B J aa aa);clear B J;go_enter func120,ntmps120;go_wp2_with fail;clear K Q;refine(N.o _ O).mono ?_;rintro e Z ⟨v,rfl,hv,J⟩;replace Y:=Y.trans J;replace j:=j.ext J;clear J;obtain⟨V,P,U,H,R,F,I,W,C,T,D,S,rfl⟩:=hv.opn;have k6:=j.cell;have f6:=j.frozen;obtain⟨p1,p2,l⟩:=fe Y aa j hv;have L:=aW p1;have M:=aW p2;have G:=aW l;clear p1 p2 l Y j hv;go_wp2_with fail;exact dG rfl rfl rfl M.o ⟨_,rfl,G.o,L.o⟩
def uU(g v0 q0 n0 m w)(hc:dh w g)(L:GV w v0 q0 n0)(hm: -9223372036854775808<=m/\m<=9223372036854775807)(hn:2*max n0 64+1<=12800):
  CV 162 #[aN g 0,v0,.int .i64 m] w fun v w'=>GV w' v (q0*GQ.i m 0) (n0+64+1):=by
 obtain⟨N,H,T,G,D,V,Z,O,M,Yw,Yy,R,rfl⟩:=L.opn;obtain⟨Y,F,j⟩:=an2 w 42 #[N,aO H T G,D,aO V Z O,M,aO Yw Yy R] 42 aQ3;have HX:=aW (L.ext Y);have HC:=aW (dh.ext hc Y);have HE:=aW Y;have U:=aW F;have S:=aW j;have HN:=aW hn;have HM:=aW hm;clear hm;clear L Y F j hn hc;go_enter func162,ntmps162;go_wp2_with fail;generalize aU _ _=w5 at HX HC HE U S⊢;have Y1:=aX.blk U.o;refine bM 6 [(ε,0),(ε,1),(ε,2),(ε,3),(ζ,4),(ζ,5)] ah ah ?_;refine bC [0,1,2,3] [(ζ,4),(ζ,5)] _ ah ?_;refine Gq ?_;refine bz 4 [(ζ,5)] ah ?_;intro K I;simp only[bG];go_wp2_with fail;refine(dO g m _ (HC.ext ((Ext.refl _).drew)) HM.o.1 HM.o.2).mono ?_;rintro e w2 ⟨u,rfl,C,J⟩;have P:=((Ext.refl w5).drew).trans J;have W:=aW P;clear J;obtain⟨YT,YU,YS,YP,YN,YM,YL,YV,YW,YR,YO,YQ,rfl⟩:=C.opn;have HU:=aW C;go_wp2_with fail;refine I _ _ ⟨⟨w2,P⟩,rfl⟩ ?_;clear I K P C;have C:=HU.o;refine bz 5 [] ah ?_;intro K I;simp only[bG];go_wp2_with fail;refine(uX g _ _ q0 (GQ.i m 0) n0 64 _ (HC.ext W.o) (HX.ext W.o) C HN.o).mono ?_;exact Aaw
def FC(g v0 q0 n0 w)(hc:dh w g)(L:GV w v0 q0 n0)(hn:2*max 64 n0+65<=12800):
  CV 163 #[aN g 0,v0] w fun v w'=>GV w' v (GQ.i 0 0-q0) (64+n0+65):=by
 obtain⟨N,H,T,G,D,V,Z,O,M,Yw,Yy,R,rfl⟩:=L.opn;obtain⟨Y,F,j⟩:=an2 w 42 #[N,aO H T G,D,aO V Z O,M,aO Yw Yy R] 42 aQ3;have HX:=aW (L.ext Y);have HC:=aW (dh.ext hc Y);have HE:=aW Y;have U:=aW F;have S:=aW j;have HN:=aW hn;skip;clear L Y F j hn hc;go_enter func163,ntmps163;go_wp2_with fail;generalize aU _ _=w5 at HX HC HE U S⊢;have Y1:=aX.blk U.o;refine bM 5 [(ε,0),(ε,1),(ε,3),(ζ,2),(ζ,4)] ah ah ?_;refine bC [0,1,3] [(ζ,2),(ζ,4)] _ ah ?_;refine Gq ?_;refine bz 2 [(ζ,4)] ah ?_;intro K I;simp only[bG];go_wp2_with fail;refine(dO g 0 _ (HC.ext ((Ext.refl _).drew)) aa aa).mono ?_;rintro e w2 ⟨u,rfl,C,J⟩;have P:=((Ext.refl w5).drew).trans J;have W:=aW P;clear J;obtain⟨YT,YU,YS,YP,YN,YM,YL,YV,YW,YR,YO,YQ,rfl⟩:=C.opn;have HU:=aW C;go_wp2_with fail;refine I _ _ ⟨⟨w2,P⟩,rfl⟩ ?_;clear I K P C;have C:=HU.o;refine bz 4 [] ah ?_;intro K I;simp only[bG];go_wp2_with fail;refine(uR g _ _ (GQ.i 0 0) q0 64 n0 _ (HC.ext W.o) C (HX.ext W.o) HN.o).mono ?_;exact Aaw
def SN{w:World}{g n j:Nat}{f:Nat->En}{x:Nat->GQ}{e:En}(hb:Blk w g 42 (bD n f).toArray)(J:∀i,i<j->GV w (f i).v (x i) 12800)(C:j<n)(O:GV w e.v (x j) 12800):
  Blk (puts w g (j*6) e.cells) g 42 (bD n (upd f j e)).toArray/\(∀i,i<j+1->GV (puts w g (j*6) e.cells) (upd f j e i).v (x i) 12800)/\Mod (fun k=>k=g) w (puts w g (j*6) e.cells):=by
 have l:Mod (fun k=>k=g) w (puts w g (j*6) e.cells):=Mod.only (gP _ _ _ _) rfl;have hS:Far (fun k=>k=g) w:=fun k B _=>by subst B;exact⟨_,_,hb,dI _ _⟩
 refine⟨?_,fun i hi=> ?_,l⟩
 .rw[<-ou e C];exact dm _ _ hb
 .by_cases h:i=j
  .subst h;rw[upd_same];exact O.mod l hS
  .rw[upd_ne h];exact(J i aa).mod l hS
theorem E8(gf m na:Nat)(w)(hc:dh w gf)(hm:m<=24)(ZZ:na<=24):
  Calls prog 157 #[aN gf 0,(m:Int),(na:Int)] w fun e w'=>∃(G:Nat) (S:Nat->Rw),e=.returned (.slice (γ (aM G 0)) m m)/\DI w w' G m na m (fun _ _=>GQ.i 0 0) S:=by
 have HC:=aW hc;clear hc;have Zc:=FT m aa;have ZR:=Cn na aa;go_enter func157,ntmps157;go_wp2_with fail;clear Zc;go_loopw [14] (fun i wr=>∃(D:Nat) (S:Nat->Rw),D<=m/\i=.int .i64 D/\DI w wr w.heap.size m na D (fun _ _=>GQ.i 0 0) S) (aT m)
 case atStart=>exact⟨0,fun _=>BS,aa,rfl,Blk.new _ _ _,κ _,by intros;omega,by intros;omega,by intros;omega,Ext.new _ _⟩
 case round=>
  obtain⟨i,S,hi,rfl,hD⟩:=hrel;obtain⟨wv,YV⟩:∃wv,wv=wr:=⟨_,rfl⟩;subst YV;have HD:=aW hD;clear hD;by_cases Yp:i<m
  .have hd:decide ((i:Int)<m)=ε:=ae;have YI:=HD.o.o;have fr:=YI.frozen;have C:wv.cell? (aM w.heap.size i)=γ (S i).v:=by rw[YI.cell];exact jf Yp
   have YN:w.heap.size<wv.heap.size:=YI.lt;have P:Blk (wv.setCell ⟨w.heap.size,i,δ⟩ (.slice (γ (aM wv.heap.size 0)) na na)) w.heap.size 174 (mxc m (upd S i ⟨γ ⟨wv.heap.size,0,δ⟩,wv.heap.size,0,na,na⟩)).toArray:=by
    rw[<-Gf];exact YI.mM _ _
   have k2:(wv.setCell ⟨w.heap.size,i,δ⟩ (.slice (γ (aM wv.heap.size 0)) na na)).cell? (aM w.heap.size i)=γ (aO (γ (aM wv.heap.size 0)) na na):=by rw[P.cell,jf Yp,upd_same];rfl
   have YR:=P.alloc (.cells (bD na fun _=>zEn).toArray 42);have Yy:Blk ((wv.setCell ⟨w.heap.size,i,δ⟩ (.slice (γ (aM wv.heap.size 0)) na na)).alloc (.cells (bD na fun _=>zEn).toArray 42)) wv.heap.size 42 (bD na fun _=>zEn).toArray:=aeW _ _ Abc;have YP:Ext w ((wv.setCell ⟨w.heap.size,i,δ⟩ (.slice (γ (aM wv.heap.size 0)) na na)).alloc (.cells (bD na fun _=>zEn).toArray 42)):=(HD.o.ext.setCell (κ _) _).alloc _;have V:Mod (fun k=>k=w.heap.size\/k=wv.heap.size) wv ((wv.setCell ⟨w.heap.size,i,δ⟩ (.slice (γ (aM wv.heap.size 0)) na na)).alloc (.cells (bD na fun _=>zEn).toArray 42)):=(Mod.only (Only.set _ _ _ _) (.inl rfl)).trans (ae1 (Ext.new _ _));have Za:=aW YR;have U:=aW Yy;have W:=aW YP;have YT:=aW YN;have YH:=aW V;clear YI YR P Yy YP V;go_wp2_with fail;clear C k2 fr;generalize aU _ _=w3 at Za U W YH⊢;generalize Zg:wv.heap.size=g at Za U YT YH YN⊢;have YC:=aW Zg;clear Zg;clear YN;go_loopw [27] (fun M wz=>∃(j:Nat) (f:Nat->En),j<=na/\M=.int .i64 j/\Blk wz g 42 (bD na f).toArray/\(∀H,H<j->GV wz (f H).v (GQ.i 0 0) 12800)/\Mod (fun k=>k=g) w3 wz) (aT na)
   case atStart=>exact⟨0,fun _=>zEn,aa,rfl,U.o,by intros;omega,Mod.refl _ _⟩
   case round=>
    obtain⟨j,f,hj,rfl,hb,YM,Zh⟩:=hrel;have YL:=aW hb;have YF:=aW YM;have YG:=aW Zh;clear hb YM Zh;have YK:w.heap.size≠g:=by have:=YT.o;omega
    have T:=Za.o.mod YG.o YK;have Zp:=aW T;have R:=aW (fQ W.o YG.o (fun k hk=>by have:=YT.o;omega));by_cases Yz:j<na
    .have Z9:decide ((j:Int)<na)=ε:=ae;have k3:wr.cell? (aM w.heap.size i)=γ (aO (γ (aM g 0)) na na):=by rw[T.cell,jf Yp,upd_same];rfl
     have lz:=T.lt;have lg:=YL.o.lt;clear T;have Y1:=aX.cell k3;go_wp2_with fail;refine bM 7 [(ε,0),(ε,1),(ε,2),(ε,3),(ε,4),(ε,5),(ζ,6)] ah ah ?_;refine bC [0,1,2,3,4,5] [(ζ,6)] _ ah ?_;refine Gq ?_;refine bz 6 [] ah ?_;intro K I;simp only[bG];go_wp2_with fail;refine(dO gf 0 _ (HC.o.ext (R.o.trans ((Ext.refl _).drew))) aa aa).mono ?_;rintro e w4 ⟨u,rfl,hu,J⟩;have N:=((Ext.refl wr).drew).trans J;have YO:=aW N;clear J;obtain⟨en,L⟩:=hu.en;subst L;have HU:=aW (hu.up (show 64<=12800 by omega));clear hu;go_wp2_with fail;refine I _ _ ⟨⟨w4,N⟩,rfl⟩ ?_;clear I K N Y1 k3;simp only[cK,ξ,τ];have hp:=SN (YL.o.ext YO.o) (x:=fun _=>GQ.i 0 0) (fun i hi=>(YF.o i hi).ext YO.o) Yz HU.o;obtain⟨d0,d1,d2,d3,d4,d5⟩:=dN.cells (YL.o.ext YO.o) Yz rfl;have fr:=(YL.o.ext YO.o).frozen;have Yq:=(YL.o.ext YO.o).lt;have YB:=aW hp.1;have ZJ:=aW hp.2.1;have Y:=aW hp.2.2;clear hp;unfold En.v gv;go_wp2_with fail
     go_roundw
     case rel=>exact⟨j+1,upd f j en,aa,au,YB.o,ZJ.o,(YG.o.trans (ae1 YO.o)).trans Y.o⟩
     case measure=>exact aV
    .obtain rfl:j=na:=aa;clear Yz hj;go_wp2_with fail
     go_roundw
     case rel=>
      have B:∀D,D<i->(S D).b≠g:=fun D Yr=>by
       obtain⟨f',Q,_⟩:=(HD.o.row D Yr).2.1;have:=Q.lt;have:=YC.o;omega
      have F:Mod (fun k=>k=w.heap.size\/k=g) wv wr:=YH.o.trans (YG.o.mono fun k hk=> .inr hk);have l:Far (fun k=>k=w.heap.size\/k=g) wv:=fun k hk Z=>by
       rcases hk with hk|hk
       .subst hk;refine⟨_,_,HD.o.o,?_⟩;unfold lL;simp only[qb];intro v hv;simp only[mxc,Nq] at hv;obtain⟨D,_,rfl⟩:=hv;rfl
       .have:=YC.o;omega
      refine⟨i+1,upd S i ⟨γ ⟨g,0,δ⟩,g,0,j,j⟩,aa,au,Zp.o,κ _,fun D Yr=> ?_,fun D Yr=> ?_,fun D H Yr YA O=> ?_,R.o⟩
      .exact AcM
      .by_cases e:D=i
       .exact Ack
       .rw[upd_ne e];have h3:=HD.o.row D aa;refine⟨h3.1,h3.2.1.mod F l (fun hk=> ?_),h3.2.2⟩;rcases hk with hk|hk
        .obtain⟨f',Q,_⟩:=h3.2.1;have e1:Blk wv w.heap.size 42 (bD j f').toArray:=hk ▸ Q;have e2:=HD.o.o.symm.trans e1;simp at e2
        .exact B D aa hk
      .by_cases e:D=i
       .by_cases e':H=i
        .omega
        .subst e;rw[upd_same,upd_ne e'] at O;exact absurd O.symm (B H aa)
       .by_cases e':H=i
        .subst e';rw[upd_same,upd_ne e] at O;exact absurd O (B D aa)
        .rw[upd_ne e,upd_ne e'] at O;exact HD.o.inj D H aa aa O
     case measure=>exact aV
  .obtain rfl:i=m:=aa;clear Yp hi;go_wp2_with fail;go_ret;exact⟨_,S,rfl,HD.o⟩
inductive NF where
 |any
 |gv (q:GQ) (n:Nat)
 |box (t:TypeId) (cs:Array Value)
 |eq (u:Value)
 |pt
def NF.holds:NF->Nat->Nat->Value->World->Prop
 | .any,_,_,_,_=>True
 | .gv q n,_,_,v,w=>∃e:En,v=e.v/\GV w e.v q n
 | .box t cs,lo,hi,v,w=>v=.pointer (γ (aM lo 0))/\lo<hi/\Blk w lo t cs
 | .eq u,_,_,v,_=>v=u
 | .pt,lo,hi,v,_=>v=.pointer (γ (aM lo 0))/\lo<hi
def afZ(f:NF){lo hi v w w'}(h:f.holds lo hi v w)(x:Ext w w'):f.holds lo hi v w':=by
 cases f with
 |any=>trivial
 |gv q n=>obtain⟨e,l,j⟩:=h;exact⟨e,l,j.ext x⟩
 |box t cs=>exact⟨h.1,h.2.1,h.2.2.ext x⟩
 |eq u=>exact h
 |pt=>exact h
def ae6{q n lo hi v w}(h:NF.holds (.gv q n) lo hi v w):GV w v q n:=by
 obtain⟨e,l,j⟩:=h;rw[l];exact j
def BG:List (Nat×NF)->Nat->NF
 |[],_=> .any
 |p::r,i=>bif Nat.beq p.1 i then p.2 else BG r i
def Hf:List (Nat×NF)->Nat->Bool
 |[],_=>ζ
 |p::r,i=>Nat.beq p.1 i||Hf r i
def NFs (l:List (Nat×NF)):Nat->Nat->Nat->Value->World->Prop:=fun i lo hi v w=>(BG l i).holds lo hi v w
def QB(l):∀i lo hi v w w',NFs l i lo hi v w->Ext w w'->NFs l i lo hi v w':=fun _ _ _ _ _ _ h x=>afZ _ h x
def yo{w' v q n}(h:GV w' v q n):∃e:En,v=e.v/\GV w' e.v q n:=by
 obtain⟨e,rfl⟩:=h.en;exact⟨e,rfl,h⟩
def bF{P ops rest op a w Q}(D:op.guard=δ)(F)(x y:Operand)(B:op.op=.store F x y)(b o cells)(J:a.eval x=.pointer (γ (aM b o)))(R:a.eval y=.agg cells.toArray)(j:w.there b o cells.length)(hi:(P.info? F).map (·.size)=γ cells.length)(l:∀v∈cells,v.oneCell'=ε)(h:∀w',w'=puts w b o cells->wpList P ops Q rest (a.put op.dst undef) w'):wpList P ops Q (op::rest) a w:=by
 refine wpList_store_mid D F x y B b o cells.toArray J R (by simpa using j) (by simpa using hi) (adK l) ?_;refine h _ ?_;rw[nP]
theorem eO(e:En):∀v∈e.cells,v.oneCell'=ε:=by
 intro v hv;unfold En.cells at hv;simp only[lh,I6,aaM] at hv;rcases hv with rfl|rfl|rfl|rfl|rfl|rfl<;>rfl
def cu:(prog.info? 42).map (·.size)=γ (6:Nat):=ah
def Blk.there{w g o n t cs}(h:Blk w g t cs)(hn:o+n<=cs.size):w.there g o n:=fun j l=>
 ⟨by rw[h.cell,Array.getElem?_eq_getElem (show o+j<cs.size by omega)];rfl,h.frozen _⟩
def oK{w0 w2 w':World}{g}(e:En)(J:Ext w0 w2)(H:w0.heap.size<=g)(hb:Blk w2 g 42 aQ3)(l:w'=puts w2 g 0 e.cells):
  Ext w0 w'/\Blk w' g 42 #[e.s1,aO e.A1 e.n1 e.c1,e.s2,aO e.A2 e.n2 e.c2,e.s3,aO e.A3 e.n3 e.c3]/\(∀v q n,GV w2 v q n->GV w' v q n)/\(∀g' t c,g'≠g->Blk w2 g' t c->Blk w' g' t c):=by
 have B:Mod (fun k=>k=g) w2 w':=by rw[l];exact Mod.only (gP _ _ _ _) rfl
 have hn:lL aQ3=ε:=rfl;have G:Far (fun k=>k=g) w2:=fun k D _=>by
  obtain rfl:k=g:=D;exact⟨_,_,hb,hn⟩
 have F:Ext w0 w':=by rw[l];exact fK (H:Own w0 g) 0 e.cells J
 have C:Blk w' g 42 (gI aQ3 0 e.cells):=by rw[l];exact dm 0 e.cells hb
 exact⟨F,C,fun v q n h=>h.mod B G,fun g' t c j h=>h.mod B j⟩
def jM{P:Program}{fn:Func}{R:Ending->World->Prop}{a:Act}{w:World}{t g:Nat}{F:TypeId}{cs:Array Value}{d:TypeDesc}(B:fn.results= #[.cell t F])(hd:a.defers=[])(hp:a.tmps[t]?.getD undef=.pointer (γ (aM g 0)))(hb:Blk w g F cs)(C:P.underlying F=γ d)(j:(match d with| .struct _| .array _ _=>ε|_=>ζ)=ε)(hi:(P.info? F).map (·.size)=γ cs.size)(l:R (.returned (.agg cs)) w):bodyPost P fn R .ret a w:=
 aak (results_cell_row B _ _ g F cs (0,0) _ (by simpa using hp) hb C j hi) hd l
def six{w:World}{g a:Nat}{e:En}(h:∀(t:Nat) (u:Value),e.cells[t]? =γ u->w.cell? (aM g (a+t))=γ u)(x:aX w):x.val.cell? (aM g a)=γ (.bool e.s1)/\x.val.cell? (aM g (a+1))=γ (aO e.A1 e.n1 e.c1)/\x.val.cell? (aM g (a+2))=γ (.bool e.s2)/\x.val.cell? (aM g (a+3))=γ (aO e.A2 e.n2 e.c2)/\x.val.cell? (aM g (a+4))=γ (.bool e.s3)/\x.val.cell? (aM g (a+5))=γ (aO e.A3 e.n3 e.c3):=
 have k:=fun t u j=>aX.cell (h t u j) x
 ⟨k 0 _ rfl,k 1 _ rfl,k 2 _ rfl,k 3 _ rfl,k 4 _ rfl,k 5 _ rfl⟩
def Ee{P:Program}{ops:Array Oper}{w0:World}{E:Nat->Bool}{Φ:Nat->Nat->Nat->Value->World->Prop}{Qt:Book->Act->Prop}{o:Oper}{l:List Oper}{k:Nat}{F:Book}{a:Act}{G:Value->World->Prop}{f:FuncId}{args:Array Value}{Q:En->Nat->Nat->Prop}(x:∀W,Kn ops w0 Φ k F W->Calls P f args W (fun e w'=>∃v,e=.returned v/\G v w'/\Ext W w'))(h:∀e lo hi,Q e lo hi)(t:(∀W,Kn ops w0 Φ k F W->Calls P f args W (fun e w'=>∃v,e=.returned v/\G v w'/\Ext W w'))->(∀e lo hi,Q e lo hi)->wpT P ops w0 E Φ Qt (o::l) k F a:=by
   intro x h;refine eF (by rfl) (by rfl) (by rfl) ?_ ?_
   .intro W I;have y:=x W I;clear x h I;go_simp;exact⟨rfl,y.mono fun e w' ⟨v,O,hv,J⟩=>⟨v,O,J,yo hv⟩⟩
   .intro v lo hi B;obtain⟨W,j⟩:=B;obtain⟨e,rfl,-⟩:=j.get;clear j W x;(try simp only[Act.put,aQ,BB,De]);exact h e lo hi):wpT P ops w0 E Φ Qt (o::l) k F a:=t x h
def tN{P:Program}{I:Nat}{Q:Exit->Act->World->Prop}{a:Act}{w:World}{l:List Oper}(n:Nat)(m:List (Nat×NF)){q:Prop}(h:q)(t:q->wpT P l.toArray w (Hf m) (NFs m) (fun F a'=>∀w',fT w (NFs m) F w'->wpList P l.toArray Q (l.drop n) a' w') (l.take n) 0 Book.none a:=by
   intro h;simp only[aaz,abh,ξ,τ];exact h)(j:P.follows .mixedOrders=ε:=by kernel_rfl)(B:Region.lexTailB .any l.toArray n=ε:=by kernel_rfl):(Code.region I l.toArray ε).wp P Q a w:=iX n (Hf m) (NFs m) (QB _) j B (t h)
def fT.hV{w W:World}{Φ:Nat->Nat->Nat->Value->World->Prop}{F:Book}(h:fT w Φ F W)(i:Nat){v:Value}{lo hi n:Nat}{q:GQ}(l:F i=γ (v,lo,hi):=by rfl)(j:Φ i lo hi v W=NF.holds (.gv q n) lo hi v W:=by rfl):Hid (GV W v q n):=aW (ae6 (j ▸ h.at_ i l))
def Sto.mod{g w w'}(h:Sto g w w'):Mod (fun k=>k=g) w w':=⟨h.os,h.tape,h.output,by rw[h.size];exact κ _,fun k _ j=>h.block k j⟩
def Sto.gv{g w w' v q n}(h:Sto g w w')(hv:GV w v q n):GV w' v q n:=by
 obtain⟨t,cs,hb,hn⟩:=h.far;exact hv.mod h.mod (fun k j _=>by
  obtain rfl:k=g:=j;exact⟨t,cs,hb,hn⟩)
def PdG (al:List Nat):Nat->Nat->Nat->Value->World->Prop:=fun i lo hi _ w=>al.contains i=ε->lo<hi/\Blk w lo 42 aQ3
def PoG (cs:Nat->En):Nat->Nat->Nat->Value->World->Prop:=fun i lo hi _ w=>lo<hi/\Blk w lo 42 #[.bool (cs i).s1,aO (cs i).A1 (cs i).n1 (cs i).c1,.bool (cs i).s2,aO (cs i).A2 (cs i).n2 (cs i).c2,.bool (cs i).s3,aO (cs i).A3 (cs i).n3 (cs i).c3]
def SG:List (Nat×Nat)->Nat->Option Nat
 |[],_=>Option.none
 |p::r,k=>if p.1=k then γ p.2 else SG r k
theorem FW:∀{l:List (Nat×Nat)} {k j:Nat},SG l k=γ j->(k,j)∈l
 |[],_,_,h=>by cases h
 |p::r,k,j,h=>by
  unfold SG at h;split at h
  .rename_i e
   cases h
   subst e;exact q8
  .exact nC _ (FW h)
def MK:List (Nat×NF)->Bool
 |[]=>ε
 |p::r=>(match p.2 with| .box _ _=>ζ|_=>ε)&&MK r
theorem Cj:∀{l:List (Nat×NF)},MK l=ε->∀i,(match BG l i with| .box _ _=>ζ|_=>ε)=ε
 |[],_,_=>rfl
 |p::r,h,i=>by
  unfold MK at h;rw[ρ] at h;unfold BG;cases Nat.beq p.1 i with
  |true=>exact h.1
  |false=>exact Cj h.2 i
def Xz (ops:Array Oper) (nf:List (Nat×NF)) (l:List (Nat×Nat)):Bool:=
 l.all fun p=>anc ops ops.size p.1 p.2&&l.all (fun q=>(p.1==q.1)|| !(p.2==q.2))&&l.all (fun q=> !(p.2==q.1))&& !(Hf nf p.1)
theorem Co:∀{l:List (Nat×NF)} {i:Nat},Hf l i=ζ->BG l i=.any
 |[],_,_=>rfl
 |p::r,i,h=>by
  unfold Hf at h;rw[Bool.or_eq_false_iff] at h;unfold BG;rw[h.1];exact Co h.2
theorem agf{ops w0}(nf l al cs)(F:MK nf=ε)(B:Xz ops nf l=ε):Late ops w0 (NFs nf) (PdG al) (PoG cs) (SG l):=by
 have Z:∀k j,SG l k=γ j->(anc ops ops.size k j=ε/\(∀q∈l,k=q.1\/j≠q.2))/\(∀q∈l,j≠q.1)/\Hf nf k=ζ:=fun k j hs=>by
  have:=qb.1 B _ (FW hs);simp only[ρ,qb,acm,beq_iff_eq,Bool.not_eq_true',beq_eq_false_iff_ne] at this;exact⟨⟨this.1.1.1,this.1.1.2⟩,this.1.2,this.2⟩
 refine⟨fun i lo hi v w w' h x=>afZ _ h x,fun i lo hi v g w w' _ h x=> ?_,fun i lo hi v w w' h x hc=>⟨(h hc).1,(h hc).2.ext x⟩,fun i lo hi v g w w' h x G hc=>⟨(h hc).1,x.blk (h hc).2 (show lo≠g by have:=(h hc).1;omega)⟩,fun i lo hi v w w' h x=>⟨h.1,h.2.ext x⟩,fun i lo hi v g w w' h x G=>⟨h.1,x.blk h.2 (show lo≠g by have:=h.1;omega)⟩,fun k j hs=>(Z k j hs).1.1,fun k J j hs C=> ?_,fun k j hs=> ?_,fun k j lo hi v w hs=> ?_⟩
 .have hb:=Cj F i;unfold NFs at h⊢;cases hn:BG nf i with
  |any=>trivial
  |gv q n=>rw[hn] at h;obtain⟨e,H,D⟩:=h;exact⟨e,H,x.gv D⟩
  |box t cs=>rw[hn] at hb;cases hb
  |eq u=>rw[hn] at h;exact h
  |pt=>rw[hn] at h;exact h
 .rcases(Z k j hs).1.2 _ (FW C) with e|e
  .exact e
  .exact absurd rfl e
 .cases I:SG l j with
  |none=>rfl
  |some m=>exact absurd rfl ((Z k j hs).2.1 _ (FW I))
 .unfold NFs;rw[Co (Z k j hs).2.2];trivial
def Cv(g):∀(B:List Value) (i:Nat) (w:World) (k:Nat),k≠g->(puts w g i B).heap[k]? =w.heap[k]?
 |[],_,_,_,_=>rfl
 |v::r,i,w,k,hne=>(Cv g r (i+1) (w.setCell ⟨g,i,δ⟩ v) k hne).trans (abZ w ⟨g,i,δ⟩ v k (fun e=>hne (by rw[e])))
def EM(g):∀(B:List Value) (i:Nat) (w:World),(puts w g i B).heap.size=w.heap.size
 |[],_,_=>rfl
 |v::r,i,w=>(EM g r (i+1) (w.setCell ⟨g,i,δ⟩ v)).trans Abc
theorem WT{ev:Operand->Value}{o:Oper}{x y:Operand}{g w}(e:En)(C:o.op=.store 42 x y)(J:ev x=.pointer (γ (aM g 0)))(R:ev y=e.v)(hb:Blk w g 42 aQ3):∃w',(execOp ev o).run prog w=.ok .skip w'/\Sto g w w'/\Blk w' g 42 #[e.s1,aO e.A1 e.n1 e.c1,e.s2,aO e.A2 e.n2 e.c2,e.s3,aO e.A3 e.n3 e.c3]:=by
 have D:=run_storeAt_mid (P:=prog) w g 0 42 e.cells.toArray (hb.there (o:=0) (n:=6) ag) cu (adK (eO e));have G:(Instr.storeAt 42 (.pointer (γ (aM g 0))) e.v).run prog w=.ok () (w.setCells g 0 e.cells):=D;refine⟨w.setCells g 0 e.cells,?_,?_,?_⟩
 .unfold execOp;simp only[C,J,R];simp only[aaD,aa7,G,aax]
 .rw[nP];have j:=gP w g 0 e.cells;have hn:lL aQ3=ε:=rfl;exact⟨j.os,j.tape,j.output,EM g _ _ _,fun i l=>Cv g _ _ _ i l,⟨_,_,hb,hn⟩⟩
 .rw[nP];have B:Blk (puts w g 0 e.cells) g 42 (gI aQ3 0 e.cells):=dm 0 e.cells hb;exact B
def RB{ev:Operand->Value}{o}{x y:Operand}{j lo hi v w cs}(B:o.op=.store 42 x y)(J:ev x=.pointer (γ (aM lo 0)))(R:ev y=(cs j).v)(l:lo<hi/\Blk w lo 42 aQ3):∃w',(execOp ev o).run prog w=.ok .skip w'/\Sto lo w w'/\PoG cs j lo hi v w':=by
 obtain⟨w',D,C,F⟩:=WT (cs j) B J R l.2;exact⟨w',D,C,l.1,F⟩
section
variable {W W':World} {G m n:Nat} {P:Nat->Prop} {R:Nat->Rw} {X:Nat->Nat->GQ}
def MxI.hd(h:MxI W G m n P R X){i}(hi:i<m)(hn:0<n):W.cell? (aM G i)=γ (.slice (γ (aM ((R i).b) 0)) n n):=by
 rw[h.o.cell,jf hi,h.v hi hn]
def MxI.rb(h:MxI W G m n P R X){i}(hi:i<m)(hn:0<n):(R i).b<W.heap.size:=by
 obtain⟨f,hb,_⟩:=(h.row i hi hn).2;exact hb.lt
def MxI.put(h:MxI W G m n P R X){i j}(hi:i<m)(D:j<n){e:En}{q}(O:GV W e.v q 12800):
  MxI (puts W (R i).b (j*6) e.cells) G m n P R (upd X i (upd (X i) j q))/\Mod (fun k=>k=(R i).b) W (puts W (R i).b (j*6) e.cells)/\Far (fun k=>k=(R i).b) W/\W.there (R i).b (j*6) 6:=by
 have hn:0<n:=aa;obtain⟨f,hb,J⟩:=(h.row i hi hn).2;have hp:=dN.put hb J D O;have B:=(h.row i hi hn).2.far;refine⟨h.U0 hp.2 B (fun e=> ?_) (fun k C l _ e=>l (h.inj k i C hi hn e)) (fun _=>hp.1),hp.2,B,hb.there (by simp[bN];omega)⟩;exact h.o.eY hb aj e
end
structure BrV where
 a:Nat
 b:Nat
 z0:En
 z1:En
 e:En
def BrV.z (b:BrV) (sq:Nat):En:=if sq=0 then b.z0 else b.z1
def BrV.cs (b:BrV):List Value:=[.int .i64 (b.a:Int),.int .i64 (b.b:Int),.bool b.z0.s1,.slice b.z0.A1 b.z0.n1 b.z0.c1,.bool b.z0.s2,.slice b.z0.A2 b.z0.n2 b.z0.c2,.bool b.z0.s3,.slice b.z0.A3 b.z0.n3 b.z0.c3,.bool b.z1.s1,.slice b.z1.A1 b.z1.n1 b.z1.c1,.bool b.z1.s2,.slice b.z1.A2 b.z1.n2 b.z1.c2,.bool b.z1.s3,.slice b.z1.A3 b.z1.n3 b.z1.c3,.bool b.e.s1,.slice b.e.A1 b.e.n1 b.e.c1,.bool b.e.s2,.slice b.e.A2 b.e.n2 b.e.c2,.bool b.e.s3,.slice b.e.A3 b.e.n3 b.e.c3]
theorem BrV.zat(b:BrV){sq}(h:sq<=1){t v}(hv:(b.z sq).cells[t]? =γ v):b.cs[2+sq*6+t]? =γ v:=by
 have j:t<6:=(μ.1 hv).1;have l:sq=0\/sq=1:=aa;rcases l with rfl|rfl
 .unfold BrV.z at hv;rw[ι rfl] at hv
  match t,j with
  |0,_=>exact hv
  |1,_=>exact hv
  |2,_=>exact hv
  |3,_=>exact hv
  |4,_=>exact hv
  |5,_=>exact hv
 .unfold BrV.z at hv;rw[θ aa] at hv
  match t,j with
  |0,_=>exact hv
  |1,_=>exact hv
  |2,_=>exact hv
  |3,_=>exact hv
  |4,_=>exact hv
  |5,_=>exact hv
structure StI (w W:World) (gf Ga Gb n:Nat) (Pa Pb:Nat->Prop) (Ra Rb:Nat->Rw) (X Y:Nat->Nat->GQ) (gy q1 q2:Nat) (ey:En) (y:GQ) (Ny:Nat) (em:GQ) (Ne:Nat) (rwf:Nat->Nat) (bv:BrV):Prop where
 a:MxI W Ga n n Pa Ra X
 b:MxI W Gb n 1 Pb Rb Y
 c:dh W gf
 y:GV W ey.v y Ny
 by_:Blk W gy 42 #[ey.s1,aO ey.A1 ey.n1 ey.c1,ey.s2,aO ey.A2 ey.n2 ey.c2,ey.s3,aO ey.A3 ey.n3 ey.c3]
 r1:fP W q1 222 18 (fun k=> .int .i64 (rwf k:Int))
 r2:Blk W q2 167 bv.cs.toArray
 em:GV W bv.e.v em Ne
 mod:Mod (fun k=>Pa k\/Pb k) w W
 hp:∀k,Pa k\/Pb k->k≠gf/\k≠Ga/\k≠Gb
 dj:∀k,Pa k->¬Pb k
 la:∀i,i<n->(Ra i).b<w.heap.size
 lb:∀i,i<n->(Rb i).b<w.heap.size
 lg:w.heap.size<=gy/\w.heap.size<=q1/\w.heap.size<=q2
section
variable {w W W':World} {gf Ga Gb n:Nat} {Pa Pb:Nat->Prop} {Ra Rb:Nat->Rw} {X Y:Nat->Nat->GQ} {gy q1 q2:Nat} {ey:En} {y:GQ} {Ny:Nat} {em:GQ} {Ne:Nat} {rwf:Nat->Nat} {b:BrV}
def StI.ext(h:StI w W gf Ga Gb n Pa Pb Ra Rb X Y gy q1 q2 ey y Ny em Ne rwf b)(x:Ext W W'):StI w W' gf Ga Gb n Pa Pb Ra Rb X Y gy q1 q2 ey y Ny em Ne rwf b:=
 ⟨h.a.ext x,h.b.ext x,h.c.ext x,h.y.ext x,h.by_.ext x,h.r1.ext x,h.r2.ext x,h.em.ext x,h.mod.trans (ae1 x),h.hp,h.dj,h.la,h.lb,h.lg⟩
def StI.UD(h:StI w W gf Ga Gb n Pa Pb Ra Rb X Y gy q1 q2 ey y Ny em Ne rwf b){i j}(hi:i<n)(H:j<n){e:En}{q}(O:GV W e.v q 12800):
  StI w (puts W (Ra i).b (j*6) e.cells) gf Ga Gb n Pa Pb Ra Rb (upd X i (upd (X i) j q)) Y gy q1 q2 ey y Ny em Ne rwf b/\W.there (Ra i).b (j*6) 6:=by
 obtain⟨J,l,G,I⟩:=h.a.put hi H O;have C:=h.a.mem i hi aa;have Z:=h.la i hi;have F:=h.lg;have B (k:Nat) (K:w.heap.size<=k):¬(fun k=>k=(Ra i).b) k:=fun e=>by have e:k=(Ra i).b:=e;omega
 have D:=h.hp _ (Or.inl C);refine⟨⟨J,h.b.mod l G (fun e=>D.2.2 e.symm) (fun j H _ e=>h.dj _ C (by have e:(Rb j).b=(Ra i).b:=e;rw[<-e];exact h.b.mem j H aa)),Blk.mod h.c l (fun e=>D.1 e.symm),h.y.mod l G,h.by_.mod l (B _ F.1),h.r1.mod l (B _ F.2.1),h.r2.mod l (B _ F.2.2),h.em.mod l G,h.mod.trans (l.mono (fun k e=>by rw[show k=(Ra i).b from e];exact Or.inl C)),h.hp,h.dj,h.la,h.lb,h.lg⟩,I⟩
def StI.XY(h:StI w W gf Ga Gb n Pa Pb Ra Rb X Y gy q1 q2 ey y Ny em Ne rwf b){i}(hi:i<n){e:En}{q}(O:GV W e.v q 12800):
  StI w (puts W (Rb i).b 0 e.cells) gf Ga Gb n Pa Pb Ra Rb X (upd Y i (upd (Y i) 0 q)) gy q1 q2 ey y Ny em Ne rwf b/\W.there (Rb i).b 0 6:=by
 obtain⟨I,l,G,H⟩:=h.b.put hi (show 0<1 by omega) O;rw[aaV] at I l H;have B:=h.b.mem i hi aa;have Z:=h.lb i hi;have F:=h.lg;have C (k:Nat) (K:w.heap.size<=k):¬(fun k=>k=(Rb i).b) k:=fun e=>by have e:k=(Rb i).b:=e;omega
 have D:=h.hp _ (Or.inr B);refine⟨⟨h.a.mod l G (fun e=>D.2.1 e.symm) (fun j J _ e=>h.dj _ (h.a.mem j J aa) (by have e:(Ra j).b=(Rb i).b:=e;rw[e];exact B)),I,Blk.mod h.c l (fun e=>D.1 e.symm),h.y.mod l G,h.by_.mod l (C _ F.1),h.r1.mod l (C _ F.2.1),h.r2.mod l (C _ F.2.2),h.em.mod l G,h.mod.trans (l.mono (fun k e=>by rw[show k=(Rb i).b from e];exact Or.inr B)),h.hp,h.dj,h.la,h.lb,h.lg⟩,H⟩
def MxI.en(h:MxI W Ga n n Pa Ra X){i j}(hi:i<n)(l:j<n):∃e:En,GV W e.v (X i j) 12800/\∀t u,e.cells[t]? =γ u->W.cell? (aM ((Ra i).b) (j*6+t))=γ u:=by
 obtain⟨f,hb,J⟩:=(h.row i hi aa).2;refine⟨f j,J j l,fun t u B=> ?_⟩;have C:t<6:=(μ.1 B).1;rw[hb.cell,Γ,dP C l];exact B
def MxI.en1(h:MxI W Gb n 1 Pb Rb Y){i}(hi:i<n):∃e:En,GV W e.v (Y i 0) 12800/\∀t u,e.cells[t]? =γ u->W.cell? (aM ((Rb i).b) t)=γ u:=by
 obtain⟨f,hb,J⟩:=(h.row i hi aa).2;refine⟨f 0,J 0 aa,fun t u j=> ?_⟩;have l:t<6:=(μ.1 j).1;have:=dP (f:=f) l (show 0<1 by omega);exact Abr
end
theorem Wu{n}(X){i k}(y):∀p q,p<n->q<n->upd X i (upd (X i) i (X i i+y)) p q=stm X ⟨i,k,ε,y⟩ p q:=by
 intro p q _ _;show _=X p q+jX i i y p q;unfold jX;by_cases hp:p=i
 .subst hp;rw[upd_same];by_cases hq:q=p
  .subst hq;rw[upd_same,ι ⟨rfl,rfl⟩]
  .rw[upd_ne hq,θ (fun e=>hq e.2),GQ.add_zero']
 .rw[upd_ne hp,θ (fun e=>hp e.1),GQ.add_zero']
theorem UK{n}(X){i j}(l:i≠j)(y):∀p q,p<n->q<n->
  (fun X=>upd X j (upd (X j) i (X j i-y))) ((fun X=>upd X i (upd (X i) j (X i j-y))) ((fun X=>upd X j (upd (X j) j (X j j+y))) (upd X i (upd (X i) i (X i i+y))))) p q=stm X ⟨i,j,ζ,y⟩ p q:=by
 intro p q _ _;show _=X p q+jX i i y p q+jX j j y p q+jX i j (-y) p q+jX j i (-y) p q;unfold jX upd;by_cases p1:p=i<;>by_cases p2:p=j<;>by_cases r1:q=i<;>by_cases r2:q=j<;>simp only[p1,p2,r1,r2,l,abu l,aag,ab0,and_self,ac4,true_and,and_false,false_and]
 (all_goals (try omega));all_goals (ext<;>simp only[GQ.cO,GQ.bY,GQ.dU,GQ.dV,GQ.lI,GQ.lM,GQ.dM,GQ.dJ]<;>grind)
def UQ(gx gf Ga Gb n sq S Ny Nz Nb Ne:Nat)(Pa Pb:Nat->Prop)(Ra Rb:Nat->Rw)(X Y:Nat->Nat->GQ)(rwf:Nat->Nat)(b:BrV)(z em:GQ)(w:World)(hc:dh w gf)(ha:MxI w Ga n n Pa Ra X)(hb:MxI w Gb n 1 Pb Rb Y)(hP:∀k,Pa k\/Pb k->k≠gf/\k≠Ga/\k≠Gb)(hd:∀k,Pa k->¬Pb k)(Zt:sq<=1)(hz:GV w (b.z sq).v z Nz)(YJ:z≠GQ.i 0 0)(O:GV w b.e.v em Ne)(YB:b.a<17)(YH:rwf b.a<n)(YE:b.b=17\/b.b<17/\rwf b.b<n/\rwf b.a≠rwf b.b)(by_:Bd (GQ.i 1 0/z) Ny)(bx:∀i j,i<n->j<n->Bd (X i j) S)(bb:∀i,i<n->Bd (Y i 0) Nb)(n1:64+Nz+1<=12800)(n2:Nz+Nz+1<=12800)(n3:2*max S Ny+65<=12800)(n4:2*max Ny Ne+1<=12800)(n5:2*max Nb (Ny+Ne+1)+65<=12800):
  Calls prog 158 #[aN gx 0,aN gf 0,aO (γ (aM Ga 0)) n n,aO (γ (aM Gb 0)) n n,.agg (ofC 18 (fun k=> .int .i64 (rwf k:Int))),.agg #[(b.a:Int),(b.b:Int),b.z0.s1,aO b.z0.A1 b.z0.n1 b.z0.c1,b.z0.s2,aO b.z0.A2 b.z0.n2 b.z0.c2,b.z0.s3,aO b.z0.A3 b.z0.n3 b.z0.c3,b.z1.s1,aO b.z1.A1 b.z1.n1 b.z1.c1,b.z1.s2,aO b.z1.A2 b.z1.n2 b.z1.c2,b.z1.s3,aO b.z1.A3 b.z1.n3 b.z1.c3,b.e.s1,aO b.e.A1 b.e.n1 b.e.c1,b.e.s2,aO b.e.A2 b.e.n2 b.e.c2,b.e.s3,aO b.e.A3 b.e.n3 b.e.c3],(sq:Int)] w fun e w'=>e=.returned (.tuple #[])/\
   MxI w' Ga n n Pa Ra (stm X ⟨rwf b.a,rwf b.b,decide (b.b=17),GQ.i 1 0/z⟩)/\MxI w' Gb n 1 Pb Rb (fun i j=>if b.b=17/\i=rwf b.a then Y i j+GQ.i 1 0/z*em else Y i j)/\Mod (fun k=>Pa k\/Pb k) w w':=by
 have YF:0<n:=aa;have x2:Ext w (aL (w.alloc (.cells (ofC 18 (fun k=> .int .i64 (rwf k:Int))) 222)) #[b.a,b.b,b.z0.s1,aO b.z0.A1 b.z0.n1 b.z0.c1,b.z0.s2,aO b.z0.A2 b.z0.n2 b.z0.c2,b.z0.s3,aO b.z0.A3 b.z0.n3 b.z0.c3,b.z1.s1,aO b.z1.A1 b.z1.n1 b.z1.c1,b.z1.s2,aO b.z1.A2 b.z1.n2 b.z1.c2,b.z1.s3,aO b.z1.A3 b.z1.n3 b.z1.c3,b.e.s1,aO b.e.A1 b.e.n1 b.e.c1,b.e.s2,aO b.e.A2 b.e.n2 b.e.c2,b.e.s3,aO b.e.A3 b.e.n3 b.e.c3] 167):=(Ext.new _ _).alloc _;have b1:fP (aL (w.alloc (.cells (ofC 18 (fun k=> .int .i64 (rwf k:Int))) 222)) #[b.a,b.b,b.z0.s1,aO b.z0.A1 b.z0.n1 b.z0.c1,b.z0.s2,aO b.z0.A2 b.z0.n2 b.z0.c2,b.z0.s3,aO b.z0.A3 b.z0.n3 b.z0.c3,b.z1.s1,aO b.z1.A1 b.z1.n1 b.z1.c1,b.z1.s2,aO b.z1.A2 b.z1.n2 b.z1.c2,b.z1.s3,aO b.z1.A3 b.z1.n3 b.z1.c3,b.e.s1,aO b.e.A1 b.e.n1 b.e.c1,b.e.s2,aO b.e.A2 b.e.n2 b.e.c2,b.e.s3,aO b.e.A3 b.e.n3 b.e.c3] 167) w.heap.size 222 18 (fun k=> .int .i64 (rwf k:Int)):=(Blk.new _ _ _).alloc _;have b2:Blk (aL (w.alloc (.cells (ofC 18 (fun k=> .int .i64 (rwf k:Int))) 222)) #[b.a,b.b,b.z0.s1,aO b.z0.A1 b.z0.n1 b.z0.c1,b.z0.s2,aO b.z0.A2 b.z0.n2 b.z0.c2,b.z0.s3,aO b.z0.A3 b.z0.n3 b.z0.c3,b.z1.s1,aO b.z1.A1 b.z1.n1 b.z1.c1,b.z1.s2,aO b.z1.A2 b.z1.n2 b.z1.c2,b.z1.s3,aO b.z1.A3 b.z1.n3 b.z1.c3,b.e.s1,aO b.e.A1 b.e.n1 b.e.c1,b.e.s2,aO b.e.A2 b.e.n2 b.e.c2,b.e.s3,aO b.e.A3 b.e.n3 b.e.c3] 167) (w.heap.size+1) 167 b.cs.toArray:=aeW _ _ ag;have HX:=aW x2;have Yy:=aW b1;have YI:=aW b2;have HA:=aW (ha.ext x2);have HB:=aW (hb.ext x2);have HC:=aW (hc.ext x2);have K:=aW (hz.ext x2);have Yq:=aW (O.ext x2);have Za:Hid (∀k,Pa k\/Pb k->k≠gf/\k≠Ga/\k≠Gb):=aW hP;have HD:=aW hd;have YM:=aW YJ;have YD:=aW by_;have YC:=aW bx;have YU:=aW bb;have Yr:=aW YE;have ZN:=aW Zt;have Zo:Hid (∀i,i<n->(Ra i).b<w.heap.size):=aW fun i hi=>ha.rb hi YF;have YV:Hid (∀i,i<n->(Rb i).b<w.heap.size):=aW fun i hi=>hb.rb hi aa;clear x2 b1 b2 ha hb hc hz O hP hd YJ by_ bx bb YE;go_enter func158,ntmps158;go_wp2_with fail;have Zg:Hid (∀t v,(b.z sq).cells[t]? =γ v->((w.alloc (.cells (ofC 18 (fun k=> .int .i64 (rwf k:Int))) 222)).alloc (.cells #[b.a,b.b,b.z0.s1,aO b.z0.A1 b.z0.n1 b.z0.c1,b.z0.s2,aO b.z0.A2 b.z0.n2 b.z0.c2,b.z0.s3,aO b.z0.A3 b.z0.n3 b.z0.c3,b.z1.s1,aO b.z1.A1 b.z1.n1 b.z1.c1,b.z1.s2,aO b.z1.A2 b.z1.n2 b.z1.c2,b.z1.s3,aO b.z1.A3 b.z1.n3 b.z1.c3,b.e.s1,aO b.e.A1 b.e.n1 b.e.c1,b.e.s2,aO b.e.A2 b.e.n2 b.e.c2,b.e.s3,aO b.e.A3 b.e.n3 b.e.c3] 167)).cell? (aM (w.heap.size+1) (2+sq*6+t))=γ v):=aW fun t v hv=>(YI.cell _).trans (by
  have:=b.zat ZN.o hv;simpa using this)
 generalize aU _ _=w5 at HX Yy YI HA HB HC K Yq Zg⊢;generalize Zj:w.heap.size+1=q2 at YI Zg⊢;generalize T:w.heap.size=q1 at Yy⊢;have YK:Hid (w.heap.size<=q1/\w.heap.size<=q2):=aW ⟨aa,aa⟩;clear T Zj;generalize b.z sq=zE at K Zg;have Yz:w.heap.size<=w5.heap.size:=HX.size;have E6:=six Zg.o;refine tN 9 [(2,.gv (GQ.i 1 0) (64)),(7,.gv ((GQ.i 1 0)/z) (Ny)),(8,.box 42 aQ3)] ?_;refine Qs ?_;refine Ee (fun R I=>dO gf 1 _ (HC.ext I.1) aa aa) ?_;intro YT af ac;refine Qs ?_;refine Ee (fun R I=>nS gf YT.v zE.v (GQ.i 1 0) z (64) (Nz) _ (HC.ext I.1) (ae6 (I.f 2 (YT.v,af,ac))) (K.ext I.1) YM.o (Ny) aa aa YD.o aa) ?_;intro J ao am;refine Eb ?_;intro Zh Zw YY;refine bP ?_;intro w6 I;have F:=I.ext;have P:=I.hV 2;have L:=I.hV 7;have Z:=I.hB 8;have Zf:=aW (I.lw 8);clear I YY E6;have N:=aW (Z.there (o:=0) (n:=6) ag);refine bF rfl 42 (.tmp 14) (.tmp 24) rfl Zh 0 J.cells rf rf N.o cu (eO J) ?_;intro w7 l;refine Qp ?_;obtain⟨F,Yu,M,YQ⟩:=oK J F Zf.o Z.o l;clear l N;replace P:=aW (M _ _ _ P.o);replace L:=aW (M _ _ _ L.o);replace Z:=aW Yu;clear Yu M YQ;replace HA:=HA.aA F;replace HB:=HB.aA F;replace HC:=HC.aA F;replace Yy:=Yy.aA F;replace YI:=YI.aA F;replace Yq:=Yq.aA F;replace K:=K.aA F;replace HX:=HX.aC F;clear F;have YL:Hid (w.heap.size<=w5.heap.size):=aW Yz;clear Yz;have Yw:Hid (StI w w7 gf Ga Gb n Pa Pb Ra Rb (X) (Y) Zh q1 q2 J (GQ.i 1 0/z) Ny em Ne rwf b):=aW ⟨HA.o,HB.o,HC.o,L.o,Z.o,Yy.o,YI.o,Yq.o,ae1 HX.o,Za.o,HD.o,Zo.o,YV.o,Ξ YL.o Zf.o,YK.o⟩;clear HA HB HC Yy YI Yq Za HD Zo YV YK L Z K P Zg Zf YL HX;have kq:w7.cell? (aM q2 0)=γ (.int .i64 (b.a:Int)):=(Blk.cell Yw.r2 0).trans rfl;have kr:=Yw.r1.cell (k:=b.a) aa;go_wp2_with fail;clear kq kr;obtain⟨eA,M,G⟩:=Yw.a.en YH YH;have D:=M.to (show Bd (X (rwf b.a) (rwf b.a)) S by exact YC.o _ _ YH YH);have Zd:=aW D;clear D M;have K6:=six G;have KH:=aX.cell (Yw.a.hd YH YF);have KY:=aX.blk Yw.by_;clear G;refine tN 16 [(14,.gv (X (rwf b.a) (rwf b.a)+GQ.i 1 0/z) (S+Ny+65))] ?_;refine Qs ?_;refine Ee (fun R I=>nQ gf eA.v J.v (X (rwf b.a) (rwf b.a)) (GQ.i 1 0/z) S Ny _ (Yw.c.ext I.1) (Zd.ext I.1) (Yw.y.ext I.1) aa) ?_;intro eN Q YP;refine Qs ?_;refine bP ?_;intro w8 I;have F:=I.ext;have H:=aW (ae6 (I.at_ 14 (e:=(eN.v,Q,YP)) rf));have C:=(Yw.ext F).UD YH YH (H.up (show S+Ny+65<=12800 by omega));clear I F K6 KH KY Zd H;have N:=aW C.2;replace Yw:=aW C.1;clear C;refine bF rfl 42 (.tmp 44) (.tmp 43) rfl (Ra ((rwf b.a))).b (((rwf b.a))*6) eN.cells rf rf N.o cu (eO eN) ?_;intro w9 l;refine Qp ?_;obtain⟨X1,U,V⟩:∃x,x=(upd X (rwf b.a) (upd (X (rwf b.a)) (rwf b.a) (X (rwf b.a) (rwf b.a)+GQ.i 1 0/z)))/\StI w w9 gf Ga Gb n Pa Pb Ra Rb x (Y) Zh q1 q2 J (GQ.i 1 0/z) Ny em Ne rwf b:=⟨_,rfl,by rw[l];exact Yw.o⟩;have YG:=aW U;replace Yw:=aW V;clear l N U V;rcases Yr.o with B|⟨Yp,hr,Yt⟩
 .have YN:((b.b:Int)==17)=ε:=by simp[B]
  have HH:=aW B;clear B;have kq:w9.cell? (aM q2 1)=γ (.int .i64 (b.b:Int)):=(Blk.cell Yw.r2 1).trans rfl;go_wp2_with fail;clear kq YN;obtain⟨eA,M,G⟩:=Yw.b.en1 YH;have D:=M.to (YU.o _ YH);have Zd:=aW D;clear D M;have K0:=aX.cell (G 0 _ rfl);have K1:=aX.cell (G 1 _ rfl);have K2:=aX.cell (G 2 _ rfl);have K3:=aX.cell (G 3 _ rfl);have K4:=aX.cell (G 4 _ rfl);have K5:=aX.cell (G 5 _ rfl);have KH:=aX.cell (Yw.b.hd YH aa);have KY:=aX.blk Yw.by_;clear G;have Yv:∀t v,b.e.cells[t]? =γ v->w9.cell? (aM q2 (14+t))=γ v:=fun t v hv=>(Blk.cell Yw.r2 (14+t)).trans (by have ht:t<6:=(μ.1 hv).1;match t,ht with|0,_=>exact hv|1,_=>exact hv|2,_=>exact hv|3,_=>exact hv|4,_=>exact hv|5,_=>exact hv);have J6:=six Yv;clear Yv;refine tN 18 [(15,.gv (GQ.i 1 0/z*em) (Ny+Ne+1)),(16,.gv (Y (rwf b.a) 0+GQ.i 1 0/z*em) (Nb+(Ny+Ne+1)+65))] ?_;refine Qs ?_;refine Ee (fun R I=>uX gf J.v b.e.v (GQ.i 1 0/z) em Ny Ne _ (Yw.c.ext I.1) (Yw.y.ext I.1) (Yw.em.ext I.1) aa) ?_;intro eM Q YP;refine Ee (fun R I=>nQ gf eA.v eM.v (Y (rwf b.a) 0) (GQ.i 1 0/z*em) Nb (Ny+Ne+1) _ (Yw.c.ext I.1) (Zd.ext I.1) (ae6 (I.f 15 (eM.v,Q,YP))) aa) ?_;intro eN YO YR;refine Qs ?_;refine bP ?_;intro ZH I;have F:=I.ext;have H:=aW (ae6 (I.at_ 16 (e:=(eN.v,YO,YR)) rf));have C:=(Yw.ext F).XY YH (H.up (show Nb+(Ny+Ne+1)+65<=12800 by omega));clear I F K0 K1 K2 K3 K4 K5 J6 KH KY Zd H;have N:=aW C.2;replace Yw:=aW C.1;clear C;refine bF rfl 42 (.tmp 65) (.tmp 64) rfl (Rb (rwf b.a)).b 0 eN.cells rf rf N.o cu (eO eN) ?_;intro Zr l;refine Qp ?_;replace Yw:=aW (show StI w Zr gf Ga Gb n Pa Pb Ra Rb X1 (upd Y (rwf b.a) (upd (Y (rwf b.a)) 0 (Y (rwf b.a) 0+GQ.i 1 0/z*em))) Zh q1 q2 J (GQ.i 1 0/z) Ny em Ne rwf b from by rw[l];exact Yw.o);clear l N;go_wp2_with fail;refine aak (v:=.tuple #[]) (aat rfl _ _ _) rfl ⟨rfl,?_,?_,Yw.mod⟩
  .rw[show decide (b.b=17)=ε from Δ HH.o];exact Yw.a.congr (fun i j hi hj=>by rw[YG.o];exact Wu (n:=n) X _ i j hi hj)
  .refine Yw.b.congr (fun i j hi hj=> ?_);obtain rfl:j=0:=aa;by_cases YA:i=rwf b.a
   .subst YA;rw[upd_same,upd_same,ι ⟨HH.o,rfl⟩]
   .rw[upd_ne YA,θ (fun e=>YA e.2)]
 .have YN:((b.b:Int)==17)=ζ:=ae;have YZ:=aW Yp;clear Yp;have kq:w9.cell? (aM q2 1)=γ (.int .i64 (b.b:Int)):=(Blk.cell Yw.r2 1).trans rfl;have kr:=Yw.r1.cell (k:=b.b) (ο YZ.o aa);have ad:b.b<18:=ο YZ.o aa;go_wp2_with fail;clear kq YN kr ad;have YS:=aW Yt;clear Yt;obtain⟨eA,M,G⟩:=Yw.a.en hr hr;have D:=M.to (show Bd (X1 (rwf b.b) (rwf b.b)) S by rw[YG.o,upd_ne (YS.o.symm)];exact YC.o _ _ hr hr);have Zd:=aW D;clear D M;have K6:=six G;have KH:=aX.cell (Yw.a.hd hr YF);have KY:=aX.blk Yw.by_;clear G;refine tN 16 [(14,.gv (X1 (rwf b.b) (rwf b.b)+GQ.i 1 0/z) (S+Ny+65))] ?_;refine Qs ?_;refine Ee (fun R I=>nQ gf eA.v J.v (X1 (rwf b.b) (rwf b.b)) (GQ.i 1 0/z) S Ny _ (Yw.c.ext I.1) (Zd.ext I.1) (Yw.y.ext I.1) aa) ?_;intro eN Q YP;refine Qs ?_;refine bP ?_;intro ZH I;have F:=I.ext;have H:=aW (ae6 (I.at_ 14 (e:=(eN.v,Q,YP)) rf));have C:=(Yw.ext F).UD hr hr (H.up (show S+Ny+65<=12800 by omega));clear I F K6 KH KY Zd H;have N:=aW C.2;replace Yw:=aW C.1;clear C;refine bF rfl 42 (.tmp 85) (.tmp 84) rfl (Ra ((rwf b.b))).b (((rwf b.b))*6) eN.cells rf rf N.o cu (eO eN) ?_;intro Zr l;refine Qp ?_;obtain⟨X2,U,V⟩:∃x,x=(upd X1 (rwf b.b) (upd (X1 (rwf b.b)) (rwf b.b) (X1 (rwf b.b) (rwf b.b)+GQ.i 1 0/z)))/\StI w Zr gf Ga Gb n Pa Pb Ra Rb x (Y) Zh q1 q2 J (GQ.i 1 0/z) Ny em Ne rwf b:=⟨_,rfl,by rw[l];exact Yw.o⟩;have W:=aW U;replace Yw:=aW V;clear l N U V;go_wp2_with fail;obtain⟨eA,M,G⟩:=Yw.a.en YH hr;have D:=M.to (show Bd (X2 (rwf b.a) (rwf b.b)) S by rw[W.o,upd_ne YS.o,YG.o,upd_same,upd_ne (YS.o.symm)];exact YC.o _ _ YH hr);have Zd:=aW D;clear D M;have K6:=six G;have KH:=aX.cell (Yw.a.hd YH YF);have KY:=aX.blk Yw.by_;clear G;refine tN 16 [(14,.gv (X2 (rwf b.a) (rwf b.b)-GQ.i 1 0/z) (S+Ny+65))] ?_;refine Qs ?_;refine Ee (fun R I=>uR gf eA.v J.v (X2 (rwf b.a) (rwf b.b)) (GQ.i 1 0/z) S Ny _ (Yw.c.ext I.1) (Zd.ext I.1) (Yw.y.ext I.1) aa) ?_;intro eN Q YP;refine Qs ?_;refine bP ?_;intro aq I;have F:=I.ext;have H:=aW (ae6 (I.at_ 14 (e:=(eN.v,Q,YP)) rf));have C:=(Yw.ext F).UD YH hr (H.up (show S+Ny+65<=12800 by omega));clear I F K6 KH KY Zd H;have N:=aW C.2;replace Yw:=aW C.1;clear C;refine bF rfl 42 (.tmp 101) (.tmp 100) rfl (Ra ((rwf b.a))).b (((rwf b.b))*6) eN.cells rf rf N.o cu (eO eN) ?_;intro ZJ l;refine Qp ?_;obtain⟨X3,U,V⟩:∃x,x=(upd X2 (rwf b.a) (upd (X2 (rwf b.a)) (rwf b.b) (X2 (rwf b.a) (rwf b.b)-GQ.i 1 0/z)))/\StI w ZJ gf Ga Gb n Pa Pb Ra Rb x (Y) Zh q1 q2 J (GQ.i 1 0/z) Ny em Ne rwf b:=⟨_,rfl,by rw[l];exact Yw.o⟩;have Yx:=aW U;replace Yw:=aW V;clear l N U V;go_wp2_with fail;obtain⟨eA,M,G⟩:=Yw.a.en hr YH;have D:=M.to (show Bd (X3 (rwf b.b) (rwf b.a)) S by rw[Yx.o,upd_ne (YS.o.symm),W.o,upd_same,upd_ne YS.o,YG.o,upd_ne (YS.o.symm)];exact YC.o _ _ hr YH);have Zd:=aW D;clear D M;have K6:=six G;have KH:=aX.cell (Yw.a.hd hr YF);have KY:=aX.blk Yw.by_;clear G;refine tN 16 [(14,.gv (X3 (rwf b.b) (rwf b.a)-GQ.i 1 0/z) (S+Ny+65))] ?_;refine Qs ?_;refine Ee (fun R I=>uR gf eA.v J.v (X3 (rwf b.b) (rwf b.a)) (GQ.i 1 0/z) S Ny _ (Yw.c.ext I.1) (Zd.ext I.1) (Yw.y.ext I.1) aa) ?_;intro eN Q YP;refine Qs ?_;refine bP ?_;intro ap I;have F:=I.ext;have H:=aW (ae6 (I.at_ 14 (e:=(eN.v,Q,YP)) rf));have C:=(Yw.ext F).UD hr YH (H.up (show S+Ny+65<=12800 by omega));clear I F K6 KH KY Zd H;have N:=aW C.2;replace Yw:=aW C.1;clear C;refine bF rfl 42 (.tmp 117) (.tmp 116) rfl (Ra ((rwf b.b))).b (((rwf b.a))*6) eN.cells rf rf N.o cu (eO eN) ?_;intro ai l;refine Qp ?_;replace Yw:Hid (StI w ai gf Ga Gb n Pa Pb Ra Rb (upd X3 (rwf b.b) (upd (X3 (rwf b.b)) (rwf b.a) (X3 (rwf b.b) (rwf b.a)-GQ.i 1 0/z))) (Y) Zh q1 q2 J (GQ.i 1 0/z) Ny em Ne rwf b):=aW (by rw[l];exact Yw.o);clear l N;go_wp2_with fail;refine aaY (aat rfl _ _ _) rfl ⟨rfl,?_,?_,Yw.mod⟩
  .rw[show decide (b.b=17)=ζ from π (by have:=YZ.o;omega)];exact Yw.a.congr (fun i j hi hj=>by rw[Yx.o,W.o,YG.o];exact UK (n:=n) X YS.o _ i j hi hj)
  .refine Yw.b.congr (fun i j hi hj=> ?_);rw[θ (fun e=>by have:=YZ.o;omega)]
def Sc{a b}(h:a<=b):2^a<=2^b:=Ab aa h
def dlt (i k:Nat):GQ:=if i=k then GQ.i 1 0 else GQ.i 0 0
theorem IY(D H y i j):jX D H y i j=y*(dlt i D*dlt j H):=by
 unfold jX dlt;by_cases h:i=D<;>by_cases l:j=H
 .rw[ι ⟨h,l⟩,ι h,ι l];ext<;>simp only[GQ.bL,GQ.bK,GQ.dM,GQ.dJ]<;>grind
 .rw[θ (fun e=>l e.2),θ l,GQ.bQ,GQ.bQ]
 .rw[θ (fun e=>h e.1),θ h,GQ.fC,GQ.bQ]
 .rw[θ (fun e=>h e.1),θ h,GQ.fC,GQ.bQ]
def Br.al (b:Br) (i:Nat):GQ:=dlt i b.p-(if b.nt then GQ.i 0 0 else dlt i b.q)
theorem Nk(X)(b:Br)(i j):stm X b i j=X i j+b.y*(b.al i*b.al j):=by
 unfold stm Br.al;cases hb:b.nt
 .simp only[RS,ab0,IY];generalize dlt i b.p=c1;generalize dlt i b.q=c2;generalize dlt j b.p=c3;generalize dlt j b.q=c4;ext<;>simp only[GQ.cO,GQ.bY,GQ.bL,GQ.bK,GQ.lI,GQ.lM,GQ.dU,GQ.dV]<;>grind
 .simp only[aag,IY];generalize dlt i b.p=c1;generalize dlt j b.p=c3;ext<;>simp only[GQ.cO,GQ.bY,GQ.bL,GQ.bK,GQ.dU,GQ.dV,GQ.dM,GQ.dJ]<;>grind
def Jj:∀(bs:List Br) (X:Nat->Nat->GQ) (i j:Nat),fq X bs i j=X i j+iM (fun b=>b.y*(b.al i*b.al j)) bs
 |[],X,i,j=>(GQ.add_zero' _).symm
 |b::bs,X,i,j=>by
  show fq (stm X b) bs i j=X i j+(iM (fun b=>b.y*(b.al i*b.al j)) bs+b.y*(b.al i*b.al j));rw[Jj bs (stm X b) i j,Nk];generalize iM _ bs=t;generalize b.y*(b.al i*b.al j)=u;generalize X i j=v;ext<;>simp only[GQ.cO,GQ.bY]<;>grind
def IV(r0):∀(bs:List Bu) (i c:Nat),pg r0 bs i c=r0 i c+iM (fun b=>b.y*(b.al i*b.u c)) bs
 |[],i,c=>(GQ.add_zero' _).symm
 |b::bs,i,c=>by
  show pg r0 bs i c+b.y*(b.al i*b.u c)=r0 i c+(iM (fun b=>b.y*(b.al i*b.u c)) bs+b.y*(b.al i*b.u c));rw[IV r0 bs i c];generalize iM _ bs=t;generalize b.y*(b.al i*b.u c)=u;generalize r0 i c=v;ext<;>simp only[GQ.cO,GQ.bY]<;>grind
def rhs (rw_:Nat->Nat) (us:List Nb) (f:Nat) (al be:Nat->GQ):Nat->Nat->GQ:=fun i j=>al j*feed rw_ us i+be j*unit f i
def afu (n:Nat) (rw_:Nat->Nat) (al:Nat->GQ) (b:Nb):Bu:=⟨b.y,(b.br rw_).al,fun c=>if c<n then (b.br rw_).al c else if b.b=17 then al (c-n)*b.e else GQ.i 0 0⟩
def r0u (n f:Nat) (be:Nat->GQ):Nat->Nat->GQ:=fun i c=>if c<n then GQ.i 0 0 else be (c-n)*unit f i
theorem OH{n f rw_ al be}(us i):side n (fq zmx (us.map (Nb.br rw_))) (rhs rw_ us f al be) i=pg (r0u n f be) (us.map (afu n rw_ al)) i:=by
 funext c;rw[IV,qA];unfold side r0u;by_cases hc:c<n
 .rw[ι hc,ι hc,Jj,qA];show zmx i c+_=_;congr 1;refine nE us fun b hb=> ?_;show _=b.y*((b.br rw_).al i*(if c<n then (b.br rw_).al c else _));rw[ι hc];rfl
 .rw[θ hc,θ hc];unfold rhs feed;rw[<-Db];have e:iM (fun b=>al (c-n)*if b.b=17/\i=rw_ b.a then b.y*b.e else GQ.i 0 0) us=iM (fun a=>(afu n rw_ al a).y*((afu n rw_ al a).al i*(afu n rw_ al a).u c)) us:=by
   refine nE us fun b hb=> ?_;show _=b.y*((b.br rw_).al i*(if c<n then (b.br rw_).al c else if b.b=17 then al (c-n)*b.e else GQ.i 0 0));rw[θ hc];by_cases B:b.b=17
   .have l:(if b.b=17/\i=rw_ b.a then b.y*b.e else GQ.i 0 0)=if i=rw_ b.a then b.y*b.e else GQ.i 0 0:=by
     by_cases hi:i=rw_ b.a
     .rw[ι ⟨B,hi⟩,ι hi]
     .rw[θ (fun e=>hi e.2),θ hi]
    have j:(b.br rw_).al i=dlt i (rw_ b.a):=by
     unfold Br.al;show dlt i (rw_ b.a)-(if decide (b.b=17)=ε then GQ.i 0 0 else dlt i (rw_ b.b))=_;rw[ι (show decide (b.b=17)=ε by simp[B])];generalize dlt i (rw_ b.a)=z;ext<;>simp only[GQ.dU,GQ.dV,GQ.dM,GQ.dJ]<;>grind
    rw[l,j,ι (show b.b=17 from B)];unfold dlt;by_cases hi:i=rw_ b.a
    .rw[ι hi,ι hi];ext<;>simp only[GQ.bL,GQ.bK,GQ.dM,GQ.dJ]<;>grind
    .rw[θ hi,θ hi];ext<;>simp only[GQ.bL,GQ.bK,GQ.dM,GQ.dJ]<;>grind
   .rw[θ B,θ (fun e=>B e.1),GQ.bQ,GQ.bQ,GQ.bQ]
  rw[e];generalize iM _ us=t;generalize be (c-n)*unit f i=u;ext<;>simp only[GQ.cO,GQ.bY]<;>grind
structure TF (b:Nb):Prop where
 z:∃(zn:GQ) (zd:Nat),zn≠GQ.i 0 0/\Wh zn 32000/\b.y*zn=GQ.i zd 0/\zd<=16
 e:Wh b.e 1000000
theorem Bg(b:Br)(i):Wh (b.al i) 1:=by
 have j (i k:Nat):dlt i k=GQ.i 1 0\/dlt i k=GQ.i 0 0:=by
  unfold dlt;split
  .exact Or.inl rfl
  .exact Or.inr rfl
 have B:(if b.nt then GQ.i 0 0 else dlt i b.q)=GQ.i 1 0\/(if b.nt then GQ.i 0 0 else dlt i b.q)=GQ.i 0 0:=by
  split
  .exact Or.inr rfl
  .exact j _ _
 unfold Br.al;rcases j i b.p with e|e<;>rcases B with l|l<;>rw[e,l]
 .exact AbG
 .exact⟨1,0,by ext<;>simp only[GQ.dU,GQ.dV,GQ.dM,GQ.dJ]<;>grind,aj⟩
 .exact⟨-1,0,by ext<;>simp only[GQ.dU,GQ.dV,GQ.dM,GQ.dJ]<;>grind,aj⟩
 .exact AbG
theorem TA(f i):Wh (unit f i) 1:=by
 unfold unit;split
 .exact vV
 .exact iC _
def BD:Nat:=2^420
def VF{m}(B:m<=17):∀(bs:List Bu),cz (fun _=>32000) 16 m 1000000 bs<=2^(15*bs.length)*(2^49*2^20)
 |[]=>by
  show fct m*1000000<=2^(15*0)*_;have l:fct m<=fct 17:=Jd B;have j:fct 17<=2^49:=aj;have:=aaa (Ξ l j) (show 1000000<=2^20 by decide);simpa using this
 |b::bs=>by
  show(32000+m*16)*cz _ 16 m 1000000 bs<=_;have l:32000+m*16<=2^15:=aa;have j:=aaa l (VF B bs);rw[nV,show 15*(bs.length+1)=15+15*bs.length by omega,aap,φ];exact j
def sF.mono{Z0 m W B C Q}(h:sF Z0 m W Q B)(l:B<=C):sF Z0 m W Q C:=
 ⟨h.q0,fun P j cs G hc=>⟨fun F D=>((h.min P j cs G hc).1 F D).mono l,fun F D H=>((h.min P j cs G hc).2 F D H).mono l⟩⟩
section
variable {L:Nat->Bool} {rw_:Nat->Nat} {n:Nat} {us:List Nb}
theorem BN{f W al be}(hs:∀b∈us,TF b)(hn:n<=17)(Z:us.length<=23)(B:n<=W)(ha:∀j,Wh (al j) 1)(hb:∀j,Wh (be j) 1):
  ∃Q,sF (side n (fq zmx (us.map (Nb.br rw_))) (rhs rw_ us f al be)) n W Q BD:=by
 obtain⟨Q,l⟩:=agG (r0:=r0u n f be) (w:=fun c=>if c<n then 1 else 1000000) (f:=fun _=>32000) (K:=16) (m:=n) (W:=W) (B0:=1000000) (bs:=us.map (afu n rw_ al)) (Z0:=side n (fq zmx (us.map (Nb.br rw_))) (rhs rw_ us f al be))
  (fun b hb=>by
   obtain⟨c,hc,rfl⟩:=Nq.1 hb;exact⟨(hs c hc).z,fun i=>Bg _ i⟩)
  (fun c hc=>show(if c<n then 1 else 1000000)=1 from ι hc) (fun c _=>by show(if c<n then 1 else 1000000)<=1000000;split<;>omega) aa
  (fun b hb c hc=>by
   obtain⟨d,hd,rfl⟩:=Nq.1 hb;show Wh (if c<n then _ else _) (if c<n then 1 else 1000000);by_cases h:c<n
   .rw[ι h,ι h];exact Bg _ c
   .rw[θ h,θ h];split
    .exact((ha (c-n)).mul (hs d hd).e).mono aa
    .exact iC _)
  (fun i c hc=>by
   show Wh (if c<n then _ else _) (if c<n then 1 else 1000000);by_cases h:c<n
   .rw[ι h,ι h];exact iC _
   .rw[θ h,θ h];exact((hb (c-n)).mul (TA f i)).mono aa)
  B (fun i hi=>OH us i)
 refine⟨Q,l.mono (Ξ (VF hn _) ?_)⟩;rw[aar];unfold BD;rw[<-aap,<-aap];exact Sc (a:=15*us.length+(49+20)) (b:=420) aa
def TB{f}:rhs rw_ us f (fun _=>GQ.i 1 0) (fun _=>GQ.i 0 0)=col (feed rw_ us):=by
 funext i j;show GQ.i 1 0*feed rw_ us i+GQ.i 0 0*unit f i=feed rw_ us i;rw[GQ.kF,GQ.fC,GQ.add_zero']
def Qo{f}:rhs rw_ us f (fun _=>GQ.i 0 0) (fun _=>GQ.i 1 0)=col (unit f):=by
 funext i j;show GQ.i 0 0*feed rw_ us i+GQ.i 1 0*unit f i=unit f i;rw[GQ.kF,GQ.fC];generalize unit f i=u;ext<;>simp only[GQ.cO,GQ.bY,GQ.dM,GQ.dJ]<;>grind
def SH{f}:rhs rw_ us f (fun j=>if j=0 then GQ.i 1 0 else GQ.i 0 0) (fun j=>if j=0 then GQ.i 0 0 else GQ.i 1 0)=F9 (feed rw_ us) (unit f):=by
 funext i j;show(if j=0 then GQ.i 1 0 else GQ.i 0 0)*feed rw_ us i+(if j=0 then GQ.i 0 0 else GQ.i 1 0)*unit f i=if j=0 then feed rw_ us i else unit f i;by_cases h:j=0
 .rw[ι h,ι h,ι h,GQ.kF,GQ.fC,GQ.add_zero']
 .rw[θ h,θ h,θ h,GQ.kF,GQ.fC];generalize unit f i=u;ext<;>simp only[GQ.cO,GQ.bY,GQ.dM,GQ.dJ]<;>grind
def yV.den(h:yV L rw_ n us)(hs:∀b∈us,TF b)(hn:n<=17)(Z:us.length<=23)(f):
  ∃M,M≠GQ.i 0 0/\Wh M BD/\(∀k,Wh (M*oM L rw_ n us (feed rw_ us) k) BD)/\∀k,Wh (M*oM L rw_ n us (unit f) k) BD:=by
 obtain⟨Q,F⟩:=BN (rw_:=rw_) (f:=f) (W:=n+2) (al:=fun j=>if j=0 then GQ.i 1 0 else GQ.i 0 0) (be:=fun j=>if j=0 then GQ.i 0 0 else GQ.i 1 0) hs hn Z aa (fun j=>by split;exact vV;exact iC _) (fun j=>by split;exact iC _;exact vV);rw[SH] at F;have C:(ech n (side n (fq zmx (us.map (Nb.br rw_))) (F9 (feed rw_ us) (unit f))) n).r=n:=Ch h.psv.full;obtain⟨o,P,H⟩:=lU n (side n (fq zmx (us.map (Nb.br rw_))) (F9 (feed rw_ us) (unit f))) n;obtain⟨M,m0,G,D⟩:=ww H C F;refine⟨M,m0,G,fun k=> ?_,fun k=> ?_⟩
 .cases B:L k with
  |false=>rw[mH B,GQ.bQ];exact iC _
  |true=>
   have l:=h.r.lt k B;rw[pO B,(h.psv.NG (v:=feed rw_ us) (u:=unit f) l).1,FV C l];exact D _ _ l aa
 .cases B:L k with
  |false=>rw[mH B,GQ.bQ];exact iC _
  |true=>
   have l:=h.r.lt k B;rw[pO B,(h.psv.NG (v:=feed rw_ us) (u:=unit f) l).2,FV C l];exact D _ _ l aa
end
def q2 (n:Nat):Nat:=2^n
def VR{a b}(h:a<=b):q2 a<=q2 b:=Sc h
def qm(a b):q2 (a+b)=q2 a*q2 b:=aap 2 a b
def qP(a):q2 (a+1)=q2 a*2:=wN 2 a
def Eo{a b}(h:a<b):q2 a<2^b:=Nat.pow_lt_pow_right aa h
def p2 (h:Nat):GQ:=GQ.i ((2^h:Nat):Int) 0
def M4:p2 0=GQ.i 1 0:=rfl
theorem FB(h):p2 (h+1)=GQ.i 2 0*p2 h:=by
 unfold p2;rw[wN];ext<;>simp only[GQ.bL,GQ.bK,GQ.dM,GQ.dJ]<;>push_cast<;>grind
def XJ(h):p2 h≠GQ.i 0 0:=by
 induction h with
 |zero=>rw[M4];decide
 |succ h ih=>rw[FB];exact GQ.jc aj ih
theorem XW(h):Wh (p2 h) (q2 h):=pu (by unfold q2;simp)
def Fr (D:GQ) (h e:Nat) (x:GQ):Prop:=Wh (p2 h*(D*x)) (q2 e)
section
variable {D:GQ} {h e:Nat} {x y:GQ}
theorem afr(J:Wh (D*x) (q2 e)):Fr D 0 e x:=by unfold Fr;rw[M4,GQ.kF];exact J
def Fr.le{j}(J:Fr D h e x)(O:e<=j):Fr D h j x:=Wh.mono J (VR O)
theorem Fr.up(J:Fr D h e x):Fr D (h+1) (e+1) x:=by
 unfold Fr at*
 rw[FB,GQ.dB,qP,nG];exact Wh.mul (B:=2) ⟨2,0,rfl,aj⟩ J
theorem Fr.add(J:Fr D h e x)(R:Fr D h e y):Fr D h (e+1) (x+y):=by
 unfold Fr at*
 rw[GQ.qD,GQ.qD,qP,abU];exact J.add R
theorem Fr.sub(J:Fr D h e x)(R:Fr D h e y):Fr D h (e+1) (x-y):=by
 unfold Fr at*
 rw[GQ.jT,GQ.jT,qP,abU];exact J.sub R
theorem Fr.Uz{c k}(J:Fr D h e x)(hc:Wh c (q2 k)):Fr D h (e+k) (x*c):=by
 unfold Fr at*
 have j:p2 h*(D*(x*c))=p2 h*(D*x)*c:=by ext<;>simp only[GQ.bL,GQ.bK]<;>grind
 rw[j,qm];exact J.mul hc
def Fr.X6{c k}(J:Fr D h e x)(hc:Wh c (q2 k)):Fr D h (e+k) (c*x):=by rw[GQ.dZ];exact J.Uz hc
theorem Fr.zero:Fr D h e (GQ.i 0 0):=by unfold Fr;rw[GQ.bQ,GQ.bQ];exact iC _
theorem Fr.half(J:Fr D h e x):Fr D (h+1) e (x*⟨1/2,0⟩):=by
 unfold Fr at*
 have j:p2 (h+1)*(D*(x*⟨1/2,0⟩))=p2 h*(D*x):=by
  rw[FB];ext<;>simp only[GQ.bL,GQ.bK,GQ.dM,GQ.dJ]<;>grind
 rw[j];exact J
def qw{x N M a b n}(D:Wh N (q2 a))(l:Wh M (q2 b))(C:M≠GQ.i 0 0)(J:x*M=N)(B:a+b<n)(j:b+b<n):Bd x n:=by
 refine xI D l C J ?_ ?_
 .rw[<-qm];exact Eo B
 .rw[<-qm];exact Eo j
def Fr.bd{d n}(J:Fr D h e x)(C:Wh D (q2 d))(B:D≠GQ.i 0 0)(l:e+(h+d)<n)(j:h+d+(h+d)<n):Bd x n:=by
 have hq:=(XW h).mul C;rw[<-qm] at hq;refine xI (N:=p2 h*(D*x)) (M:=p2 h*D) J hq (GQ.jc (XJ h) B) ?_ ?_ ?_
 .ext<;>simp only[GQ.bL,GQ.bK]<;>grind
 .rw[<-qm];exact Eo l
 .rw[<-qm];exact Eo j
end
def ng (kind:Int) (v z1 z0 r:GQ) (k:Nat):GQ:=
 if kind<=3 then v/(z1*GQ.i 2 0+z0+r*GQ.i 3 0)
 else if kind<=6 then
  if k=0 then GQ.i 0 0 else if k=1 then v/(z1*GQ.i 2 0+r) else GQ.i 0 0-v/(z1*GQ.i 2 0+r)
 else if kind<=9 then
  if k=0 then GQ.i 0 0-v/(z1+z1*(z0+r*GQ.i 3 0)/(z1+(z0+r*GQ.i 3 0)))*z1/(z1+(z0+r*GQ.i 3 0))
  else if k=1 then v/(z1+z1*(z0+r*GQ.i 3 0)/(z1+(z0+r*GQ.i 3 0)))
  else GQ.i 0 0-v/(z1+z1*(z0+r*GQ.i 3 0)/(z1+(z0+r*GQ.i 3 0)))*(z0+r*GQ.i 3 0)/(z1+(z0+r*GQ.i 3 0))
 else if k=1 then v/(z1+r) else GQ.i 0 0
structure Seen (M0 M1 v z1 z0:GQ):Prop where
 m0:M0≠GQ.i 0 0
 m1:M1≠GQ.i 0 0
 w0:Wh M0 (q2 420)
 w1:Wh M1 (q2 420)
 wv:Wh (M1*v) (q2 420)
 wz1:Wh (M1*z1) (q2 420)
 wz0:Wh (M0*z0) (q2 420)
 i1:0<z1.im
 i0:0<z0.im
structure Iy (K:GQ) (A:Nat->GQ):Prop where
 k0:K≠GQ.i 0 0
 wk:Wh K (q2 1278)
 wa:∀k,Wh (K*A k) (q2 1278)
def iH{x a b}(h:Wh x (q2 a))(j:a<=b):Wh x (q2 b):=h.mono (VR j)
def eP{x y a b}(J:Wh x (q2 a))(R:Wh y (q2 b)):Wh (x*y) (q2 (a+b)):=by rw[qm];exact J.mul R
def Nw{x y a}(J:Wh x (q2 a))(R:Wh y (q2 a)):Wh (x+y) (q2 (a+1)):=by rw[qP,abU];exact J.add R
def MZ{x a}(J:Wh x (q2 a)):Wh (GQ.i 0 0-x) (q2 (a+1)):=by rw[qP,abU];exact(iC (q2 a)).sub J
def V6{m a}(h:m.natAbs<=2^a):Wh (GQ.i m 0) (q2 a):=pu h
def aff{a b c}(h:a*c=b*c)(hc:c≠GQ.i 0 0):a=b:=by
 refine afj ?_;have l:(a-b)*c=GQ.i 0 0:=by
  have:(a-b)*c=a*c-b*c:=by ext<;>simp only[GQ.bL,GQ.bK,GQ.dU,GQ.dV]<;>grind
  rw[this,h];ext<;>simp only[GQ.dU,GQ.dV,GQ.dM,GQ.dJ]<;>grind
 by_cases j:a-b=GQ.i 0 0
 .exact j
 .exact absurd l (GQ.jc j hc)
section
variable {M0 M1 v z1 z0:GQ}
def Seen.lin(h:Seen M0 M1 v z1 z0){a b c}(ha:a.natAbs<=2^12)(hb:b.natAbs<=2^12)(hc:c.natAbs<=2^13):Wh (M0*(M1*(z1*GQ.i a 0+z0*GQ.i b 0+GQ.i c 0))) (q2 854):=by
 have e:M0*(M1*(z1*GQ.i a 0+z0*GQ.i b 0+GQ.i c 0))=M0*(M1*z1)*GQ.i a 0+M1*(M0*z0)*GQ.i b 0+M0*M1*GQ.i c 0:=by
  ext<;>simp only[GQ.bL,GQ.bK,GQ.cO,GQ.bY]<;>grind
 rw[e];exact Nw (a:=853) (Nw (a:=852) (iH (eP (eP h.w0 h.wz1) (V6 ha)) aa) (iH (eP (eP h.w1 h.wz0) (V6 hb)) aa)) (iH (eP (eP h.w0 h.w1) (V6 hc)) aa)
def Seen.num(h:Seen M0 M1 v z1 z0):Wh (M0*(M1*v)) (q2 854):=iH (eP h.w0 h.wv) aa
def Seen.mm(h:Seen M0 M1 v z1 z0){x}(J:x≠GQ.i 0 0):M0*(M1*x)≠GQ.i 0 0:=GQ.jc h.m0 (GQ.jc h.m1 J)
def Seen.ne(h:Seen M0 M1 v z1 z0){a b c}(ha:0<=a)(hb:0<=b)(l:1<=a\/1<=b):z1*GQ.i a 0+z0*GQ.i b 0+GQ.i c 0≠GQ.i 0 0:=by
 refine MV ?_;simp only[GQ.bY,GQ.bK,GQ.dM,GQ.dJ];have B:=h.i1;have C:=h.i0;have j:(0:Rat)<=(a:Rat):=by exact_mod_cast ha
 have Q:(0:Rat)<=(b:Rat):=by exact_mod_cast hb
 have p1:0<=z1.im*(a:Rat):=aaR (Rat.le_of_lt B) j;have D:0<=z0.im*(b:Rat):=aaR (Rat.le_of_lt C) Q;rcases l with h|h
 .have:(0:Rat)<(a:Rat):=by exact_mod_cast (show 0<a by omega)
  have:=aeM B this
  push_cast
  grind
 .have:(0:Rat)<(b:Rat):=by exact_mod_cast (show 0<b by omega)
  have:=aeM C this
  push_cast
  grind
def Iy.one{S}(h:Seen M0 M1 v z1 z0)(hS:Wh (M0*(M1*S)) (q2 854))(l:S≠GQ.i 0 0){A}(B:∀k,A k=v/S\/A k=GQ.i 0 0\/A k=GQ.i 0 0-v/S):Iy (M0*(M1*S)) A:=by
 have hc:=afb (x:=v) l;have j:Wh (M0*(M1*S)*(v/S)) (q2 854):=by
  have e:M0*(M1*S)*(v/S)=M0*(M1*v):=by
   rw[GQ.dB,GQ.dB,GQ.dZ S,hc]
  rw[e];exact h.num
 refine⟨h.mm l,iH hS aa,fun k=> ?_⟩;rcases B k with e|e|e<;>rw[e]
 .exact iH j aa
 .rw[GQ.bQ];exact iC _
 .rw[GQ.jT,GQ.bQ];exact iH (MZ j) aa
def Seen.bcg(h:Seen M0 M1 v z1 z0){r}(W:0<=r)(Y:r<=1000):∃K,K≠GQ.i 0 0/\Wh K (q2 1274)/\
  Wh (K*(v/(z1+z1*(z0+GQ.i r 0*GQ.i 3 0)/(z1+(z0+GQ.i r 0*GQ.i 3 0))))) (q2 1274)/\
  Wh (K*(v/(z1+z1*(z0+GQ.i r 0*GQ.i 3 0)/(z1+(z0+GQ.i r 0*GQ.i 3 0)))*(z0+GQ.i r 0*GQ.i 3 0)/(z1+(z0+GQ.i r 0*GQ.i 3 0)))) (q2 1274)/\
  Wh (K*(v/(z1+z1*(z0+GQ.i r 0*GQ.i 3 0)/(z1+(z0+GQ.i r 0*GQ.i 3 0)))*z1/(z1+(z0+GQ.i r 0*GQ.i 3 0)))) (q2 1274)/\
  Bd (z1*(z0+GQ.i r 0*GQ.i 3 0)/(z1+(z0+GQ.i r 0*GQ.i 3 0))) 2600/\z1+(z0+GQ.i r 0*GQ.i 3 0)≠GQ.i 0 0/\z1+z1*(z0+GQ.i r 0*GQ.i 3 0)/(z1+(z0+GQ.i r 0*GQ.i 3 0))≠GQ.i 0 0:=by
 have H:z0+GQ.i r 0*GQ.i 3 0=z1*GQ.i 0 0+z0*GQ.i 1 0+GQ.i (r*3) 0:=by
  ext<;>simp only[GQ.bL,GQ.bK,GQ.cO,GQ.bY,GQ.dM,GQ.dJ]<;>push_cast<;>grind
 have T:z1+(z0+GQ.i r 0*GQ.i 3 0)=z1*GQ.i 1 0+z0*GQ.i 1 0+GQ.i (r*3) 0:=by
  ext<;>simp only[GQ.bL,GQ.bK,GQ.cO,GQ.bY,GQ.dM,GQ.dJ]<;>push_cast<;>grind
 have G:z1+(z0+GQ.i r 0*GQ.i 3 0)+(z0+GQ.i r 0*GQ.i 3 0)=z1*GQ.i 1 0+z0*GQ.i 2 0+GQ.i (r*3+r*3) 0:=by
  ext<;>simp only[GQ.bL,GQ.bK,GQ.cO,GQ.bY,GQ.dM,GQ.dJ]<;>push_cast<;>grind
 have w1:=h.lin (a:=0) (b:=1) (c:=r*3) aj aj aa;have w2:=h.lin (a:=1) (b:=1) (c:=r*3) aj aj aa;have J:=h.lin (a:=1) (b:=2) (c:=r*3+r*3) aj aj aa;have n1:=h.ne (a:=0) (b:=1) (c:=r*3) aj aj (Or.inr aj);have n2:=h.ne (a:=1) (b:=1) (c:=r*3) aj aj (Or.inl aj);have n3:=h.ne (a:=1) (b:=2) (c:=r*3+r*3) aj aj (Or.inl aj);rw[<-H] at w1 n1;rw[<-T] at w2 n2;rw[<-G] at J n3;have P:z1≠GQ.i 0 0:=MV h.i1;generalize z0+GQ.i r 0*GQ.i 3 0=w at w1 n1 w2 n2 J n3⊢;generalize R:z1+w=both at w2 n2 J n3⊢;have L:=afb (x:=z1*w) n2;generalize z1*w/both=t at L⊢;have Q:Bd t 2600:=by
  refine qw (N:=M1*z1*(M0*(M1*w))) (M:=M1*(M0*(M1*both))) (eP h.wz1 w1) (eP h.w1 w2) (GQ.jc h.m1 (h.mm n2)) ?_ aa aa
  .have I:t*(M1*(M0*(M1*both)))=M1*(M0*M1)*(t*both):=by ext<;>simp only[GQ.bL,GQ.bK]<;>grind
   rw[I,L];ext<;>simp only[GQ.bL,GQ.bK]<;>grind
 have j:(z1+t)*both=z1*(both+w):=by
  have:(z1+t)*both=z1*both+t*both:=by ext<;>simp only[GQ.bL,GQ.bK,GQ.cO,GQ.bY]<;>grind
  rw[this,L,GQ.qD]
 have C:z1+t≠GQ.i 0 0:=by
  intro e;rw[e,GQ.fC] at j;exact GQ.jc P n3 j.symm
 have i1:=afb (x:=v) C;have F:=C;generalize z1+t=S at i1 j C F⊢;generalize v/S=i at i1⊢;have hi:i*(z1*(both+w))=v*both:=by rw[<-j,<-GQ.dB,i1]
 have o1:=afb (x:=i*w) n2;have O:=afb (x:=i*z1) n2;generalize i*w/both=o at o1⊢;generalize i*z1/both=q at O⊢;have V:o*(z1*(both+w))=v*w:=by
  refine aff (c:=both) ?_ n2;have I:o*(z1*(both+w))*both=o*both*(z1*(both+w)):=by rw[GQ.dB,GQ.dZ (z1*(both+w)),<-GQ.dB]
  have U:v*w*both=v*both*w:=by rw[GQ.dB,GQ.dZ w,<-GQ.dB]
  rw[I,o1,U,<-hi,GQ.dB,GQ.dB,GQ.dZ w]
 have hq:q*(both+w)=v:=by
  refine aff (c:=both) ?_ n2;have I:q*(both+w)*both=q*both*(both+w):=by rw[GQ.dB,GQ.dZ (both+w),<-GQ.dB]
  rw[I,O,GQ.dB,hi]
 have B:Wh (M1*z1*(M0*(M1*(both+w)))*i) (q2 1274):=by
  have e:M1*z1*(M0*(M1*(both+w)))*i=M1*v*(M0*(M1*both)):=by
   have I:M1*z1*(M0*(M1*(both+w)))*i=M1*(M0*M1)*(i*(z1*(both+w))):=by
    generalize both+w=s;ext<;>simp only[GQ.bL,GQ.bK]<;>grind
   rw[I,hi];ext<;>simp only[GQ.bL,GQ.bK]<;>grind
  rw[e];exact iH (eP h.wv w2) aa
 have D:Wh (M1*z1*(M0*(M1*(both+w)))*o) (q2 1274):=by
  have e:M1*z1*(M0*(M1*(both+w)))*o=M1*v*(M0*(M1*w)):=by
   have I:M1*z1*(M0*(M1*(both+w)))*o=M1*(M0*M1)*(o*(z1*(both+w))):=by
    generalize both+w=s;ext<;>simp only[GQ.bL,GQ.bK]<;>grind
   rw[I,V];ext<;>simp only[GQ.bL,GQ.bK]<;>grind
  rw[e];exact iH (eP h.wv w1) aa
 have l:Wh (M1*z1*(M0*(M1*(both+w)))*q) (q2 1274):=by
  have e:M1*z1*(M0*(M1*(both+w)))*q=M1*z1*(M0*(M1*v)):=by
   have I:M1*z1*(M0*(M1*(both+w)))*q=M1*z1*(M0*M1)*(q*(both+w)):=by
    generalize both+w=s;ext<;>simp only[GQ.bL,GQ.bK]<;>grind
   rw[I,hq];ext<;>simp only[GQ.bL,GQ.bK]<;>grind
  rw[e];exact iH (eP h.wz1 h.num) aa
 exact⟨M1*z1*(M0*(M1*(both+w))),GQ.jc (GQ.jc h.m1 P) (h.mm n3),iH (eP h.wz1 J) aa,B,D,l,Q,n2,F⟩
theorem Seen.cur(h:Seen M0 M1 v z1 z0)(kind){r}(G:0<=r)(H:r<=1000):∃K,Iy K (ng kind v z1 z0 (GQ.i r 0)):=by
 by_cases j:kind<=3
 .have e:z1*GQ.i 2 0+z0+GQ.i r 0*GQ.i 3 0=z1*GQ.i 2 0+z0*GQ.i 1 0+GQ.i (r*3) 0:=by
   ext<;>simp only[GQ.bL,GQ.bK,GQ.cO,GQ.bY,GQ.dM,GQ.dJ]<;>push_cast<;>grind
  refine⟨_,Iy.one h (h.lin (a:=2) (b:=1) (c:=r*3) aj aj aa) (h.ne aj aj (Or.inl aj)) (fun k=> ?_)⟩
  left;unfold ng;rw[ι j,e]
 by_cases C:kind<=6
 .have e:z1*GQ.i 2 0+GQ.i r 0=z1*GQ.i 2 0+z0*GQ.i 0 0+GQ.i r 0:=by
   ext<;>simp only[GQ.bL,GQ.bK,GQ.cO,GQ.bY,GQ.dM,GQ.dJ]<;>push_cast<;>grind
  refine⟨_,Iy.one h (h.lin (a:=2) (b:=0) (c:=r) aj aj aa) (h.ne aj aj (Or.inl aj)) (fun k=> ?_)⟩;unfold ng;rw[θ j,ι C,e];split
  .right;left;rfl
  .split
   .left;rfl
   .right;right;rfl
 by_cases F:kind<=9
 .obtain⟨K,k0,I,B,D,l,_⟩:=h.bcg G H;unfold ng;simp only[θ j,θ C,ι F];have neg {x y:GQ} (J:Wh (x*y) (q2 1274)):Wh (x*(GQ.i 0 0-y)) (q2 1278):=by
   rw[GQ.jT,GQ.bQ];exact iH (MZ J) aa
  refine⟨K,k0,iH I aa,fun k=> ?_⟩;split
  .exact neg l
  .split
   .exact iH B aa
   .exact neg D
 .have e:z1+GQ.i r 0=z1*GQ.i 1 0+z0*GQ.i 0 0+GQ.i r 0:=by
   ext<;>simp only[GQ.bL,GQ.bK,GQ.cO,GQ.bY,GQ.dM,GQ.dJ]<;>push_cast<;>grind
  refine⟨_,Iy.one h (h.lin (a:=1) (b:=0) (c:=r) aj aj aa) (h.ne aj aj (Or.inl aj)) (fun k=> ?_)⟩;unfold ng;rw[θ j,θ C,θ F,e];split
  .left;rfl
  .right;left;rfl
def Iy.bd{K A}(h:Iy K A)(k):Bd (A k) 2600:=qw (N:=K*A k) (M:=K) (h.wa k) h.wk h.k0 (GQ.dZ _ _) aa aa
def Seen.bd(h:Seen M0 M1 v z1 z0)(kind){r}(l:0<=r)(j:r<=1000)(k):Bd (ng kind v z1 z0 (GQ.i r 0) k) 2600:=by
 obtain⟨K,I⟩:=h.cur kind l j;exact I.bd k
def Seen.neA(h:Seen M0 M1 v z1 z0)(r):z1*GQ.i 2 0+z0+GQ.i r 0*GQ.i 3 0≠GQ.i 0 0:=by
 have e:z1*GQ.i 2 0+z0+GQ.i r 0*GQ.i 3 0=z1*GQ.i 2 0+z0*GQ.i 1 0+GQ.i (r*3) 0:=by
  ext<;>simp only[GQ.bL,GQ.bK,GQ.cO,GQ.bY,GQ.dM,GQ.dJ]<;>push_cast<;>grind
 rw[e];exact h.ne aj aj (Or.inl aj)
def Seen.neB(h:Seen M0 M1 v z1 z0)(r):z1*GQ.i 2 0+GQ.i r 0≠GQ.i 0 0:=by
 have e:z1*GQ.i 2 0+GQ.i r 0=z1*GQ.i 2 0+z0*GQ.i 0 0+GQ.i r 0:=by
  ext<;>simp only[GQ.bL,GQ.bK,GQ.cO,GQ.bY,GQ.dM,GQ.dJ]<;>push_cast<;>grind
 rw[e];exact h.ne aj aj (Or.inl aj)
def Seen.neD(h:Seen M0 M1 v z1 z0)(r):z1+GQ.i r 0≠GQ.i 0 0:=by
 have e:z1+GQ.i r 0=z1*GQ.i 1 0+z0*GQ.i 0 0+GQ.i r 0:=by
  ext<;>simp only[GQ.bL,GQ.bK,GQ.cO,GQ.bY,GQ.dM,GQ.dJ]<;>push_cast<;>grind
 rw[e];exact h.ne aj aj (Or.inl aj)
def Seen.Yn(h:Seen M0 M1 v z1 z0){r}(B:0<=r)(l:r<=1000):
  Bd (v/(z1+z1*(z0+GQ.i r 0*GQ.i 3 0)/(z1+(z0+GQ.i r 0*GQ.i 3 0)))) 2600/\
  Bd (v/(z1+z1*(z0+GQ.i r 0*GQ.i 3 0)/(z1+(z0+GQ.i r 0*GQ.i 3 0)))*(z0+GQ.i r 0*GQ.i 3 0)/(z1+(z0+GQ.i r 0*GQ.i 3 0))) 2600/\
  Bd (v/(z1+z1*(z0+GQ.i r 0*GQ.i 3 0)/(z1+(z0+GQ.i r 0*GQ.i 3 0)))*z1/(z1+(z0+GQ.i r 0*GQ.i 3 0))) 2600/\
  Bd (z1*(z0+GQ.i r 0*GQ.i 3 0)/(z1+(z0+GQ.i r 0*GQ.i 3 0))) 2600/\z1+(z0+GQ.i r 0*GQ.i 3 0)≠GQ.i 0 0/\z1+z1*(z0+GQ.i r 0*GQ.i 3 0)/(z1+(z0+GQ.i r 0*GQ.i 3 0))≠GQ.i 0 0:=by
 obtain⟨K,k0,j,a,b,c,d,e,f⟩:=h.bcg B l;exact⟨qw a j k0 (GQ.dZ _ _) aa aa,qw b j k0 (GQ.dZ _ _) aa aa,qw c j k0 (GQ.dZ _ _) aa aa,d,e,f⟩
end
structure oh (nb nl:Nat) (f:dY):Prop where
 r:0<=f.r/\f.r<=1000
 kind:0<=f.kind/\f.kind<=10
 lk:f.line=ε->1<=f.kind
 line:f.line=ε->(0<=f.obj/\f.obj<nl)/\(2<=f.den/\f.den<=16)/\1<=f.num/\f.num<=f.den-1
 bus:f.line=ζ->1<=f.kind->0<=f.obj/\f.obj<nb
theorem afw{nb nl f}(h:fu nb nl f=0):oh nb nl f:=by
 unfold fu at h;by_cases D:f=⟨0,ζ,0,0,0,0⟩
 .subst D;exact⟨⟨aj,aj⟩,⟨aj,aj⟩,(fun e=>by cases e),(fun e=>by cases e),fun _ e=>absurd e (show ¬(1:Int)<=0 by decide)⟩
 rw[θ D] at h;by_cases l:btw f.kind 1 10=ε
 .rw[ι l] at h;rw[fw] at l;generalize hc:(if f.line=ε then (nl:Int) else (nb:Int))=j at h;by_cases B:btw f.obj 0 (j-1)=ε
  .rw[ι B] at h;rw[fw] at B;by_cases Z:f.line=ε/\(f.den<2\/16<f.den\/f.num<1\/f.den-1<f.num)
   .rw[ι Z] at h;exact absurd h aj
   rw[θ Z] at h;by_cases hb:f.line=ζ/\(f.num≠0\/f.den≠0)
   .rw[ι hb] at h;exact absurd h aj
   rw[θ hb] at h;by_cases C:btw f.r 0 1000=ε
   .rw[fw] at C;refine⟨C,aa,fun _=>l.1,fun e=> ?_,fun e _=> ?_⟩
    .rw[ι e] at hc;have:¬(f.den<2\/16<f.den\/f.num<1\/f.den-1<f.num):=fun x=>Z ⟨e,x⟩;omega
    .rw[θ (by rw[e];decide)] at hc;omega
   .rw[θ C] at h;exact absurd h aj
  .rw[θ B] at h;exact absurd h aj
 .rw[θ l] at h;exact absurd h aj
structure gV (x:BrD):Prop where
 a:x.a<17
 b:x.b<=17
 n:1<=x.n/\x.n<=15
 d:1<=x.d/\x.d<=16
 z0:okZ x.z0=ε
 z1:okZ x.z1=ε
 emf:0<=x.emf/\x.emf<=1000000
section
variable {s:StD} {p:dH} {f:dY}
def lC(h:jG s)(p){k}(j:k<s.buses.length):0<=(groups s p).getD k 0/\((groups s p).getD k 0).toNat<4:=by
 have l:=h.groups p k (by rw[lF];exact j);have:=h.nb;omega
theorem Mm(h:jG s)(p){i}(hi:i<s.bays.length)(j:(sides s p i).1.1=1):(sides s p i).1.2.toNat<4:=by
 have G:=h.link hi;unfold sides at j⊢;by_cases l:(s.bays.getD i η).kind=3
 .rw[ι l];exact(lC h p (h.bus hi (k:=0) aa).2).2
 .rw[θ l] at j⊢;simp only[] at j⊢;unfold oW at j⊢;split
  .exact(lC h p (h.bus hi (k:=0) aa).2).2
  .split
   .rename_i B
    exact(lC h p (h.bus hi (k:=1) B.1).2).2
   .decide
theorem wm(h:jG s)(p){i}(hi:i<s.bays.length)(j:jZ s p i=ε):13<=iG s p i/\iG s p i<17:=by
 unfold jZ at j;simp only[ρ,Θ] at j;have:=Mm h p hi j.2;unfold iG;omega
theorem QC{x}(h:dz x=ε)(j:x.kind=3):okZ x.z=ε:=by
 unfold dz at h;rw[ι j] at h;simp only[ρ] at h;exact h.1.1
theorem Ob{nl ns x}(h:jH nl ns x=0)(j:x.kind=2):0<=x.obj/\x.obj<ns:=by
 unfold jH at h;rw[θ aa,ι j] at h;split at h
 .rename_i hb
  rw[fw] at hb;omega
 .exact absurd h aj
theorem RO{nl ns x}(h:jH nl ns x=0)(j:x.kind=1):0<=x.obj/\x.obj<nl:=by
 unfold jH at h;rw[ι j] at h;split at h
 .rename_i hb
  rw[fw] at hb;omega
 .exact absurd h aj
theorem QM{x}(h:dz x=ε):0<=x.en/\x.en<=1:=by
 unfold dz at h;simp only[ρ] at h;have j:=h.2.1.1.1;rw[fw] at j;split at j<;>omega
theorem Dn(h:jG s){i}(hi:i<s.bays.length){b}(hb:gG s p i=γ b):gV b/\13<=b.a/\(b.b=17\/13<=b.b):=by
 unfold gG at hb;simp only[] at hb;split at hb
 .rename_i C
  have hn:=wm h p hi C;split at hb
  .rename_i j
   injection hb with hb;subst hb;have D:=Ob (h.obj i hi) j;have hs:=h.src (s.bays.getD i η).obj.toNat aa;unfold jr at hs;simp only[ρ] at hs;have O:=fw.1 hs.1.1;exact⟨⟨hn.2,ag,ag,ag,hs.2,hs.1.2,⟨by simp only[];omega,by simp only[];omega⟩⟩,hn.1,Or.inl rfl⟩
  .split at hb
   .rename_i j
    injection hb with hb;subst hb;have B:=QC (h.rng i hi) j.1;have G:=h.link hi;have F:=G.2.1 j.1;have H:=lC h p (h.bus hi (k:=1) aa).2;have l:(sides s p i).2.2=(groups s p).getD (gY s i 1) 0:=by unfold sides;rw[ι j.1];rfl
    refine⟨⟨hn.2,?_,ag,ag,B,B,ag⟩,hn.1,Or.inr ?_⟩
    .simp only[l];omega
    .simp only[l];omega
   .cases hb
 .cases hb
theorem AA(h:jG s){l e}(Z:l<6)(O:e<=1):∀n,n<=s.bays.length->wL s p l e n<17/\wL s p l e n≠12
 |0,_=>by
  show 2*l+e<17/\2*l+e≠12;omega
 |n+1,hn=>by
  show(if lW s p l e n=ε then iG s p n else wL s p l e n)<17/\(if lW s p l e n=ε then iG s p n else wL s p l e n)≠12;split
  .rename_i J
   unfold lW at J;simp only[ρ] at J;have:=wm h p (i:=n) aa J.1.1.1;omega
  .exact AA h Z O n aa
theorem Ap(h:jG s)(D:oh s.buses.length s.lines.length f){l e}(Z:l<s.lines.length)(O:e<=1):gV (half s p f l e):=by
 have G:=h.nl;have j:=h.line l Z;have C:=AA (p:=p) h (l:=l) (e:=e) aa O _ (κ _);have F:=AA (p:=p) h (l:=l) (e:=1-e) aa aa _ (κ _);unfold half;simp only[];split
 .rename_i B
  unfold nu at B;simp only[ρ,Θ] at B;have:=D.line B.1;refine⟨C.1,ag,?_,by simp only[];omega,j.2,j.1,ag⟩;simp only[];split<;>omega
 .exact⟨C.1,aaj F.1,ag,ag,j.2,j.1,ag⟩
def EX(h:jG s):∀n,n<=s.bays.length->(fV s p n).length<=n/\∀b∈fV s p n,gV b
 |0,_=>⟨κ _,by simp[fV]⟩
 |n+1,hn=>by
  have B:=EX h n aa;show(fV s p n++(gG s p n).toList).length<=n+1/\∀b∈fV s p n++(gG s p n).toList,gV b;cases hb:gG s p n with
  |none=>exact⟨ae,by simpa using B.2⟩
  |some c=>
   refine⟨ae,fun b j=> ?_⟩;rw[aaH] at j;rcases j with l|l
   .exact B.2 b l
   .simp only[Option.toList_some,List.mem_singleton] at l;subst l;exact(Dn h aa hb).1
theorem JO(l):(kZ s p f l).length=if nu f l=ε then 2 else 1:=by
 unfold kZ;split<;>rfl
theorem LZ{l D}(h:nu f l=ε)(K:nu f D=ε):l=D:=by
 unfold nu at h K;simp only[ρ,Θ] at h K;omega
theorem Ct(h:jG s)(j:oh s.buses.length s.lines.length f):∀n,n<=s.lines.length->((fG s p f n).length<=n+1/\((∀l,l<n->nu f l=ζ)->(fG s p f n).length<=n))/\∀b∈fG s p f n,gV b
 |0,_=>⟨⟨by simp[fG],by simp[fG]⟩,by simp[fG]⟩
 |n+1,hn=>by
  have B:=Ct h j n aa;have D:=JO (s:=s) (p:=p) (f:=f) n;show((fG s p f n++kZ s p f n).length<=n+1+1/\(_->(fG s p f n++kZ s p f n).length<=n+1))/\∀b∈fG s p f n++kZ s p f n,gV b;rw[nH,D];refine⟨⟨?_,fun C=> ?_⟩,fun b hb=> ?_⟩
  .split
   .rename_i C
    have:=B.1.2 (fun l Z=>by
     cases J:nu f l with
     |false=>rfl
     |true=>have:=LZ C J;omega)
    omega
   .have:=B.1.1;omega
  .rw[θ (by rw[C n aa];decide)];have:=B.1.2 (fun l Z=>C l aa);omega
  .rw[aaH] at hb;rcases hb with hb|hb
   .exact B.2 b hb
   .unfold kZ at hb;split at hb
    .simp only[lh,I6,aaM] at hb;rcases hb with rfl|rfl
     .exact Ap h j aa aa
     .exact Ap h j aa aa
    .simp only[lh,I6,aaM] at hb;subst hb;exact Ap h j aa aa
theorem rW(h:jG s)(j:oh s.buses.length s.lines.length f):(dD s p f).length<=23/\∀b∈dD s p f,gV b:=by
 have B:=EX (p:=p) h _ (κ _);have l:=Ct (p:=p) h j _ (κ _);have:=h.nq;have:=h.nl;refine⟨by unfold dD;rw[nH];omega,fun b hb=> ?_⟩;rw[dD,aaH] at hb;rcases hb with hb|hb
 .exact B.2 b hb
 .exact l.2 b hb
theorem Hg(h:jG s)(j:oh s.buses.length s.lines.length f)(p):eZ s p f<=17/\(f.kind≠0->eZ s p f<17):=by
 unfold eZ;split
 .omega
 .rename_i Z
  split
  .rename_i l;exact⟨aa,fun e=>absurd l e⟩
  .rename_i l
   have hb:=j.bus (by simpa using Z) (by have:=j.kind;omega);have:=lC h p (k:=f.obj.toNat) aa;omega
end
inductive JoinD (bs:List BrD):Nat->Prop
 |neutral (b:BrD) (h:b∈bs) (hn:b.b=17):JoinD bs b.a
 |fro (b:BrD) (h:b∈bs) (hn:b.b≠17) (hq:JoinD bs b.b):JoinD bs b.a
 |fwd (b:BrD) (h:b∈bs) (hn:b.b≠17) (hp:JoinD bs b.a):JoinD bs b.b
noncomputable def lv (bs:List BrD) (k:Nat):Bool:= @decide (JoinD bs k) (Classical.propDecidable _)
section
variable {bs:List BrD}
theorem lQ{k}:lv bs k=ε↔JoinD bs k:=by
 unfold lv;exact @decide_eq_true_iff _ (Classical.propDecidable _)
def JoinD.lt{k}(hb:∀b∈bs,gV b)(h:JoinD bs k):k<17:=by
 cases h with
 |neutral b h hn=>exact(hb b h).a
 |fro b h hn hq=>exact(hb b h).a
 |fwd b h hn hp=>have:=(hb b h).b;omega
def JoinD.live{L}(j:yI bs L)(hb:∀b∈bs,gV b){k}(h:JoinD bs k):L k=ε:=by
 induction h with
 |neutral b h hn=>exact(j.closed b h (Or.inl hn)).1 AbH
 |fro b h hn _ ih=>exact(j.closed b h (Or.inr (Or.inr ih))).1 AbH
 |fwd b h hn _ ih=>exact(j.closed b h (Or.inr (Or.inl ih))).2 hn
def XP{L}(hb:∀b∈bs,gV b)(B:yI bs L)(j:∀k,L k=ε->JoinD bs k):L=lv bs:=by
 funext k;cases h:L k with
 |true=>exact(lQ.2 (j k h)).symm
 |false=>
  cases l:lv bs k with
  |false=>rfl
  |true=>rw[(lQ.1 l).live B hb] at h;cases h
def vM(hb:∀b∈bs,gV b){k}(h:lv bs k=ε):k<17:=(lQ.1 h).lt hb
def Dq(hb:∀b∈bs,gV b):yI bs (lv bs):=by
 refine⟨fun b h Z=> ?_,?_⟩
 .rcases Z with Z|Z|Z
  .exact⟨fun _=>lQ.2 (.neutral b h Z),fun hn=>absurd Z hn⟩
  .refine⟨fun _=>Z,fun hn=>lQ.2 (.fwd b h hn (lQ.1 Z))⟩
  .have:b.b≠17:=by have:=vM hb Z;omega
   exact⟨fun _=>lQ.2 (.fro b h this (lQ.1 Z)),fun _=>Z⟩
 .cases h:lv bs 17 with
  |false=>rfl
  |true=>have:=vM hb h;omega
end
def cnt (L:Nat->Bool):Nat->Nat
 |0=>0
 |k+1=>cnt L k+(if L k=ε then 1 else 0)
def rwx (L:Nat->Bool) (k:Nat):Nat:=if L k=ε then cnt L k else 0
section
variable {L:Nat->Bool}
def cnt_mono:∀{j k:Nat},j<=k->cnt L j<=cnt L k
 |j,0,h=>by rw[show j=0 by omega];exact κ _
 |j,k+1,h=>by
  by_cases e:j=k+1
  .rw[e];exact κ _
  .have:=cnt_mono (j:=j) (k:=k) aa;show _<=cnt L k+_;omega
def cnt_lt{j k}(l:L j=ε)(h:j<k):cnt L j<cnt L k:=by
 have C:cnt L (j+1)<=cnt L k:=cnt_mono h;have B:cnt L (j+1)=cnt L j+(if L j=ε then 1 else 0):=rfl;rw[ι l] at B;omega
def LB(k):cnt L k<=k:=by
 induction k with
 |zero=>exact κ _
 |succ k ih=>
  show cnt L k+_<=_;split<;>omega
def IM:∀{k i:Nat},i<cnt L k->∃j,j<k/\L j=ε/\cnt L j=i
 |0,i,h=>absurd h (by show ¬i<0;omega)
 |k+1,i,h=>by
  have K:i<cnt L k+(if L k=ε then 1 else 0):=h;by_cases B:i<cnt L k
  .obtain⟨j,F,C,D⟩:=IM B;exact⟨j,aa,C,D⟩
  .by_cases l:L k=ε
   .rw[ι l] at K;exact⟨k,aa,l,aa⟩
   .rw[θ l] at K;omega
theorem afe(h:∀k,L k=ε->k<17):Rwx L (rwx L) (cnt L 18):=by
 refine⟨fun k l=> ?_,fun j k C l e=> ?_,fun i hi=> ?_⟩
 .unfold rwx;rw[ι l];exact cnt_lt l (by have:=h k l;omega)
 .unfold rwx at e;rw[ι C,ι l] at e;by_cases D:j<k
  .have:=cnt_lt C D;omega
  .by_cases B:k<j
   .have:=cnt_lt l B;omega
   .omega
 .obtain⟨j,_,B,F⟩:=IM hi;exact⟨j,B,by unfold rwx;rw[ι B];exact F⟩
def GH(h:L 17=ζ):cnt L 18<=17:=by
 show cnt L 17+(if L 17=ε then 1 else 0)<=17;rw[h];have:=LB (L:=L) 17;simpa using this
end
def BrD.zs (b:BrD) (sq:Nat):GQ:=zq (if sq=0 then b.z0 else b.z1) b.n b.d
def BrD.nb (sq:Nat) (b:BrD):Nb:=⟨b.a,b.b,GQ.i 1 0/b.zs sq,GQ.i b.emf 0⟩
def used (L:Nat->Bool) (b:BrD):Bool:=L b.a&&decide (b.a≠b.b)
def usd (L:Nat->Bool) (sq:Nat) (bs:List BrD):List Nb:=(bs.filter (used L)).map (BrD.nb sq)
def zz{a b:Rat}(ha:0<a)(hb:0<b):0<a/b:=by rw[Rat.div_def];exact aeM ha (Rat.inv_pos.2 hb)
theorem ND(z:Imp){n d}(F:okZ z=ε)(hn:1<=n/\n<=15)(hd:1<=d/\d<=16):0<(zq z n d).im/\∃j:GQ,j≠GQ.i 0 0/\Wh j 32000/\zq z n d*GQ.i d 0=j:=by
 have C:=vJ.1 F;have B:(0:Rat)<(d:Rat):=by exact_mod_cast (show 0<d by omega)
 have J:1<=n*z.x:=by have:=abj hn.1 C.2.1 aa aa;omega
 have P:n*z.x<=15000:=by have:=abj hn.2 C.2.2 aa aa;omega
 have G:0<=n*z.r:=abI aa C.1.1;have l:n*z.r<=15000:=by have:=abj hn.2 C.1.2 C.1.1 aa;omega
 refine⟨?_,GQ.i (n*z.r) (n*z.x),?_,⟨_,_,rfl,aa⟩,?_⟩
 .show 0<((n*z.x:Int):Rat)/(d:Rat);have:(0:Rat)<((n*z.x:Int):Rat):=by exact_mod_cast (show 0<n*z.x by omega)
  exact zz this B
 .intro e;have D:((n*z.x:Int):Rat)=((0:Int):Rat):=congrArg GQ.im e;have H:n*z.x=0:=by exact_mod_cast D
  omega
 .unfold zq;ext<;>simp only[GQ.bL,GQ.bK,GQ.dM,GQ.dJ]<;>grind
section
variable {b:BrD}
def gV.zi(h:gV b)(sq):okZ (if sq=0 then b.z0 else b.z1)=ε:=by split;exact h.z0;exact h.z1
def gV.ne(h:gV b)(sq):b.zs sq≠GQ.i 0 0:=MV (ND _ (h.zi sq) h.n h.d).1
def Mt{z}(h:z≠GQ.i 0 0):GQ.i 1 0/z*z=GQ.i 1 0:=afb h
def uB{z}(h:0<z.im):(GQ.i 1 0/z).im<0:=by
 have j:=MV h;have hn:=Uf j;show(((0:Int):Rat)*z.re-((1:Int):Rat)*z.im)/z.nrm<0;have e:(((0:Int):Rat)*z.re-((1:Int):Rat)*z.im)/z.nrm= -(z.im/z.nrm):=ak;rw[e];have:=zz h hn;grind
def gV.sz(h:gV b)(sq):TF (b.nb sq):=by
 obtain⟨D,j,l,C,B⟩:=ND _ (h.zi sq) h.n h.d;have hd:=h.d;refine⟨⟨j,b.d.toNat,l,C,?_,aa⟩,pu (by have:=h.emf;show b.emf.natAbs<=_;omega)⟩;show GQ.i 1 0/b.zs sq*j=_;rw[<-B,<-GQ.dB];show GQ.i 1 0/b.zs sq*b.zs sq*_=_;rw[Mt (h.ne sq),GQ.kF,show((b.d.toNat:Nat):Int)=b.d by omega]
def gV.im(h:gV b)(sq):(b.nb sq).y.im<0:=uB (ND _ (h.zi sq) h.n h.d).1
end
theorem wH{bs}(hb:∀b∈bs,gV b)(sq):yV (lv bs) (rwx (lv bs)) (cnt (lv bs) 18) (usd (lv bs) sq bs):=by
 have D:=Dq hb;refine⟨afe (fun k j=>vM hb j),⟨D.none,fun c hc=> ?_⟩,fun c hc=> ?_,fun k j=> ?_⟩
 .obtain⟨b,C,rfl⟩:=Nq.1 hc;obtain⟨F,l⟩:=acy.1 C;unfold used at l;simp only[ρ,Θ] at l;refine⟨l.1,?_,l.2⟩;by_cases e:b.b=17
  .exact Or.inl e
  .exact Or.inr ((D.closed b F (Or.inr (Or.inl l.1))).2 e)
 .obtain⟨b,C,rfl⟩:=Nq.1 hc;exact(hb b (acy.1 C).1).im sq
 .replace j:=lQ.1 j;have mem {b:BrD} (h:b∈bs) (ha:JoinD bs b.a) (B:b.a≠b.b):b.nb sq∈usd (lv bs) sq bs:=
   aaB (acy.2 ⟨h,by unfold used;simp[lQ.2 ha,B]⟩)
  induction j with
  |neutral b h hn=>exact JoinN.neutral (b.nb sq) (mem h (.neutral b h hn) AbH) hn
  |fro b h hn hq ih=>
   by_cases e:b.a=b.b
   .rw[e];exact ih
   .exact JoinN.fro (b.nb sq) (mem h (.fro b h hn hq) e) hn ih
  |fwd b h hn hp ih=>
   by_cases e:b.a=b.b
   .rw[<-e];exact ih
   .exact JoinN.fwd (b.nb sq) (mem h hp e) hn ih
theorem Qy{bs}(hb:∀b∈bs,gV b)(Z:bs.length<=23)(L sq):(usd L sq bs).length<=23/\∀b∈usd L sq bs,TF b:=by
 refine⟨?_,fun c hc=> ?_⟩
 .unfold usd;rw[aar];have:=List.length_filter_le (used L) bs;omega
 .obtain⟨b,j,rfl⟩:=Nq.1 hc;exact(hb b (acy.1 j).1).sz sq
def IU{α:Type}(f:α->GQ)(l2:List α):∀l1:List α,iM f (l1++l2)=iM f l2+iM f l1
 |[]=>(GQ.add_zero' _).symm
 |a::l1=>by
  show iM f (l1++l2)+f a=iM f l2+(iM f l1+f a);rw[IU f l2 l1];generalize iM f l2=x;generalize iM f l1=y;generalize f a=z;ext<;>simp only[GQ.cO,GQ.bY]<;>grind
theorem RQ(X)(l:List Br)(b:Br):fq X (l++[b])=stm (fq X l) b:=by
 unfold fq;rw[acV];rfl
section
variable {L:Nat->Bool} {sq:Nat} {brs:List BrD} {k:Nat}
def eqA (L:Nat->Bool) (sq:Nat) (brs:List BrD) (k:Nat):Nat->Nat->GQ:=fq zmx ((usd L sq (brs.take k)).map (Nb.br (rwx L)))
def eqB (L:Nat->Bool) (sq:Nat) (brs:List BrD) (k:Nat):Nat->Nat->GQ:=fun i _=>feed (rwx L) (usd L sq (brs.take k)) i
def Js(j:k<brs.length):brs.take (k+1)=brs.take k++[brs.getD k η]:=by
 rw[acU,σ,ν j];rfl
theorem Rp(l:k<brs.length)(j:used L (brs.getD k η)=ε):usd L sq (brs.take (k+1))=usd L sq (brs.take k)++[(brs.getD k η).nb sq]:=by
 unfold usd;rw[Js l,List.filter_append,aad];congr 1;rw[List.filter_cons_of_pos j];rfl
theorem NT(l:k<brs.length)(j:used L (brs.getD k η)=ζ):usd L sq (brs.take (k+1))=usd L sq (brs.take k):=by
 unfold usd;rw[Js l,List.filter_append,aad,List.filter_cons_of_neg (by rw[j];decide)];simp
theorem Q7(l:k<brs.length)(j:used L (brs.getD k η)=ε):eqA L sq brs (k+1)=stm (eqA L sq brs k) (((brs.getD k η).nb sq).br (rwx L)):=by
 unfold eqA;rw[Rp l j,aad,<-RQ];rfl
theorem Sm(l:k<brs.length)(B:used L (brs.getD k η)=ε)(i j):eqB L sq brs (k+1) i j=
  if (brs.getD k η).b=17/\i=rwx L (brs.getD k η).a then eqB L sq brs k i j+GQ.i 1 0/(brs.getD k η).zs sq*GQ.i (brs.getD k η).emf 0 else eqB L sq brs k i j:=by
 unfold eqB feed;rw[Rp l B,IU];show GQ.i 0 0+(if (brs.getD k η).b=17/\i=rwx L (brs.getD k η).a then GQ.i 1 0/(brs.getD k η).zs sq*GQ.i (brs.getD k η).emf 0 else GQ.i 0 0)+iM (fun b=>if b.b=17/\i=rwx L b.a then b.y*b.e else GQ.i 0 0) (usd L sq (brs.take k))=_;generalize iM (fun b=>if b.b=17/\i=rwx L b.a then b.y*b.e else GQ.i 0 0) (usd L sq (brs.take k))=x;split
 .generalize GQ.i 1 0/(brs.getD k η).zs sq*GQ.i (brs.getD k η).emf 0=y;ext<;>simp only[GQ.cO,GQ.bY,GQ.dM,GQ.dJ]<;>grind
 .ext<;>simp only[GQ.cO,GQ.bY,GQ.dM,GQ.dJ]<;>grind
theorem Fz(l:k<brs.length)(j:used L (brs.getD k η)=ζ):eqA L sq brs (k+1)=eqA L sq brs k:=by unfold eqA;rw[NT l j]
theorem Gh(l:k<brs.length)(j:used L (brs.getD k η)=ζ):eqB L sq brs (k+1)=eqB L sq brs k:=by unfold eqB;rw[NT l j]
def XQ:eqA L sq brs 0=zmx:=rfl
def Xw(i j):eqB L sq brs 0 i j=GQ.i 0 0:=rfl
theorem U2:eqA L sq brs brs.length=fq zmx ((usd L sq brs).map (Nb.br (rwx L))):=by unfold eqA;rw[ach]
theorem Vp:eqB L sq brs brs.length=col (feed (rwx L) (usd L sq brs)):=by unfold eqB col;rw[ach]
def Wp{b}(h:gV b)(sq):Bd (GQ.i 1 0/b.zs sq) 40:=by
 obtain⟨j,U,z0,l,e,hd⟩:=(h.sz sq).z;exact qw (a:=4) (b:=15) (pu (D:=U) (by show U<=2^4;omega)) (l.mono (by show 32000<=2^15;omega)) z0 e aa aa
def Rf(hb:∀b∈brs,gV b):∀k,k<=brs.length->∀i j,Bd (eqA L sq brs k i j) (64+110*k)
 |0,_,i,j=>by rw[XQ];exact⟨0,0,1,LX 0 0,UU aa⟩
 |k+1,hk,i,j=>by
  have B:=Rf hb k aa i j;cases l:used L (brs.getD k η) with
  |false=>rw[Fz aa l];exact B.mono aa
  |true=>
   rw[Q7 aa l,Nk];have R:=Wp (hb (brs.getD k η) (by rw[σ,ν aa];exact abq _)) sq;have al (x:Nat):Bd ((((brs.getD k η).nb sq).br (rwx L)).al x) 2:=by
    have h:=Bg (((brs.getD k η).nb sq).br (rwx L)) x;exact qw (a:=0) (b:=0) (M:=GQ.i 1 0) h (vV.mono (κ _)) aj (by ext<;>simp only[GQ.bL,GQ.bK,GQ.dM,GQ.dJ]<;>grind) aa aa
   exact(Bd.add B (Bd.mul R (Bd.mul (al i) (al j)))).mono aa
def QL(hb:∀b∈brs,gV b):∀k,k<=brs.length->∀i j,Bd (eqB L sq brs k i j) (64+110*k)
 |0,_,i,j=>by rw[Xw];exact⟨0,0,1,LX 0 0,UU aa⟩
 |k+1,hk,i,j=>by
  have B:=QL hb k aa i j;cases C:used L (brs.getD k η) with
  |false=>rw[Gh aa C];exact B.mono aa
  |true=>
   rw[Sm aa C];have l:brs.getD k η∈brs:=by rw[σ,ν aa];exact abq _
   have R:=Wp (hb _ l) sq;split
   .have O:Bd (GQ.i (brs.getD k η).emf 0) 64:=by
     have:=(hb _ l).emf;exact⟨_,0,1,LX _ 0,XB aa aa aa aa⟩
    exact(Bd.add B (Bd.mul R O)).mono aa
   .exact B.mono aa
end
def MxI.out'{W G m n P R X}(h:MxI W G m n P R X)(hn:0<m->0<n):Out W G m n R X:=
 ⟨h.o,fun i hi=>⟨(h.row i hi (hn aa)).1,(h.len i hi).1,(h.len i hi).2,(h.row i hi (hn aa)).2⟩⟩
def QZ:BD=q2 420:=rfl
def RY:BD*BD<2^841:=by
 rw[QZ,<-qm];exact Eo (a:=420+420) (b:=841) aa
def TH{m}(j:m<=17):(BD*BD+m*(BD*BD))*(BD*BD)<2^1690:=by
 have B:BD*BD+m*(BD*BD)<=q2 5*(BD*BD):=by
  have:m*(BD*BD)<=17*(BD*BD):=aaa j (κ _);have C:q2 5=32:=rfl;rw[C];omega
 have l:=aaa B (κ (BD*BD));refine ψ l ?_;rw[QZ,<-qm,<-qm,<-qm];exact Eo (a:=5+(420+420)+(420+420)) (b:=1690) aa
theorem VQ{m n R}(h:∀i,i<m->(R i).n=n)(hn:n<=24):wd m R<=24/\∀i,i<m->(R i).n=wd m R:=by
 unfold wd;by_cases e:m=0
 .rw[ι e];exact⟨aa,fun i hi=>aa⟩
 .rw[θ e,h 0 aa];exact⟨hn,h⟩
def DU (rw_:Nat->Nat) (us:List Nb) (v:Nat->GQ):Prop:=v=feed rw_ us\/∃f,v=unit f
section
variable {brs:List BrD} {sq n:Nat} {v:Nat->GQ}
def MS(hb:∀b∈brs,gV b)(Z:brs.length<=23)(hv:DU (rwx (lv brs)) (usd (lv brs) sq brs) v)(V:cnt (lv brs) 18=n):∃Q,sF (side n (fq zmx ((usd (lv brs) sq brs).map (Nb.br (rwx (lv brs))))) (col v)) n (n+1) Q BD:=by
 have hs:=Qy hb Z (lv brs) sq;have hn:n<=17:=V ▸ GH (Dq hb).none;rcases hv with rfl|⟨f,rfl⟩
 .have:=BN (rw_:=rwx (lv brs)) (n:=n) (us:=usd (lv brs) sq brs) (f:=0) (W:=n+1) (al:=fun _=>GQ.i 1 0) (be:=fun _=>GQ.i 0 0) hs.2 hn hs.1 aa (fun _=>vV) (fun _=>iC _);rwa[TB] at this
 .have:=BN (rw_:=rwx (lv brs)) (n:=n) (us:=usd (lv brs) sq brs) (f:=f) (W:=n+1) (al:=fun _=>GQ.i 0 0) (be:=fun _=>GQ.i 1 0) hs.2 hn hs.1 aa (fun _=>iC _) (fun _=>vV);rwa[Qo] at this
def H6(hb:∀b∈brs,gV b)(V:cnt (lv brs) 18=n)(Y):(ech n (side n (fq zmx ((usd (lv brs) sq brs).map (Nb.br (rwx (lv brs))))) Y) n).r=n:=by
 subst V;exact Ch (wH hb sq).psv.full
def LU(hb:∀b∈brs,gV b)(Z:brs.length<=23)(hv:DU (rwx (lv brs)) (usd (lv brs) sq brs) v)(V:cnt (lv brs) 18=n){i}(hi:i<n):Bd (sol n (fq zmx ((usd (lv brs) sq brs).map (Nb.br (rwx (lv brs))))) (col v) i 0) 841:=by
 obtain⟨Q,l⟩:=MS hb Z hv V;have j:=H6 (sq:=sq) hb V (col v);rw[FV j hi 0];exact Me j l RY hi aa
def EL{w Ga Gb Pa Pb Ra Rb}(hb:∀b∈brs,gV b)(Z:brs.length<=23)(hv:DU (rwx (lv brs)) (usd (lv brs) sq brs) v)(V:cnt (lv brs) 18=n)(ha:MxI w Ga n n Pa Ra (fq zmx ((usd (lv brs) sq brs).map (Nb.br (rwx (lv brs))))))(l:MxI w Gb n 1 Pb Rb (col v)):
  Calls prog 159 #[aO (γ (aM Ga 0)) n n,aO (γ (aM Gb 0)) n n] w fun e w'=>∃G RX,e=.returned (.tuple #[aO (γ (aM G 0)) n n,aJ])/\Out w' G n 1 RX (sol n (fq zmx ((usd (lv brs) sq brs).map (Nb.br (rwx (lv brs))))) (col v))/\Ext w w':=by
 obtain⟨Q,H⟩:=MS hb Z hv V;have P:=H6 (sq:=sq) hb V (col v);have hn:n<=17:=V ▸ GH (Dq hb).none;obtain⟨R,E,L,D,K⟩:=(ha.out' (fun h=>h)).mem aa aa;obtain⟨R2,E2,C,F,I⟩:=(l.out' (fun _=>aa)).mem aa aa;have w1:=VQ D aa;have w2:=VQ F aa;refine(Vn (N:=841) (Ns:=1690) (Nd:=1690) (Nx:=841) (vb:=fun _ _=>ε) (vb2:=fun _ _=>ε) L C (fun i j hi B=>(K i j hi (by rw[D i hi] at B;exact B)).vb aa) (fun i j hi B=>(I i j hi (by rw[F i hi] at B;exact B)).vb aa)
  ⟨aa,w1.1,w1.2,fun _ _ _ _=>rfl⟩ ⟨aa,w2.1,w2.2,fun _ _ _ _=>rfl⟩ D F aa K I aa (XL H RY) (fun _=>Xg P H RY (TH hn) aa aa)).mono ?_
 rintro e w' ⟨h|⟨_,G,RX,O,M⟩,J⟩
 .omega
 .exact⟨G,RX,O,M,J⟩
end
def Er(g A n c w)(hc:dh w g):
  CE 160 #[aN g 0,aO A n c,aJ] w (.slice A n c):=by
 have B:=Blk.cell hc;have l:=Blk.frozen hc;have j:Ext w (w.setCell ⟨g,0,δ⟩ (.int .i64 0)):=(Ext.refl w).stay hc rfl;have O:=hc.ext j;have C:=Blk.cell O;go_enter func160,ntmps160;go_wp2
 first
  |exact⟨rfl,j⟩
  |(go_ret;exact⟨rfl,j⟩)
def DK{P}(w F cs u)(j:(P.info? F).map (·.zero)=γ (γ (.agg cs))):(Instr.alloc F ε u).run P w=.ok (.pointer (γ (aM w.heap.size 0))) (w.alloc (.cells cs F)):=by
 cases hq:P.info? F with
 |none=>simp[hq] at j
 |some i=>
  have l:i.zero=γ (.agg cs):=by simpa[hq] using j
  simp[Instr.alloc,zeroValue,typeInfo,hq,l,aaD,newVar,newRow,Value.cells]
theorem gu{P ops rest op a w Q}(D:op.guard=δ)(F)(j:op.op=.alloc F)(cs)(l:(P.info? F).map (·.zero)=γ (γ (.agg cs)))(h:∀w',w'=w.alloc (.cells cs F)->wpList P ops Q rest (a.put op.dst (.pointer (γ (aM w.heap.size 0)))) w'):wpList P ops Q (op::rest) a w:=
 adQ D fun K I=>by
  unfold Oper.wp execOp;simp only[j,aaD,aa7,DK w F cs _ l,aax];exact I _ _ (h _ rfl)
def Dw:(prog.info? 100).map (·.zero)=γ (γ (.agg (bD 18 fun _=>zEn).toArray)):=ah
def KC:(prog.info? 222).map (·.zero)=γ (γ (.agg (ofC 18 fun _=> .int .i64 0))):=ah
structure tO (w:World) (C:Nat->Value) (A:Option Addr) (nb cb:Nat) (Bv:Nat->BrV) (brs:List BrD) (L:Nat->Bool):Prop where
 br:C 0=.slice A nb cb
 arr:Arr w A nb 20 (fun i=>(Bv i).cs)
 len:brs.length=nb
 ab:∀i,i<nb->(Bv i).a=(brs.getD i η).a/\(Bv i).b=(brs.getD i η).b
 z0:∀i,i<nb->GV w (Bv i).z0.v ((brs.getD i η).zs 0) 64
 z1:∀i,i<nb->GV w (Bv i).z1.v ((brs.getD i η).zs 1) 64
 e:∀i,i<nb->GV w (Bv i).e.v (GQ.i (brs.getD i η).emf 0) 64
 live:∀k,k<18->C (15+k)=.bool (L k)
 ok:∀b∈brs,gV b
 l23:brs.length<=23
structure Lp1 (w wr:World) (g8 g9 g10:Nat) (L:Nat->Bool) (i j:Nat):Prop where
 b8:Blk wr g8 100 (bD 18 fun _=>zEn).toArray
 b9:∃f:Nat->En,Blk wr g9 100 (bD 18 f).toArray/\∀k,k<i->GV wr (f k).v (GQ.i 0 0) 64
 b10:fP wr g10 222 18 (fun k=> .int .i64 (if k<j then (rwx L k:Nat) else 0:Int))
 x:Ext w wr
 l8:w.heap.size<=g8
 l9:w.heap.size<=g9/\g8<g9
 l10:w.heap.size<=g10/\g9<g10
section
variable {w wr wr':World} {g8 g9 g10:Nat} {L:Nat->Bool} {i j:Nat}
def Lp1.ext(h:Lp1 w wr g8 g9 g10 L i j)(x:Ext wr wr'):Lp1 w wr' g8 g9 g10 L i j:=by
 obtain⟨f,C,B⟩:=h.b9;exact⟨h.b8.ext x,⟨f,C.ext x,fun k l=>(B k l).ext x⟩,h.b10.ext x,h.x.trans x,h.l8,h.l9,h.l10⟩
def Lp1.there(h:Lp1 w wr g8 g9 g10 L i j){k}(B:k<18):wr.there g9 (k*6) 6:=by
 obtain⟨f,l,_⟩:=h.b9;exact l.there AbV
def Lp1.put(h:Lp1 w wr g8 g9 g10 L i j)(hi:i<18){e:En}(O:GV wr e.v (GQ.i 0 0) 64)(F:wr'=puts wr g9 (i*6) e.cells):Lp1 w wr' g8 g9 g10 L (i+1) j:=by
 subst F;obtain⟨f,D,G⟩:=h.b9;have l:Mod (fun k=>k=g9) wr (puts wr g9 (i*6) e.cells):=Mod.only (gP _ _ _ _) rfl;have hS:Far (fun k=>k=g9) wr:=fun k B _=>by
  obtain rfl:k=g9:=B;exact⟨_,_,D,dI _ _⟩
 have l9:=h.l9;have l10:=h.l10;refine⟨h.b8.mod l (by show ¬g8=g9;omega),⟨upd f i e,?_,fun k B=> ?_⟩,h.b10.mod l (by show ¬g10=g9;omega),fQ h.x l (fun k B=>by have B:k=g9:=B;omega),h.l8,h.l9,h.l10⟩
 .rw[<-ou e hi];exact dm _ _ D
 .by_cases C:k=i
  .subst C;rw[upd_same];exact O.mod l hS
  .rw[upd_ne C];exact(G k aa).mod l hS
theorem Lp1.skip(h:Lp1 w wr g8 g9 g10 L i j)(C:L j=ζ):Lp1 w wr g8 g9 g10 L i (j+1):=
 ⟨h.b8,h.b9,h.b10.congr (fun k _=>by
  by_cases l:k<j
  .rw[ι l,ι aa]
  .by_cases B:k=j
   .subst B;rw[θ aa,ι aa];unfold rwx;rw[C];rfl
   .rw[θ l,θ aa]),h.x,h.l8,h.l9,h.l10⟩
theorem Lp1.row(h:Lp1 w wr g8 g9 g10 L i j)(F:j<18)(G:L j=ε):Lp1 w (wr.setCell ⟨g10,j,δ⟩ (.int .i64 (cnt L j:Nat))) g8 g9 g10 L i (j+1):=by
 have B:Mod (fun k=>k=g10) wr (wr.setCell ⟨g10,j,δ⟩ (.int .i64 (cnt L j:Nat))):=Mod.set _ _ _ _ rfl;have l9:=h.l9;have l10:=h.l10;have hS:iq (fun k=>k=g10) wr:=afl h.b10 (fun k _=>rfl) (fun k l=>l);obtain⟨f,D,C⟩:=h.b9;refine⟨h.b8.mod B (by show ¬g8=g10;omega),⟨f,D.mod B (by show ¬g9=g10;omega),fun k l=>(C k l).fM B hS⟩,(h.b10.set _ F).congr (fun k _=> ?_),fQ h.x B (fun k l=>by have l:k=g10:=l;omega),h.l8,h.l9,h.l10⟩;by_cases C:k=j
 .subst C;rw[upd_same,ι aa];unfold rwx;rw[ι G]
 .rw[upd_ne C];by_cases D:k<j
  .rw[ι D,ι aa]
  .rw[θ D,θ aa]
end
def W9{L i}(h:L i=ε):((cnt L (i+1):Nat):Int)=(cnt L i:Nat)+1:=by
 show((cnt L i+(if L i=ε then 1 else 0):Nat):Int)=_;rw[ι h];rfl
def Tg{L i}(h:L i=ζ):cnt L (i+1)=cnt L i:=by
 show cnt L i+(if L i=ε then 1 else 0)=_;rw[h];rfl
def jI (L:Nat->Bool):List Value:=(List.range 18).map fun k=>Value.bool (L k)
def uW{w C A nb B Bv brs L}(h:tO w C A nb B Bv brs L){j v}(hv:(jI L)[j]? =γ v):C (15+j)=v:=by
 have l:j<18:=by have:=(μ.1 hv).1;simpa[jI] using this
 rw[h.live j l];have e:(jI L)[j]? =γ (.bool (L j)):=by simp[jI,z8,aaA l]
 rw[e] at hv;injection hv
def vH:(prog.info? 99).map (·.size)=γ (18:Nat):=ah
def RF{L}{k:Nat}(j:k<18)(w):Sem.run prog (Instr.index 99 (.agg (jI L).toArray) (.int .i64 (k:Int))) w=.ok (.bool (L k)) w:=by
 have B:(0:Int)<=k:=aa;have l:(k:Int)<18:=aa;have h:(jI L)[k]? =γ (.bool (L k)):=by simp[jI,z8,aaA j]
 simp[Instr.index,abg abE,asIntOf,go_sem,isAgg4,sizeOf4,part,h,j]
def xJ:(prog.info? 167).map (·.size)=γ (20:Nat):=ah
def WJ:List Value:=[.int .i64 0,.int .i64 0,.bool ζ,.slice δ 0 0,.bool ζ,.slice δ 0 0,.bool ζ,.slice δ 0 0,.bool ζ,.slice δ 0 0,.bool ζ,.slice δ 0 0,.bool ζ,.slice δ 0 0,.bool ζ,.slice δ 0 0,.bool ζ,.slice δ 0 0,.bool ζ,.slice δ 0 0]
def zBr:Array Value:=WJ.toArray
def MH:(prog.info? 167).map (·.zero)=γ (γ (.agg zBr)):=ah
theorem yJ(b:BrV):∀v∈b.cs,v.oneCell'=ε:=by
 intro v hv;unfold BrV.cs at hv;simp only[lh,I6,aaM] at hv;rcases hv with rfl|rfl|rfl|rfl|rfl|rfl|rfl|rfl|rfl|rfl|rfl|rfl|rfl|rfl|rfl|rfl|rfl|rfl|rfl|rfl<;>rfl
def iA(l B:List Value)(h:l.length=B.length):gI l.toArray 0 B=B.toArray:=by
 rw[jL,abh,aaX,χ aa,adm aa,Z6]
def Rt{w g}{b:BrV}(h:Blk w g 167 zBr):Blk (puts w g 0 b.cs) g 167 b.cs.toArray:=by
 have j:Blk (puts w g 0 b.cs) g 167 (gI WJ.toArray 0 b.cs):=dm 0 b.cs h;rw[iA WJ b.cs rfl] at j;exact j
def CO{α:Type}[Inhabited α]{l:List α}{i}(h:i<l.length):l.getD i η∈l:=by
 rw[σ,ν h];exact abq _
def Ld:(prog.info? 222).map (·.size)=γ (18:Nat):=ah
def Lp1.rng{w wr g8 g9 g10 L i}(h:Lp1 w wr g8 g9 g10 L i 18):wr.rangeAt g10 0 ((List.range 18).map fun k=>Value.int .i64 (rwx L k:Nat)):=by
 intro j v hv;have l:j<18:=by have:=(μ.1 hv).1;simpa using this
 rw[aan];refine h.b10.cell_ l ?_;have e:((List.range 18).map fun k=>Value.int .i64 ((rwx L k:Nat):Int))[j]? =γ (.int .i64 (rwx L j:Nat)):=by simp[z8,aaA l]
 rw[e] at hv;injection hv with hv;rw[<-hv];simp only[ι l]
def Rws (n:Nat) (R:Nat->Rw):Nat->Prop:=fun g=>∃i,i<n/\g=(R i).b
structure Lp2 (w wr:World) (g8 g9 g10 Ga Gb:Nat) (L:Nat->Bool) (n:Nat) (Ra Rb:Nat->Rw) (X Y:Nat->Nat->GQ):Prop where
 p1:Lp1 w wr g8 g9 g10 L 18 18
 a:MxI wr Ga n n (Rws n Ra) Ra X
 b:MxI wr Gb n 1 (Rws n Rb) Rb Y
 own:∀k,Rws n Ra k\/Rws n Rb k->w.heap.size<=k/\g10<k/\k≠Ga/\k≠Gb
 dj:∀k,Rws n Ra k->¬Rws n Rb k
section
variable {w wr wr':World} {g8 g9 g10 Ga Gb:Nat} {L:Nat->Bool} {n i j:Nat} {Ra Rb:Nat->Rw} {X Y X' Y':Nat->Nat->GQ}
def Lp1.mod{S}(h:Lp1 w wr g8 g9 g10 L i j)(m:Mod S wr wr')(hS:Far S wr)(l:∀k,S k->w.heap.size<=k/\g10<k):Lp1 w wr' g8 g9 g10 L i j:=by
 obtain⟨f,D,C⟩:=h.b9;have l9:=h.l9;have l10:=h.l10;have G:¬S g8:=fun e=>by have:=(l _ e).2;omega
 have F:¬S g9:=fun e=>by have:=(l _ e).2;omega
 have K:¬S g10:=fun e=>by have:=(l _ e).2;omega
 exact⟨h.b8.mod m G,⟨f,D.mod m F,fun k B=>(C k B).mod m hS⟩,h.b10.mod m K,fQ h.x m (fun k B=>(l k B).1),h.l8,h.l9,h.l10⟩
def Lp2.far(h:Lp2 w wr g8 g9 g10 Ga Gb L n Ra Rb X Y):Far (fun k=>Rws n Ra k\/Rws n Rb k) wr:=by
 intro g j _;rcases j with ⟨i,hi,rfl⟩|⟨i,hi,rfl⟩
 .obtain⟨f,hb,_⟩:=(h.a.row i hi aa).2;exact⟨_,_,hb,dI _ _⟩
 .obtain⟨f,hb,_⟩:=(h.b.row i hi aa).2;exact⟨_,_,hb,dI _ _⟩
def Lp2.ext(h:Lp2 w wr g8 g9 g10 Ga Gb L n Ra Rb X Y)(x:Ext wr wr'):Lp2 w wr' g8 g9 g10 Ga Gb L n Ra Rb X Y:=⟨h.p1.ext x,h.a.ext x,h.b.ext x,h.own,h.dj⟩
def Lp2.step(h:Lp2 w wr g8 g9 g10 Ga Gb L n Ra Rb X Y)(ha:MxI wr' Ga n n (Rws n Ra) Ra X')(hb:MxI wr' Gb n 1 (Rws n Rb) Rb Y')(l:Mod (fun k=>Rws n Ra k\/Rws n Rb k) wr wr'):Lp2 w wr' g8 g9 g10 Ga Gb L n Ra Rb X' Y':=
 ⟨h.p1.mod l h.far (fun k j=>⟨(h.own k j).1,(h.own k j).2.1⟩),ha,hb,h.own,h.dj⟩
def agn{C H}(h:Lp1 w wr g8 g9 g10 L 18 18)(ha:DI wr C Ga n n n (fun _ _=>GQ.i 0 0) Ra)(hb:DI C H Gb n 1 n (fun _ _=>GQ.i 0 0) Rb):Lp2 w H g8 g9 g10 Ga Gb L n Ra Rb zmx (fun _ _=>GQ.i 0 0):=by
 have K:=h.b10.lt;have J:=h.x.size;have la (i:Nat) (hi:i<n):(Ra i).b<C.heap.size:=by
  obtain⟨f,B,_⟩:=(ha.row i hi).2.1;exact B.lt
 have l:Ga<C.heap.size:=ha.o.lt;refine⟨(h.ext ha.ext).ext hb.ext,ha.mx hb.ext,hb.mx (Ext.refl _),fun k F=> ?_,fun k F D=> ?_⟩
 .rcases F with ⟨i,hi,rfl⟩|⟨i,hi,rfl⟩
  .have G:=(ha.row i hi).2.2;have I:=la i hi;have O:=hb.gx;refine⟨aa,aa,fun e=> ?_,aa⟩;obtain⟨f,B,_⟩:=(ha.row i hi).2.1;exact ha.o.eY B aj e.symm
  .have G:=(hb.row i hi).2.2;have N:=ha.ext.size;refine⟨aa,aa,aa,fun e=> ?_⟩;obtain⟨f,B,_⟩:=(hb.row i hi).2.1;exact hb.o.eY B aj e.symm
 .obtain⟨i,hi,rfl⟩:=F;obtain⟨j,M,e⟩:=D;have G:=la i hi;have I:=(hb.row j M).2.2;omega
end
theorem PM{w wq gx gf sq nb Q C A Bv brs g8 g9 g10 Ga Gb n i Ra Rb}(hn:tO w C A nb Q Bv brs (lv brs))(hc:dh wq gf)(h:Lp2 w wq g8 g9 g10 Ga Gb (lv brs) n Ra Rb (eqA (lv brs) sq brs i) (eqB (lv brs) sq brs i))(V:cnt (lv brs) 18=n)(hi:i<brs.length)(J:used (lv brs) (brs.getD i η)=ε)(G:sq<=1)(j:gf<w.heap.size):
  Calls prog 158 #[aN gx 0,aN gf 0,aO (γ (aM Ga 0)) n n,aO (γ (aM Gb 0)) n n,.agg (ofC 18 (fun k=> .int .i64 (rwx (lv brs) k:Nat))),.agg #[((Bv i).a:Int),((Bv i).b:Int),.bool (Bv i).z0.s1,aO (Bv i).z0.A1 (Bv i).z0.n1 (Bv i).z0.c1,.bool (Bv i).z0.s2,aO (Bv i).z0.A2 (Bv i).z0.n2 (Bv i).z0.c2,.bool (Bv i).z0.s3,aO (Bv i).z0.A3 (Bv i).z0.n3 (Bv i).z0.c3,.bool (Bv i).z1.s1,aO (Bv i).z1.A1 (Bv i).z1.n1 (Bv i).z1.c1,.bool (Bv i).z1.s2,aO (Bv i).z1.A2 (Bv i).z1.n2 (Bv i).z1.c2,.bool (Bv i).z1.s3,aO (Bv i).z1.A3 (Bv i).z1.n3 (Bv i).z1.c3,.bool (Bv i).e.s1,aO (Bv i).e.A1 (Bv i).e.n1 (Bv i).e.c1,.bool (Bv i).e.s2,aO (Bv i).e.A2 (Bv i).e.n2 (Bv i).e.c2,.bool (Bv i).e.s3,aO (Bv i).e.A3 (Bv i).e.n3 (Bv i).e.c3],(sq:Int)] wq
   fun e w'=>e=.returned (.tuple #[])/\Lp2 w w' g8 g9 g10 Ga Gb (lv brs) n Ra Rb (eqA (lv brs) sq brs (i+1)) (eqB (lv brs) sq brs (i+1)):=by
 have T:=hn.len;have M:brs.getD i η∈brs:=CO hi;have D:=hn.ok _ M;have l:=hn.ab i aa;have N:=Dq hn.ok;have B:=J;unfold used at B;simp only[ρ,Θ] at B;have I:Rwx (lv brs) (rwx (lv brs)) n:=V ▸ afe (fun k F=>vM hn.ok F);have P:GV wq ((Bv i).z sq).v ((brs.getD i η).zs sq) 64:=by
  have hs:sq=0\/sq=1:=aa;rcases hs with rfl|rfl
  .exact(hn.z0 i aa).ext h.p1.x
  .exact(hn.z1 i aa).ext h.p1.x
 have K:(Bv i).b=17\/(Bv i).b<17/\rwx (lv brs) (Bv i).b<n/\rwx (lv brs) (Bv i).a≠rwx (lv brs) (Bv i).b:=by
  by_cases e:(Bv i).b=17
  .exact Or.inl e
  .have hb:lv brs (brs.getD i η).b=ε:=(N.closed _ M (Or.inr (Or.inl B.1))).2 (by rw[<-l.2];exact e);refine Or.inr ⟨by rw[l.2];exact vM hn.ok hb,by rw[l.2];exact I.lt _ hb,fun L=> ?_⟩;rw[l.1,l.2] at L;exact B.2 (I.inj _ _ B.1 hb L)
 have W:=hn.l23;refine(UQ gx gf Ga Gb n sq (64+110*i) 40 64 (64+110*i) 64 (Rws n Ra) (Rws n Rb) Ra Rb (eqA (lv brs) sq brs i) (eqB (lv brs) sq brs i) (rwx (lv brs)) (Bv i) ((brs.getD i η).zs sq) (GQ.i (brs.getD i η).emf 0) wq hc h.a h.b
  (fun k F=>⟨by have:=(h.own k F).1;omega,(h.own k F).2.2.1,(h.own k F).2.2.2⟩) h.dj G P (D.ne sq) ((hn.e i aa).ext h.p1.x) (by rw[l.1];exact D.a) (by rw[l.1];exact I.lt _ B.1) K (Wp D sq)
  (fun p q _ _=>Rf hn.ok i aa p q) (fun p _=>QL hn.ok i aa p 0) aa aa aa aa aa).mono ?_
 rintro e w' ⟨O,ha,hb,H⟩;refine⟨O,h.step ?_ ?_ H⟩
 .rw[Q7 hi J];rw[l.1,l.2] at ha;exact ha
 .refine hb.congr (fun p q _ _=> ?_);rw[Sm hi J,l.1,l.2]
def Lj{D wd j B n r Rc}(hd:DI D wd B n 1 n (fun _ _=>GQ.i 0 0) Rc)(x:Ext wd j)(C:r<n):j.there (Rc r).b 0 6:=by
 obtain⟨f,l,_⟩:=(hd.row r C).2.1;exact(l.ext x).there AbV
def Sy{w D wd F B g8 g9 g10 Ga G n r L Pa Ra Rc X}(p1:Lp1 w D g8 g9 g10 L 18 18)(ha:MxI D Ga n n Pa Ra X)(hd:DI D wd G n 1 n (fun _ _=>GQ.i 0 0) Rc)(x:Ext wd F)(I:r<n){e:En}(O:GV F e.v (GQ.i 1 0) 64)(M:B=puts F (Rc r).b 0 e.cells):Lp1 w B g8 g9 g10 L 18 18/\MxI B Ga n n Pa Ra X/\MxI B G n 1 (Rws n Rc) Rc (col (unit r)):=by
 have N:=hd.mx x;have T:=hd.ext.trans x;obtain⟨H,C,J,_⟩:=N.put (j:=0) I aa (O.up aa);rw[aaV,<-M] at H C;have P:=(hd.row r I).2.2;have l10:=p1.b10.lt;have lx:=p1.x.size;refine⟨(p1.ext T).mod C J (fun k l=> ?_),(ha.ext T).mod C J (fun l=> ?_) (fun j K hn l=> ?_),H.congr (fun i j hi K=> ?_)⟩
 .have l:k=(Rc r).b:=l;omega
 .have l:Ga=(Rc r).b:=l;have:=ha.o.lt;omega
 .have l:(Ra j).b=(Rc r).b:=l;have:=ha.rb K hn;omega
 .obtain rfl:j=0:=aa;by_cases e:i=r
  .subst e;rw[upd_same,upd_same];simp[col,unit]
  .rw[upd_ne e];simp[col,unit,e]
structure Lp3 (w wr:World) (g8 g9 g10 G:Nat) (L:Nat->Bool) (n:Nat) (RX:Nat->Rw) (X:Nat->Nat->GQ) (i:Nat):Prop where
 b8:Blk wr g8 100 (bD 18 fun _=>zEn).toArray
 b9:∃f:Nat->En,Blk wr g9 100 (bD 18 f).toArray/\∀k,k<18->GV wr (f k).v (if k<i then (if L k=ε then X (rwx L k) 0 else GQ.i 0 0) else GQ.i 0 0) 12800
 b10:fP wr g10 222 18 (fun k=> .int .i64 (if k<18 then (rwx L k:Nat) else 0:Int))
 x:Ext w wr
 l8:w.heap.size<=g8
 l9:w.heap.size<=g9/\g8<g9
 l10:w.heap.size<=g10/\g9<g10
 o:Out wr G n 1 RX X
section
variable {w wr wr':World} {g8 g9 g10 G n i:Nat} {L:Nat->Bool} {RX:Nat->Rw} {X:Nat->Nat->GQ}
def afL(h:Lp1 w wr g8 g9 g10 L 18 18)(l:Out wr G n 1 RX X):Lp3 w wr g8 g9 g10 G L n RX X 0:=by
 obtain⟨f,C,B⟩:=h.b9;exact⟨h.b8,⟨f,C,fun k j=>by rw[θ aa];exact(B k j).up aa⟩,h.b10,h.x,h.l8,h.l9,h.l10,l⟩
def Lp3.skip(h:Lp3 w wr g8 g9 g10 G L n RX X i)(F:L i=ζ):Lp3 w wr g8 g9 g10 G L n RX X (i+1):=by
 obtain⟨f,D,C⟩:=h.b9;refine⟨h.b8,⟨f,D,fun k B=> ?_⟩,h.b10,h.x,h.l8,h.l9,h.l10,h.o⟩;have j:=C k B;by_cases e:k=i
 .subst e;rw[θ aa] at j;rw[ι aa,F];exact j
 .by_cases l:k<i
  .rw[ι l] at j;rw[ι aa];exact j
  .rw[θ l] at j;rw[θ aa];exact j
theorem Lp3.hd(h:Lp3 w wr g8 g9 g10 G L n RX X i){r}(j:r<n):wr.cell? (aM G r)=γ (.slice (γ (aM ((RX r).b) 0)) (1:Nat) (1:Nat)):=by
 obtain⟨B,l,C,_⟩:=h.o.row r j;rw[h.o.x.cell,jf j];unfold Rw.v;rw[B,l,C]
def Lp3.en(h:Lp3 w wr g8 g9 g10 G L n RX X i){r}(l:r<n):∃e:En,GV wr e.v (X r 0) 12800/\∀t u,e.cells[t]? =γ u->wr.cell? (aM ((RX r).b) t)=γ u:=by
 obtain⟨f,hb,J⟩:=(h.o.row r l).2.2.2;refine⟨f 0,J 0 aa,fun t u j=> ?_⟩;have B:t<6:=(μ.1 j).1;have:=dP (f:=f) B (show 0<1 by omega);exact Abr
def Lp3.there(h:Lp3 w wr g8 g9 g10 G L n RX X i){k}(l:k<18):wr.there g9 (k*6) 6:=by
 obtain⟨f,j,_⟩:=h.b9;exact j.there AbV
def Lp3.put(h:Lp3 w wr g8 g9 g10 G L n RX X i)(hi:i<18)(M:L i=ε){e:En}(O:GV wr e.v (X (rwx L i) 0) 12800)(N:wr'=puts wr g9 (i*6) e.cells):Lp3 w wr' g8 g9 g10 G L n RX X (i+1):=by
 subst N;obtain⟨f,D,J⟩:=h.b9;have j:Mod (fun k=>k=g9) wr (puts wr g9 (i*6) e.cells):=Mod.only (gP _ _ _ _) rfl;have hS:Far (fun k=>k=g9) wr:=fun k l _=>by
  obtain rfl:k=g9:=l;exact⟨_,_,D,dI _ _⟩
 have l9:=h.l9;have l10:=h.l10;refine⟨h.b8.mod j (by show ¬g8=g9;omega),⟨upd f i e,?_,fun k l=> ?_⟩,h.b10.mod j (by show ¬g10=g9;omega),fQ h.x j (fun k l=>by have l:k=g9:=l;omega),h.l8,h.l9,h.l10,h.o.x.mod j (fun B=>h.o.x.eY D aj B),fun r P=> ?_⟩
 .rw[<-ou e hi];exact dm _ _ D
 .by_cases C:k=i
  .subst C;rw[upd_same,ι aa,ι M];exact O.mod j hS
  .rw[upd_ne C];have F:=(J k l).mod j hS;by_cases B:k<i
   .rw[ι B] at F;rw[ι aa];exact F
   .rw[θ B] at F;rw[θ aa];exact F
 .obtain⟨Q,R,K,I⟩:=h.o.row r P;refine⟨Q,R,K,I.mod j hS (fun B=> ?_)⟩;obtain⟨S,H,_⟩:=I;exact H.eY D aj B
def ul(f):(prog.info? 100).map (·.size)=γ (bD 18 f).length:=by rw[bN];kernel_rfl
def NY(f):(prog.info? 100).map (·.size)=γ (bD 18 f).toArray.size:=by rw[Ad];exact ul f
def Lp3.fin(h:Lp3 w wr g8 g9 g10 G L n RX X 18){f}(hb:Blk wr g9 100 (bD 18 f).toArray)(hv:∀k,k<18->GV wr (f k).v (if k<18 then (if L k=ε then X (rwx L k) 0 else GQ.i 0 0) else GQ.i 0 0) 12800)(C:wr'=puts wr g8 0 (bD 18 f)):
  Blk wr' g8 100 (bD 18 f).toArray/\Ext w wr'/\∀k,k<18->GV wr' (f k).v (if L k=ε then X (rwx L k) 0 else GQ.i 0 0) 12800:=by
 subst C;have l:Mod (fun k=>k=g8) wr (puts wr g8 0 (bD 18 f)):=Mod.only (gP _ _ _ _) rfl;have hS:Far (fun k=>k=g8) wr:=fun k j _=>by
  obtain rfl:k=g8:=j;exact⟨_,_,h.b8,dI _ _⟩
 have l8:=h.l8;refine⟨?_,fQ h.x l (fun k j=>by have j:k=g8:=j;omega),fun k j=> ?_⟩
 .have:=dm 0 (bD 18 f) h.b8;exact Abu
 .have B:=(hv k j).mod l hS;rw[ι j] at B;exact B
end
def TL{brs sq n k v}(hb:∀b∈brs,gV b)(Z:brs.length<=23)(hv:DU (rwx (lv brs)) (usd (lv brs) sq brs) v)(V:cnt (lv brs) 18=n)(j:k<18):
  Bd (if lv brs k=ε then sol n (fq zmx ((usd (lv brs) sq brs).map (Nb.br (rwx (lv brs))))) (col v) (rwx (lv brs) k) 0 else GQ.i 0 0) 841:=by
 by_cases h:lv brs k=ε
 .rw[ι h];exact LU hb Z hv V (by rw[<-V];exact(afe (fun k j=>vM hb j)).lt _ h)
 .rw[θ h];exact Aa5
def fO (C:Nat->Value) (E:Nat->En) (i:Nat):Value:=if i<33 then C i else ((E ((i-33)/6)).cells[(i-33)%6]?).getD undef
theorem dR{C E i}(h:i<33):fO C E i=C i:=by unfold fO;rw[ι h]
theorem ru{C E e t u}(h:(E e).cells[t]? =γ u):fO C E (33+e*6+t)=u:=by
 have j:t<6:=(μ.1 h).1;unfold fO;rw[θ aa,show(33+e*6+t-33)/6=e by omega,show(33+e*6+t-33)%6=t by omega,h];rfl
def sQ(e:En):e.cells.length=6:=rfl
theorem LA{C E e}(x i):FX (fO C E) (33+e*6) x.cells i=fO C (upd E e x) i:=by
 by_cases h:33+e*6<=i/\i<33+e*6+6
 .obtain⟨t,rfl⟩:∃t,i=33+e*6+t:=⟨i-(33+e*6),aa⟩;have B:t<6:=aa;have l:x.cells[t]? =γ (x.cells[t]'Abk):=ν _;rw[ru (E:=upd E e x) (u:=x.cells[t]'Abk) (by rw[upd_same];exact l)];exact M9 _ l
 .rw[FU _ Abk];unfold fO;by_cases j:i<33
  .rw[ι j,ι j]
  .rw[θ j,θ j,upd_ne aa]
theorem qh{C E}(Y:∀i,i<33->nY (C i)=ε)(i):nY (fO C E i)=ε:=by
 unfold fO;by_cases h:i<33
 .rw[ι h];exact Y i h
 .rw[θ h];have:(i-33)%6<6:=pz _ aa;generalize (i-33)%6=t at this
  match t,this with
  |0,_=>rfl
  |1,_=>rfl
  |2,_=>rfl
  |3,_=>rfl
  |4,_=>rfl
  |5,_=>rfl
structure GrS (w0 w:World) (gx gf:Nat) (C:Nat->Value) (E:Nat->En) (D:Nat->Prop) (Q:Nat->GQ) (N:Nat):Prop where
 b:fP w gx 105 393 (fO C E)
 v:∀e,e<60->D e->GV w (E e).v (Q e) N
 m:Mod (fun k=>k=gx) w0 w
 f:dh w gf
 n:∀i,i<33->nY (C i)=ε
section
variable {w0 w w':World} {gx gf N:Nat} {C:Nat->Value} {E:Nat->En} {D D':Nat->Prop} {Q Q':Nat->GQ}
def GrS.ext(h:GrS w0 w gx gf C E D Q N)(x:Ext w w'):GrS w0 w' gx gf C E D Q N:=⟨h.b.ext x,fun e O hd=>(h.v e O hd).ext x,h.m.trans (ae1 x),h.f.ext x,h.n⟩
def GrS.far(h:GrS w0 w gx gf C E D Q N):iq (fun k=>k=gx) w:=afl h.b (fun k _=>qh h.n k) (fun k j=>j)
def GrS.there(h:GrS w0 w gx gf C E D Q N){e}(O:e<60):w.there gx (33+e*6) 6:=h.b.there aa
def GrS.to(h:GrS w0 w gx gf C E D Q N)(hd:∀e,e<60->D' e->D e/\Q e=Q' e):GrS w0 w gx gf C E D' Q' N:=
 ⟨h.b,fun e O hd'=>by rw[<-(hd e O hd').2];exact h.v e O (hd e O hd').1,h.m,h.f,h.n⟩
def GrS.Jg(h:GrS w0 w gx gf C E D Q N)(j:Mod (fun k=>k=gx) w w'){v q n}(hv:GV w v q n):GV w' v q n:=hv.fM j h.far
def GrS.put(h:GrS w0 w gx gf C E D Q N){e x q}(O:e<60)(J:GV w x.v q N)(F:w'=puts w gx (33+e*6) x.cells):
  GrS w0 w' gx gf C (upd E e x) (fun k=>k=e\/D k) (upd Q e q) N/\Mod (fun k=>k=gx) w w':=by
 have l:Mod (fun k=>k=gx) w w':=by rw[F];exact Mod.puts _ _ _ _ rfl
 have B:gf≠gx:=Blk.eY h.f h.b aj;refine⟨⟨?_,fun k G hd=> ?_,h.m.trans l,Blk.mod h.f l B,h.n⟩,l⟩
 .rw[F];exact(h.b.puts x.cells Abk).congr (fun k _=>LA x k)
 .by_cases j:k=e
  .subst j;rw[upd_same,upd_same];exact J.fM l h.far
  .rw[upd_ne j,upd_ne j];exact(h.v k G (hd.resolve_left j)).fM l h.far
end
theorem Arr.mod{S w w' A n k f}(h:Arr w A n k f)(m:Mod S w w')(l:∀b o,A=γ ⟨b,o,δ⟩->¬S b):Arr w' A n k f:=fun hn=>by
 obtain⟨b,o,e,hb,hc⟩:=h hn;exact⟨b,o,e,ο hb m.size,fun i hi t u B=>(by
  have j:=hc i hi t u B;unfold World.cell? at j⊢;simp only[m.block b hb (l b o e)];exact j)⟩
def tO.mod{w w' gx C C' A nb l Bv brs L}(h:tO w C A nb l Bv brs L)(m:Mod (fun k=>k=gx) w w')(j:iq (fun k=>k=gx) w)(D:∀b o,A=γ ⟨b,o,δ⟩->b≠gx)(Y:∀i,i<33->C' i=C i):tO w' C' A nb l Bv brs L:=
 ⟨by rw[Y 0 aa];exact h.br,h.arr.mod m D,h.len,h.ab,fun i hi=>(h.z0 i hi).fM m j,fun i hi=>(h.z1 i hi).fM m j,fun i hi=>(h.e i hi).fM m j,fun k B=>by rw[Y _ aa];exact h.live k B,h.ok,h.l23⟩
def bJ{P ops rest op a w Q}(D:op.guard=δ)(F)(j:op.op=.alloc F)(cs)(l:(P.info? F).map (·.zero)=γ (γ (.agg cs)))(h:∀w',Hid (w'=w.alloc (.cells cs F))->wpList P ops Q rest (a.put op.dst (.pointer (γ (aM w.heap.size 0)))) w'):wpList P ops Q (op::rest) a w:=gu D F j cs l (fun w' e=>h w' (aW e))
def bf{P ops rest op a w Q}(D:op.guard=δ)(F)(x y:Operand)(B:op.op=.store F x y)(b o cells)(J:a.eval x=.pointer (γ (aM b o)))(R:a.eval y=.agg cells.toArray)(j:w.there b o cells.length)(hi:(P.info? F).map (·.size)=γ cells.length)(l:∀v∈cells,v.oneCell'=ε)(h:∀w',Hid (w'=puts w b o cells)->wpList P ops Q rest (a.put op.dst undef) w'):wpList P ops Q (op::rest) a w:=bF D F x y B b o cells J R j hi l (fun w' e=>h w' (aW e))
def fZ(w:World)(o:Obj):(w.alloc o).heap.size=w.heap.size+1:=ag
def uS:(prog.info? 102).map (·.zero)=γ (γ (.agg (bD 3 fun _=>zEn).toArray)):=ah
def jV(f):(prog.info? 102).map (·.size)=γ (bD 3 f).length:=by rw[bN];kernel_rfl
def pG(f):(prog.info? 102).map (·.size)=γ (bD 3 f).toArray.size:=by rw[Ad];exact jV f
def Blk.rng{w g t cs}(h:Blk w g t cs.toArray):w.rangeAt g 0 cs:=fun t v hv=>by
 rw[aan];exact(h.cell t).trans (by rw[Γ];exact hv)
def fP.en{w gx e C E}(h:fP w gx 105 393 (fO C E))(O:e<60){a}(ha:a=33+e*6):w.rangeAt gx a (E e).cells:=fun t v hv=>by
 subst ha;exact h.cell_ (by have:=(μ.1 hv).1;rw[sQ] at this;omega) (ru hv)
structure AtS (w wr:World) (n:Nat) (t:TypeId) (g4 g5:Nat) (f:Nat->En):Prop where
 b4:Blk wr g4 t (bD n fun _=>zEn).toArray
 b5:Blk wr g5 t (bD n f).toArray
 x:Ext w wr
 l4:w.heap.size<=g4
 l5:g4<g5
section
variable {w w1 w2 wr wr':World} {g4 g5 n:Nat} {t:TypeId} {f f':Nat->En}
def afM(x:Ext w w1)(j:w2=(w1.alloc (.cells (bD n fun _=>zEn).toArray t)).alloc (.cells (bD n fun _=>zEn).toArray t)):AtS w w2 n t w1.heap.size (w1.heap.size+1) (fun _=>zEn):=by
 subst j;exact⟨(Blk.new _ _ _).alloc _,by have:=Blk.new (w1.alloc (.cells (bD n fun _=>zEn).toArray t)) t (bD n fun _=>zEn).toArray;simpa using this,(x.trans (Ext.new _ _)).trans (Ext.new _ _),x.size,abp _⟩
def AtS.ext(h:AtS w wr n t g4 g5 f)(x:Ext wr wr'):AtS w wr' n t g4 g5 f:=⟨h.b4.ext x,h.b5.ext x,h.x.trans x,h.l4,h.l5⟩
def AtS.to(h:AtS w wr n t g4 g5 f)(j:∀k,k<n->f k=f' k):AtS w wr n t g4 g5 f':=⟨h.b4,by rw[<-BJ j];exact h.b5,h.x,h.l4,h.l5⟩
def AtS.there(h:AtS w wr n t g4 g5 f){i}(hi:i<n):wr.there g5 (i*6) 6:=h.b5.there AbV
def AtS.far(h:AtS w wr n t g4 g5 f):Far (fun k=>k=g5) wr:=fun k j _=>by
 obtain rfl:k=g5:=j;exact⟨_,_,h.b5,dI _ _⟩
def AtS.put(h:AtS w wr n t g4 g5 f){i a}(hi:i<n)(e)(ha:a=i*6)(B:wr'=puts wr g5 a e.cells):AtS w wr' n t g4 g5 (upd f i e)/\Mod (fun k=>k=g5) wr wr':=by
 subst B;subst ha;have j:Mod (fun k=>k=g5) wr (puts wr g5 (i*6) e.cells):=Mod.puts _ _ _ _ rfl;have l4:=h.l4;have l5:=h.l5;refine⟨⟨h.b4.mod j (by show ¬g4=g5;omega),?_,fQ h.x j (fun k l=>by have l:k=g5:=l;omega),h.l4,h.l5⟩,j⟩;have:=dm (i*6) e.cells h.b5;rw[ou e hi] at this;exact this
def AtS.fin(h:AtS w wr n t g4 g5 f)(B:wr'=puts wr g4 0 (bD n f)):Blk wr' g4 t (bD n f).toArray/\Ext w wr'/\∀v q m,GV wr v q m->GV wr' v q m:=by
 subst B;have l:Mod (fun k=>k=g4) wr (puts wr g4 0 (bD n f)):=Mod.puts _ _ _ _ rfl;have l4:=h.l4;refine⟨?_,fQ h.x l (fun k j=>by have j:k=g4:=j;omega),fun v q m hv=>hv.mod l (fun k j _=>by
  obtain rfl:k=g4:=j;exact⟨_,_,h.b4,dI _ _⟩)⟩
 have:=dm 0 (bD n f) h.b4;exact Abu
end
def Xh(gx node:Nat)(C E w)(K:fP w gx 105 393 (fO C E))(hn:node<=17):
  CE 47 #[aN gx 0,(node:Int)] w (.agg (bD 3 fun k=>E (k*18+node)).toArray):=by
 have R:=aW K;have M:=aW hn;clear K hn;go_enter func47,ntmps47;(go_wp2_with (refine bJ rfl 102 rfl _ uS (fun w1 G=>Hid.o ?_)));refine Qz ?_;replace G:=Hid.o G;subst G;(go_wp2_with (refine bJ rfl 102 rfl _ uS (fun w2 G=>Hid.o ?_)));refine Qz ?_;replace G:=Hid.o G;have H:=aW (afM (n:=3) (t:=102) (Ext.refl w) G);clear G;(try simp only[fZ]);generalize w.heap.size+1=g5 at H⊢;generalize w.heap.size=g4 at H⊢;go_wp2_with fail
 go_loopw [7] (fun iv wr=>∃i:Nat,i<=3/\iv=.int .i64 i/\AtS w wr 3 102 g4 g5 (fun k=>if k<i then E (k*18+node) else zEn)) (aT 3)
 case atStart=>exact⟨0,aa,rfl,H.to (fun k _=>by rw[θ aa])⟩
 case round=>
  clear H;rename World=>wr;obtain⟨i,hi,rfl,P⟩:=hrel;have B:=aW P;clear P;by_cases D:i<3
  .have hd:decide ((i:Int)<3)=ε:=ae;have q1:(0:Int)<=i:=aa;have q2:(i:Int)<3:=aa;have U:(0:Int)<=node:=aa;have V:(node:Int)<18:=by have:=M.o;omega
   obtain⟨e,O⟩:∃e,E (i*18+node)=e:=⟨_,rfl⟩;have T:=aW O;have l:Hid (wr.rangeAt gx (33+i*108+node*6) e.cells):=aW (by rw[<-O];exact(R.ext B.x).en (e:=i*18+node) (by have:=M.o;omega) aa);have N:=aW (B.there D);clear O;(go_wp2_with (refine υ rfl 42 _ rfl gx (33+i*108+node*6) rf (e.cells) _ l.o abF rfl cu (Hid.o ?_)));refine Qz ?_;(iterate 3 (try (first|go_values|go_skip|go_guarded|go_step|go_upon|go_in|go_back|go_simp)));refine bf rfl 42 (.tmp 19) (.tmp 18) rfl g5 (i*6) (e.cells) rf rf N.o cu (eO e) (fun S G=> ?_);refine Qp ?_;replace G:=Hid.o G;have j:=aW ((B.put D e rfl G).1.to (f':=fun k=>if k<i+1 then E (k*18+node) else zEn) (fun k _=>by
    by_cases L:k=i
    .subst L;rw[upd_same,ι aa,T.o]
    .rw[upd_ne L];by_cases J:k<i
     .rw[ι J,ι aa]
     .rw[θ J,θ aa]))
   clear B l N G;go_wp2_with fail
   go_roundw
   case rel=>exact⟨i+1,aa,au,j.o⟩
   case measure=>exact aV
  .obtain rfl:i=3:=aa;have hd:decide ((3:Int)<3)=ζ:=aj;obtain⟨f,I⟩:∃f:Nat->En,(fun k=>E (k*18+node))=f:=⟨_,rfl⟩;have j:=aW (B.to (f':=f) (fun k Q=>by rw[ι Q,<-I]));have Y:=aW I;clear I B;have l:=aW j.b5.rng;have N:Hid (wr.there g4 0 (bD 3 f).length):=aW (j.b4.there AaG);(go_wp2_with (refine υ rfl 102 _ rfl g5 (0) rf (bD 3 f) _ l.o xx rfl (jV _) (Hid.o ?_)));refine Qz ?_;refine bf rfl 102 (.tmp 4) (.tmp 21) rfl g4 (0) (bD 3 f) rf rf N.o (jV _) (dX 3 _) (fun S G=> ?_);refine Qp ?_;replace G:=Hid.o G;have F:=aW (j.fin G);clear G;go_wp2_with fail;exact jM rfl rfl rf F.o.1 xx rfl (pG _) ⟨by rw[Y.o],F.o.2.1⟩
noncomputable def bef (bs:List BrD) (k:Nat):GQ:=oM (lv bs) (rwx (lv bs)) (cnt (lv bs) 18) (usd (lv bs) 1 bs) (feed (rwx (lv bs)) (usd (lv bs) 1 bs)) k
noncomputable def drp (bs:List BrD) (fN s k:Nat):GQ:=oM (lv bs) (rwx (lv bs)) (cnt (lv bs) 18) (usd (lv bs) s bs) (unit (rwx (lv bs) fN)) k
noncomputable def fcu (bs:List BrD) (fN:Nat) (kind r:Int) (n:Nat):GQ:=ng kind (bef bs fN) (drp bs fN 1 fN) (drp bs fN 0 fN) (GQ.i r 0) n
noncomputable def vbe (bs:List BrD) (n k:Nat):GQ:=if n=1 then bef bs k else GQ.i 0 0
noncomputable def vlt (bs:List BrD) (fN:Nat) (kind r:Int) (n k:Nat):GQ:=vbe bs n k-fcu bs fN kind r n*drp bs fN (min n 1) k
section
variable {bs:List BrD} {fN:Nat}
theorem PR(hb:∀b∈bs,gV b)(Z:bs.length<=23)(k):Bd (bef bs k) 841:=by
 unfold bef;by_cases h:lv bs k=ε
 .rw[pO h];exact LU hb Z (Or.inl rfl) rfl ((afe (fun k j=>vM hb j)).lt _ h)
 .rw[mH Aci];exact Aa5
theorem QO(hb:∀b∈bs,gV b)(Z:bs.length<=23)(s k):Bd (drp bs fN s k) 841:=by
 unfold drp;by_cases h:lv bs k=ε
 .rw[pO h];exact LU hb Z (Or.inr ⟨_,rfl⟩) rfl ((afe (fun k j=>vM hb j)).lt _ h)
 .rw[mH Aci];exact Aa5
def WF(hb:∀b∈bs,gV b)(Z:bs.length<=23)(s fN):∃M,M≠GQ.i 0 0/\Wh M (q2 420)/\(∀k,s=1->Wh (M*bef bs k) (q2 420))/\∀k,Wh (M*drp bs fN s k) (q2 420):=by
 obtain⟨C,l⟩:=Qy hb Z (lv bs) s;obtain⟨M,F,B,D,j⟩:=(wH hb s).den l (GH (Dq hb).none) C (rwx (lv bs) fN);rw[<-QZ];exact⟨M,F,B,fun k hs=>by subst hs;exact D k,j⟩
def FI(hb:∀b∈bs,gV b)(Z:bs.length<=23)(l:lv bs fN=ε):∃M0 M1,Seen M0 M1 (bef bs fN) (drp bs fN 1 fN) (drp bs fN 0 fN)/\(∀k,Wh (M1*bef bs k) (q2 420))/\(∀k,Wh (M1*drp bs fN 1 k) (q2 420))/\∀k,Wh (M0*drp bs fN 0 k) (q2 420):=by
 obtain⟨M1,C,D,B,j⟩:=WF hb Z 1 fN;obtain⟨M0,b1,b2,_,b4⟩:=WF hb Z 0 fN;exact⟨M0,M1,⟨b1,C,b2,D,B fN rfl,j fN,b4 fN,(wH hb 1).drive l,(wH hb 0).drive l⟩,fun k=>B k rfl,j,b4⟩
def RJ(hb:∀b∈bs,gV b)(Z:bs.length<=23)(j:lv bs fN=ε)(kind){r}(B:0<=r)(l:r<=1000)(n):Bd (fcu bs fN kind r n) 2600:=by
 obtain⟨M0,M1,h,_⟩:=FI hb Z j;exact h.bd kind B l n
end
noncomputable def kH (bs:List BrD) (fN:Nat) (f:dY) (n k:Nat):GQ:=if f.kind≠0/\lv bs fN=ε then vlt bs fN f.kind f.r n k else vbe bs n k
noncomputable def sI (bs:List BrD) (fN:Nat) (f:dY) (n:Nat):GQ:=if f.kind≠0/\lv bs fN=ε then fcu bs fN f.kind f.r n else GQ.i 0 0
noncomputable def Uc (bs:List BrD) (fN:Nat) (f:dY) (way:Option BrD) (n:Nat):GQ:=
 match way with
 |none=>GQ.i 0 0
 |some b=>if 13<=b.a/\lv bs b.a=ε then (kH bs fN f n b.a-kH bs fN f n b.b-(if n=1 then GQ.i b.emf 0 else GQ.i 0 0))/b.zs (min n 1) else GQ.i 0 0
noncomputable def nN (s:StD) (p:dH) (f:dY) (i n:Nat):GQ:=
 let x:=s.bays.getD i η
 if x.kind=1 then kH (dD s p f) (eZ s p f) f n (jy s p x.obj.toNat x.en.toNat)
 else if x.kind=2 then
  match gG s p i with
  |some b=>kH (dD s p f) (eZ s p f) f n b.a
  |none=>if n=1 then GQ.i (s.srcs.getD x.obj.toNat η).emf 0 else GQ.i 0 0
 else GQ.i 0 0
noncomputable def uD (s:StD) (p:dH) (f:dY) (i n:Nat):GQ:=Uc (dD s p f) (eZ s p f) f (way s p f i) n
section
variable {bs:List BrD} {fN:Nat} {f:dY}
structure Den (bs:List BrD) (fN:Nat) (f:dY) (D:GQ):Prop where
 ne:D≠GQ.i 0 0
 wd:Wh D (q2 2200)
 v:∀n k,Wh (D*kH bs fN f n k) (q2 2200)
 i:∀n,Wh (D*sI bs fN f n) (q2 2200)
theorem agm(hb:∀b∈bs,gV b)(Z:bs.length<=23)(C:0<=f.r/\f.r<=1000):∃D,Den bs fN f D:=by
 by_cases h:f.kind≠0/\lv bs fN=ε
 .obtain⟨M0,M1,hS,l,j,B⟩:=FI hb Z h.2;obtain⟨K,I⟩:=hS.cur f.kind C.1 C.2;refine⟨M0*(M1*K),GQ.jc hS.m0 (GQ.jc hS.m1 I.k0),iH (eP hS.w0 (eP hS.w1 I.wk)) aa,fun n k=> ?_,fun n=> ?_⟩
  .unfold kH;rw[ι h];unfold vlt;have hv:Wh (M0*(M1*K)*vbe bs n k) (q2 2199):=by
    unfold vbe;split
    .have e:M0*(M1*K)*bef bs k=M0*(K*(M1*bef bs k)):=by ext<;>simp only[GQ.bL,GQ.bK]<;>grind
     rw[e];exact iH (eP hS.w0 (eP I.wk (l k))) aa
    .rw[GQ.bQ];exact iC _
   have hd:Wh (M0*(M1*K)*(fcu bs fN f.kind f.r n*drp bs fN (min n 1) k)) (q2 2199):=by
    have ha:Wh (K*fcu bs fN f.kind f.r n) (q2 1278):=I.wa n;by_cases hn:n=0
    .have e:M0*(M1*K)*(fcu bs fN f.kind f.r n*drp bs fN (min n 1) k)=M1*((K*fcu bs fN f.kind f.r n)*(M0*drp bs fN (min n 1) k)):=by ext<;>simp only[GQ.bL,GQ.bK]<;>grind
     rw[e];have:=B k;rw[show min n 1=0 by omega];exact iH (eP hS.w1 (eP ha this)) aa
    .have e:M0*(M1*K)*(fcu bs fN f.kind f.r n*drp bs fN (min n 1) k)=M0*((K*fcu bs fN f.kind f.r n)*(M1*drp bs fN (min n 1) k)):=by ext<;>simp only[GQ.bL,GQ.bK]<;>grind
     rw[e];have:=j k;rw[show min n 1=1 by omega];exact iH (eP hS.w0 (eP ha this)) aa
   rw[GQ.jT,qP 2199,abU];exact hv.sub hd
  .unfold sI;rw[ι h];have e:M0*(M1*K)*fcu bs fN f.kind f.r n=M0*(M1*(K*fcu bs fN f.kind f.r n)):=by ext<;>simp only[GQ.bL,GQ.bK]<;>grind
   rw[e];exact iH (eP hS.w0 (eP hS.w1 (I.wa n))) aa
 .obtain⟨M,l,j,B,_⟩:=WF hb Z 1 fN;refine⟨M,l,iH j aa,fun n k=> ?_,fun n=> ?_⟩
  .unfold kH;rw[θ h];unfold vbe;split
   .exact iH (B k rfl) aa
   .rw[GQ.bQ];exact iC _
  .unfold sI;rw[θ h,GQ.bQ];exact iC _
end
def Ff {α:Type} (P R Q O L M J K N j I H l F B G C D:α):Nat->α
 |1=>P
 |2=>R
 |3=>Q
 |4=>O
 |5=>L
 |6=>M
 |7=>J
 |8=>K
 |9=>N
 |10=>j
 |11=>I
 |12=>H
 |13=>l
 |14=>F
 |15=>B
 |16=>G
 |17=>C
 |_=>D
def RA (w:World) (v:Value) (z1 F P H G O L Q K J l M Z B j D I Y:Int):Prop:=
 ∃(S:Nat->Bool) (A:Nat->Option Addr) (N C:Nat->Nat),v=.agg #[.bool (S 1),.slice (A 1) (N 1) (C 1),.bool (S 2),.slice (A 2) (N 2) (C 2),.bool (S 3),.slice (A 3) (N 3) (C 3),.bool (S 4),.slice (A 4) (N 4) (C 4),.bool (S 5),.slice (A 5) (N 5) (C 5),.bool (S 6),.slice (A 6) (N 6) (C 6),.bool (S 7),.slice (A 7) (N 7) (C 7),.bool (S 8),.slice (A 8) (N 8) (C 8),.bool (S 9),.slice (A 9) (N 9) (C 9),.bool (S 10),.slice (A 10) (N 10) (C 10),.bool (S 11),.slice (A 11) (N 11) (C 11),.bool (S 12),.slice (A 12) (N 12) (C 12),.bool (S 13),.slice (A 13) (N 13) (C 13),.bool (S 14),.slice (A 14) (N 14) (C 14),.bool (S 15),.slice (A 15) (N 15) (C 15),.bool (S 16),.slice (A 16) (N 16) (C 16),.bool (S 17),.slice (A 17) (N 17) (C 17),.bool (S 18),.slice (A 18) (N 18) (C 18)]/\RI w (iv (S 1) (A 1) (N 1) (C 1)) z1/\RI w (iv (S 2) (A 2) (N 2) (C 2)) F/\RI w (iv (S 3) (A 3) (N 3) (C 3)) P/\RI w (iv (S 4) (A 4) (N 4) (C 4)) H/\RI w (iv (S 5) (A 5) (N 5) (C 5)) G/\RI w (iv (S 6) (A 6) (N 6) (C 6)) O/\RI w (iv (S 7) (A 7) (N 7) (C 7)) L/\RI w (iv (S 8) (A 8) (N 8) (C 8)) Q/\RI w (iv (S 9) (A 9) (N 9) (C 9)) K/\RI w (iv (S 10) (A 10) (N 10) (C 10)) J/\RI w (iv (S 11) (A 11) (N 11) (C 11)) l/\RI w (iv (S 12) (A 12) (N 12) (C 12)) M/\RI w (iv (S 13) (A 13) (N 13) (C 13)) Z/\RI w (iv (S 14) (A 14) (N 14) (C 14)) B/\RI w (iv (S 15) (A 15) (N 15) (C 15)) j/\RI w (iv (S 16) (A 16) (N 16) (C 16)) D/\RI w (iv (S 17) (A 17) (N 17) (C 17)) I/\RI w (iv (S 18) (A 18) (N 18) (C 18)) Y
def RA.mk{w s1 A1 n1 c1 s2 A2 n2 c2 s3 A3 n3 c3 s4 A4 n4 c4 s5 A5 n5 c5 s6 A6 n6 c6 s7 A7 n7 c7 s8 N n8 c8 s9 A9 n9 c9 S Yx K P W F V U YG YL Yz YK YH YE YI c13 YP YN YO c14 YV YW YU YX Zi C Zk Zn YD j Yr Yt Zo YT Zh Zl z1 z2 z3 H G O L Q z9 J l M Z YA YQ D I Y}(h1:RI w (iv s1 A1 n1 c1) z1)(h2:RI w (iv s2 A2 n2 c2) z2)(h3:RI w (iv s3 A3 n3 c3) z3)(h4:RI w (iv s4 A4 n4 c4) H)(h5:RI w (iv s5 A5 n5 c5) G)(h6:RI w (iv s6 A6 n6 c6) O)(h7:RI w (iv s7 A7 n7 c7) L)(h8:RI w (iv s8 N n8 c8) Q)(h9:RI w (iv s9 A9 n9 c9) z9)(YZ:RI w (iv S Yx K P) J)(Yu:RI w (iv W F V U) l)(Yp:RI w (iv YG YL Yz YK) M)(YF:RI w (iv YH YE YI c13) Z)(ZP:RI w (iv YP YN YO c14) YA)(R:RI w (iv YV YW YU YX) YQ)(T:RI w (iv Zi C Zk Zn) D)(B:RI w (iv YD j Yr Yt) I)(Yq:RI w (iv Zo YT Zh Zl) Y):RA w (.agg #[.bool s1,.slice A1 n1 c1,.bool s2,.slice A2 n2 c2,.bool s3,.slice A3 n3 c3,.bool s4,.slice A4 n4 c4,.bool s5,.slice A5 n5 c5,.bool s6,.slice A6 n6 c6,.bool s7,.slice A7 n7 c7,.bool s8,.slice N n8 c8,.bool s9,.slice A9 n9 c9,.bool S,.slice Yx K P,.bool W,.slice F V U,.bool YG,.slice YL Yz YK,.bool YH,.slice YE YI c13,.bool YP,.slice YN YO c14,.bool YV,.slice YW YU YX,.bool Zi,.slice C Zk Zn,.bool YD,.slice j Yr Yt,.bool Zo,.slice YT Zh Zl]) z1 z2 z3 H G O L Q z9 J l M Z YA YQ D I Y:=
 ⟨Ff s1 s2 s3 s4 s5 s6 s7 s8 s9 S W YG YH YP YV Zi YD Zo,Ff A1 A2 A3 A4 A5 A6 A7 N A9 Yx F YL YE YN YW C j YT,Ff n1 n2 n3 n4 n5 n6 n7 n8 n9 K V Yz YI YO YU Zk Yr Zh,Ff c1 c2 c3 c4 c5 c6 c7 c8 c9 P U YK c13 c14 YX Zn Yt Zl,rfl,h1,h2,h3,h4,h5,h6,h7,h8,h9,YZ,Yu,Yp,YF,ZP,R,T,B,Yq⟩
def Pz{cs:Array Value}(h:cs.size=36):(prog.info? 45).map (·.size)=γ cs.size:=by rw[h];kernel_rfl
def WZ{fn:Func}{R:Ending->World->Prop}{a:Act}{w:World}{t u g:Nat}{cs:Array Value}(l:fn.results= #[.cell t 45,.tmp u])(hd:a.defers=[])(hp:a.tmps[t]?.getD undef=.pointer (γ (aM g 0)))(hb:Blk w g 45 cs)(j:R (.returned (.tuple #[.agg cs,a.tmps.getD u undef])) w)(hs:cs.size=36:=by rfl):bodyPost prog fn R .ret a w:=
 aak (v:=.tuple #[.agg cs,a.tmps.getD u undef]) (by simp[results,l,hp,asAddr,adi w g 45 45 cs (0,0) _ hb A8 rfl (Pz hs)]) hd j
def St.row{w W:World}{bs bs':List Bk}{fs}(h:St w W bs fs)(i:Nat){g:Nat}{t cs cs'}(e:bs[i]? =γ (g,t,cs))(G:Own w g)(hn:lL cs=ε)(C:bs.set i (g,t,cs')=bs'):St w (W.setRow g cs') bs' fs:=by
 have hb:=h.blk i e;refine⟨(Only.setRow W g cs').ext h.ext G,fun p hp=> ?_,C ▸ JW (p:=(g,t,cs)) e h.nd,fun q hq=> ?_⟩
 .obtain⟨j,l⟩:=abO hp;rw[<-C] at l;have T:i<bs.length:=(μ.1 e).1;by_cases B:i=j
  .subst B;rw[abB T] at l;injection l with l;subst l;exact aeL W g _ _ _ _ hb
  .rw[aaf B] at l;exact(Only.setRow W g cs').blk (h.blks p (wo l)) (Bq h.nd (fun h=>B h.symm) l e)
 .obtain⟨A',n',c',F,D⟩:=h.nums q hq;exact⟨A',n',c',F,D.only (Only.setRow W g cs') hb (uh hn)⟩
def AV (w:World) (v:Value) (N p1 p2:PQ) (n:Nat):Prop:=∃z1 C K H G O L Q F J l M Z B j D I Y:Int,RA w v z1 C K H G O L Q F J l M Z B j D I Y/\Is N.u z1 C K/\Sz n z1 C K/\Is N.v H G O/\Sz n H G O/\Is p1.u L Q F/\Sz n L Q F/\Is p1.v J l M/\Sz n J l M/\Is p2.u Z B j/\Sz n Z B j/\Is p2.v D I Y/\Sz n D I Y
def ph0 (x y z:GQ):PQ:=⟨x+(y+z),GQ.i 0 0⟩
def ph1 (x y z:GQ):PQ:=⟨aeY 2 x (-1) (y+z) 2,aeY 1 z (-1) y 2*aeZ 1⟩
def ph2 (x y z:GQ):PQ:=⟨aeY 2 x (-1) (y+z) 2,aeY 1 y (-1) z 2*aeZ 1⟩
def PQ.sc (p:PQ) (c:GQ):PQ:=⟨p.u*c,p.v*c⟩
def phq (q:Nat->GQ) (m:Nat):PQ:=if m=0 then ph0 (q 0) (q 1) (q 2) else if m=1 then ph1 (q 0) (q 1) (q 2) else ph2 (q 0) (q 1) (q 2)
def phv (q:Nat->GQ) (sh m:Nat):PQ:=phq q ((m+3-sh)%3)*PQ.zp (8*sh%12)
def PQ.zero:PQ:=⟨GQ.i 0 0,GQ.i 0 0⟩
section
variable {q q' x y:Nat->GQ} {c z r:GQ} {m:Nat}
def XT:phq q 0=ph0 (q 0) (q 1) (q 2):=rfl
def X8:phq q 1=ph1 (q 0) (q 1) (q 2):=rfl
def Yh:phq q 2=ph2 (q 0) (q 1) (q 2):=rfl
def agF(p t:PQ)(c):(p*t).sc c=p.sc c*t:=by
 ext<;>simp only[PQ.sc,PQ.yh,PQ.xH,GQ.bL,GQ.bK,GQ.cO,GQ.bY,GQ.dM,GQ.dJ]<;>grind
theorem N7(h:∀n,n<3->q n=c*x n)(m):phq q m=(phq x m).sc c:=by
 unfold phq;rw[h 0 aa,h 1 aa,h 2 aa];split
 .ext<;>simp only[ph0,ph1,ph2,aeY,aeZ,PQ.sc,PQ.zero,PQ.SC,PQ.PW,GQ.bL,GQ.bK,GQ.cO,GQ.bY,GQ.dU,GQ.dV,GQ.dM,GQ.dJ]<;>grind
 .split
  .ext<;>simp only[ph0,ph1,ph2,aeY,aeZ,PQ.sc,PQ.zero,PQ.SC,PQ.PW,GQ.bL,GQ.bK,GQ.cO,GQ.bY,GQ.dU,GQ.dV,GQ.dM,GQ.dJ]<;>grind
  .ext<;>simp only[ph0,ph1,ph2,aeY,aeZ,PQ.sc,PQ.zero,PQ.SC,PQ.PW,GQ.bL,GQ.bK,GQ.cO,GQ.bY,GQ.dU,GQ.dV,GQ.dM,GQ.dJ]<;>grind
end
def tZ (q:Nat->GQ) (D:GQ):Prop:=D≠GQ.i 0 0/\Wh D (q2 2250)/\∀n,Fr D 0 2250 (q n)
def FrP (D:GQ) (h e:Nat) (p:PQ):Prop:=Fr D h e p.u/\Fr D h e p.v
section
variable {D:GQ} {h e:Nat} {p t:PQ} {q:Nat->GQ}
def Sl{a b k}(h:a.natAbs+b.natAbs<=2^k):Wh (GQ.i a b) (q2 k):=⟨a,b,rfl,h⟩
def ags{x y}(J:Fr D h e x)(R:Fr D h e y):Fr D h (e+1) (aeY 1 x 1 y 1):=by
 have:aeY 1 x 1 y 1=x+y:=by ext<;>simp only[aeY,GQ.cO,GQ.bY]<;>grind
 rw[this];exact J.add R
def afY{x y}(J:Fr D h e x)(R:Fr D h e y):Fr D (h+1) (e+1) (aeY 1 x (-1) y 2):=by
 have:aeY 1 x (-1) y 2=(x-y)*⟨1/2,0⟩:=by ext<;>simp only[aeY,GQ.dU,GQ.dV,GQ.bL,GQ.bK]<;>grind
 rw[this];exact(J.sub R).half
def agy{x y}(J:Fr D h e x)(R:Fr D h e y):Fr D (h+1) (e+2) (aeY 2 x (-1) y 2):=by
 have:aeY 2 x (-1) y 2=(x*GQ.i 2 0-y)*⟨1/2,0⟩:=by ext<;>simp only[aeY,GQ.dU,GQ.dV,GQ.bL,GQ.bK,GQ.dM,GQ.dJ]<;>grind
 rw[this];exact((J.Uz (k:=1) (Sl aj)).sub (R.le aa)).half
def afX{x}(J:Fr D h e x):Fr D h e (x*aeZ 1):=by
 have:=J.Uz (c:=aeZ 1) (k:=0) ⟨0,1,by ext<;>simp only[aeZ,GQ.bL,GQ.bK,GQ.dM,GQ.dJ]<;>grind,aj⟩;exact this
theorem afy(B:Fr D 0 e (q 0))(l:Fr D 0 e (q 1))(j:Fr D 0 e (q 2))(m:Nat):FrP D 1 (e+3) (phq q m):=by
 have hs:=l.add j;have z:∀h e,Fr D h e (GQ.i 0 0):=fun h e=>Fr.zero;have hb:=(agy (B.le (by omega:e<=e+1)) hs);unfold phq;split
 .exact⟨((B.le (by omega:e<=e+1)).add hs).up,z _ _⟩
 .split
  .exact⟨hb,(afX (afY j l)).le aa⟩
  .exact⟨hb,(afX (afY l j)).le aa⟩
def FrP.zp{sh}(hp:FrP D h e p)(hs:sh<3):FrP D (h+1) (e+4) (p*PQ.zp (8*sh%12)):=by
 have R:∀(a b:GQ),Wh (a*GQ.i 2 0) (q2 1)->Wh (b*GQ.i 2 0) (q2 1)->FrP D (h+1) (e+4) (p*⟨a,b⟩):=fun a b ha hb=>by
  have l (x:GQ):x=x*GQ.i 2 0*⟨1/2,0⟩:=by ext<;>simp only[GQ.bL,GQ.bK,GQ.dM,GQ.dJ]<;>grind
  have m1 {x c:GQ} (J:Fr D h e x) (hc:Wh (c*GQ.i 2 0) (q2 1)):Fr D (h+1) (e+1) (x*c):=by
   have:x*c=x*(c*GQ.i 2 0)*⟨1/2,0⟩:=by ext<;>simp only[GQ.bL,GQ.bK,GQ.dM,GQ.dJ]<;>grind
   rw[this];exact(J.Uz hc).half
  refine⟨?_,?_⟩
  .show Fr D (h+1) (e+4) (p.u*a+GQ.i 3 0*(p.v*b));exact((m1 hp.1 ha).le (by omega:e+1<=e+3)).add ((m1 hp.2 hb).X6 (k:=2) (Sl aj))
  .show Fr D (h+1) (e+4) (p.u*b+p.v*a);exact((m1 hp.1 hb).add (m1 hp.2 ha)).le aa
 have j:sh=0\/sh=1\/sh=2:=aa;rcases j with rfl|rfl|rfl
 .rw[show 8*0%12=0 by rfl,PQ.zp0];exact R _ _ ⟨2,0,by ext<;>simp only[GQ.bL,GQ.bK,GQ.dM,GQ.dJ]<;>grind,aj⟩ ⟨0,0,by ext<;>simp only[GQ.bL,GQ.bK,GQ.dM,GQ.dJ]<;>grind,aj⟩
 .rw[show 8*1%12=8 by rfl,PQ.zp8];exact R _ _ ⟨-1,0,by ext<;>simp only[GQ.bL,GQ.bK,GQ.dM,GQ.dJ]<;>grind,aj⟩ ⟨0,-1,by ext<;>simp only[GQ.bL,GQ.bK,GQ.dM,GQ.dJ]<;>grind,aj⟩
 .rw[show 8*2%12=4 by rfl,PQ.zp4];exact R _ _ ⟨-1,0,by ext<;>simp only[GQ.bL,GQ.bK,GQ.dM,GQ.dJ]<;>grind,aj⟩ ⟨0,1,by ext<;>simp only[GQ.bL,GQ.bK,GQ.dM,GQ.dJ]<;>grind,aj⟩
def tZ.phv(hq:tZ q D){sh:Nat}(hs:sh<3)(m:Nat):FrP D 2 2257 (phv q sh m):=FrP.zp (afy (hq.2.2 0) (hq.2.2 1) (hq.2.2 2) _) hs
def FrP.bd(hp:FrP D h e p)(C:Wh D (q2 2250))(B:D≠GQ.i 0 0){n}(l:e+(h+2250)<n)(j:h+2250+(h+2250)<n):Bd p.u n/\Bd p.v n:=⟨hp.1.bd C B l j,hp.2.bd C B l j⟩
def tZ.bd(hq:tZ q D)(n):Bd (q n) 4600:=(hq.2.2 n).bd hq.2.1 hq.1 aa aa
def tZ.sum(hq:tZ q D):Bd (aeY 1 (q 1) 1 (q 2) 1) 4600:=(ags (hq.2.2 1) (hq.2.2 2)).bd hq.2.1 hq.1 aa aa
def tZ.phq(hq:tZ q D)(m:Nat):Bd (phq q m).u 4600/\Bd (phq q m).v 4600:=(afy (hq.2.2 0) (hq.2.2 1) (hq.2.2 2) m).bd hq.2.1 hq.1 aa aa
end
section
variable {bs:List BrD} {fN:Nat} {f:dY} {D:GQ}
def Den.LD(h:Den bs fN f D)(k):tZ (fun n=>kH bs fN f n k) D:=⟨h.ne,iH h.wd aa,fun n=>(afr (h.v n k)).le aa⟩
def Den.XZ(h:Den bs fN f D):tZ (sI bs fN f) D:=⟨h.ne,iH h.wd aa,fun n=>(afr (h.i n)).le aa⟩
def gV.zw{b}(h:gV b)(sq):∃j:GQ,j≠GQ.i 0 0/\Wh j (q2 15)/\∀x:GQ,x/b.zs sq*j=x*GQ.i b.d 0:=by
 obtain⟨_,j,C,l,F⟩:=ND (if sq=0 then b.z0 else b.z1) (h.zi sq) h.n h.d;refine⟨j,C,l.mono (by show 32000<=2^15;decide),fun x=> ?_⟩;rw[<-F];have B:x/b.zs sq*b.zs sq=x:=afb (h.ne sq);have D:x/b.zs sq*(b.zs sq*GQ.i b.d 0)=x/b.zs sq*b.zs sq*GQ.i b.d 0:=(GQ.dB _ _ _).symm;exact D.trans (by rw[B])
def Den.XF(h:Den bs fN f D)(way:Option BrD)(G:∀b,way=γ b->gV b):∃E,tZ (Uc bs fN f way) E:=by
 cases way with
 |none=>exact⟨D,h.ne,iH h.wd aa,fun n=>Fr.zero⟩
 |some b=>
  have hb:=G b rfl;obtain⟨z0,n0,w0,C⟩:=hb.zw 0;obtain⟨z1,n1,w1,H⟩:=hb.zw 1;refine⟨D*(z0*z1),GQ.jc h.ne (GQ.jc n0 n1),iH (eP h.wd (eP w0 w1)) aa,fun n=> ?_⟩;refine afr ?_;show Wh (D*(z0*z1)*(if 13<=b.a/\lv bs b.a=ε then (kH bs fN f n b.a-kH bs fN f n b.b-(if n=1 then GQ.i b.emf 0 else GQ.i 0 0))/b.zs (min n 1) else GQ.i 0 0)) (q2 2250);split
  .have j:Wh (if n=1 then GQ.i b.emf 0 else GQ.i 0 0) (q2 20):=by
    split
    .exact pu (by have:=hb.emf;show b.emf.natAbs<=2^20;omega)
    .exact iC _
   have J:Wh (D*(kH bs fN f n b.a-kH bs fN f n b.b-(if n=1 then GQ.i b.emf 0 else GQ.i 0 0))) (q2 2221):=by
    have I:=iH (h.v n b.a) (by omega:2200<=2219);have K:=iH (h.v n b.b) (by omega:2200<=2219);have F:=eP h.wd j;rw[GQ.jT,GQ.jT,qP 2220,abU];refine Wh.sub ?_ F;rw[qP 2219,abU];exact I.sub K
   have hd:Wh (GQ.i b.d 0) (q2 4):=pu (by have:=hb.d;show b.d.natAbs<=2^4;omega);generalize kH bs fN f n b.a-kH bs fN f n b.b-(if n=1 then GQ.i b.emf 0 else GQ.i 0 0)=X at J⊢;by_cases hn:n=0
   .rw[show min n 1=0 by omega];have l:D*(z0*z1)*(X/b.zs 0)=D*X*(GQ.i b.d 0*z1):=by
     have:=C X;have B:D*(z0*z1)*(X/b.zs 0)=D*(X/b.zs 0*z0)*z1:=by generalize X/b.zs 0=y;ext<;>simp only[GQ.bL,GQ.bK]<;>grind
     rw[B,this];ext<;>simp only[GQ.bL,GQ.bK]<;>grind
    rw[l];exact iH (eP J (eP hd w1)) aa
   .rw[show min n 1=1 by omega];have l:D*(z0*z1)*(X/b.zs 1)=D*X*(GQ.i b.d 0*z0):=by
     have:=H X;have B:D*(z0*z1)*(X/b.zs 1)=D*(X/b.zs 1*z1)*z0:=by generalize X/b.zs 1=y;ext<;>simp only[GQ.bL,GQ.bK]<;>grind
     rw[B,this];ext<;>simp only[GQ.bL,GQ.bK]<;>grind
    rw[l];exact iH (eP J (eP hd w0)) aa
  .rw[GQ.bQ];exact iC _
def tZ.const(m)(j:m.natAbs<=2^20):tZ (fun n=>if n=1 then GQ.i m 0 else GQ.i 0 0) (GQ.i 1 0):=
 ⟨aj,iH (Sl (a:=1) (b:=0) (k:=0) aj) aa,fun n=>afr (by
  rw[GQ.kF];show Wh (if n=1 then GQ.i m 0 else GQ.i 0 0) (q2 2250);split
  .exact iH (pu (by exact j):Wh _ (q2 20)) aa
  .exact iC _)⟩
end
section
variable {s:StD} {p:dH} {f:dY} {D:GQ}
theorem Den.seqB(hs:jG s)(h:Den (dD s p f) (eZ s p f) f D){i}(hi:i<s.bays.length):∃E,tZ (nN s p f i) E:=by
 unfold nN;simp only[];by_cases B:(s.bays.getD i η).kind=1
 .simp only[ι B];exact⟨D,h.LD _⟩
 .simp only[θ B];by_cases j:(s.bays.getD i η).kind=2
  .simp only[ι j];cases hb:gG s p i with
   |some b=>exact⟨D,h.LD _⟩
   |none=>
    have C:=Ob (hs.obj i hi) j;have l:=hs.src (s.bays.getD i η).obj.toNat aa;unfold jr at l;simp only[ρ] at l;have O:=fw.1 l.1.1;exact⟨_,tZ.const _ aa⟩
  .simp only[θ j];exact⟨D,h.ne,iH h.wd aa,fun n=>Fr.zero⟩
theorem FY(h:jG s)(j:oh s.buses.length s.lines.length f){i}(hi:i<s.bays.length){b}(hb:way s p f i=γ b):gV b:=by
 unfold way at hb;split at hb
 .rename_i l
  injection hb with hb;subst hb;have B:=RO (h.obj i hi) l;have O:=QM (h.rng i hi);exact Ap h j aa aa
 .exact(Dn h hi hb).1
end
structure sK (w:World) (bv:BrV) (b:BrD):Prop where
 pa:bv.a=b.a
 pb:bv.b=b.b
 z0:GV w bv.z0.v (b.zs 0) 64
 z1:GV w bv.z1.v (b.zs 1) 64
 e:GV w bv.e.v (GQ.i b.emf 0) 64
def sK.ext{w w' bv b}(h:sK w bv b)(x:Ext w w'):sK w' bv b:=⟨h.pa,h.pb,h.z0.ext x,h.z1.ext x,h.e.ext x⟩
def sK.fM{S w w' bv b}(h:sK w bv b)(m:Mod S w w')(j:iq S w):sK w' bv b:=⟨h.pa,h.pb,h.z0.fM m j,h.z1.fM m j,h.e.fM m j⟩
def ni (w:World) (k:Nat) (e:Nat->En) (f:Nat->GQ) (n:Nat):Prop:=∀j,j<k->GV w (e j).v (f j) n
def ni.ext{w w' k n e f}(h:ni w k e f n)(x:Ext w w'):ni w' k e f n:=fun j l=>(h j l).ext x
inductive NR where
 |any
 |gv (q:GQ) (n:Nat)
 |row (k:Nat) (f:Nat->GQ) (n:Nat)
 |box (t:TypeId) (cs:Array Value)
 |eq (u:Value)
 |br (b:BrD)
 |mk (n:Nat) (t:TypeId) (cs:Array Value)
def NR.holds:NR->Nat->Nat->Value->World->Prop
 | .any,_,_,_,_=>True
 | .gv q n,_,_,v,w=>∃e:En,v=e.v/\GV w e.v q n
 | .row k f n,_,_,v,w=>∃e:Nat->En,v=.agg (bD k e).toArray/\ni w k e f n
 | .box t cs,lo,hi,v,w=>v=.pointer (γ (aM lo 0))/\lo<hi/\Blk w lo t cs
 | .eq u,_,_,v,_=>v=u
 | .mk n t cs,lo,hi,v,w=>v=.slice (γ (aM lo 0)) n n/\lo<hi/\Blk w lo t cs
 | .br b,lo,hi,v,w=>v=.pointer (γ (aM lo 0))/\lo<hi/\∃bv:BrV,Blk w lo 167 bv.cs.toArray/\sK w bv b
def agA(f:NR){lo hi v w w'}(h:f.holds lo hi v w)(x:Ext w w'):f.holds lo hi v w':=by
 cases f with
 |any=>trivial
 |gv q n=>obtain⟨e,l,j⟩:=h;exact⟨e,l,j.ext x⟩
 |row k f n=>obtain⟨e,l,j⟩:=h;exact⟨e,l,j.ext x⟩
 |box t cs=>exact⟨h.1,h.2.1,h.2.2.ext x⟩
 |eq u=>exact h
 |br b=>obtain⟨l,j,bv,C,B⟩:=h;exact⟨l,j,bv,C.ext x,B.ext x⟩
 |mk n t cs=>exact⟨h.1,h.2.1,h.2.2.ext x⟩
def afG{q n lo hi v w}(h:NR.holds (.gv q n) lo hi v w):GV w v q n:=by
 obtain⟨e,rfl,j⟩:=h;exact j
def Rq{k e l}(h:bD k e=bD k l){j}(B:j<k):e j=l j:=by
 have hc:(e j).cells=(l j).cells:=by
  apply aam;intro t;by_cases C:t<6
  .rw[<-dP (f:=e) C B,<-dP (f:=l) C B,h]
  .rw[qa Abk,qa Abk]
 generalize e j=a at hc⊢;generalize l j=b at hc⊢;cases a;cases b
 simpa[En.cells,and_assoc] using hc
def afc{k n lo hi e f w}(h:NR.holds (.row k f n) lo hi (.agg (bD k e).toArray) w):ni w k e f n:=by
 obtain⟨F,l,C⟩:=h;injection l with l;have D:bD k e=bD k F:=by simpa using congrArg Array.toList l
 exact fun j B=>by rw[Rq D B];exact C j B
def VM:List (Nat×NR)->Nat->NR
 |[],_=> .any
 |p::r,i=>bif Nat.beq p.1 i then p.2 else VM r i
def Xb:List (Nat×NR)->Nat->Bool
 |[],_=>ζ
 |p::r,i=>Nat.beq p.1 i||Xb r i
def NRs (l:List (Nat×NR)):Nat->Nat->Nat->Value->World->Prop:=fun i lo hi v w=>(VM l i).holds lo hi v w
def Sb(l):∀i lo hi v w w',NRs l i lo hi v w->Ext w w'->NRs l i lo hi v w':=fun _ _ _ _ _ _ h x=>agA _ h x
def oQ (w:World) (X:Nat) (v:Value) (o:Option BrD):Prop:=
 match o with
 |none=>v=.pointer δ
 |some b=>∃(g k:Nat) (bv:BrV),v=.pointer (γ (aM g k))/\g≠X/\g<w.heap.size/\(∀t u,bv.cs[t]? =γ u->w.cell? (aM g (k+t))=γ u)/\bv.a=b.a/\bv.b=b.b/\GV w bv.z0.v (b.zs 0) 64/\GV w bv.z1.v (b.zs 1) 64/\GV w bv.e.v (GQ.i b.emf 0) 64
def oQ.ext{w w' X v}{o:Option BrD}(h:oQ w X v o)(x:Ext w w'):oQ w' X v o:=by
 cases o with
 |none=>exact h
 |some b=>
  obtain⟨g,k,bv,B,j,H,l,D,I,C,F,J⟩:=h;exact⟨g,k,bv,B,j,ο H x.size,fun t u G=>x.cell_ (l t u G),D,I,C.ext x,F.ext x,J.ext x⟩
theorem oQ.mod{w w' X v}{o:Option BrD}(h:oQ w X v o)(m:Mod (fun k=>k=X) w w')(l:iq (fun k=>k=X) w):oQ w' X v o:=by
 cases o with
 |none=>exact h
 |some b=>
  obtain⟨g,k,bv,F,B,C,D,H,K,G,I,L⟩:=h;refine⟨g,k,bv,F,B,ο C m.size,fun t u J=> ?_,H,K,G.fM m l,I.fM m l,L.fM m l⟩;have j:=D t u J;unfold World.cell? at j⊢;simp only[m.block g C B] at j⊢;exact j
def oQ.new{w X Y v}{o:Option BrD}(h:oQ w X v o)(l:w.heap.size<=Y):oQ w Y v o:=by
 cases o with
 |none=>exact h
 |some b=>
  obtain⟨g,k,bv,B,D,C,j⟩:=h;exact⟨g,k,bv,B,aa,C,j⟩
structure oU (w:World) (X:Nat) (C:Nat->Value) (E:Nat->En) (s:StD) (p:dH) (f:dY):Prop where
 v:∀n k,n<3->k<18->GV w (E (n*18+k)).v (kH (dD s p f) (eZ s p f) f n k) 4400
 i:∀n,n<3->GV w (E (54+n)).v (sI (dD s p f) (eZ s p f) f n) 4400
 seen:f.kind≠0->lv (dD s p f) (eZ s p f)=ε->GV w (E 57).v (bef (dD s p f) (eZ s p f)) 4400/\GV w (E 58).v (drp (dD s p f) (eZ s p f) 0 (eZ s p f)) 4400/\GV w (E 59).v (drp (dD s p f) (eZ s p f) 1 (eZ s p f)) 4400
 live:∀k,k<18->C (15+k)=.bool (lv (dD s p f) k)
 ends:∀l e,l<6->e<2->C (1+2*l+e)=.int .i64 (jy s p l e:Nat)
 faulty:C 14=.int .i64 (eZ s p f:Nat)
 c0:∃A n c,C 0=.slice A n c
 bays:∃(BA:Option Addr) (bc:Nat) (wv:Nat->Value),C 13=.slice BA s.bays.length bc/\Arr w BA s.bays.length 1 (fun i=>[wv i])/\∀i,i<s.bays.length->oQ w X (wv i) (way s p f i)
def oU.ext{w w' X C E s p f}(h:oU w X C E s p f)(x:Ext w w'):oU w' X C E s p f:=by
 refine⟨fun n k hn D=>(h.v n k hn D).ext x,fun n hn=>(h.i n hn).ext x,fun l j=> ?_,h.live,h.ends,h.faulty,h.c0,?_⟩
 .obtain⟨a,b,c⟩:=h.seen l j;exact⟨a.ext x,b.ext x,c.ext x⟩
 .obtain⟨B,bc,wv,l,j,F⟩:=h.bays;exact⟨B,bc,wv,l,j.ext x,fun i hi=>(F i hi).ext x⟩
def oU.new{w X Y C E s p f}(h:oU w X C E s p f)(l:w.heap.size<=Y):oU w Y C E s p f:=by
 obtain⟨B,bc,wv,D,j,F⟩:=h.bays;exact⟨h.v,h.i,h.seen,h.live,h.ends,h.faulty,h.c0,B,bc,wv,D,j,fun i hi=>(F i hi).new l⟩
def oU.one{w X C E s p f}(h:oU w X C E s p f):∀i,i<33->(C i).oneCell'=ε:=fun i hi=>by
 by_cases l:i=0
 .subst l;obtain⟨A,n,c,e⟩:=h.c0;rw[e];rfl
 .by_cases F:i<13
  .have:=h.ends ((i-1)/2) ((i-1)%2) aa (pz _ aa);rw[show 1+2*((i-1)/2)+(i-1)%2=i by omega] at this;rw[this];rfl
  .by_cases j:i=13
   .subst j;obtain⟨D,bc,wv,e,_⟩:=h.bays;rw[e];rfl
   .by_cases B:i=14
    .subst B;rw[h.faulty];rfl
    .have:=h.live (i-15) aa;rw[show 15+(i-15)=i by omega] at this;rw[this];rfl
def gl (C:Nat->Value) (E:Nat->En):List Value:=(List.range 393).map (fO C E)
def wP(C E):(gl C E).length=393:=by simp[gl]
theorem Qh{C E}(h:∀i,i<33->(C i).oneCell'=ε):∀v∈gl C E,v.oneCell'=ε:=by
 intro v hv;obtain⟨i,hi,rfl⟩:=Nq.1 hv;by_cases j:i<33
 .rw[dR j];exact h i j
 .unfold fO;rw[θ j];have l:(i-33)%6<(E ((i-33)/6)).cells.length:=by rw[sQ];exact pz _ aa
  rw[ν l];exact eO _ _ (abq _)
def uP(C E):(prog.info? 105).map (·.size)=γ (gl C E).length:=by rw[wP];kernel_rfl
def zC (i:Nat):Value:=if i=0 then .slice δ 0 0 else if i<13 then .int .i64 0 else if i=13 then .slice δ 0 0 else if i=14 then .int .i64 0 else .bool ζ
def yX:(prog.info? 105).map (·.zero)=γ (γ (.agg (gl zC fun _=>zEn).toArray)):=ah
def Q9{w g C E}(h:Blk w g 105 (gl C E).toArray):fP w g 105 393 (fO C E):=h
def Ju{w g C C' E E'}(h:Blk w g 105 (gl C E).toArray):w.there g 0 (gl C' E').length:=h.there (by rw[Ad,wP,wP];omega)
def VX{w W W' g C C' E E'}(J:Ext w W)(B:w.heap.size<=g)(hb:Blk W g 105 (gl C E).toArray)(l:W'=puts W g 0 (gl C' E')):Blk W' g 105 (gl C' E').toArray/\Ext w W':=by
 subst l;refine⟨?_,fQ J (Mod.puts (S:=fun k=>k=g) _ _ _ _ rfl) (fun k j=>by have j:k=g:=j;omega)⟩;have:=dm 0 (gl C' E') hb;rw[iA _ _ (by rw[wP,wP])] at this;exact this
def tR{P:Program}{I:Nat}{Q:Exit->Act->World->Prop}{a:Act}{w:World}{l:List Oper}(n:Nat)(m:List (Nat×NR)){q:Prop}(h:q)(t:q->wpT P l.toArray w (Xb m) (NRs m) (fun F a'=>∀w',fT w (NRs m) F w'->wpList P l.toArray Q (l.drop n) a' w') (l.take n) 0 Book.none a:=by
   intro h;simp only[aaz,abh,ξ,τ];exact h)(j:P.follows .mixedOrders=ε:=by kernel_rfl)(B:Region.lexTailB .any l.toArray n=ε:=by kernel_rfl):(Code.region I l.toArray ε).wp P Q a w:=iX n (Xb m) (NRs m) (Sb _) j B (t h)
def fT.hR{w W:World}{Φ:Nat->Nat->Nat->Value->World->Prop}{F:Book}(h:fT w Φ F W)(i:Nat){v:Value}{lo hi n:Nat}{q:GQ}(l:F i=γ (v,lo,hi):=by rfl)(j:Φ i lo hi v W=NR.holds (.gv q n) lo hi v W:=by rfl):Hid (GV W v q n):=aW (afG (j ▸ h.at_ i l))
def Ph(N v0 q0 v1 q1 v2 q2 w)(Yp:GV w v0 q0 N)(D:GV w v1 q1 N)(YP:GV w v2 q2 N)(hs:Bd (aeY 1 q1 1 q2 1) N)(hn:2*N+65<=12800):
  CV 85 #[v0,v1,v2] w fun v w'=>(∃u,v=.tuple #[u,aJ]/\AV w' u (⟨aeY 1 q0 1 (aeY 1 q1 1 q2 1) 1,GQ.i 0 0⟩) (⟨aeY 2 q0 (-1) (aeY 1 q1 1 q2 1) 2,aeY 1 q2 (-1) q1 2*aeZ 1⟩) (⟨aeY 2 q0 (-1) (aeY 1 q1 1 q2 1) 2,aeY 1 q1 (-1) q2 2*aeZ 1⟩) (N+N+65)):=by
 have hS:=ae0 w;obtain⟨Ze,Zd,Zc,Yp,I0,S0⟩:=Yp;obtain⟨Z,Y,H,C,U,Q,L,V,S,P,G,W,rfl,YH,YJ,YI⟩:=Yp;replace hS:=hS.bI YH;clear YH;replace hS:=hS.bI YJ;clear YJ;replace hS:=hS.bI YI;clear YI;obtain⟨YL,YK,YG,D,I1,S1⟩:=D;obtain⟨Yx,Yu,Yt,Yw,Yy,Yz,Yv,Yr,T,O,J,Yq,rfl,YE,YF,YD⟩:=D;replace hS:=hS.bI YE;clear YE;replace hS:=hS.bI YF;clear YF;replace hS:=hS.bI YD;clear YD;obtain⟨Zo,Zq,Zp,YP,I2,S2⟩:=YP;obtain⟨Zm,Zl,Zi,Zj,YT,YX,YQ,YZ,Zk,Zn,K,YW,rfl,Zy,Zz,Zx⟩:=YP;replace hS:=hS.bI Zy;clear Zy;replace hS:=hS.bI Zz;clear Zz;replace hS:=hS.bI Zx;clear Zx;have l:=(St.al (St.al (St.al (St.al hS 42 #[Z,aO Y H C,U,aO Q L V,S,aO P G W] (g:=w.heap.size) ag) 42 #[Yx,aO Yu Yt Yw,Yy,aO Yz Yv Yr,T,aO O J Yq] (g:=(w.heap.size+1)) ag) 42 #[Zm,aO Zl Zi Zj,YT,aO YX YQ YZ,Zk,aO Zn K YW] (g:=(w.heap.size+2)) ag) 45 #[.bool ζ,.slice δ 0 0,.bool ζ,.slice δ 0 0,.bool ζ,.slice δ 0 0,.bool ζ,.slice δ 0 0,.bool ζ,.slice δ 0 0,.bool ζ,.slice δ 0 0,.bool ζ,.slice δ 0 0,.bool ζ,.slice δ 0 0,.bool ζ,.slice δ 0 0,.bool ζ,.slice δ 0 0,.bool ζ,.slice δ 0 0,.bool ζ,.slice δ 0 0,.bool ζ,.slice δ 0 0,.bool ζ,.slice δ 0 0,.bool ζ,.slice δ 0 0,.bool ζ,.slice δ 0 0,.bool ζ,.slice δ 0 0,.bool ζ,.slice δ 0 0] (g:=(w.heap.size+3)) ag);have YC:=(l.aH 3).cell;have YB:=(l.aH 2).cell;have YM:=(l.aH 1).cell;go_enter func85,ntmps85;go_wp2_with fail;clear YC YB YM;clear l;refine gA5 hS 42 #[Z,aO Y H C,U,aO Q L V,S,aO P G W] 42 #[Yx,aO Yu Yt Yw,Yy,aO Yz Yv Yr,T,aO O J Yq] 42 #[Zm,aO Zl Zi Zj,YT,aO YX YQ YZ,Zk,aO Zn K YW] 45 #[.bool ζ,.slice δ 0 0,.bool ζ,.slice δ 0 0,.bool ζ,.slice δ 0 0,.bool ζ,.slice δ 0 0,.bool ζ,.slice δ 0 0,.bool ζ,.slice δ 0 0,.bool ζ,.slice δ 0 0,.bool ζ,.slice δ 0 0,.bool ζ,.slice δ 0 0,.bool ζ,.slice δ 0 0,.bool ζ,.slice δ 0 0,.bool ζ,.slice δ 0 0,.bool ζ,.slice δ 0 0,.bool ζ,.slice δ 0 0,.bool ζ,.slice δ 0 0,.bool ζ,.slice δ 0 0,.bool ζ,.slice δ 0 0,.bool ζ,.slice δ 0 0] 42 #[Z,aO Y H C,U,aO Q L V,S,aO P G W,Yx,aO Yu Yt Yw,Yy,aO Yz Yv Yr,T,aO O J Yq,Zm,aO Zl Zi Zj,YT,aO YX YQ YZ,Zk,aO Zn K YW] ?_;clear hS;intro w1 g3 o3 g4 o4 g5 o5 g6 o6 Zh ff hS;refine(Ki Zh q0 q1 q2 N N N _ (hS.aH 0) ⟨_,_,_,RG.mk (hS.aF 8) (hS.aF 7) (hS.aF 6),I0,S0⟩ aa ⟨_,_,_,RG.mk (hS.aF 5) (hS.aF 4) (hS.aF 3),I1,S1⟩ aa ⟨_,_,_,RG.mk (hS.aF 2) (hS.aF 1) (hS.aF 0),I2,S2⟩ aa).mono ?_;rintro e w2 ⟨rfl,F⟩;replace hS:=hS.mv F;clear F;have YA:=(St.al hS 197 #[aJ] (g:=w2.heap.size) ag);have YN:=(YA.aH 4).cell;have Za:=(YA.aH 3).cell;go_wp2_with fail;clear YN Za;clear YA;refine gA1 hS 197 #[aJ] ?_;clear hS;intro w3 g8 o8 hS;obtain⟨ec,d6,dt,cQ⟩:=gX (aeY (1) q1 (1) q2 (1));have c7:Sz N ec d6 dt:=hs.sz cQ;refine(mX (jQ g8 _ _ q1 q2 (1) (1) (1) _ _ _ (hS.aH 0) ⟨_,_,_,RG.mk (hS.aF 5) (hS.aF 4) (hS.aF 3),I1,S1⟩ ⟨_,_,_,RG.mk (hS.aF 2) (hS.aF 1) (hS.aF 0),I2,S2⟩ aa aa aa aa aa aa aa aa) cQ).mono ?_;rintro e w4 ⟨v_,rfl,M,F⟩;replace hS:=hS.mv F;clear F;obtain⟨cX,aq,cU,cW,cS,ar,cV,cT,cR,ap,c6,cY,rfl,a2,ay,bj⟩:=M;replace hS:=hS.bI a2;clear a2;replace hS:=hS.bI ay;clear ay;replace hS:=hS.bI bj;clear bj;have YO:=(St.al hS 42 aQ3 (g:=w4.heap.size) ag);have Zf:=(YO.aH 0).cell;have Zg:=(YO.aH 0).frozen;have YS:=(St.al hS 42 #[cX,aO aq cU cW,cS,aO ar cV cT,cR,aO ap c6 cY] (g:=w4.heap.size) ag);have ZN:=(YS.aH 1).cell;have dr:=(St.al (St.al hS 42 #[cX,aO aq cU cW,cS,aO ar cV cT,cR,aO ap c6 cY] (g:=w4.heap.size) ag) 45 #[.bool ζ,.slice δ 0 0,.bool ζ,.slice δ 0 0,.bool ζ,.slice δ 0 0,.bool ζ,.slice δ 0 0,.bool ζ,.slice δ 0 0,.bool ζ,.slice δ 0 0,.bool ζ,.slice δ 0 0,.bool ζ,.slice δ 0 0,.bool ζ,.slice δ 0 0,.bool ζ,.slice δ 0 0,.bool ζ,.slice δ 0 0,.bool ζ,.slice δ 0 0,.bool ζ,.slice δ 0 0,.bool ζ,.slice δ 0 0,.bool ζ,.slice δ 0 0,.bool ζ,.slice δ 0 0,.bool ζ,.slice δ 0 0,.bool ζ,.slice δ 0 0] (g:=(w4.heap.size+1)) ag);have ZO:=(dr.aH 7).cell;have Zt:=(dr.aH 1).cell;go_wp2_with fail;clear Zf Zg ZN ZO Zt;clear YO YS dr;refine gA2 hS 42 #[cX,aO aq cU cW,cS,aO ar cV cT,cR,aO ap c6 cY] 45 #[.bool ζ,.slice δ 0 0,.bool ζ,.slice δ 0 0,.bool ζ,.slice δ 0 0,.bool ζ,.slice δ 0 0,.bool ζ,.slice δ 0 0,.bool ζ,.slice δ 0 0,.bool ζ,.slice δ 0 0,.bool ζ,.slice δ 0 0,.bool ζ,.slice δ 0 0,.bool ζ,.slice δ 0 0,.bool ζ,.slice δ 0 0,.bool ζ,.slice δ 0 0,.bool ζ,.slice δ 0 0,.bool ζ,.slice δ 0 0,.bool ζ,.slice δ 0 0,.bool ζ,.slice δ 0 0,.bool ζ,.slice δ 0 0,.bool ζ,.slice δ 0 0] ?_;clear hS;intro w5 g9 o9 g10 ZC hS;obtain⟨d4,eh,d7,de⟩:=gX (aeY (1) q0 (1) (aeY (1) q1 (1) q2 (1)) (1));have eE:Sz (N+N+65) d4 eh d7:=(ae8 (m:=1) ⟨_,_,_,I0,S0⟩ ⟨_,_,_,cQ,c7⟩ aa aa aa aa aa aa aa).sz de;refine(mX (jQ g8 _ _ q0 (aeY (1) q1 (1) q2 (1)) (1) (1) (1) _ _ _ (hS.aH 2) ⟨_,_,_,RG.mk (hS.aF 11) (hS.aF 10) (hS.aF 9),I0,S0⟩ ⟨_,_,_,RG.mk (hS.aF 2) (hS.aF 1) (hS.aF 0),cQ,c7⟩ aa aa aa aa aa aa aa aa) de).mono ?_;rintro e w6 ⟨v_,rfl,M,F⟩;replace hS:=hS.mv F;clear F;obtain⟨cg,R,cj,bl,bV,ZA,cJ,bk,cL,ZK,bm,b0,rfl,av,a9,bg⟩:=M;replace hS:=hS.bI av;clear av;replace hS:=hS.bI a9;clear a9;replace hS:=hS.bI bg;clear bg;go_wp2_with fail;refine(KF _).mono ?_;rintro e w7 ⟨v_,rfl,M,F⟩;replace hS:=hS.mv F;clear F;obtain⟨cG,ZI,cl,bx,cb,ZG,cE,ck,cw,Zw,bo,cy,rfl,ax,aw,a3⟩:=M;replace hS:=hS.bI ax;clear ax;replace hS:=hS.bI aw;clear aw;replace hS:=hS.bI a3;clear a3;have ZM:=(hS.aH 0).cell;have ZR:=(hS.aH 0).frozen;have dk:=hS.pt 0 0 [.bool cg,.slice R cj bl,.bool bV,.slice ZA cJ bk,.bool cL,.slice ZK bm b0,.bool cG,.slice ZI cl bx,.bool cb,.slice ZG cE ck,.bool cw,.slice Zw bo cy] ZC;have ZW:=(dk.aH 7).cell;have ZT:=(dk.aH 1).cell;go_wp2_with fail;clear ZM ZR ZW ZT;clear dk;replace hS:=hS.pt 0 0 [.bool cg,.slice R cj bl,.bool bV,.slice ZA cJ bk,.bool cL,.slice ZK bm b0,.bool cG,.slice ZI cl bx,.bool cb,.slice ZG cE ck,.bool cw,.slice Zw bo cy] ZC;refine gW hS ?_;clear hS;intro w8 hS;obtain⟨ea,d5,ep,df⟩:=gX (aeY (2) q0 (-1) (aeY (1) q1 (1) q2 (1)) (2));have eC:Sz (N+N+65) ea d5 ep:=(ae8 (m:=2) ⟨_,_,_,I0,S0⟩ ⟨_,_,_,cQ,c7⟩ aa aa aa aa aa aa aa).sz df;refine(mX (jQ g8 _ _ q0 (aeY (1) q1 (1) q2 (1)) (2) (-1) (2) _ _ _ (hS.aH 2) ⟨_,_,_,RG.mk (hS.aF 17) (hS.aF 16) (hS.aF 15),I0,S0⟩ ⟨_,_,_,RG.mk (hS.aF 8) (hS.aF 7) (hS.aF 6),cQ,c7⟩ aa aa aa aa aa aa aa aa) df).mono ?_;rintro e w9 ⟨v_,rfl,M,F⟩;replace hS:=hS.mv F;clear F;obtain⟨cF,ZE,bt,cH,bw,ZL,bA,cf,ci,ZF,cI,cC,rfl,aE,a5,be⟩:=M;replace hS:=hS.bI aE;clear aE;replace hS:=hS.bI a5;clear a5;replace hS:=hS.bI be;clear be;have ZU:=(hS.aH 0).cell;have ee:=(hS.aH 0).frozen;have dl:=hS.pt 0 12 [.bool cF,.slice ZE bt cH,.bool bw,.slice ZL bA cf,.bool ci,.slice ZF cI cC] ZC;have ZV:=(dl.aH 5).cell;have ZX:=(dl.aH 6).cell;go_wp2_with fail;clear ZU ee ZV ZX;clear dl;replace hS:=hS.pt 0 12 [.bool cF,.slice ZE bt cH,.bool bw,.slice ZL bA cf,.bool ci,.slice ZF cI cC] ZC;refine gW hS ?_;clear hS;intro ZH hS;obtain⟨d9,d2,d8,db⟩:=gX (aeY (1) q2 (-1) q1 (2));have ew:Sz (N+N+65) d9 d2 d8:=(ae8 (m:=2) ⟨_,_,_,I2,S2⟩ ⟨_,_,_,I1,S1⟩ aa aa aa aa aa aa aa).sz db;refine(mX (jQ g8 _ _ q2 q1 (1) (-1) (2) _ _ _ (hS.aH 2) ⟨_,_,_,RG.mk (hS.aF 14) (hS.aF 13) (hS.aF 12),I2,S2⟩ ⟨_,_,_,RG.mk (hS.aF 17) (hS.aF 16) (hS.aF 15),I1,S1⟩ aa aa aa aa aa aa aa aa) db).mono ?_;rintro e Zr ⟨v_,rfl,M,F⟩;replace hS:=hS.mv F;clear F;obtain⟨eT,eA,eS,fd,e1,ey,eL,e5,e3,ez,eN,eV,rfl,aP,a7,bb⟩:=M;replace hS:=hS.bI aP;clear aP;replace hS:=hS.bI a7;clear a7;replace hS:=hS.bI bb;clear bb;go_wp2_with fail;obtain⟨d0,dT,dy,dq⟩:=gX ((aeY (1) q2 (-1) q1 (2))*aeZ 1);have eI:Sz (N+N+65) d0 dT dy:=(ae7 ⟨_,_,_,db,ew⟩ 1).sz dq;refine(mX (iJ g8 _ (aeY (1) q2 (-1) q1 (2)) (N+N+65) 1 (1) _ rfl (hS.aH 2) ⟨_,_,_,RG.mk (hS.aF 2) (hS.aF 1) (hS.aF 0),db,ew⟩ aa aa) dq).mono ?_;rintro e fj ⟨v_,rfl,M,F⟩;replace hS:=hS.mv F;clear F;obtain⟨cr,ZB,cc,cn,cd,YU,bn,ce,cM,YY,cv,cN,rfl,bh,a0,aG⟩:=M;replace hS:=hS.bI bh;clear bh;replace hS:=hS.bI a0;clear a0;replace hS:=hS.bI aG;clear aG;have ek:=(hS.aH 0).cell;have ef:=(hS.aH 0).frozen;have di:=hS.pt 0 18 [.bool cr,.slice ZB cc cn,.bool cd,.slice YU bn ce,.bool cM,.slice YY cv cN] ZC;have ej:=(di.aH 7).cell;have dv:=(di.aH 1).cell;go_wp2_with fail;clear ek ef ej dv;clear di;replace hS:=hS.pt 0 18 [.bool cr,.slice ZB cc cn,.bool cd,.slice YU bn ce,.bool cM,.slice YY cv cN] ZC;refine gW hS ?_;clear hS;intro ZJ hS;obtain⟨es,d1,ed,dc⟩:=gX (aeY (2) q0 (-1) (aeY (1) q1 (1) q2 (1)) (2));have eK:Sz (N+N+65) es d1 ed:=(ae8 (m:=2) ⟨_,_,_,I0,S0⟩ ⟨_,_,_,cQ,c7⟩ aa aa aa aa aa aa aa).sz dc;refine(mX (jQ g8 _ _ q0 (aeY (1) q1 (1) q2 (1)) (2) (-1) (2) _ _ _ (hS.aH 2) ⟨_,_,_,RG.mk (hS.aF 26) (hS.aF 25) (hS.aF 24),I0,S0⟩ ⟨_,_,_,RG.mk (hS.aF 17) (hS.aF 16) (hS.aF 15),cQ,c7⟩ aa aa aa aa aa aa aa aa) dc).mono ?_;rintro e fh ⟨v_,rfl,M,F⟩;replace hS:=hS.mv F;clear F;obtain⟨cp,YV,cx,cB,ca,YR,bq,cP,ch,Zv,cD,cA,rfl,a4,a1,a8⟩:=M;replace hS:=hS.bI a4;clear a4;replace hS:=hS.bI a1;clear a1;replace hS:=hS.bI a8;clear a8;have eg:=(hS.aH 0).cell;have eb:=(hS.aH 0).frozen;have dn:=hS.pt 0 24 [.bool cp,.slice YV cx cB,.bool ca,.slice YR bq cP,.bool ch,.slice Zv cD cA] ZC;have et:=(dn.aH 6).cell;have ds:=(dn.aH 5).cell;go_wp2_with fail;clear eg eb et ds;clear dn;replace hS:=hS.pt 0 24 [.bool cp,.slice YV cx cB,.bool ca,.slice YR bq cP,.bool ch,.slice Zv cD cA] ZC;refine gW hS ?_;clear hS;intro fg hS;obtain⟨du,ei,eo,ZQ⟩:=gX (aeY (1) q1 (-1) q2 (2));have ev:Sz (N+N+65) du ei eo:=(ae8 (m:=2) ⟨_,_,_,I1,S1⟩ ⟨_,_,_,I2,S2⟩ aa aa aa aa aa aa aa).sz ZQ;refine(mX (jQ g8 _ _ q1 q2 (1) (-1) (2) _ _ _ (hS.aH 2) ⟨_,_,_,RG.mk (hS.aF 26) (hS.aF 25) (hS.aF 24),I1,S1⟩ ⟨_,_,_,RG.mk (hS.aF 23) (hS.aF 22) (hS.aF 21),I2,S2⟩ aa aa aa aa aa aa aa aa) ZQ).mono ?_;rintro e fi ⟨v_,rfl,M,F⟩;replace hS:=hS.mv F;clear F;obtain⟨eR,ZY,e6,e7,e0,ZZ,fb,e4,e2,ZP,eW,e9,rfl,aI,aB,bi⟩:=M;replace hS:=hS.bI aI;clear aI;replace hS:=hS.bI aB;clear aB;replace hS:=hS.bI bi;clear bi;go_wp2_with fail;obtain⟨er,dw,dx,dp⟩:=gX ((aeY (1) q1 (-1) q2 (2))*aeZ 1);have eB:Sz (N+N+65) er dw dx:=(ae7 ⟨_,_,_,ZQ,ev⟩ 1).sz dp;refine(mX (iJ g8 _ (aeY (1) q1 (-1) q2 (2)) (N+N+65) 1 (1) _ rfl (hS.aH 2) ⟨_,_,_,RG.mk (hS.aF 2) (hS.aF 1) (hS.aF 0),ZQ,ev⟩ aa aa) dp).mono ?_;rintro e eJ ⟨v_,rfl,M,F⟩;replace hS:=hS.mv F;clear F;obtain⟨Z7,j,Z9,ai,ac,B,Z8,af,am,I,ad,ao,rfl,a6,az,ba⟩:=M;replace hS:=hS.bI a6;clear a6;replace hS:=hS.bI az;clear az;replace hS:=hS.bI ba;clear ba;have fa:=(hS.aH 0).cell;have e8:=(hS.aH 0).frozen;have bp:=hS.pt 0 30 [.bool Z7,.slice j Z9 ai,.bool ac,.slice B Z8 af,.bool am,.slice I ad ao] ZC;have eM:=(bp.aH 2).cell;have da:=(bp.aH 0);have c8:=(bp.aH 4);have HT:=aW (And.intro da c8);clear da c8 bp;(iterate 33 (try (first|go_values|go_skip|go_guarded|go_step|go_upon|go_in|go_back|go_simp)));(go_wp2_with (first|(refine wpList_load_row rfl 45 _ rfl g10 rf 45 _ (0,0) _ HT.o.1 A8 rfl (Pz rfl) ?_)|(refine wpList_store_row rfl 45 _ _ rfl g6 _ rf rf 45 _ HT.o.2 (Pz rfl) rf ah ?_)));replace hS:=(St.row (St.put (W':=((((((eJ.setCell ⟨g10,30,δ⟩ (.bool Z7)).setCell ⟨g10,31,δ⟩ (.slice j Z9 ai)).setCell ⟨g10,32,δ⟩ (.bool ac)).setCell ⟨g10,33,δ⟩ (.slice B Z8 af)).setCell ⟨g10,34,δ⟩ (.bool am)).setCell ⟨g10,35,δ⟩ (.slice I ad ao))) hS 0 30 [.bool Z7,.slice j Z9 ai,.bool ac,.slice B Z8 af,.bool am,.slice I ad ao] (cs':= #[.bool cg,.slice R cj bl,.bool bV,.slice ZA cJ bk,.bool cL,.slice ZK bm b0,.bool cG,.slice ZI cl bx,.bool cb,.slice ZG cE ck,.bool cw,.slice Zw bo cy,.bool cF,.slice ZE bt cH,.bool bw,.slice ZL bA cf,.bool ci,.slice ZF cI cC,.bool cr,.slice ZB cc cn,.bool cd,.slice YU bn ce,.bool cM,.slice YY cv cN,.bool cp,.slice YV cx cB,.bool ca,.slice YR bq cP,.bool ch,.slice Zv cD cA,.bool Z7,.slice j Z9 ai,.bool ac,.slice B Z8 af,.bool am,.slice I ad ao]) (bs':=_) rfl ZC rfl rfl ah rfl) 4 (cs':= #[.bool cg,.slice R cj bl,.bool bV,.slice ZA cJ bk,.bool cL,.slice ZK bm b0,.bool cG,.slice ZI cl bx,.bool cb,.slice ZG cE ck,.bool cw,.slice Zw bo cy,.bool cF,.slice ZE bt cH,.bool bw,.slice ZL bA cf,.bool ci,.slice ZF cI cC,.bool cr,.slice ZB cc cn,.bool cd,.slice YU bn ce,.bool cM,.slice YY cv cN,.bool cp,.slice YV cx cB,.bool ca,.slice YR bq cP,.bool ch,.slice Zv cD cA,.bool Z7,.slice j Z9 ai,.bool ac,.slice B Z8 af,.bool am,.slice I ad ao]) (bs':=_) rfl o6 ah rfl);exact WZ rfl rfl rfl (hS.aH 4) ⟨_,rfl,⟨_,rfl,_,_,_,_,_,_,_,_,_,_,_,_,_,_,_,_,_,_,RA.mk (hS.aF 23) (hS.aF 22) (hS.aF 21) (hS.aF 20) (hS.aF 19) (hS.aF 18) (hS.aF 17) (hS.aF 16) (hS.aF 15) (hS.aF 11) (hS.aF 10) (hS.aF 9) (hS.aF 8) (hS.aF 7) (hS.aF 6) (hS.aF 2) (hS.aF 1) (hS.aF 0),de,Sz.mono eE aa,(LX 0 0),Sz.mono (UU (n:=1) aa) aa,df,Sz.mono eC aa,dq,Sz.mono eI aa,dc,Sz.mono eK aa,dp,Sz.mono eB aa⟩,hS.ext⟩
def Au{w0 w2 w' g t cs}(B)(J:Ext w0 w2)(G:w0.heap.size<=g)(hb:Blk w2 g t cs)(hn:lL cs=ε)(j:w'=puts w2 g 0 B):
  Ext w0 w'/\Blk w' g t (gI cs 0 B)/\(∀v q n,GV w2 v q n->GV w' v q n):=by
 have H:Mod (fun k=>k=g) w2 w':=by rw[j];exact Mod.only (gP _ _ _ _) rfl
 have F:Far (fun k=>k=g) w2:=fun k C _=>by
  obtain rfl:k=g:=C;exact⟨_,_,hb,hn⟩
 have D:Ext w0 w':=by rw[j];exact fK (G:Own w0 g) 0 B J
 have l:Blk w' g t (gI cs 0 B):=by rw[j];exact dm 0 B hb
 exact⟨D,l,fun v q n h=>h.mod H F⟩
def pJ:(prog.info? 102).map (·.size)=γ (18:Nat):=ah
def sU(a b c:En):∀v∈a.cells++(b.cells++c.cells),v.oneCell'=ε:=by
 intro v hv;rw[aaH,aaH] at hv;rcases hv with h|h|h
 .exact eO a v h
 .exact eO b v h
 .exact eO c v h
def pk3 (a b c:En) (k:Nat):En:=if k=0 then a else if k=1 then b else c
def xq(a b c):bD 3 (pk3 a b c)=a.cells++(b.cells++c.cells):=by
 rw[jg,jg,jg];show(([]++a.cells)++b.cells)++c.cells=_;rw[aaX,HV]
def XV(a b c:En):(a.cells++(b.cells++c.cells)).length=18:=rfl
def PG(l B:List Value)(j:l.length=18)(C:B.length=18):gI l.toArray 0 B=B.toArray:=by
 rw[jL,abh,aaX,j,χ aa,adm aa,Z6]
def xA(a b c):(prog.info? 102).map (·.size)=γ (bD 3 (pk3 a b c)).toArray.size:=by
 rw[Ad,xq,XV];exact pJ
def wZ{w g}{l:List Value}{a b c:En}(h:Blk w g 102 (gI l.toArray 0 (a.cells++(b.cells++c.cells))))(Z:l.length=18):Blk w g 102 (bD 3 (pk3 a b c)).toArray:=by
 rw[PG _ _ Z (XV a b c)] at h;rw[xq];exact h
theorem Vj(gx gf C)(f:dY)(eV YB ZK:En)(v z1 z0 M0 M1 w)(hc:dh w gf)(hg:fP w gx 105 393 C)(cv:∀t u,eV.cells[t]? =γ u->C (375+t)=u)(c0:∀t u,ZK.cells[t]? =γ u->C (381+t)=u)(c1:∀t u,YB.cells[t]? =γ u->C (387+t)=u)(cY:GV w eV.v v 841)(g1:GV w YB.v z1 841)(g0:GV w ZK.v z0 841)(hS:Seen M0 M1 v z1 z0)(hr:0<=f.r/\f.r<=1000):
  Calls prog 126 #[aN gx 0,aN gf 0,nX f] w fun e w'=>∃(a:Nat->En),e=.returned (.agg (bD 3 a).toArray)/\(∀k,k<3->GV w' (a k).v (ng f.kind v z1 z0 (GQ.i f.r 0) k) 4400)/\Ext w w':=by
 obtain⟨x2,b1,b2⟩:=an2 w 33 #[f.kind,f.line,f.obj,f.num,f.den,f.r] 102 #[ζ,(),ζ,(),ζ,(),ζ,(),ζ,(),ζ,(),ζ,(),ζ,(),ζ,()];have HX:=aW x2;have Y:=aW b1;have HR:=aW b2;have HC:=aW (hc.ext x2);have HG:=aW (hg.ext x2);have L:=aW (cY.ext x2);have B:=aW (g1.ext x2);have H:=aW (g0.ext x2);have Zx:=aW cv;have ZW:=aW c0;have Zn:=aW c1;have YO:=aW hr;have HS:=aW hS;clear x2 b1 b2 hc hg cY g1 g0 cv c0 c1 hr hS;unfold nX;go_enter func126,ntmps126;go_wp2_with fail;generalize aU _ _=w5 at HX Y HR HC HG L B H⊢;generalize Zj:w.heap.size+1=q2 at HR⊢;have YI:Hid (w.heap.size<=q2):=aW aa;clear Zj;generalize w.heap.size=q1 at Y⊢;have ce:=aX.cell (HG.cell_ (k:=375) aa (Zx.o 0 _ rfl));have cf:=aX.cell (HG.cell_ (k:=376) aa (Zx.o 1 _ rfl));have bA:=aX.cell (HG.cell_ (k:=377) aa (Zx.o 2 _ rfl));have cb:=aX.cell (HG.cell_ (k:=378) aa (Zx.o 3 _ rfl));have bi:=aX.cell (HG.cell_ (k:=379) aa (Zx.o 4 _ rfl));have ca:=aX.cell (HG.cell_ (k:=380) aa (Zx.o 5 _ rfl));have aP:=aX.cell (HG.cell_ (k:=381) aa (ZW.o 0 _ rfl));have aB:=aX.cell (HG.cell_ (k:=382) aa (ZW.o 1 _ rfl));have az:=aX.cell (HG.cell_ (k:=383) aa (ZW.o 2 _ rfl));have aG:=aX.cell (HG.cell_ (k:=384) aa (ZW.o 3 _ rfl));have a1:=aX.cell (HG.cell_ (k:=385) aa (ZW.o 4 _ rfl));have ay:=aX.cell (HG.cell_ (k:=386) aa (ZW.o 5 _ rfl));have ax:=aX.cell (HG.cell_ (k:=387) aa (Zn.o 0 _ rfl));have aw:=aX.cell (HG.cell_ (k:=388) aa (Zn.o 1 _ rfl));have aE:=aX.cell (HG.cell_ (k:=389) aa (Zn.o 2 _ rfl));have a0:=aX.cell (HG.cell_ (k:=390) aa (Zn.o 3 _ rfl));have ar:=aX.cell (HG.cell_ (k:=391) aa (Zn.o 4 _ rfl));have aI:=aX.cell (HG.cell_ (k:=392) aa (Zn.o 5 _ rfl));have dy:=aX.cell ((Y.cell 5).trans rfl);refine uG 24 (Hf [(1,.any),(5,.any),(10,.any),(17,.any),(18,.any),(19,.any),(20,.any),(21,.any),(22,.any),(23,.any)]) (NFs [(1,.eq (.pointer (γ (aM gx 0)))),(5,.eq (.pointer (γ (aM gx 0)))),(10,.eq (.pointer (γ (aM gx 0)))),(17,.gv (GQ.i f.r 0) (64)),(18,.pt),(19,.pt),(20,.pt),(21,.pt)]) (PdG [18,19,20,21]) (PoG (fun i=>if i=18 then eV else YB)) (SG [(22,18),(23,19),(24,20),(25,21)]) (agf _ _ _ _ rf ah) ah ah ?_;refine Qd ?_;refine qj 1 rf ah ?_;refine Qd ?_;refine aS ?_;refine mD rf rf rf rf ?_ ?_
 .exact Adg
 intro v_ ea eg YG;obtain⟨R,Yy⟩:=YG;obtain rfl:v_=_:=Yy.get;clear Yy R;refine Qp ?_;refine qj 3 rf ah ?_;refine Qd ?_;refine aS ?_;refine mD rf rf rf rf ?_ ?_
 .exact Adg
 intro v_ ee d7 YG;obtain⟨R,Yy⟩:=YG;obtain rfl:v_=_:=Yy.get;clear Yy R;refine Qp ?_;refine qj 4 rf ah ?_;refine Qd ?_;refine aS ?_;refine mD rf rf rf rf ?_ ?_
 .exact Adg
 intro v_ ei dT YG;obtain⟨R,Yy⟩:=YG;obtain rfl:v_=_:=Yy.get;clear Yy R;refine Qp ?_;refine qj 6 rf ah ?_;refine Qd ?_;refine aS ?_;refine mD rf rf rf rf ?_ ?_
 .intro R hW I;clear I;go_simp;exact⟨rfl,(dO gf f.r _ (HC.ext hW) (by have:=YO.o;omega) (by have:=YO.o;omega)).mono fun e w' ⟨v,O,hv,J⟩=>⟨v,O,J,fun h=>absurd h aj,yo hv⟩⟩
 intro v_ cr Z9 YG;obtain⟨R,Yy⟩:=YG;obtain⟨ZM,rfl,-⟩:NF.holds (.gv (GQ.i f.r 0) (64)) cr Z9 v_ R:=Yy.get;clear Yy R;refine Qp ?_;refine mD rf rf rf rf ?_ ?_
 .exact AaI
 intro v_ g7 YH YG;obtain⟨R,Yy⟩:=YG;obtain⟨rfl,YU⟩:NF.holds .pt g7 YH v_ R:=Yy.get;clear Yy R;refine Qp ?_;refine mD rf rf rf rf ?_ ?_
 .exact AaI
 intro v_ g8 ZE YG;obtain⟨R,Yy⟩:=YG;obtain⟨rfl,YV⟩:NF.holds .pt g8 ZE v_ R:=Yy.get;clear Yy R;refine Qp ?_;refine mD rf rf rf rf ?_ ?_
 .exact AaI
 intro v_ g9 dv YG;obtain⟨R,Yy⟩:=YG;obtain⟨rfl,ZQ⟩:NF.holds .pt g9 dv v_ R:=Yy.get;clear Yy R;refine Qp ?_;refine mD rf rf rf rf ?_ ?_
 .exact AaI
 intro v_ g10 YJ YG;obtain⟨R,Yy⟩:=YG;obtain⟨rfl,Zc⟩:NF.holds .pt g10 YJ v_ R:=Yy.get;clear Yy R;refine Qp ?_;refine Jb (j:=18) (e:=(.pointer (γ (aM g7 0)),g7,YH)) rf rf rf rf rf YU rf (fun _ _ _ _=>trivial) ?_ ?_
 .intro R hP;exact RB rf rf rf (hP rf)
 intro ec;refine Qp ?_;refine Jb (j:=19) (e:=(.pointer (γ (aM g8 0)),g8,ZE)) rf rf rf rf rf YV rf (fun _ _ _ _=>trivial) ?_ ?_
 .intro R hP;exact RB rf rf rf (hP rf)
 intro d4;refine Qp ?_;refine Qg ?_;intro w6 I;have F:=I.ext;have D:=I.hV 17;have V:Hid (Blk w6 g7 42 #[eV.s1,aO eV.A1 eV.n1 eV.c1,eV.s2,aO eV.A2 eV.n2 eV.c2,eV.s3,aO eV.A3 eV.n3 eV.c3]):=aW (I.post 22 18 _ _ rf rf rf).2;have cI:=aW (I.lw 18);have T:Hid (Blk w6 g8 42 #[YB.s1,aO YB.A1 YB.n1 YB.c1,YB.s2,aO YB.A2 YB.n2 YB.c2,YB.s3,aO YB.A3 YB.n3 YB.c3]):=aW (I.post 23 19 _ _ rf rf rf).2;have cB:=aW (I.lw 19);have S:Hid (Blk w6 g9 42 aQ3):=aW (I.pend 24 20 _ rf rf rf rf).2;have a5:=aW (I.lw 20);have P:Hid (Blk w6 g10 42 aQ3):=aW (I.pend 25 21 _ rf rf rf rf).2;have ap:=aW (I.lw 21);have ZT:=aW (I.nn 18 20 YU ZQ);have ZC:=aW (I.nn 18 21 YU Zc);have ZN:=aW (I.nn 19 20 YV ZQ);have ZB:=aW (I.nn 19 21 YV Zc);have ZA:=aW (I.nn 20 21 ZQ Zc);have ZF:=aW (I.nn 21 20 Zc ZQ);clear I YU YV ZQ Zc ce cf bA cb bi ca aP aB az aG a1 ay ax aw aE a0 ar aI dy;have N:=aW (S.there (o:=0) (n:=6) ag);refine bF rfl 42 (.tmp 9) (.tmp 31) rfl g9 0 ZK.cells rf rf N.o cu (eO ZK) ?_;intro w7 l;refine Qp ?_;obtain⟨F,Yu,M,YQ⟩:=oK ZK F a5.o S.o l;clear l N;replace D:=aW (M _ _ _ D.o);replace V:=aW (YQ _ _ _ ZT.o V.o);replace T:=aW (YQ _ _ _ ZN.o T.o);replace P:=aW (YQ _ _ _ ZF.o P.o);replace S:=aW Yu;clear Yu M YQ;have N:=aW (P.there (o:=0) (n:=6) ag);refine bF rfl 42 (.tmp 10) (.tmp 35) rfl g10 0 ZM.cells rf rf N.o cu (eO ZM) ?_;intro w8 l;refine Qp ?_;obtain⟨F,Yu,M,YQ⟩:=oK ZM F ap.o P.o l;clear l N;replace D:=aW (M _ _ _ D.o);replace V:=aW (YQ _ _ _ ZC.o V.o);replace T:=aW (YQ _ _ _ ZB.o T.o);replace S:=aW (YQ _ _ _ ZA.o S.o);replace P:=aW Yu;clear Yu M YQ;clear ZT ZC ZN ZB ZA ZF;replace HC:=HC.aA F;replace HG:=HG.aA F;replace Y:=Y.aA F;replace HR:=HR.aA F;replace L:=L.aA F;replace B:=B.aA F;replace H:=H.aA F;replace HX:=HX.aC F;clear F;clear cI;clear cB;clear a5;clear ap;go_wp2_with fail;refine(dO gf 0 _ HC.o aa aa).mono ?_;rintro _ w9 ⟨_,rfl,M,F⟩;replace M:∃e:En,_=e.v/\GV w9 e.v (GQ.i 0 0) (64):=yo M;obtain⟨Zq,rfl,M⟩:=M;replace HC:=HC.aA F;replace HG:=HG.aA F;replace Y:=Y.aA F;replace HR:=HR.aA F;replace L:=L.aA F;replace B:=B.aA F;replace H:=H.aA F;replace D:=D.aA F;replace V:=V.aA F;replace T:=T.aA F;replace S:=S.aA F;replace P:=P.aA F;replace HX:=HX.aC F;have K:=aW M;clear F M;have F:=Ext.new w9 (.cells aQ3 42);obtain⟨-,Q⟩:=ah1 w9 42 aQ3;replace K:=K.aA F;have N:=aW (Q.there (o:=0) (n:=6) ag);(iterate 5 (try (first|go_values|go_skip|go_guarded|go_step|go_upon|go_in|go_back|go_simp)));refine bF rfl 42 (.tmp 11) (.tmp 37) rfl w9.heap.size 0 Zq.cells rf rf N.o cu (eO Zq) ?_;intro ZH l;refine Qp ?_;obtain⟨F,Yu,M,-⟩:=oK Zq F (κ _) Q.o l;clear l N;replace K:=aW (M _ _ _ K.o);replace Q:=aW Yu;replace HC:=HC.aA F;replace HG:=HG.aA F;replace Y:=Y.aA F;replace HR:=HR.aA F;replace L:=L.aA F;replace B:=B.aA F;replace H:=H.aA F;replace D:=D.aA F;replace V:=V.aA F;replace T:=T.aA F;replace S:=S.aA F;replace P:=P.aA F;replace HX:=HX.aC F;clear F Yu M;generalize w9.heap.size=ZI at Q⊢;by_cases h3:f.kind<=3
 .have W:=aW (show f.kind<=3 from h3);clear h3;have kf:=Blk.cell Y.o;have Zo:decide (f.kind<=3)=ε:=Δ AcY;go_wp2_with fail;clear kf Zo;have YT:=aW (show Bd (v/(z1*GQ.i 2 0+z0+GQ.i f.r 0*GQ.i 3 0)) 2600 by have G:=HS.bd f.kind YO.o.1 YO.o.2 0;unfold ng at G;rwa[ι W.o] at G);have YS:=aW (HS.neA f.r);have YL:=aX.blk V.o;have YP:=aX.blk T.o;have YN:=aX.blk S.o;have Yw:=aX.blk P.o;have YA:=aX.blk Q.o;refine tN 15 [(6,.gv (z1*GQ.i 2 0) (906)),(8,.gv ((z1*GQ.i 2 0)+z0) (1812)),(11,.gv ((GQ.i f.r 0)*GQ.i 3 0) (129)),(12,.gv (((z1*GQ.i 2 0)+z0)+((GQ.i f.r 0)*GQ.i 3 0)) (2006)),(13,.gv (v/(((z1*GQ.i 2 0)+z0)+((GQ.i f.r 0)*GQ.i 3 0))) (2600)),(14,.box 42 aQ3)] ?_;refine Qs ?_;refine Ee (fun R I=>uU gf YB.v z1 (841) 2 _ (HC.ext I.1) (B.ext I.1) aa aa) ?_;intro cX cw cE;refine Qs ?_;refine Ee (fun R I=>nQ gf cX.v ZK.v (z1*GQ.i 2 0) z0 (906) (841) _ (HC.ext I.1) (ae6 (I.f 6 (cX.v,cw,cE))) (H.ext I.1) aa) ?_;intro de cN cy;refine Qs ?_;refine Ee (fun R I=>uU gf ZM.v (GQ.i f.r 0) (64) 3 _ (HC.ext I.1) (D.ext I.1) aa aa) ?_;intro db cA cH;refine Ee (fun R I=>nQ gf de.v db.v ((z1*GQ.i 2 0)+z0) ((GQ.i f.r 0)*GQ.i 3 0) (1812) (129) _ (HC.ext I.1) (ae6 (I.f 8 (de.v,cN,cy))) (ae6 (I.f 11 (db.v,cA,cH))) aa) ?_;intro df cF cG;refine Ee (fun R I=>nS gf eV.v df.v v (((z1*GQ.i 2 0)+z0)+((GQ.i f.r 0)*GQ.i 3 0)) (841) (2006) _ (HC.ext I.1) (L.ext I.1) (ae6 (I.f 12 (df.v,cF,cG))) YS.o (2600) aa aa YT.o aa) ?_;intro Zt d0 eh;refine Eb ?_;intro g12 ZZ Ze;refine bP ?_;intro Zr I;have F:=I.ext;have ZO:=I.hV 6;have ZU:=I.hV 8;have ZR:=I.hV 11;have ZP:=I.hV 12;have YZ:=I.hV 13;have Zp:=I.hB 14;have ao:=aW (I.lw 14);clear I YL YP YN Yw YA Ze;have N:=aW (Zp.there (o:=0) (n:=6) ag);refine bF rfl 42 (.tmp 12) (.tmp 55) rfl g12 0 Zt.cells rf rf N.o cu (eO Zt) ?_;intro cl l;refine Qp ?_;obtain⟨F,Yu,M,YQ⟩:=oK Zt F ao.o Zp.o l;clear l N;replace ZO:=aW (M _ _ _ ZO.o);replace ZU:=aW (M _ _ _ ZU.o);replace ZR:=aW (M _ _ _ ZR.o);replace ZP:=aW (M _ _ _ ZP.o);replace YZ:=aW (M _ _ _ YZ.o);replace Zp:=aW Yu;clear Yu M YQ;replace HC:=HC.aA F;replace HG:=HG.aA F;replace Y:=Y.aA F;replace HR:=HR.aA F;replace L:=L.aA F;replace B:=B.aA F;replace H:=H.aA F;replace D:=D.aA F;replace K:=K.aA F;replace V:=V.aA F;replace T:=T.aA F;replace S:=S.aA F;replace P:=P.aA F;replace Q:=Q.aA F;replace HX:=HX.aC F;clear F;clear ao;have eo:=Blk.cell Zp.o;have N:=aW (HR.there (o:=0) (n:=18) ag);(iterate 17 (try (first|go_values|go_skip|go_guarded|go_step|go_upon|go_in|go_back|go_simp)));refine bF rfl 102 (.tmp 6) (.tmp 59) rfl q2 0 (Zt.cells++(Zt.cells++Zt.cells)) rf rf N.o pJ (sU _ _ _) ?_;intro ZJ l;obtain⟨F,Yu,M⟩:=Au _ HX.o YI.o HR.o rf l;clear l N;have HB:=aW Yu;have Yv:=aW F;have Yp:=aW M;clear F Yu M;go_wp2_with fail;have U:=wZ HB.o rfl;refine jM rfl rfl rfl U xx rfl (xA _ _ _) ⟨pk3 Zt Zt Zt,rfl,fun k hk=> ?_,Yv.o⟩;have h3:k=0\/k=1\/k=2:=aa;rcases h3 with rfl|rfl|rfl
  .exact Acy
  .exact Acy
  .exact Acy
 by_cases h6:f.kind<=6
 .have W:=aW (show 3<f.kind/\f.kind<=6 from ⟨aa,h6⟩);clear h3 h6;have kf:=Blk.cell Y.o;have Zo:decide (f.kind<=3)=ζ:=π AcY;have a2:decide (f.kind<=6)=ε:=Δ AcY;go_wp2_with fail;clear kf Zo a2;have YT:=aW (show Bd (v/(z1*GQ.i 2 0+GQ.i f.r 0)) 2600 by have G:=HS.bd f.kind YO.o.1 YO.o.2 1;unfold ng at G;rwa[θ (show ¬f.kind<=3 by have:=W.o;omega),ι (show f.kind<=6 by have:=W.o;omega),θ aj,ι rfl] at G);have YS:=aW (HS.neB f.r);have YL:=aX.blk V.o;have YP:=aX.blk T.o;have YN:=aX.blk S.o;have Yw:=aX.blk P.o;have YA:=aX.blk Q.o;refine tN 10 [(5,.gv (z1*GQ.i 2 0) (906)),(7,.gv ((z1*GQ.i 2 0)+(GQ.i f.r 0)) (1035)),(8,.gv (v/((z1*GQ.i 2 0)+(GQ.i f.r 0))) (2600)),(9,.box 42 aQ3)] ?_;refine Qs ?_;refine Ee (fun R I=>uU gf YB.v z1 (841) 2 _ (HC.ext I.1) (B.ext I.1) aa aa) ?_;intro dc cM cR;refine Qs ?_;refine Ee (fun R I=>nQ gf dc.v ZM.v (z1*GQ.i 2 0) (GQ.i f.r 0) (906) (64) _ (HC.ext I.1) (ae6 (I.f 5 (dc.v,cM,cR))) (D.ext I.1) aa) ?_;intro cV cD cn;refine Ee (fun R I=>nS gf eV.v cV.v v ((z1*GQ.i 2 0)+(GQ.i f.r 0)) (841) (1035) _ (HC.ext I.1) (L.ext I.1) (ae6 (I.f 7 (cV.v,cD,cn))) YS.o (2600) aa aa YT.o aa) ?_;intro Z8 d6 d5;refine Eb ?_;intro ZL ed cJ;refine bP ?_;intro Zr I;have F:=I.ext;have Zg:=I.hV 5;have Zi:=I.hV 7;have YK:=I.hV 8;have Zv:=I.hB 9;have ai:=aW (I.lw 9);clear I YL YP YN Yw YA cJ;have N:=aW (Zv.there (o:=0) (n:=6) ag);refine bF rfl 42 (.tmp 13) (.tmp 72) rfl ZL 0 Z8.cells rf rf N.o cu (eO Z8) ?_;intro cl l;refine Qp ?_;obtain⟨F,Yu,M,YQ⟩:=oK Z8 F ai.o Zv.o l;clear l N;replace Zg:=aW (M _ _ _ Zg.o);replace Zi:=aW (M _ _ _ Zi.o);replace YK:=aW (M _ _ _ YK.o);replace Zv:=aW Yu;clear Yu M YQ;replace HC:=HC.aA F;replace HG:=HG.aA F;replace Y:=Y.aA F;replace HR:=HR.aA F;replace L:=L.aA F;replace B:=B.aA F;replace H:=H.aA F;replace D:=D.aA F;replace K:=K.aA F;replace V:=V.aA F;replace T:=T.aA F;replace S:=S.aA F;replace P:=P.aA F;replace Q:=Q.aA F;replace HX:=HX.aC F;clear F;clear ai;go_wp2_with fail;have YL:=aX.blk V.o;have YP:=aX.blk T.o;have YN:=aX.blk S.o;have Yw:=aX.blk P.o;have YA:=aX.blk Q.o;have cP:=aX.blk Zv.o;refine tN 6 [(4,.gv (GQ.i 0 0-(v/((z1*GQ.i 2 0)+(GQ.i f.r 0)))) (2729))] ?_;refine Qs ?_;refine Ee (fun R I=>FC gf Z8.v (v/((z1*GQ.i 2 0)+(GQ.i f.r 0))) (2600) _ (HC.ext I.1) (YK.ext I.1) aa) ?_;intro cU eb d2;simp only[En.v,gv];refine Qs ?_;refine bP ?_;intro ZJ I;have F:=I.ext;have av:=I.hV 4;clear I YL YP YN Yw YA cP;replace HC:=HC.aA F;replace HG:=HG.aA F;replace Y:=Y.aA F;replace HR:=HR.aA F;replace L:=L.aA F;replace B:=B.aA F;replace H:=H.aA F;replace D:=D.aA F;replace K:=K.aA F;replace Zg:=Zg.aA F;replace Zi:=Zi.aA F;replace YK:=YK.aA F;replace HX:=HX.aC F;clear F;have N:=aW (HR.there (o:=0) (n:=18) ag);refine bF rfl 102 (.tmp 6) (.tmp 78) rfl q2 0 (Zq.cells++(Z8.cells++cU.cells)) rf rf N.o pJ (sU _ _ _) ?_;intro dx l;refine Qp ?_;obtain⟨F,Yu,M⟩:=Au _ HX.o YI.o HR.o rf l;clear l N;have HB:=aW Yu;have Yv:=aW F;have Yp:=aW M;clear F Yu M;go_wp2_with fail;have U:=wZ HB.o rfl;refine jM rfl rfl rfl U xx rfl (xA _ _ _) ⟨pk3 Zq Z8 cU,rfl,fun k hk=> ?_,Yv.o⟩;have h3:k=0\/k=1\/k=2:=aa;rcases h3 with rfl|rfl|rfl
  .have G:=(Yp.o _ _ _ K.o).up (show 64<=4400 by omega);unfold ng;rw[θ (show ¬f.kind<=3 by have:=W.o;omega),ι (show f.kind<=6 by have:=W.o;omega),ι rfl];exact G
  .have G:=(Yp.o _ _ _ YK.o).up (show 2600<=4400 by omega);unfold ng;rw[θ (show ¬f.kind<=3 by have:=W.o;omega),ι (show f.kind<=6 by have:=W.o;omega),θ aj,ι rfl];exact G
  .have G:=(Yp.o _ _ _ av.o).up (show 2729<=4400 by omega);unfold ng;rw[θ (show ¬f.kind<=3 by have:=W.o;omega),ι (show f.kind<=6 by have:=W.o;omega),θ aj,θ aj];exact G
 by_cases h9:f.kind<=9
 .have W:=aW (show 6<f.kind/\f.kind<=9 from ⟨aa,h9⟩);clear h3 h6 h9;have kf:=Blk.cell Y.o;have Zo:decide (f.kind<=3)=ζ:=π AcY;have a2:decide (f.kind<=6)=ζ:=π AcY;have ck:decide (f.kind<=9)=ε:=Δ AcY;go_wp2_with fail;clear kf Zo a2 ck;obtain⟨da,cT,cW,c7,c8,c6⟩:=HS.Yn YO.o.1 YO.o.2;have ZG:=aW da;have YW:=aW cT;have Zd:=aW cW;have dt:=aW c7;have cj:=aW c8;have du:=aW c6;clear da cT cW c7 c8 c6;have YL:=aX.blk V.o;have YP:=aX.blk T.o;have YN:=aX.blk S.o;have Yw:=aX.blk P.o;have YA:=aX.blk Q.o;refine tN 7 [(4,.gv ((GQ.i f.r 0)*GQ.i 3 0) (129)),(5,.gv (z0+((GQ.i f.r 0)*GQ.i 3 0)) (1035)),(6,.box 42 aQ3)] ?_;refine Qs ?_;refine Ee (fun R I=>uU gf ZM.v (GQ.i f.r 0) (64) 3 _ (HC.ext I.1) (D.ext I.1) aa aa) ?_;intro cS cL cC;refine Ee (fun R I=>nQ gf ZK.v cS.v z0 ((GQ.i f.r 0)*GQ.i 3 0) (841) (129) _ (HC.ext I.1) (H.ext I.1) (ae6 (I.f 4 (cS.v,cL,cC))) aa) ?_;intro ZV d9 d1;refine Eb ?_;intro Zh Zw YY;refine bP ?_;intro Zr I;have F:=I.ext;have Yt:=I.hV 4;have Yq:=I.hV 5;have Z:=I.hB 6;have Zf:=aW (I.lw 6);clear I YL YP YN Yw YA YY;have N:=aW (Z.there (o:=0) (n:=6) ag);refine bF rfl 42 (.tmp 14) (.tmp 88) rfl Zh 0 ZV.cells rf rf N.o cu (eO ZV) ?_;intro cl l;refine Qp ?_;obtain⟨F,Yu,M,YQ⟩:=oK ZV F Zf.o Z.o l;clear l N;replace Yt:=aW (M _ _ _ Yt.o);replace Yq:=aW (M _ _ _ Yq.o);replace Z:=aW Yu;clear Yu M YQ;replace HC:=HC.aA F;replace HG:=HG.aA F;replace Y:=Y.aA F;replace HR:=HR.aA F;replace L:=L.aA F;replace B:=B.aA F;replace H:=H.aA F;replace D:=D.aA F;replace K:=K.aA F;replace V:=V.aA F;replace T:=T.aA F;replace S:=S.aA F;replace P:=P.aA F;replace Q:=Q.aA F;replace HX:=HX.aC F;clear F;clear Zf;have k8:=Blk.cell T.o;have ZY:=Blk.cell Z.o;go_wp2_with fail;refine(nQ gf YB.v ZV.v z1 (z0+((GQ.i f.r 0)*GQ.i 3 0)) (841) (1035) _ HC.o B.o Yq.o aa).mono ?_;rintro _ ZJ ⟨_,rfl,M,F⟩;replace M:∃e:En,_=e.v/\GV ZJ e.v (z1+(z0+((GQ.i f.r 0)*GQ.i 3 0))) (1941):=yo M;obtain⟨ZX,rfl,M⟩:=M;replace HC:=HC.aA F;replace HG:=HG.aA F;replace Y:=Y.aA F;replace HR:=HR.aA F;replace L:=L.aA F;replace B:=B.aA F;replace H:=H.aA F;replace D:=D.aA F;replace K:=K.aA F;replace Yt:=Yt.aA F;replace Yq:=Yq.aA F;replace V:=V.aA F;replace T:=T.aA F;replace S:=S.aA F;replace P:=P.aA F;replace Q:=Q.aA F;replace Z:=Z.aA F;replace HX:=HX.aC F;have Yr:=aW M;clear F M;have F:=Ext.new ZJ (.cells aQ3 42);obtain⟨-,Yz⟩:=ah1 ZJ 42 aQ3;replace Yr:=Yr.aA F;have N:=aW (Yz.there (o:=0) (n:=6) ag);(iterate 5 (try (first|go_values|go_skip|go_guarded|go_step|go_upon|go_in|go_back|go_simp)));refine bF rfl 42 (.tmp 15) (.tmp 92) rfl ZJ.heap.size 0 ZX.cells rf rf N.o cu (eO ZX) ?_;intro dx l;refine Qp ?_;obtain⟨F,Yu,M,-⟩:=oK ZX F (κ _) Yz.o l;clear l N;replace Yr:=aW (M _ _ _ Yr.o);replace Yz:=aW Yu;replace HC:=HC.aA F;replace HG:=HG.aA F;replace Y:=Y.aA F;replace HR:=HR.aA F;replace L:=L.aA F;replace B:=B.aA F;replace H:=H.aA F;replace D:=D.aA F;replace K:=K.aA F;replace Yt:=Yt.aA F;replace Yq:=Yq.aA F;replace V:=V.aA F;replace T:=T.aA F;replace S:=S.aA F;replace P:=P.aA F;replace Q:=Q.aA F;replace Z:=Z.aA F;replace HX:=HX.aC F;clear F Yu M;generalize ZJ.heap.size=Z7 at Yz⊢;go_wp2_with fail;have YL:=aX.blk V.o;have YP:=aX.blk T.o;have YN:=aX.blk S.o;have Yw:=aX.blk P.o;have YA:=aX.blk Q.o;have Zl:=aX.blk Z.o;have Zz:=aX.blk Yz.o;refine tN 14 [(8,.gv (z1*(z0+((GQ.i f.r 0)*GQ.i 3 0))) (1877)),(10,.gv ((z1*(z0+((GQ.i f.r 0)*GQ.i 3 0)))/(z1+(z0+((GQ.i f.r 0)*GQ.i 3 0)))) (2600)),(11,.gv (z1+((z1*(z0+((GQ.i f.r 0)*GQ.i 3 0)))/(z1+(z0+((GQ.i f.r 0)*GQ.i 3 0))))) (3506)),(12,.gv (v/(z1+((z1*(z0+((GQ.i f.r 0)*GQ.i 3 0)))/(z1+(z0+((GQ.i f.r 0)*GQ.i 3 0)))))) (2600)),(13,.box 42 aQ3)] ?_;refine Qs ?_;refine Ee (fun R I=>uX gf YB.v ZV.v z1 (z0+((GQ.i f.r 0)*GQ.i 3 0)) (841) (1035) _ (HC.ext I.1) (B.ext I.1) (Yq.ext I.1) aa) ?_;intro a8 bj cc;refine Qs ?_;refine Ee (fun R I=>nS gf a8.v ZX.v (z1*(z0+((GQ.i f.r 0)*GQ.i 3 0))) (z1+(z0+((GQ.i f.r 0)*GQ.i 3 0))) (1877) (1941) _ (HC.ext I.1) (ae6 (I.f 8 (a8.v,bj,cc))) (Yr.ext I.1) cj.o (2600) aa aa dt.o aa) ?_;intro bb bp bV;refine Ee (fun R I=>nQ gf YB.v bb.v z1 ((z1*(z0+((GQ.i f.r 0)*GQ.i 3 0)))/(z1+(z0+((GQ.i f.r 0)*GQ.i 3 0)))) (841) (2600) _ (HC.ext I.1) (B.ext I.1) (ae6 (I.f 10 (bb.v,bp,bV))) aa) ?_;intro a6 cd bt;refine Ee (fun R I=>nS gf eV.v a6.v v (z1+((z1*(z0+((GQ.i f.r 0)*GQ.i 3 0)))/(z1+(z0+((GQ.i f.r 0)*GQ.i 3 0))))) (841) (3506) _ (HC.ext I.1) (L.ext I.1) (ae6 (I.f 11 (a6.v,cd,bt))) du.o (2600) aa aa ZG.o aa) ?_;intro Zk dr ds;refine Eb ?_;intro dw ef cx;refine bP ?_;intro ep I;have F:=I.ext;have YD:=I.hV 8;have YE:=I.hV 10;have YC:=I.hV 11;have Yx:=I.hV 12;have YM:=I.hB 13;have af:=aW (I.lw 13);clear I YL YP YN Yw YA Zl Zz cx;have N:=aW (YM.there (o:=0) (n:=6) ag);refine bF rfl 42 (.tmp 16) (.tmp 105) rfl dw 0 Zk.cells rf rf N.o cu (eO Zk) ?_;intro es l;refine Qp ?_;obtain⟨F,Yu,M,YQ⟩:=oK Zk F af.o YM.o l;clear l N;replace YD:=aW (M _ _ _ YD.o);replace YE:=aW (M _ _ _ YE.o);replace YC:=aW (M _ _ _ YC.o);replace Yx:=aW (M _ _ _ Yx.o);replace YM:=aW Yu;clear Yu M YQ;replace HC:=HC.aA F;replace HG:=HG.aA F;replace Y:=Y.aA F;replace HR:=HR.aA F;replace L:=L.aA F;replace B:=B.aA F;replace H:=H.aA F;replace D:=D.aA F;replace K:=K.aA F;replace Yt:=Yt.aA F;replace Yq:=Yq.aA F;replace Yr:=Yr.aA F;replace V:=V.aA F;replace T:=T.aA F;replace S:=S.aA F;replace P:=P.aA F;replace Q:=Q.aA F;replace Z:=Z.aA F;replace Yz:=Yz.aA F;replace HX:=HX.aC F;clear F;clear af;go_wp2_with fail;have YL:=aX.blk V.o;have YP:=aX.blk T.o;have YN:=aX.blk S.o;have Yw:=aX.blk P.o;have YA:=aX.blk Q.o;have Zl:=aX.blk Z.o;have Zz:=aX.blk Yz.o;have aq:=aX.blk YM.o;refine tN 10 [(5,.gv ((v/(z1+((z1*(z0+((GQ.i f.r 0)*GQ.i 3 0)))/(z1+(z0+((GQ.i f.r 0)*GQ.i 3 0))))))*(z0+((GQ.i f.r 0)*GQ.i 3 0))) (3636)),(7,.gv (((v/(z1+((z1*(z0+((GQ.i f.r 0)*GQ.i 3 0)))/(z1+(z0+((GQ.i f.r 0)*GQ.i 3 0))))))*(z0+((GQ.i f.r 0)*GQ.i 3 0)))/(z1+(z0+((GQ.i f.r 0)*GQ.i 3 0)))) (2600)),(8,.gv (GQ.i 0 0-(((v/(z1+((z1*(z0+((GQ.i f.r 0)*GQ.i 3 0)))/(z1+(z0+((GQ.i f.r 0)*GQ.i 3 0))))))*(z0+((GQ.i f.r 0)*GQ.i 3 0)))/(z1+(z0+((GQ.i f.r 0)*GQ.i 3 0))))) (2729)),(9,.box 42 aQ3)] ?_;refine Qs ?_;refine Ee (fun R I=>uX gf Zk.v ZV.v (v/(z1+((z1*(z0+((GQ.i f.r 0)*GQ.i 3 0)))/(z1+(z0+((GQ.i f.r 0)*GQ.i 3 0)))))) (z0+((GQ.i f.r 0)*GQ.i 3 0)) (2600) (1035) _ (HC.ext I.1) (Yx.ext I.1) (Yq.ext I.1) aa) ?_;intro be bm bn;refine Qs ?_;refine Ee (fun R I=>nS gf be.v ZX.v ((v/(z1+((z1*(z0+((GQ.i f.r 0)*GQ.i 3 0)))/(z1+(z0+((GQ.i f.r 0)*GQ.i 3 0))))))*(z0+((GQ.i f.r 0)*GQ.i 3 0))) (z1+(z0+((GQ.i f.r 0)*GQ.i 3 0))) (3636) (1941) _ (HC.ext I.1) (ae6 (I.f 5 (be.v,bm,bn))) (Yr.ext I.1) cj.o (2600) aa aa YW.o aa) ?_;intro a4 bl bx;refine Ee (fun R I=>FC gf a4.v (((v/(z1+((z1*(z0+((GQ.i f.r 0)*GQ.i 3 0)))/(z1+(z0+((GQ.i f.r 0)*GQ.i 3 0))))))*(z0+((GQ.i f.r 0)*GQ.i 3 0)))/(z1+(z0+((GQ.i f.r 0)*GQ.i 3 0)))) (2600) _ (HC.ext I.1) (ae6 (I.f 7 (a4.v,bl,bx))) aa) ?_;intro Zy dn dl;refine Eb ?_;intro YR d8 cp;refine bP ?_;intro ek I;have F:=I.ext;have YX:=I.hV 5;have Za:=I.hV 7;have YF:=I.hV 8;have Zm:=I.hB 9;have am:=aW (I.lw 9);clear I YL YP YN Yw YA Zl Zz aq cp;have N:=aW (Zm.there (o:=0) (n:=6) ag);refine bF rfl 42 (.tmp 17) (.tmp 114) rfl YR 0 Zy.cells rf rf N.o cu (eO Zy) ?_;intro et l;refine Qp ?_;obtain⟨F,Yu,M,YQ⟩:=oK Zy F am.o Zm.o l;clear l N;replace YX:=aW (M _ _ _ YX.o);replace Za:=aW (M _ _ _ Za.o);replace YF:=aW (M _ _ _ YF.o);replace Zm:=aW Yu;clear Yu M YQ;replace HC:=HC.aA F;replace HG:=HG.aA F;replace Y:=Y.aA F;replace HR:=HR.aA F;replace L:=L.aA F;replace B:=B.aA F;replace H:=H.aA F;replace D:=D.aA F;replace K:=K.aA F;replace Yt:=Yt.aA F;replace Yq:=Yq.aA F;replace Yr:=Yr.aA F;replace YD:=YD.aA F;replace YE:=YE.aA F;replace YC:=YC.aA F;replace Yx:=Yx.aA F;replace V:=V.aA F;replace T:=T.aA F;replace S:=S.aA F;replace P:=P.aA F;replace Q:=Q.aA F;replace Z:=Z.aA F;replace Yz:=Yz.aA F;replace YM:=YM.aA F;replace HX:=HX.aC F;clear F;clear am;go_wp2_with fail;have YL:=aX.blk V.o;have YP:=aX.blk T.o;have YN:=aX.blk S.o;have Yw:=aX.blk P.o;have YA:=aX.blk Q.o;have Zl:=aX.blk Z.o;have Zz:=aX.blk Yz.o;have aq:=aX.blk YM.o;have cQ:=aX.blk Zm.o;refine tN 12 [(5,.gv ((v/(z1+((z1*(z0+((GQ.i f.r 0)*GQ.i 3 0)))/(z1+(z0+((GQ.i f.r 0)*GQ.i 3 0))))))*z1) (3442)),(7,.gv (((v/(z1+((z1*(z0+((GQ.i f.r 0)*GQ.i 3 0)))/(z1+(z0+((GQ.i f.r 0)*GQ.i 3 0))))))*z1)/(z1+(z0+((GQ.i f.r 0)*GQ.i 3 0)))) (2600)),(8,.gv (GQ.i 0 0-(((v/(z1+((z1*(z0+((GQ.i f.r 0)*GQ.i 3 0)))/(z1+(z0+((GQ.i f.r 0)*GQ.i 3 0))))))*z1)/(z1+(z0+((GQ.i f.r 0)*GQ.i 3 0))))) (2729))] ?_;refine Qs ?_;refine Ee (fun R I=>uX gf Zk.v YB.v (v/(z1+((z1*(z0+((GQ.i f.r 0)*GQ.i 3 0)))/(z1+(z0+((GQ.i f.r 0)*GQ.i 3 0)))))) z1 (2600) (841) _ (HC.ext I.1) (Yx.ext I.1) (B.ext I.1) aa) ?_;intro bg bk bh;refine Qs ?_;refine Ee (fun R I=>nS gf bg.v ZX.v ((v/(z1+((z1*(z0+((GQ.i f.r 0)*GQ.i 3 0)))/(z1+(z0+((GQ.i f.r 0)*GQ.i 3 0))))))*z1) (z1+(z0+((GQ.i f.r 0)*GQ.i 3 0))) (3442) (1941) _ (HC.ext I.1) (ae6 (I.f 5 (bg.v,bk,bh))) (Yr.ext I.1) cj.o (2600) aa aa Zd.o aa) ?_;intro a3 bw bq;refine Ee (fun R I=>FC gf a3.v (((v/(z1+((z1*(z0+((GQ.i f.r 0)*GQ.i 3 0)))/(z1+(z0+((GQ.i f.r 0)*GQ.i 3 0))))))*z1)/(z1+(z0+((GQ.i f.r 0)*GQ.i 3 0)))) (2600) _ (HC.ext I.1) (ae6 (I.f 7 (a3.v,bw,bq))) aa) ?_;intro a9 dp dq;simp only[En.v,gv];refine Qs ?_;refine bP ?_;intro er I;have F:=I.ext;have ch:=I.hV 5;have cg:=I.hV 7;have ac:=I.hV 8;clear I YL YP YN Yw YA Zl Zz aq cQ;replace HC:=HC.aA F;replace HG:=HG.aA F;replace Y:=Y.aA F;replace HR:=HR.aA F;replace L:=L.aA F;replace B:=B.aA F;replace H:=H.aA F;replace D:=D.aA F;replace K:=K.aA F;replace Yt:=Yt.aA F;replace Yq:=Yq.aA F;replace Yr:=Yr.aA F;replace YD:=YD.aA F;replace YE:=YE.aA F;replace YC:=YC.aA F;replace Yx:=Yx.aA F;replace YX:=YX.aA F;replace Za:=Za.aA F;replace YF:=YF.aA F;replace HX:=HX.aC F;clear F;have N:=aW (HR.there (o:=0) (n:=18) ag);refine bF rfl 102 (.tmp 6) (.tmp 126) rfl q2 0 (a9.cells++(Zk.cells++Zy.cells)) rf rf N.o pJ (sU _ _ _) ?_;intro ej l;refine Qp ?_;obtain⟨F,Yu,M⟩:=Au _ HX.o YI.o HR.o rf l;clear l N;have HB:=aW Yu;have Yv:=aW F;have Yp:=aW M;clear F Yu M;go_wp2_with fail;have U:=wZ HB.o rfl;refine jM rfl rfl rfl U xx rfl (xA _ _ _) ⟨pk3 a9 Zk Zy,rfl,fun k hk=> ?_,Yv.o⟩;have h3:k=0\/k=1\/k=2:=aa;rcases h3 with rfl|rfl|rfl
  .have G:=(Yp.o _ _ _ ac.o).up (show 2729<=4400 by omega);unfold ng;rw[θ (show ¬f.kind<=3 by have:=W.o;omega),θ (show ¬f.kind<=6 by have:=W.o;omega),ι (show f.kind<=9 by have:=W.o;omega),ι rfl];exact G
  .have G:=(Yp.o _ _ _ Yx.o).up (show 2600<=4400 by omega);unfold ng;rw[θ (show ¬f.kind<=3 by have:=W.o;omega),θ (show ¬f.kind<=6 by have:=W.o;omega),ι (show f.kind<=9 by have:=W.o;omega),θ aj,ι rfl];exact G
  .have G:=(Yp.o _ _ _ YF.o).up (show 2729<=4400 by omega);unfold ng;rw[θ (show ¬f.kind<=3 by have:=W.o;omega),θ (show ¬f.kind<=6 by have:=W.o;omega),ι (show f.kind<=9 by have:=W.o;omega),θ aj,θ aj];exact G
 have W:=aW (show 9<f.kind from aa);clear h3 h6 h9;have kf:=Blk.cell Y.o;have Zo:decide (f.kind<=3)=ζ:=π AcY;have a2:decide (f.kind<=6)=ζ:=π AcY;have ck:decide (f.kind<=9)=ζ:=π AcY;go_wp2_with fail;clear kf Zo a2 ck;have YT:=aW (show Bd (v/(z1+GQ.i f.r 0)) 2600 by have G:=HS.bd f.kind YO.o.1 YO.o.2 1;unfold ng at G;rwa[θ (show ¬f.kind<=3 by have:=W.o;omega),θ (show ¬f.kind<=6 by have:=W.o;omega),θ (show ¬f.kind<=9 by have:=W.o;omega),ι rfl] at G);have YS:=aW (HS.neD f.r);have YL:=aX.blk V.o;have YP:=aX.blk T.o;have YN:=aX.blk S.o;have Yw:=aX.blk P.o;have YA:=aX.blk Q.o;refine tN 10 [(6,.gv (z1+(GQ.i f.r 0)) (970)),(7,.gv (v/(z1+(GQ.i f.r 0))) (2600))] ?_;refine Qs ?_;refine Ee (fun R I=>nQ gf YB.v ZM.v z1 (GQ.i f.r 0) (841) (64) _ (HC.ext I.1) (B.ext I.1) (D.ext I.1) aa) ?_;intro ba b0 bo;refine Ee (fun R I=>nS gf eV.v ba.v v (z1+(GQ.i f.r 0)) (841) (970) _ (HC.ext I.1) (L.ext I.1) (ae6 (I.f 6 (ba.v,b0,bo))) YS.o (2600) aa aa YT.o aa) ?_;intro a7 dk di;simp only[En.v,gv];refine Qs ?_;refine bP ?_;intro Zr I;have F:=I.ext;have ci:=I.hV 6;have ad:=I.hV 7;clear I YL YP YN Yw YA;replace HC:=HC.aA F;replace HG:=HG.aA F;replace Y:=Y.aA F;replace HR:=HR.aA F;replace L:=L.aA F;replace B:=B.aA F;replace H:=H.aA F;replace D:=D.aA F;replace K:=K.aA F;replace HX:=HX.aC F;clear F;have N:=aW (HR.there (o:=0) (n:=18) ag);refine bF rfl 102 (.tmp 6) (.tmp 136) rfl q2 0 (Zq.cells++(a7.cells++Zq.cells)) rf rf N.o pJ (sU _ _ _) ?_;intro cl l;refine Qp ?_;obtain⟨F,Yu,M⟩:=Au _ HX.o YI.o HR.o rf l;clear l N;have HB:=aW Yu;have Yv:=aW F;have Yp:=aW M;clear F Yu M;go_wp2_with fail;have U:=wZ HB.o rfl;refine jM rfl rfl rfl U xx rfl (xA _ _ _) ⟨pk3 Zq a7 Zq,rfl,fun k hk=> ?_,Yv.o⟩;have h3:k=0\/k=1\/k=2:=aa;rcases h3 with rfl|rfl|rfl
 .exact AbQ
 .have G:=(Yp.o _ _ _ ad.o).up (show 2600<=4400 by omega);unfold ng;rw[θ (show ¬f.kind<=3 by have:=W.o;omega),θ (show ¬f.kind<=6 by have:=W.o;omega),θ (show ¬f.kind<=9 by have:=W.o;omega),ι rfl];exact G
 .exact AbQ
end Go.Proofs.YtbfnfkppkmpieaaGreat
