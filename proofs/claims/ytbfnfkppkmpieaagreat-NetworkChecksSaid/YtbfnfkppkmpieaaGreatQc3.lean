import Derived.Test.YtbfnfkppkmpieaaGreatQb
set_option linter.unusedVariables false
set_option linter.unusedSimpArgs false
set_option maxHeartbeats 25600000
set_option maxRecDepth 200000
set_option linter.defProp false
namespace Go.Proofs.YtbfnfkppkmpieaaGreat
open Go.RowKit
instance:DecidableEq GQ:=fun x y=>decidable_of_iff (x.re=y.re/\x.im=y.im) ⟨fun h=>GQ.ext h.1 h.2,fun h=>by rw[h];exact⟨rfl,rfl⟩⟩
theorem GQ.gu{x y}(h:y≠GQ.i 0 0):x/y*y=x:=by
 have j:=GQ.Ay h;unfold GQ.nrm at j;ext<;>simp only[GQ.aZ,GQ.aX,GQ.zH,GQ.uC,GQ.nrm]<;>grind
def GQ.qm(y):GQ.i 0 0/y=GQ.i 0 0:=by
 ext<;>simp only[GQ.zH,GQ.uC,GQ.dE,GQ.dB]<;>grind
def fp (X:Nat->Nat->GQ) (c:Nat):Nat->Nat->Option Nat
 |0,_=>none
 |n+1,k=>if X k c=GQ.i 0 0 then fp X c n (k+1) else some k
theorem yV{X c p}:∀{n k:Nat},k<=p->p<k+n->(∀i,k<=i->i<p->X i c=GQ.i 0 0)->X p c≠GQ.i 0 0->fp X c n k=some p
 |0,k,h1,h2,_,_=>aa
 |n+1,k,h1,h2,h,h0=>by
  unfold fp;by_cases e:k=p
  .subst e;rw[if_neg h0]
  .rw[if_pos (h k (Nat.le_refl _) aa)];exact yV aa aa (fun i hi=>h i aa) h0
theorem yQ{X c}:∀{n k:Nat},(∀i,k<=i->i<k+n->X i c=GQ.i 0 0)->fp X c n k=none
 |0,_,_=>rfl
 |n+1,k,h=>by
  unfold fp;rw[if_pos (h k (Nat.le_refl _) aa)];exact yQ (fun i l j=>h i aa aa)
theorem oM{X c}:∀{n k:Nat},fp X c n k=none->∀i,k<=i->i<k+n->X i c=GQ.i 0 0
 |0,k,_,i,h1,h2=>aa
 |n+1,k,h,i,h1,h2=>by
  unfold fp at h;by_cases e:X k c=GQ.i 0 0
  .rw[if_pos e] at h;by_cases j:i=k
   .subst j;exact e
   .exact oM h i aa aa
  .rw[if_neg e] at h;cases h
theorem iD{X c p}:∀{n k:Nat},fp X c n k=some p->k<=p/\p<k+n/\X p c≠GQ.i 0 0/\∀i,k<=i->i<p->X i c=GQ.i 0 0
 |0,k,h=>by cases h
 |n+1,k,h=>by
  unfold fp at h;by_cases e:X k c=GQ.i 0 0
  .rw[if_pos e] at h;obtain⟨l,B,C,D⟩:=iD h;refine⟨aa,aa,C,fun i hi hp=> ?_⟩;by_cases j:i=k
   .subst j;exact e
   .exact D i aa hp
  .rw[if_neg e] at h;cases h;exact⟨Nat.le_refl _,aa,e,fun i l B=>aa⟩
def swp (k r i:Nat):Nat:=if i=k then r else if i=r then k else i
theorem PX(k i):swp k k i=i:=by unfold swp;split<;>omega
theorem nJ(k r):swp k r r=k:=by unfold swp;split<;>simp_all
theorem Vz(k r):swp k r k=r:=by unfold swp;simp
theorem uH{k r i}(l:i≠k)(j:i≠r):swp k r i=i:=by unfold swp;rw[if_neg l,if_neg j]
theorem kU{k r i m}(j:k<m)(l:r<m)(hi:i<m):swp k r i<m:=by unfold swp;split<;>(try split)<;>omega
theorem DU(k r i):swp k r (swp k r i)=i:=by unfold swp;split<;>(try split)<;>(try split)<;>(try split)<;>omega
def clr (X:Nat->Nat->GQ) (r c:Nat):Nat->Nat->GQ:=fun i j=>if r<i then X i j-X i c/X r c*X r j else X i j
structure Ec where
 r:Nat
 X:Nat->Nat->GQ
 odd:Bool
 q:List Nat
def jL (m c:Nat) (s:Ec):Ec:=
 match fp s.X c (m-s.r) s.r with
 |none=>s
 |some k=>⟨s.r+1,clr (fun i=>s.X (swp k s.r i)) s.r c,s.odd^^decide (k≠s.r),c::s.q⟩
def ech (m:Nat) (X:Nat->Nat->GQ):Nat->Ec
 |0=>⟨0,X,false,[]⟩
 |c+1=>jL m c (ech m X c)
theorem eF{m c}{s:Ec}(h:fp s.X c (m-s.r) s.r=none):jL m c s=s:=by unfold jL;rw[h]
theorem dG{m c k}{s:Ec}(h:fp s.X c (m-s.r) s.r=some k):jL m c s=⟨s.r+1,clr (fun i=>s.X (swp k s.r i)) s.r c,s.odd^^decide (k≠s.r),c::s.q⟩:=by unfold jL;rw[h]
structure Inv (m:Nat) (X0:Nat->Nat->GQ) (c:Nat) (s:Ec) (o:Nat->Nat) (P:List (Nat->GQ)):Prop where
 rm:s.r<=m
 pl:P.length=s.r
 ql:s.q.length=s.r
 ne:det P s.q≠GQ.i 0 0
 qc:∀d∈s.q,d<c
 pm:∀p∈P,∃i,i<m/\p=X0 i
 om:∀i,i<m->o i<m
 sy:∀i,s.r<=i->i<m->Says (s.X i) (X0 (o i)) P
 z:∀i j,s.r<=i->i<m->j<c->s.X i j=GQ.i 0 0
def Inv.start(m l):Inv m l 0 (ech m l 0) (fun i=>i) []:=
 ⟨by simp[ech],rfl,rfl,by show GQ.i 1 0≠_;decide,by simp[ech],ag,fun i h=>h,fun i _ _=>Says.refl _ _,by intros;omega⟩
theorem Inv.step{m c l}{s:Ec}{o P}(h:Inv m l c s o P):∃H D,Inv m l (c+1) (jL m c s) H D:=by
 have O:=h.rm;cases J:fp s.X c (m-s.r) s.r with
 |none=>
  rw[eF J];refine⟨o,P,h.rm,h.pl,h.ql,h.ne,fun d hd=>Nat.lt_succ_of_lt (h.qc d hd),h.pm,h.om,h.sy,fun i j G I N=> ?_⟩;by_cases e:j=c
  .subst e;exact oM J i G aa
  .exact h.z i j G I aa
 |some k=>
  obtain⟨K,R,M,Q⟩:=iD J;rw[dG J];have B:swp k s.r s.r=k:=nJ _ _;have L:=(h.sy k K aa).entry (fun d hd=>h.z k d K aa (h.qc d hd)) c;refine⟨fun i=>o (swp k s.r i),l (o k)::P,by show s.r+1<=m;omega,by simp[h.pl],by simp[h.ql],?_,?_,?_,?_,?_,?_⟩
  .show det (l (o k)::P) (c::s.q)≠_;rw[L];exact GQ.iK M h.ne
  .intro d hd;rcases List.mem_cons.1 hd with rfl|hd
   .omega
   .exact Nat.lt_succ_of_lt (h.qc d hd)
  .intro p hp;rcases List.mem_cons.1 hp with rfl|hp
   .exact⟨o k,h.om k aa,rfl⟩
   .exact h.pm p hp
  .intro i hi;exact h.om _ (kU aa aa hi)
  .intro i G I;have C:s.r<i:=G;have e:(clr (fun i=>s.X (swp k s.r i)) s.r c) i=fun j=>s.X (swp k s.r i) j-(s.X (swp k s.r i) c/s.X k c)*s.X k j:=by
    funext j;unfold clr;rw[if_pos C];simp only[B]
   show Says ((clr (fun i=>s.X (swp k s.r i)) s.r c) i) _ _;rw[e];have F:s.r<=swp k s.r i:=by unfold swp;split<;>(try split)<;>omega
   exact Says.step (h.sy _ F (kU aa aa I)) (h.sy k K aa) _
  .intro i j G I N;have C:s.r<i:=G;have F:s.r<=swp k s.r i:=by unfold swp;split<;>(try split)<;>omega
   have W:=kU (k:=k) (r:=s.r) (i:=i) (m:=m) aa aa I;show(clr (fun i=>s.X (swp k s.r i)) s.r c) i j=_;unfold clr;rw[if_pos C];simp only[B];by_cases e:j=c
   .subst e;rw[GQ.gu M,GQ.qx]
   .rw[h.z _ j F W aa,h.z k j K aa aa,GQ.bI,GQ.eu]
def nN(m l):∀c,∃o P,Inv m l c (ech m l c) o P
 |0=>⟨_,_,Inv.start m l⟩
 |c+1=>by
  obtain⟨o,P,h⟩:=nN m l c;exact h.step
def Su(v0 q0 n0 v1 q1 n1 w)(j:GV w v0 q0 n0)(J:GV w v1 q1 n1)(hn:2*max n0 n1+65<=12800):
  CV 194 #[v0,v1] w fun v w'=>(∃u,v=.tuple #[u,.int .i64 0]/\GV w' u (q0+q1) (n0+n1+65)):=by
 have:=UV v0 q0 n0 v1 q1 n1 w j J hn;rwa[Ms] at this
def Lb(v0 q0 n0 v1 q1 n1 w)(j:GV w v0 q0 n0)(J:GV w v1 q1 n1)(hn:2*max n0 n1+65<=12800):
  CV 135 #[v0,v1] w fun v w'=>(∃u,v=.tuple #[u,.int .i64 0]/\GV w' u (q0-q1) (n0+n1+65)):=by
 have:=Uq v0 q0 n0 v1 q1 n1 w j J hn;rwa[MC] at this
def Cf(v u p j m n w)(L:PV w v p m)(l:PV w u j n)(h:p=j):
  CE 21 #[v,u] w (.bool true):=by subst h;exact Bc v u p m n w L l
instance (a d x z r n:Int):Decidable (RZ a d x z r n):=by unfold RZ;infer_instance
def jg (w:World) (g:Nat):Prop:=Blk w g 250 #[.int .i64 0]
def jg.ext{w w' g}(h:jg w g)(x:Ext w w'):jg w' g:=Blk.ext h x
def eX{w w' g n q s1 s2 s3 A1 A2 A3 n1 c1 n2 c2 n3 c3}(J:Ext w w')(l:w.heap.size<=g)(hb:Blk w' g 42 #[.bool false,.slice none 0 0,.bool false,.slice none 0 0,.bool false,.slice none 0 0])(h:GV w' (gv s1 A1 n1 c1 s2 A2 n2 c2 s3 A3 n3 c3) q n):
  Ext w ((((((w'.setCell ⟨g,0,none⟩ (.bool s1)).setCell ⟨g,1,none⟩ (.slice A1 n1 c1)).setCell ⟨g,2,none⟩ (.bool s2)).setCell ⟨g,3,none⟩ (.slice A2 n2 c2)).setCell ⟨g,4,none⟩ (.bool s3)).setCell ⟨g,5,none⟩ (.slice A3 n3 c3))/\
  Blk ((((((w'.setCell ⟨g,0,none⟩ (.bool s1)).setCell ⟨g,1,none⟩ (.slice A1 n1 c1)).setCell ⟨g,2,none⟩ (.bool s2)).setCell ⟨g,3,none⟩ (.slice A2 n2 c2)).setCell ⟨g,4,none⟩ (.bool s3)).setCell ⟨g,5,none⟩ (.slice A3 n3 c3)) g 42 #[.bool s1,.slice A1 n1 c1,.bool s2,.slice A2 n2 c2,.bool s3,.slice A3 n3 c3]/\
  GV ((((((w'.setCell ⟨g,0,none⟩ (.bool s1)).setCell ⟨g,1,none⟩ (.slice A1 n1 c1)).setCell ⟨g,2,none⟩ (.bool s2)).setCell ⟨g,3,none⟩ (.slice A2 n2 c2)).setCell ⟨g,4,none⟩ (.bool s3)).setCell ⟨g,5,none⟩ (.slice A3 n3 c3)) (gv s1 A1 n1 c1 s2 A2 n2 c2 s3 A3 n3 c3) q n:=by
 have B:Mod (fun k=>k=g) w' (puts w' g 0 [.bool s1,.slice A1 n1 c1,.bool s2,.slice A2 n2 c2,.bool s3,.slice A3 n3 c3]):=Mod.only (fK _ _ _ _) rfl;have hS:Far (fun k=>k=g) w':=fun k C _=>by subst C;exact⟨_,_,hb,rfl⟩
 have ec:fD #[.bool false,.slice none 0 0,.bool false,.slice none 0 0,.bool false,.slice none 0 0] 0 [.bool s1,.slice A1 n1 c1,.bool s2,.slice A2 n2 c2,.bool s3,.slice A3 n3 c3]= #[.bool s1,.slice A1 n1 c1,.bool s2,.slice A2 n2 c2,.bool s3,.slice A3 n3 c3]:=ah;have D:=gz l 0 [.bool s1,.slice A1 n1 c1,.bool s2,.slice A2 n2 c2,.bool s3,.slice A3 n3 c3] J;have j:=bY 0 [.bool s1,.slice A1 n1 c1,.bool s2,.slice A2 n2 c2,.bool s3,.slice A3 n3 c3] hb;rw[ec] at j;exact⟨D,j,h.mod B hS⟩
def rY(g v q n w)(hc:jg w g)(L:GV w v q n):
  CV 226 #[.pointer (some ⟨g,0,none⟩),v,.int .i64 0] w fun v w'=>GV w' v q n:=by
 obtain⟨s1,A1,n1,c1,s2,A2,n2,c2,s3,A3,n3,c3,rfl⟩:=L.opn;have D:=Blk.cell hc;have l:=Blk.frozen hc;have j:Ext w (w.setCell ⟨g,0,none⟩ (.int .i64 0)):=(Ext.refl w).stay hc rfl;have O:=hc.ext j;have F:=Blk.cell O;have C:g<w.heap.size:=Blk.lt hc;have B:=aJ (L.ext j);clear L;go_enter Tryz.func226,Tryz.ntmps226;(go_wp2_with fail);exact dh rfl rfl rfl (Blk.new' _ _ Abj) ⟨_,rfl,B.ext ((Ext.new _ _).alloc _),j.trans ((Ext.new _ _).alloc _)⟩
def Sa(g v0 v1 q0 q1 n0 n1 w)(hc:jg w g)(L:GV w v0 q0 n0)(l:GV w v1 q1 n1)(hn:2*max n0 n1+65<=12800):
  CV 224 #[.pointer (some ⟨g,0,none⟩),v0,v1] w fun v w'=>GV w' v (q0-q1) (n0+n1+65):=by
 obtain⟨D,H,C,G,K,N,P,Q,W,V,S,U,rfl⟩:=L.opn;obtain⟨Ws,Wv,Y,Wp,M,Wq,Wu,Z,R,Ww,T,Wt,rfl⟩:=l.opn;have HX:=aJ L;have HY:=aJ l;clear L l;obtain⟨B,I,F,j⟩:=an3 w 42 #[.bool D,.slice H C G,.bool K,.slice N P Q,.bool W,.slice V S U] 42 #[.bool Ws,.slice Wv Y Wp,.bool M,.slice Wq Wu Z,.bool R,.slice Ww T Wt] 42 #[.bool false,.slice none 0 0,.bool false,.slice none 0 0,.bool false,.slice none 0 0];have O:=hc.ext B;have k0:=Blk.cell O;go_enter Tryz.func224,Tryz.ntmps224;(go_wp2_with fail);refine(Lb _ q0 n0 _ q1 n1 _ (HX.ext B) (HY.ext B) hn).mono ?_;exact AbQ
def Sy(g v0 v1 q0 q1 n0 n1 w)(hc:jg w g)(L:GV w v0 q0 n0)(l:GV w v1 q1 n1)(hn:2*max n0 n1+1<=12800):
  CV 225 #[.pointer (some ⟨g,0,none⟩),v0,v1] w fun v w'=>GV w' v (q0*q1) (n0+n1+1):=by
 obtain⟨D,H,C,G,K,N,P,Q,W,V,S,U,rfl⟩:=L.opn;obtain⟨Ws,Wv,Y,Wp,M,Wq,Wu,Z,R,Ww,T,Wt,rfl⟩:=l.opn;have HX:=aJ L;have HY:=aJ l;clear L l;obtain⟨B,I,F,j⟩:=an3 w 42 #[.bool D,.slice H C G,.bool K,.slice N P Q,.bool W,.slice V S U] 42 #[.bool Ws,.slice Wv Y Wp,.bool M,.slice Wq Wu Z,.bool R,.slice Ww T Wt] 42 #[.bool false,.slice none 0 0,.bool false,.slice none 0 0,.bool false,.slice none 0 0];have O:=hc.ext B;have k0:=Blk.cell O;go_enter Tryz.func225,Tryz.ntmps225;(go_wp2_with fail);refine(Ps _ q0 n0 _ q1 n1 _ (HX.ext B) (HY.ext B) hn).mono ?_;exact AbQ
def SQ(g v0 v1 q0 q1 n0 n1 w)(hc:jg w g)(L:GV w v0 q0 n0)(l:GV w v1 q1 n1)(h0:q1≠GQ.i 0 0)(hn:4*max n0 n1+3<=12800):
  CV 213 #[.pointer (some ⟨g,0,none⟩),v0,v1] w fun v w'=>GV w' v (q0/q1) (n0+(n1+n1+1)):=by
 obtain⟨D,H,C,G,K,N,P,Q,W,V,S,U,rfl⟩:=L.opn;obtain⟨Ws,Wv,Y,Wp,M,Wq,Wu,Z,R,Ww,T,Wt,rfl⟩:=l.opn;have HX:=aJ L;have HY:=aJ l;clear L l;obtain⟨B,I,F,j⟩:=an3 w 42 #[.bool D,.slice H C G,.bool K,.slice N P Q,.bool W,.slice V S U] 42 #[.bool Ws,.slice Wv Y Wp,.bool M,.slice Wq Wu Z,.bool R,.slice Ww T Wt] 42 #[.bool false,.slice none 0 0,.bool false,.slice none 0 0,.bool false,.slice none 0 0];have O:=hc.ext B;have k0:=Blk.cell O;go_enter Tryz.func213,Tryz.ntmps213;(go_wp2_with fail);refine(U8 _ q0 n0 _ q1 n1 _ (HX.ext B) (HY.ext B) (aJ h0) hn).mono ?_;exact AbQ
def OI(g w)(hc:jg w g):
  CV 223 #[.pointer (some ⟨g,0,none⟩)] w fun v w'=>GV w' v (GQ.i 0 0) 64:=by
 obtain⟨l,j⟩:=an1 w 42 #[.bool false,.slice none 0 0,.bool false,.slice none 0 0,.bool false,.slice none 0 0];have O:=hc.ext l;go_enter Tryz.func223,Tryz.ntmps223;(go_wp2_with fail);refine(TA 0 0 1 _ aa aa aa aa aa aa aa).mono ?_;rintro e w2 ⟨v,rfl,⟨u,rfl,B⟩,J⟩;replace l:=l.trans J;replace j:=j.ext J;replace O:=O.ext J;clear J;have L:(⟨((0:Int):Rat)/((1:Int):Rat),((0:Int):Rat)/((1:Int):Rat)⟩:GQ)=GQ.i 0 0:=by ext<;>simp only[GQ.dE,GQ.dB]<;>grind
 rw[L] at B;(go_wp2_with fail);refine(rY g u _ _ _ O B).mono ?_;rintro e W ⟨v,rfl,hv,J⟩;replace l:=l.trans J;replace j:=j.ext J;clear J B O;obtain⟨I,V,U,R,G,F,T,S,Q,K,P,M,rfl⟩:=hv.opn;have Z:=j.cell;have Y:=j.frozen;obtain⟨p1,p2,C⟩:=eX l aa j hv;have D:=aJ p1;have H:=aJ p2;have N:=aJ C;clear p1 p2 C l j hv;(go_wp2_with fail);exact dh rfl rfl rfl H.o ⟨_,rfl,N.o,D.o⟩
def uU(v q n w)(L:GV w v q n)(hn:n<=12800):
  CE 90 #[v] w (.bool (decide (q=GQ.i 0 0))):=by
 by_cases h:q=GQ.i 0 0
 .rw[decide_eq_true h];exact xM v q n w L hn h
 .rw[decide_eq_false h];exact BU v q n w L hn h
structure Rw where
 A:Option Addr
 b:Nat
 o:Nat
 n:Nat
 c:Nat
def Rw.v (r:Rw):Value:=.slice r.A r.n r.c
structure Mem (w:World) (A:Option Addr) (B O m:Nat) (R:Nat->Rw) (E:Nat->Nat->En):Prop where
 at0:0<m->A=some ⟨B,O,none⟩
 row:∀i,i<m->w.cell? ⟨B,O+i,none⟩=some (R i).v
 ra:∀i,i<m->0<(R i).n->(R i).A=some ⟨(R i).b,(R i).o,none⟩
 el:∀i j,i<m->j<(R i).n->∀t u,(E i j).cells[t]? =some u->w.cell? ⟨(R i).b,(R i).o+(j*6+t),none⟩=some u
 lm:m<=9223372036854775807
 ln:∀i,i<m->(R i).n<=9223372036854775807
theorem FB{w w' p u}(h:w.cell? p=some u)(x:Ext w w'):w'.cell? p=some u:=by
 have hp:p.block<w.heap.size:=by
  rcases Nat.lt_or_ge p.block w.heap.size with j|l
  .exact j
  .unfold World.cell? at h;rw[Array.getElem?_eq_none l] at h;simp at h
 exact(x.cell hp).trans h
section
variable {w w':World} {A:Option Addr} {B O m c:Nat} {R:Nat->Rw} {E:Nat->Nat->En}
def Mem.ext(h:Mem w A B O m R E)(x:Ext w w'):Mem w' A B O m R E:=
 ⟨h.at0,fun i hi=>FB (h.row i hi) x,h.ra,fun i j hi C t u l=>FB (h.el i j hi C t u l) x,h.lm,h.ln⟩
def wd (m:Nat) (R:Nat->Rw):Nat:=if m=0 then 0 else (R 0).n
theorem qz(h:Mem w A B O m R E):CE 190 #[.slice A m c] w (.int .i64 (wd m R:Nat)):=by
 by_cases j:m=0
 .have D:((m:Int)==0)=true:=by simp[j]
  have l:wd m R=0:=by unfold wd;rw[if_pos j]
  rw[l];clear j;exact AaN
 .have D:((m:Int)==0)=false:=by simp[j]
  have l:wd m R=(R 0).n:=by unfold wd;rw[if_neg j]
  rw[l];have C:=h.at0 aa;have F:w.cell? ⟨B,O,none⟩=some (.slice (R 0).A (R 0).n (R 0).c):=h.row 0 aa;subst C;have q1:(0:Int)<(m:Int):=aa;exact AaN
def IsM (m:Nat) (R:Nat->Rw) (vb:Nat->Nat->Bool):Prop:=m<=24/\wd m R<=24/\(∀i,i<m->(R i).n=wd m R)/\∀i j,i<m->j<(R i).n->vb i j=true
def Mem.aN(h:Mem w A B O m R E){i}(hi:i<m)(x:Ext w w'):w'.cell? ⟨B,O+i,none⟩=some (.slice (R i).A (R i).n (R i).c):=x.cell_ (h.row i hi)
def Mem.cells(h:Mem w A B O m R E){i j}(hi:i<m)(l:j<(R i).n)(x:Ext w w'):
  w'.cell? ⟨(R i).b,(R i).o+j*6,none⟩=some (.bool (E i j).s1)/\w'.cell? ⟨(R i).b,(R i).o+j*6+1,none⟩=some (.slice (E i j).A1 (E i j).n1 (E i j).c1)/\w'.cell? ⟨(R i).b,(R i).o+j*6+2,none⟩=some (.bool (E i j).s2)/\
  w'.cell? ⟨(R i).b,(R i).o+j*6+3,none⟩=some (.slice (E i j).A2 (E i j).n2 (E i j).c2)/\w'.cell? ⟨(R i).b,(R i).o+j*6+4,none⟩=some (.bool (E i j).s3)/\w'.cell? ⟨(R i).b,(R i).o+j*6+5,none⟩=some (.slice (E i j).A3 (E i j).n3 (E i j).c3):=
 ⟨x.cell_ (h.el i j hi l 0 _ rfl),x.cell_ (h.el i j hi l 1 _ rfl),x.cell_ (h.el i j hi l 2 _ rfl),x.cell_ (h.el i j hi l 3 _ rfl),x.cell_ (h.el i j hi l 4 _ rfl),x.cell_ (h.el i j hi l 5 _ rfl)⟩
def zN(h:Mem w A B O m R E){vb:Nat->Nat->Bool}(hv:∀i j,i<m->j<(R i).n->VB w (E i j).v (vb i j))(b)(hb:b=true↔IsM m R vb):
  CE 189 #[.slice A m c] w (.bool b):=by
 have S:=aJ h;have U:=aJ hv;have Xk:(0:Int)<=(m:Int):=aa;by_cases G:24<m
 .have H:decide ((24:Int)<(m:Int))=true:=ae;have hF:b=false:=by cases b<;>simp_all [IsM];omega
  subst hF;clear h hv hb G;go_enter Tryz.func189,Tryz.ntmps189;(go_wp2_with fail);go_ret;exact⟨rfl,Ext.refl _⟩
 have H:decide ((24:Int)<(m:Int))=false:=ae;by_cases I:24<wd m R
 .have L:decide ((24:Int)<(wd m R:Int))=true:=ae;have hF:b=false:=by cases b<;>simp_all [IsM];omega
  subst hF;clear h hv hb;go_enter Tryz.func189,Tryz.ntmps189;(go_wp2_with fail);refine(qz S.o).mono ?_;rintro e w2 ⟨rfl,J⟩;(go_wp2_with fail);go_ret;exact⟨rfl,J⟩
 have L:decide ((24:Int)<(wd m R:Int))=false:=ae;have HB:=aJ hb;clear hb;have F:m<=24:=aa;clear h hv;go_enter Tryz.func189,Tryz.ntmps189;(go_wp2_with fail);refine(qz S.o).mono ?_;rintro e w2 ⟨rfl,P⟩;have W:=aJ P;clear P;go_wp2_with fail
 go_loopw [19] (fun i wr=>∃k:Nat,k<=m/\i=.int .i64 k/\(∀i,i<k->(R i).n=wd m R)/\Ext w wr) (fun i _=>m-(intOf i).toNat)
 case atStart=>exact⟨0,aa,rfl,by intros;omega,W.o⟩
 case round=>
  obtain⟨k,hk,rfl,K,J⟩:=hrel;have HA:=aJ K;have HX:=aJ J;clear K J W;by_cases Q:k<m
  .have hd:decide ((k:Int)<(m:Int))=true:=ae;have hA:=S.at0 aa;have hr:=S.aN Q HX.o;subst hA;by_cases hn:(R k).n=wd m R
   .have M:(((R k).n:Int) !=(wd m R:Int))=false:=by simp[hn]
    have HN:=aJ hn;clear hn;(go_wp2_with fail);refine(qz (S.ext HX.o)).mono ?_;rintro e w3 ⟨rfl,Z⟩;go_wp2_with fail
    go_roundw
    case rel=>
     refine⟨k+1,aa,au,fun i hi=> ?_,HX.trans Z⟩;by_cases e:i=k
     .subst e;exact HN.o
     .exact HA.o i aa
    case measure=>simp[intOf];omega
   .have M:(((R k).n:Int) !=(wd m R:Int))=true:=ae;have hF:b=false:=by
     cases b
     .rfl
     .exact absurd ((HB.o.1 rfl).2.2.1 k Q) hn
    subst hF;clear hn;(go_wp2_with fail);refine(qz (S.ext HX.o)).mono ?_;rintro e w3 ⟨rfl,Z⟩;(go_wp2_with fail);go_ret;exact⟨rfl,HX.trans Z⟩
  .obtain rfl:k=m:=aa;have hd:decide ((k:Int)<(k:Int))=false:=ag;clear hd;go_wp2_with fail
   go_loopw [31] (fun i wr=>∃V:Nat,V<=k/\i=.int .i64 V/\(∀i j,i<V->j<(R i).n->vb i j=true)/\Ext w wr) (fun i _=>k-(intOf i).toNat)
   case atStart=>exact⟨0,aa,rfl,by intros;omega,HX.o⟩
   case round=>
    clear Q;obtain⟨r,hr,rfl,K,J⟩:=hrel;have WO:=aJ K;have W:=aJ J;clear K J HX;by_cases Q:r<k
    .have hd:decide ((r:Int)<(k:Int))=true:=ae;have hA:=S.at0 aa;have l:=S.aN Q W.o;subst hA;go_wp2_with fail
     go_loopw [37] (fun i wr=>∃V:Nat,V<=(R r).n/\i=.int .i64 V/\(∀j,j<V->vb r j=true)/\Ext w wr) (fun i _=>(R r).n-(intOf i).toNat)
     case atStart=>exact⟨0,aa,rfl,by intros;omega,W.o⟩
     case round=>
      clear hd;obtain⟨j,hj,rfl,K,J⟩:=hrel;have Xv:=aJ K;have Y:=aJ J;clear K J;by_cases WC:j<(R r).n
      .have hd:decide ((j:Int)<((R r).n:Int))=true:=ae;have WS:=S.ra r Q aa;have XL:=S.ln r Q;obtain⟨c0,c1,c2,c3,c4,c5⟩:=S.cells Q WC Y.o;rw[WS];generalize T:vb r j=bv;have Xn:Hid (VB w (E r j).v bv):=aJ (T ▸ U.o r j Q WC);have D:=aJ T;clear T;have HE:=aJ (Y.alloc (.cells #[.bool (E r j).s1,.slice (E r j).A1 (E r j).n1 (E r j).c1,.bool (E r j).s2,.slice (E r j).A2 (E r j).n2 (E r j).c2,.bool (E r j).s3,.slice (E r j).A3 (E r j).n3 (E r j).c3] 42));(go_wp2_with fail);refine((Xn.ext HE.o).e).mono ?_;rintro e w4 ⟨rfl,N⟩;cases bv
       .have hF:b=false:=by
         cases b
         .rfl
         .have:=(HB.o.1 rfl).2.2.2 r j Q WC;rw[D.o] at this;cases this
        subst hF;(go_wp2_with fail);go_ret;exact⟨rfl,HE.trans N⟩
       .go_wp2_with fail
        go_roundw
        case rel=>
         refine⟨j+1,aa,au,fun i hi=> ?_,HE.trans N⟩;by_cases e:i=j
         .subst e;exact D.o
         .exact Xv.o i aa
        case measure=>simp[intOf];omega
      .obtain rfl:j=(R r).n:=aa;have hd:decide (((R r).n:Int)<((R r).n:Int))=false:=ag
       go_wp2_with fail
       go_roundw
       case rel=>
        refine⟨r+1,aa,au,fun i C hi Ws=> ?_,Y.o⟩;by_cases e:i=r
        .subst e;exact Xv.o C Ws
        .exact WO.o i C aa Ws
       case measure=>simp[intOf];omega
    .obtain rfl:r=k:=aa;have hT:b=true:=HB.o.2 ⟨F,aa,HA.o,WO.o⟩;subst hT;(go_wp2_with fail);go_ret;exact⟨rfl,W.o⟩
end
def dm.cells{w g n f}(hb:Blk w g 42 (aN n f).toArray){j}(C:j<n){p}(hp:j*6=p):
  w.cell? ⟨g,p,none⟩=some (.bool (f j).s1)/\w.cell? ⟨g,p+1,none⟩=some (.slice (f j).A1 (f j).n1 (f j).c1)/\w.cell? ⟨g,p+2,none⟩=some (.bool (f j).s2)/\
  w.cell? ⟨g,p+3,none⟩=some (.slice (f j).A2 (f j).n2 (f j).c2)/\w.cell? ⟨g,p+4,none⟩=some (.bool (f j).s3)/\w.cell? ⟨g,p+5,none⟩=some (.slice (f j).A3 (f j).n3 (f j).c3):=by
 subst hp;have h:∀t u,(f j).cells[t]? =some u->w.cell? ⟨g,j*6+t,none⟩=some u:=fun t u l=>by
  rw[hb.cell];have B:t<6:=by
   have:=(List.getElem?_eq_some_iff.1 l).1;exact this
  rw[List.getElem?_toArray,dM B C];exact l
 exact⟨h 0 _ rfl,h 1 _ rfl,h 2 _ rfl,h 3 _ rfl,h 4 _ rfl,h 5 _ rfl⟩
def uB (x y:Nat->GQ) (q:GQ) (o l k:Nat):Nat->GQ:=fun j=>if o<=j/\j<o+k then x j-q*y (l+(j-o)) else x j
theorem Nh(x y q o l):uB x y q o l 0=x:=by
 funext j;unfold uB;rw[if_neg aa]
theorem Dq(x y q o l k):uB x y q o l (k+1)=upd (uB x y q o l k) (o+k) (x (o+k)-q*y (l+k)):=by
 funext j;unfold upd;by_cases h:j=o+k
 .subst h;rw[if_pos rfl];unfold uB;rw[if_pos aa];rw[show o+k-o=k by omega]
 .rw[if_neg h];unfold uB;by_cases B:o<=j/\j<o+k
  .rw[if_pos B,if_pos aa]
  .rw[if_neg B,if_neg aa]
theorem Ls(x y q o j k):uB x y q o j k (o+k)=x (o+k):=by
 unfold uB;rw[if_neg aa]
def jg.ne{w gf g n x}(h:jg w gf)(J:dm w g n x):gf≠g:=by
 rintro rfl;obtain⟨f,hb,_⟩:=J;have e:=h.symm.trans hb;simp at e
def dm.far{w g n x}(h:dm w g n x):Far (fun k=>k=g) w:=by
 obtain⟨f,l,_⟩:=h;intro k j _;subst j;exact⟨_,_,l,cu _ _⟩
def xR(gf g g2 o o2 n n2 L C O C2 Nx Ny G A A2 v x y q w)(hc:jg w gf)(J:dm w g n x)(R:dm w g2 n2 y)(Wq:g≠g2)(hA:0<L->A=some ⟨g,o*6,none⟩)(Xm:0<O->A2=some ⟨g2,o2*6,none⟩)(hL:L<=O)(ho:o+L<=n)(WM:o2+O<=n2)(P:L<=9223372036854775807)(B:O<=9223372036854775807)(hq:GV w v q G)(bx:∀j,j<L->Bd (x (o+j)) Nx)(by_:∀j,j<L->Bd (y (o2+j)) Ny)(hN:2*max Nx (G+Ny+1)+65<=12800)(T:2*max G Ny+1<=12800):
  Calls Tryz.prog 212 #[.pointer (some ⟨gf,0,none⟩),.slice A L C,.slice A2 O C2,v] w fun e w'=>e=.returned (.tuple #[])/\dm w' g n (uB x y q o o2 L)/\Mod (fun k=>k=g) w w':=by
 obtain⟨s1,A1,n1,c1,s2,H,D,c2,s3,A3,n3,c3,rfl⟩:=hq.opn;have HB:=aJ (Blk.new w 42 #[.bool s1,.slice A1 n1 c1,.bool s2,.slice H D c2,.bool s3,.slice A3 n3 c3]);have HE:=aJ (Ext.new w (.cells #[.bool s1,.slice A1 n1 c1,.bool s2,.slice H D c2,.bool s3,.slice A3 n3 c3] 42));have Xl:g<w.heap.size:=by obtain⟨f,h,_⟩:=J;exact h.lt
 have HC:=aJ (hc.ext HE.o);have HX:=aJ (J.ext HE.o);have HY:=aJ (R.ext HE.o);have HQ:=aJ (hq.ext HE.o);have WB:=aJ bx;have WN:=aJ by_;clear hc J R hq bx by_;go_enter Tryz.func212,Tryz.ntmps212;(go_wp2_with fail);generalize (w.alloc _)=w1 at HB HE HC HX HY HQ⊢;generalize WV:w.heap.size=g7 at HB Xl⊢;have YU:=aJ WV;clear WV;go_loopw [11] (fun i wr=>∃k:Nat,k<=L/\i=.int .i64 k/\dm wr g n (uB x y q o o2 k)/\Mod (fun k=>k=g) w1 wr) (fun i _=>L-(intOf i).toNat)
 case atStart=>exact⟨0,aa,rfl,by rw[Nh];exact HX.o,Mod.refl _ _⟩
 case round=>
  obtain⟨k,hk,rfl,F,hm⟩:=hrel;have HM:=aJ hm;have Q:=aJ F;clear hm F;by_cases Wo:k<L
  .have hd:decide ((k:Int)<(L:Int))=true:=ae;have WF:decide ((k:Int)<(O:Int))=true:=ae;have hA:=hA aa;have Xm:=Xm aa;subst hA;subst Xm;have l:=HX.far;obtain⟨f2,WO,XB⟩:=HY.mod HM.o l Adz;obtain⟨f,hf,hv⟩:=Q.o;have Wu:=aJ ((XB (o2+k) aa).to (WN.o k Wo));have U:=aJ (hv (o+k) aa);obtain⟨d0,d1,d2,d3,d4,d5⟩:=dm.cells WO (j:=o2+k) aa (show(o2+k)*6=o2*6+k*6 by omega);have HF:=aJ hf;have XX:=aJ WO;clear hf WO XB;have Xw:=aJ hv;clear hv;(go_wp2_with fail);refine(uU _ _ _ _ Wu.o aa).mono ?_;rintro e w3 ⟨rfl,Wp⟩;by_cases h0:y (o2+k)=GQ.i 0 0
   .rw[decide_eq_true h0];go_wp2_with fail
    go_roundw
    case rel=>
     refine⟨k+1,aa,au,?_,HM.trans (Mod.of Wp)⟩;rw[Dq];refine(Q.ext Wp).congr fun j hj=> ?_;by_cases e:j=o+k
     .subst e;rw[upd_same,Ls,h0,GQ.bI,GQ.eu]
     .rw[upd_ne e]
    case measure=>simp[intOf];omega
   .rw[decide_eq_false h0];have Ws:=aJ (HF.ext Wp);have Wv:=aJ ((HB.mod HM.o (by exact fun e=>aa)).ext Wp);obtain⟨a0,M,a2,a3,a4,a5⟩:=dm.cells Ws.o (j:=o+k) aa (show(o+k)*6=o*6+k*6 by omega);have W:=aK.cell a0;have E1:=aK.cell M;have E2:=aK.cell a2;have E3:=aK.cell a3;have E4:=aK.cell a4;have E5:=aK.cell a5;have D0:=aK.cell (Wp.cell_ d0);have D1:=aK.cell (Wp.cell_ d1);have D2:=aK.cell (Wp.cell_ d2);have D3:=aK.cell (Wp.cell_ d3);have D4:=aK.cell (Wp.cell_ d4);have D5:=aK.cell (Wp.cell_ d5);have B7:=aK.blk Wv.o;have Ww:=aJ Wp;clear Wp a0 M a2 a3 a4 a5 d0 d1 d2 d3 d4 d5;(go_wp2_with fail);refine bz 15 [(true,0),(true,1),(true,2),(true,3),(true,4),(true,5),(true,6),(true,7),(true,8),(true,9),(true,10),(true,11),(true,12),(false,13),(false,14)] ah ah ?_;refine aS [0,1,2,3,4,5,6,7,8,9,10,11,12] [(false,13),(false,14)] _ ah ?_;simp only[bO,aV,List.cons_append,List.nil_append];(repeat (go_big_quiet_step (fail)));refine wpQuiet_nil ?_;refine aR 13 [(false,14)] ah ?_;intro K I;simp only[aV];(go_wp2_with fail);have S:=aJ (HM.trans (Mod.of Ww.drew));have Xq:=aJ (U.ext Ww.drew);refine(Sy gf _ _ q (y (o2+k)) G Ny _ (Blk.mod HC.o S.o (HC.ne HX.o)) (HQ.mod S.o l) (Wu.ext Ww.drew) aa).mono ?_;rintro e w4 ⟨v4,rfl,Z,N⟩;have WX:=aJ N.jd;have Wx:=aJ Z;have Y:=aJ N;clear N Z;go_wp2;refine I _ _ ⟨⟨w4,WX.o⟩,rfl⟩ ?_;clear I K;refine aR 14 [] ah ?_;intro K I;simp only[aV];(go_wp2_with fail);have WJ:=WB.o k Wo;refine(Sa gf _ _ (x (o+k)) (q*y (o2+k)) Nx (G+Ny+1) _ ?_ ?_ Wx.o aa).mono ?_
    .exact Blk.ext (Blk.mod HC.o S.o (HC.ne HX.o)) Y.o
    .have:=Xq.ext Y.o;rw[Ls] at this;exact this.to WJ
    rintro e w5 ⟨v5,rfl,Xn,Wt⟩;obtain⟨t1,B1,m1,b1,t2,B2,m2,b2,t3,B3,m3,b3,rfl⟩:=Xn.opn;have WR:=aJ (WX.trans Wt);have XI:=aJ Xn;clear Wt Xn;go_wp2;refine I _ _ ⟨⟨w5,WR.o⟩,rfl⟩ ?_;clear I K;have V:=aJ (Ws.ext WR.o);obtain⟨a0,M,a2,a3,a4,a5⟩:=dm.cells V.o (j:=o+k) aa (show(o+k)*6=o*6+k*6 by omega);have f5:=V.frozen;simp only[bP,List.drop_succ_cons,List.drop_zero];have YI:=aJ l;clear l W E1 E2 E3 E4 E5 D0 D1 D2 D3 D4 D5 B7;go_wp2_with fail
    go_roundw
    case rel=>
     refine⟨k+1,aa,au,?_⟩;have W9:Mod (fun k=>k=g) w1 w5:=(HM.trans (Mod.of Ww.o)).trans (Mod.of WR.o);have hh:∀j,j<n->GV w5 (f j).v (uB x y q o o2 k j) 12800:=fun j hj=>((Xw.o j hj).ext Ww.o).ext WR.o;have hp:=dm.put (e:=⟨t1,B1,m1,b1,t2,B2,m2,b2,t3,B3,m3,b3⟩) V.o hh (j:=o+k) aa (XI.up aa);rw[show(o+k)*6=o*6+k*6 by omega] at hp;rw[Dq];exact⟨hp.1,W9.trans hp.2⟩
    case measure=>simp[intOf];omega
  .obtain rfl:k=L:=aa;have hd:decide ((k:Int)<(k:Int))=false:=ag;(go_wp2_with fail);refine bodyPost_end (results_none rfl _ _ _) rfl ?_;refine⟨rfl,Q.o,?_⟩;exact(Mod.of HE.o).trans HM.o
def xU(gf g g2 o l n n2 L C O H N A A2 v x y q w)(hc:jg w gf)(J:dm w g n x)(R:dm w g2 n2 y)(F:g≠g2)(Q:0<L->A=some ⟨g,o*6,none⟩)(D:0<O->A2=some ⟨g2,l*6,none⟩)(M:L<=O)(I:o+L<=n)(G:l+O<=n2)(P:L<=9223372036854775807)(B:O<=9223372036854775807)(hq:GV w v q N)(K:∀j,j<L->Bd (x (o+j)) N)(by_:∀j,j<L->Bd (y (l+j)) N)(S:4*N+67<=12800):
  Calls Tryz.prog 212 #[.pointer (some ⟨gf,0,none⟩),.slice A L C,.slice A2 O H,v] w fun e w'=>e=.returned (.tuple #[])/\dm w' g n (uB x y q o l L)/\Mod (fun k=>k=g) w w':=
 xR gf g g2 o l n n2 L C O H N N N A A2 v x y q w hc J R F Q D M I G P B hq K by_ aa aa
def yl(gf C O l A A2 v q N w)(hq:GV w v q N):
  CE 212 #[.pointer (some ⟨gf,0,none⟩),.slice A 0 C,.slice A2 O l,v] w (.tuple #[]):=by
 obtain⟨s1,A1,n1,c1,s2,H,D,c2,s3,A3,n3,c3,rfl⟩:=hq.opn;have j:=aJ (Ext.new w (.cells #[.bool s1,.slice A1 n1 c1,.bool s2,.slice H D c2,.bool s3,.slice A3 n3 c3] 42));clear hq;go_enter Tryz.func212,Tryz.ntmps212;(go_wp2_with fail);generalize (w.alloc _)=w1 at j⊢;go_loopw [11] (fun i wr=>i=.int .i64 0/\wr=w1) (fun i _=>0)
 case atStart=>exact⟨rfl,rfl⟩
 case round=>
  obtain⟨rfl,rfl⟩:=hrel;(go_wp2_with fail);refine bodyPost_end (results_none rfl _ _ _) rfl ?_;exact⟨rfl,j.o⟩
def CS (x y:Nat->GQ) (q:GQ) (c:Nat):Nat->GQ:=fun j=>if j<c then x j else if j=c then GQ.i 0 0 else x j-q*y j
def Blk.fO{w g g' t j cs cs'}(h:Blk w g t cs)(I:Blk w g' j cs')(l:t≠j):g≠g':=by
 rintro rfl;have e:=h.symm.trans I;simp at e;exact l e.2
def dm.blk{w g n x}(h:dm w g n x):∃cs,Blk w g 42 cs:=by obtain⟨f,hb,_⟩:=h;exact⟨_,hb⟩
theorem Ol(gf C D nb l B N Z W v H G q w)(hc:jg w gf)(hq:GV w v q N)(M:0<nb->Z=some ⟨C,0,none⟩/\dm w C nb H)(P:0<nb->W=some ⟨D,0,none⟩/\dm w D nb G)(K:0<nb->C≠D)(T:nb<=1000)(I:∀j,j<nb->Bd (H j) N)(L:∀j,j<nb->Bd (G j) N)(hN:4*N+67<=12800):
  Calls Tryz.prog 212 #[.pointer (some ⟨gf,0,none⟩),.slice Z nb l,.slice W nb B,v] w.drew fun e w'=>e=.returned (.tuple #[])/\(0<nb->dm w' C nb (fun j=>H j-q*G j))/\Mod (fun g=>0<nb/\g=C) w w':=by
 have hd:Ext w w.drew:=(Ext.refl _).drew;by_cases h:0<nb
 .obtain⟨Y,r1⟩:=M h;obtain⟨V,r2⟩:=P h;refine(xU gf C D 0 0 nb nb nb l nb B N Z W v H G q w.drew (hc.ext hd) (r1.ext hd) (r2.ext hd) (K h) (fun _=>by simpa using Y) (fun _=>by simpa using V) (Nat.le_refl _) aa aa aa aa (hq.ext hd) (fun j F=>by simpa using I j F) (fun j F=>by simpa using L j F) hN).mono ?_;rintro e w' ⟨O,U,Q⟩;refine⟨O,fun _=>U.congr fun j F=> ?_,(Mod.of hd).trans (Q.mono fun g S=>⟨h,S⟩)⟩;unfold uB;rw[if_pos aa];simp
 .obtain rfl:nb=0:=aa;refine(yl gf l 0 B Z W v q N w.drew (hq.ext hd)).mono ?_;exact Abx
theorem PZ(gf Ga Gb m cA cB i k col na nb Q bk C D Wu Ww N Z W Xy Xx x y x2 y2 w)(hc:jg w gf)(hA:Blk w Ga 174 Xy)(hB:Blk w Gb 174 Xx)(WZ:Xy[i]? =some (.slice (some ⟨Q,0,none⟩) na na))(XI:Xy[k]? =some (.slice (some ⟨bk,0,none⟩) na na))(Yq:Xx[i]? =some (.slice Z nb Wu))(WE:Xx[k]? =some (.slice W nb Ww))(Wv:i<m)(Wt:k<m)(Wo:col<na)(hm:m<=1000)(Xp:na<=1000)(WH:nb<=1000)(J:dm w Q na x)(R:dm w bk na y)(WS:0<nb->Z=some ⟨C,0,none⟩/\dm w C nb x2)(WT:0<nb->W=some ⟨D,0,none⟩/\dm w D nb y2)(Wq:Q≠bk)(WG:0<nb->C≠D/\Q≠C/\Q≠D)(h0:y col≠GQ.i 0 0)(bx:∀j,j<na->Bd (x j) N)(by_:∀j,j<na->Bd (y j) N)(WJ:∀j,j<nb->Bd (x2 j) N)(WR:∀j,j<nb->Bd (y2 j) N)(bq:Bd (x col/y col) N)(hN:4*N+67<=12800):
  Calls Tryz.prog 211 #[.pointer (some ⟨gf,0,none⟩),.slice (some ⟨Ga,0,none⟩) m cA,.slice (some ⟨Gb,0,none⟩) m cB,.int .i64 k,.int .i64 i,.int .i64 col] w fun e w'=>e=.returned (.tuple #[])/\
   dm w' Q na (CS x y (x col/y col) col)/\(0<nb->dm w' C nb (fun j=>x2 j-x col/y col*y2 j))/\Mod (fun g=>g=Q\/(0<nb/\g=C)) w w':=by
 have HX:=aJ J;have HY:=aJ R;have HA:=aJ hA;have HB:=aJ hB;have HC:=aJ hc;obtain⟨f,hf,hv⟩:=J;obtain⟨f2,WO,XB⟩:=R;have k1:w.cell? ⟨Ga,i,none⟩=some (.slice (some ⟨Q,0,none⟩) na na):=(hA.cell i).trans WZ;have k2:w.cell? ⟨Ga,k,none⟩=some (.slice (some ⟨bk,0,none⟩) na na):=(hA.cell k).trans XI;obtain⟨a0,M,a2,a3,a4,a5⟩:=dm.cells hf Wo rfl;have e0:=hc.cell;have U:=aJ ((hv col Wo).to (bx col Wo));have d1:decide ((i:Int)<(m:Int))=true:=ae;have d2:decide ((k:Int)<(m:Int))=true:=ae;have d3:decide ((col:Int)<(na:Int))=true:=ae;have HF:=aJ hf;have XX:=aJ WO;have Xw:=aJ hv;have XK:=aJ XB;have Xc:=aJ WS;have XE:=aJ WT;have WB:=aJ bx;have WN:=aJ by_;have Xd:=aJ WJ;have XH:=aJ WR;have Xf:=aJ bq;have WM:=aJ WG;clear hf WO hv XB WS WT bx by_ WJ WR bq hA hB hc WG;go_enter Tryz.func211,Tryz.ntmps211;(go_wp2_with fail);refine(uU _ _ _ _ U.o aa).mono ?_;rintro e w1 ⟨rfl,H⟩;replace k1:=H.cell_ k1;replace k2:=H.cell_ k2;replace a0:=H.cell_ a0;replace M:=H.cell_ M;replace a2:=H.cell_ a2;replace a3:=H.cell_ a3;replace a4:=H.cell_ a4;replace a5:=H.cell_ a5;clear e0;have e0:=(HC.ext H).cell;by_cases hz:x col=GQ.i 0 0
 .rw[decide_eq_true hz];(go_wp2_with fail);refine bodyPost_ret (results_none rfl _ _ _) rfl ?_;have XF:x col/y col=GQ.i 0 0:=by rw[hz,GQ.qm]
  refine⟨rfl,(HX.ext H).congr fun j hj=> ?_,fun hb=>((Xc.o hb).2.ext H).congr fun j hj=> ?_,Mod.of H⟩
  .unfold CS;rw[XF];by_cases h1:j<col
   .rw[if_pos h1]
   .rw[if_neg h1];by_cases h2:j=col
    .subst h2;rw[if_pos rfl,hz]
    .rw[if_neg h2,GQ.eH,GQ.eu]
  .rw[XF,GQ.eH,GQ.eu]
 .rw[decide_eq_false hz];(go_wp2_with fail);obtain⟨b0,b1,b2,b3,b4,b5⟩:=dm.cells (XX.ext H) Wo rfl;have K1:=aK.cell k1;have V:=aK.cell k2;have A0:=aK.cell a0;have A1:=aK.cell M;have A2:=aK.cell a2;have A3:=aK.cell a3;have A4:=aK.cell a4;have A5:=aK.cell a5;have B0:=aK.cell b0;have B1:=aK.cell b1;have B2:=aK.cell b2;have B3:=aK.cell b3;have B4:=aK.cell b4;have B5:=aK.cell b5;have WC:=aJ H;clear a0 M a2 a3 a4 a5 b0 b1 b2 b3 b4 b5 k1 k2 e0 H;have Xu:∀w',Ext w1 w'->CV 213 #[.pointer (some ⟨gf,0,none⟩),.agg #[.bool (f col).s1,.slice (f col).A1 (f col).n1 (f col).c1,.bool (f col).s2,.slice (f col).A2 (f col).n2 (f col).c2,.bool (f col).s3,.slice (f col).A3 (f col).n3 (f col).c3],.agg #[.bool (f2 col).s1,.slice (f2 col).A1 (f2 col).n1 (f2 col).c1,.bool (f2 col).s2,.slice (f2 col).A2 (f2 col).n2 (f2 col).c2,.bool (f2 col).s3,.slice (f2 col).A3 (f2 col).n3 (f2 col).c3]] w' fun v w''=>GV w'' v (x col/y col) N:=fun w' S=>
   (SQ gf _ _ (x col) (y col) N N w' ((HC.ext WC.o).ext S) ((U.ext WC.o).ext S) ((((XK.o col Wo).to (WN.o col Wo)).ext WC.o).ext S) h0 aa).mono fun e w'' ⟨v,h1,h2,h3⟩=>⟨v,h1,h2.to Xf.o,h3⟩
  have HD:=aJ Xu;clear Xu;refine sF 17 16 [(true,0),(true,1),(true,2),(true,3),(true,4),(true,5),(true,6),(true,7),(true,8),(true,9),(true,10),(true,11),(true,12),(true,13),(true,14),(false,15)] [] (fun a a' w'=>∃(gb:Nat) (r1:Bool) (D1:Option Addr) (p1 q1:Nat) (r2:Bool) (D2:Option Addr) (p2 q2:Nat) (r3:Bool) (D3:Option Addr) (p3 q3:Nat),a'=(((((((((((((((((a.put (some 28) (.pointer (some ⟨gf,0,none⟩))).put (some 29) (.slice (some ⟨Ga,0,none⟩) m cA)).put (some 30) (.int .i64 i)).put (some 31) (.pointer (some ⟨Ga,i,none⟩))).put (some 32) (.slice (some ⟨Q,0,none⟩) na na)).put (some 33) (.int .i64 col)).put (some 34) (.pointer (some ⟨Q,col*6,none⟩))).put (some 35) (.agg #[.bool (f col).s1,.slice (f col).A1 (f col).n1 (f col).c1,.bool (f col).s2,.slice (f col).A2 (f col).n2 (f col).c2,.bool (f col).s3,.slice (f col).A3 (f col).n3 (f col).c3])).put (some 36) (.slice (some ⟨Ga,0,none⟩) m cA)).put (some 37) (.int .i64 k)).put (some 38) (.pointer (some ⟨Ga,k,none⟩))).put (some 39) (.slice (some ⟨bk,0,none⟩) na na)).put (some 40) (.int .i64 col)).put (some 41) (.pointer (some ⟨bk,col*6,none⟩))).put (some 42) (.agg #[.bool (f2 col).s1,.slice (f2 col).A1 (f2 col).n1 (f2 col).c1,.bool (f2 col).s2,.slice (f2 col).A2 (f2 col).n2 (f2 col).c2,.bool (f2 col).s3,.slice (f2 col).A3 (f2 col).n3 (f2 col).c3])).put (some 43) ((gv r1 D1 p1 q1 r2 D2 p2 q2 r3 D3 p3 q3))).put (some 12) (.pointer (some ⟨gb,0,none⟩)))/\GV w' (gv r1 D1 p1 q1 r2 D2 p2 q2 r3 D3 p3 q3) (x col/y col) N/\Blk w' gb 42 #[.bool false,.slice none 0 0,.bool false,.slice none 0 0,.bool false,.slice none 0 0]/\Ext w1 w'/\w1.heap.size<=gb) ah ah ?_ ?_
  ·
   have P:Ext w1 w1.drew:=(Ext.refl _).drew;generalize w1.drew=w6 at*
   refine fI [0,1,2,3,4,5,6,7,8,9,10,11,12,13,14] [(false,15)] _ ah ?_;simp only[bO,aV,List.cons_append,List.nil_append];(repeat (go_big_quiet_step (fail)));refine wpQuiet_nil ?_;refine lV 15 [] ah ah ?_ ?_
   ·
    intro K I;simp only[aV];(go_wp2_with fail);refine(HD.o _ P).mono ?_;rintro e w7 ⟨v_,rfl,hO,F⟩;replace P:=P.trans F;obtain⟨r1,D1,p1,q1,r2,D2,p2,q2,r3,D3,p3,q3,rfl⟩:=hO.opn;have HO:=aJ hO;clear hO;go_wp2;refine I _ _ ⟨⟨w7,P⟩,rfl⟩ ?_;clear I K F;refine oK ah ?_;intro K I;simp only[aV];(go_wp2_with fail);have F:=Ext.new w7 (.cells #[.bool false,.slice none 0 0,.bool false,.slice none 0 0,.bool false,.slice none 0 0] 42);obtain⟨-,W9⟩:=an1 w7 42 #[.bool false,.slice none 0 0,.bool false,.slice none 0 0,.bool false,.slice none 0 0];have XG:w1.heap.size<=w7.heap.size:=P.size;replace P:=P.trans F;have WK:=aJ (HO.ext F);refine I _ _ ⟨⟨_,P⟩,rfl⟩ ?_;exact⟨_,r1,D1,p1,q1,r2,D2,p2,q2,r3,D3,p3,q3,by simp only[Act.put,List.setIfInBounds_toArray,List.set_cons_succ,List.set_cons_zero],WK.o,W9,P,XG⟩
   ·
    intro K I;simp only[aV];(go_wp2_with fail);have F:=Ext.new w6 (.cells #[.bool false,.slice none 0 0,.bool false,.slice none 0 0,.bool false,.slice none 0 0] 42);obtain⟨-,W9⟩:=an1 w6 42 #[.bool false,.slice none 0 0,.bool false,.slice none 0 0,.bool false,.slice none 0 0];have XG:w1.heap.size<=w6.heap.size:=P.size;replace P:=P.trans F;refine I _ _ ⟨⟨_,P⟩,rfl⟩ ?_;clear I K F;generalize w6.alloc (.cells #[.bool false,.slice none 0 0,.bool false,.slice none 0 0,.bool false,.slice none 0 0] 42)=Yw at*
    generalize w6.heap.size=gb at*
    refine aR 15 [] ah ?_;intro K I;simp only[aV];(go_wp2_with fail);refine(HD.o _ P).mono ?_;rintro e w7 ⟨v_,rfl,hO,F⟩;replace P:=P.trans F;replace W9:=W9.ext F;obtain⟨r1,D1,p1,q1,r2,D2,p2,q2,r3,D3,p3,q3,rfl⟩:=hO.opn;have HO:=aJ hO;clear hO;go_wp2;refine I _ _ ⟨⟨w7,P⟩,rfl⟩ ?_;clear I K F;exact⟨_,r1,D1,p1,q1,r2,D2,p2,q2,r3,D3,p3,q3,by simp only[Act.put,List.setIfInBounds_toArray,List.set_cons_succ,List.set_cons_zero],HO.o,W9,P,XG⟩
  rintro a' w8 ⟨gb,r1,D1,p1,q1,r2,D2,p2,q2,r3,D3,p3,q3,rfl,T,Wp,WU,XG⟩;clear K1 V A0 A1 A2 A3 A4 A5 B0 B1 B2 B3 B4 B5;simp only[Act.put,List.setIfInBounds_toArray,List.set_cons_succ,List.set_cons_zero,List.drop_succ_cons,List.drop_zero];have Xn:=aJ (WC.trans WU);have k6:=Wp.cell;have f6:=Wp.frozen;obtain⟨z1,z2,G⟩:=eX WU XG Wp T;have Z1:=aJ (WC.trans z1);have Z2:=aJ z2;have Z3:=aJ G;clear z1 z2 G WU Wp T;have XM:w.heap.size<=gb:=Nat.le_trans WC.size XG;clear Xn;(go_wp2_with fail);generalize XL:World.setCell _ _ _=w9 at Z1 Z2 Z3⊢;clear XL k6 f6 XG;have K1:=aK.cell (((HA.ext Z1.o).cell i).trans WZ);have XJ:=aJ (OI gf w9.drew (HC.ext Z1.drew));refine bz 7 [(true,0),(true,1),(true,2),(true,3),(true,4),(true,5),(false,6)] ah ah ?_;refine aS [0,1,2,3,4,5] [(false,6)] _ ah ?_;simp only[bO,aV,List.cons_append,List.nil_append];(repeat (go_big_quiet_step (fail)));refine wpQuiet_nil ?_;refine aR 6 [] ah ?_;intro K I;simp only[aV];(go_wp2_with fail);refine XJ.mono ?_;rintro e Xt ⟨XN,rfl,WV,Xe⟩;obtain⟨t1,B1,m1,o1,t2,B2,m2,o2,t3,B3,m3,o3,rfl⟩:=WV.opn;have B:=aJ Xe.jd;have Xh:=aJ WV;clear Xe WV XJ;go_wp2;refine I _ _ ⟨⟨Xt,B.o⟩,rfl⟩ ?_;clear I K K1;simp only[bP,List.drop_succ_cons,List.drop_zero];have WW:=aJ (Z1.trans B.o);have Wy:=aJ (HF.ext WW.o);obtain⟨a0,M,a2,a3,a4,a5⟩:=dm.cells Wy.o Wo rfl;have f5:=Wy.frozen;(go_wp2_with fail);clear a0 M a2 a3 a4 a5 f5;have hp:=dm.put (e:=⟨t1,B1,m1,o1,t2,B2,m2,o2,t3,B3,m3,o3⟩) Wy.o (fun j hj=>(Xw.o j hj).ext WW.o) (j:=col) Wo (Xh.up aa);have Wx:=aJ (show dm (puts Xt Q (col*6) [.bool t1,.slice B1 m1 o1,.bool t2,.slice B2 m2 o2,.bool t3,.slice B3 m3 o3]) Q na (upd x col (GQ.i 0 0)) from hp.1);have Wz:=aJ (show Mod (fun g=>g=Q) Xt (puts Xt Q (col*6) [.bool t1,.slice B1 m1 o1,.bool t2,.slice B2 m2 o2,.bool t3,.slice B3 m3 o3]) from hp.2);clear hp;show Code.wp _ _ _ _ (puts Xt Q (col*6) [.bool t1,.slice B1 m1 o1,.bool t2,.slice B2 m2 o2,.bool t3,.slice B3 m3 o3]);generalize (puts Xt Q (col*6) [.bool t1,.slice B1 m1 o1,.bool t2,.slice B2 m2 o2,.bool t3,.slice B3 m3 o3])=Xo at Wx Wz⊢;have l:=HX.far;have Y:Mod (fun g=>g=Q) w Xo:=(Mod.of WW.o).trans Wz.o;have Xa:=HF.lt;have Xr:=aJ (HA.mod Y (HA.fO HF.o aj));have Xb:=aJ (HB.mod Y (HB.fO HF.o aj));have WI:=aJ (Blk.mod HC.o Y (HC.ne HX.o));have XA:=aJ (HY.mod Y l Adz);have WF:Far (fun g=>g=Q) Xt:=fun g hg _=>by subst hg;exact⟨_,_,Wy.o,cu _ _⟩
  have WY:=aJ ((Z2.ext B.o).mod Wz.o (by exact fun e=>aa));have WX:=aJ ((Z3.ext B.o).mod Wz.o WF);have WQ:=aJ Y;clear Y Wz Z2 Z3 Xh Wy WF B;have K1:=aK.cell ((Xr.cell i).trans WZ);have V:=aK.cell ((Xr.cell k).trans XI);have B7:=aK.blk WY.o;have s1:(0:Int)<=(col:Int)+1:=aa;have s2:(col:Int)+1<=(na:Int):=aa;refine bz 16 [(true,0),(true,1),(true,2),(true,3),(true,4),(true,5),(true,6),(true,7),(true,8),(true,9),(true,10),(true,11),(true,12),(true,13),(true,14),(true,15)] ah ah ?_;refine aS [0,1,2,3,4,5,6,7,8,9,10,11,12,13,14,15] [] _ ah ?_;simp only[bO,aV,List.cons_append,List.nil_append];(repeat (go_big_quiet_step (fail)));refine wpQuiet_nil ?_;clear K1 V B7 s1 s2;simp only[bP,List.drop_succ_cons,List.drop_zero];have XC:Hid (∀(P1 P2:Option Addr) (L C1 C2:Nat),L=na-(col+1)->(0<L->P1=some ⟨Q,(col+1)*6,none⟩)->(0<L->P2=some ⟨bk,(col+1)*6,none⟩)->Calls Tryz.prog 212 #[.pointer (some ⟨gf,0,none⟩),.slice P1 L C1,.slice P2 L C2,(gv r1 D1 p1 q1 r2 D2 p2 q2 r3 D3 p3 q3)] Xo.drew fun e w'=>e=.returned (.tuple #[])/\dm w' Q na (CS x y (x col/y col) col)/\Mod (fun g=>g=Q) Xo w'):=by
   refine aJ fun P1 P2 L C1 C2 hL h1 h2=> ?_;have hd:Ext Xo Xo.drew:=(Ext.refl _).drew;refine(xU gf Q bk (col+1) (col+1) na na L C1 L C2 N P1 P2 _ (upd x col (GQ.i 0 0)) y (x col/y col) Xo.drew (WI.ext hd) (Wx.ext hd) (XA.ext hd) Wq h1 h2 (Nat.le_refl _) aa aa aa aa (WX.ext hd) ?_ (fun j hj=>WN.o _ aa) hN).mono ?_
   .intro j hj;rw[upd_ne aa];exact WB.o _ aa
   .rintro e w' ⟨O,hr,hm⟩;refine⟨O,hr.congr fun j hj=> ?_,(Mod.of hd).trans hm⟩;unfold uB CS;by_cases XY:j<col
    .rw[if_neg aa,if_pos XY,upd_ne aa]
    .by_cases Ws:j=col
     .subst Ws;rw[if_neg aa,if_neg aa,if_pos rfl,upd_same]
     .rw[if_pos aa,if_neg XY,if_neg Ws,upd_ne Ws];congr 3;omega
  (go_wp2_with fail);all_goals
   refine(XC.o _ _ _ _ _ aa (by intro h;first|(exact absurd h aa)|exact rfl) (by intro h;first|(exact absurd h aa)|exact rfl)).mono ?_;rintro e Yw ⟨rfl,Xm,WL⟩;have XD:=aJ Xm;have WA:=aJ (WQ.trans WL);clear Xm;(go_wp2_with fail);have WP:=aJ (Xb.mod WL (Xb.fO (Wx.blk.choose_spec) aj));have Xv:=aJ (Blk.mod WI.o WL (jg.ne WI.o Wx.o));have Xl:=aJ (WY.mod WL (by exact fun e=>aa));have Xj:=aJ (WX.mod WL Wx.far);have K1:=aK.cell ((WP.cell i).trans Yq);have V:=aK.cell ((WP.cell k).trans WE);have B7:=aK.blk Xl.o;have HS:=aJ (Ol gf C D nb Wu Ww N Z W _ x2 y2 (x _/y _) Yw Xv.o Xj.o (fun hb=>⟨(Xc.o hb).1,(Xc.o hb).2.mod WA.o l (by exact fun e=>(WM.o hb).2.1 e.symm)⟩) (fun hb=>⟨(XE.o hb).1,(XE.o hb).2.mod WA.o l (by exact fun e=>(WM.o hb).2.2 e.symm)⟩) (fun hb=>(WM.o hb).1) WH Xd.o XH.o hN);clear Xb WI WY WX WP Xv Xl Xj XC Wx;refine bz 10 [(true,0),(true,1),(true,2),(true,3),(true,4),(true,5),(true,6),(true,7),(true,8),(true,9)] ah ah ?_;refine aS [0,1,2,3,4,5,6,7,8,9] [] _ ah ?_;simp only[bO,aV,List.cons_append,List.nil_append];(repeat (go_big_quiet_step (fail)));refine wpQuiet_nil ?_;clear K1 V B7;simp only[bP,List.drop_succ_cons,List.drop_zero];(go_wp2_with fail);refine HS.mono ?_;rintro e ac ⟨rfl,Xi,Xk⟩;have Xz:=aJ Xi;have Xq:=aJ Xk;clear Xi Xk;(go_wp2_with fail);refine bodyPost_end (results_none rfl _ _ _) rfl ?_;refine⟨rfl,?_,Xz.o,(WA.mono (fun g hg=> .inl hg)).trans (Xq.mono (fun g hg=> .inr hg))⟩;refine XD.mod Xq.o ?_ ?_
   .intro g hg _;obtain⟨hb,rfl⟩:=hg;have hr:=(Xc.o hb).2.mod WA.o l (by exact fun e=>(WM.o hb).2.1 e.symm);obtain⟨ff,Xg,_⟩:=hr;exact⟨_,_,Xg,cu _ _⟩
   .exact fun hg=>(WM.o hg.1).2.1 hg.2
def Only.setRow(w g cs):Only g w (w.setRow g cs):=⟨rfl,rfl,rfl,ag,fun i _ j=>setRow_other w g i cs (fun e=>j (by rw[e]))⟩
def vE{P}{fn:Func}{R:Ending->World->Prop}{a:Act}{w}{t u:Nat}(l:fn.results= #[.tmp t,.tmp u])(hd:a.defers=[])(j:R (.returned (.tuple #[a.tmps.getD t undef,a.tmps.getD u undef])) w):bodyPost P fn R .ret a w:=
 bodyPost_ret (v:=.tuple #[a.tmps.getD t undef,a.tmps.getD u undef]) (by simp[results,l]) hd j
def mxc (m:Nat) (R:Nat->Rw):List Value:=(List.range m).map fun i=>(R i).v
def iI{m R i}(hi:i<m):(mxc m R).toArray[i]? =some (R i).v:=by simp[mxc,hi]
structure MxI (W:World) (G m n:Nat) (P:Nat->Prop) (R:Nat->Rw) (X:Nat->Nat->GQ):Prop where
 o:Blk W G 174 (mxc m R).toArray
 len:∀i,i<m->(R i).n=n/\(R i).c=n
 row:∀i,i<m->0<n->(R i).A=some ⟨(R i).b,0,none⟩/\dm W (R i).b n (X i)
 inj:∀i j,i<m->j<m->0<n->(R i).b=(R j).b->i=j
 mem:∀i,i<m->0<n->P (R i).b
section
variable {W W':World} {G m n:Nat} {P:Nat->Prop} {R:Nat->Rw} {X Y:Nat->Nat->GQ}
def MxI.ext(h:MxI W G m n P R X)(x:Ext W W'):MxI W' G m n P R X:=
 ⟨h.o.ext x,h.len,fun i hi hn=>⟨(h.row i hi hn).1,(h.row i hi hn).2.ext x⟩,h.inj,h.mem⟩
def MxI.congr(h:MxI W G m n P R X)(e:∀i j,i<m->j<n->X i j=Y i j):MxI W G m n P R Y:=
 ⟨h.o,h.len,fun i hi hn=>⟨(h.row i hi hn).1,(h.row i hi hn).2.congr fun j l=>e i j hi l⟩,h.inj,h.mem⟩
theorem MxI.v(h:MxI W G m n P R X){i}(hi:i<m)(hn:0<n):(R i).v=.slice (some ⟨(R i).b,0,none⟩) n n:=by
 unfold Rw.v;rw[(h.row i hi hn).1,(h.len i hi).1,(h.len i hi).2]
theorem MxI.v0(h:MxI W G m n P R X){i}(hi:i<m):(R i).v=.slice (R i).A n n:=by
 unfold Rw.v;rw[(h.len i hi).1,(h.len i hi).2]
def MxI.cell(h:MxI W G m n P R X){i}(hi:i<m):W.cell? ⟨G,i,none⟩=some (.slice (R i).A n n):=by
 rw[h.o.cell,iI hi,h.v0 hi]
def MxI.Rm{S:Nat->Prop}{x:Nat->GQ}{i:Nat}(h:MxI W G m n P R X)(B:Mod S W W')(hS:Far S W)(D:¬S G)(C:∀j,j<m->j≠i->0<n->¬S (R j).b)(hi:0<n->dm W' (R i).b n x):MxI W' G m n P R (upd X i x):=by
 refine⟨h.o.mod B D,h.len,fun j l hn=>⟨(h.row j l hn).1,?_⟩,h.inj,h.mem⟩;by_cases e:j=i
 .subst e;rw[upd_same];exact hi hn
 .rw[upd_ne e];exact(h.row j l hn).2.mod B hS (C j l e hn)
def MxI.mod{S}(h:MxI W G m n P R X)(B:Mod S W W')(hS:Far S W)(D:¬S G)(C:∀j,j<m->0<n->¬S (R j).b):MxI W' G m n P R X:=by
 refine⟨h.o.mod B D,h.len,fun j l hn=>⟨(h.row j l hn).1,?_⟩,h.inj,h.mem⟩;exact(h.row j l hn).2.mod B hS (C j l hn)
theorem jW(m R):kz (mxc m R).toArray=true:=by
 unfold kz;simp only[List.all_eq_true];intro v hv;unfold mxc at hv;obtain⟨j,_,rfl⟩:=List.mem_map.1 hv;rfl
def Qm{k r}(B:k<m)(F:r<m):(((mxc m R).toArray.setIfInBounds k (R r).v).setIfInBounds r (R k).v)=(mxc m fun i=>R (swp k r i)).toArray:=by
 apply Array.ext
 .simp[mxc]
 .intro i D C;simp only[mxc,List.setIfInBounds_toArray,List.getElem_toArray,List.getElem_set,List.getElem_map,List.getElem_range];by_cases l:r=i
  .subst l;rw[if_pos rfl,nJ]
  .rw[if_neg l];by_cases j:k=i
   .subst j;rw[if_pos rfl,Vz]
   .rw[if_neg j,uH (fun e=>j e.symm) (fun e=>l e.symm)]
def MxI.swap{k r}(h:MxI W G m n P R X)(l:k<m)(B:r<m):
  MxI ((W.setCell ⟨G,k,none⟩ (.slice (R r).A n n)).setCell ⟨G,r,none⟩ (.slice (R k).A n n)) G m n P (fun i=>R (swp k r i)) (fun i=>X (swp k r i))/\
   Mod (fun g=>g=G) W ((W.setCell ⟨G,k,none⟩ (.slice (R r).A n n)).setCell ⟨G,r,none⟩ (.slice (R k).A n n)):=by
 have C:Mod (fun g=>g=G) W ((W.setCell ⟨G,k,none⟩ (.slice (R r).A n n)).setCell ⟨G,r,none⟩ (.slice (R k).A n n)):=Mod.only ((Only.set _ _ _ _).trans (Only.set _ _ _ _)) rfl;have hS:Far (fun g=>g=G) W:=fun g H _=>by subst H;exact⟨_,_,h.o,jW _ _⟩
 refine⟨⟨?_,fun i hi=>h.len _ (kU l B hi),fun i hi hn=> ?_,fun i j hi F hn e=> ?_,fun i hi hn=>h.mem _ (kU l B hi) hn⟩,C⟩
 .have:=(h.o.mX k (R r).v).mX r (R k).v;rw[Qm l B,h.v0 l,h.v0 B] at this;exact this
 .obtain⟨I,D⟩:=h.row _ (kU l B hi) hn;refine⟨I,D.mod C hS ?_⟩;obtain⟨f,hb,_⟩:=D;exact fun e=>h.o.fO hb aj e.symm
 .have:=h.inj _ _ (kU l B hi) (kU l B F) hn e;rw[<-DU k r i,this,DU]
end
def Gu{m Z c}(h:(ech m Z c).r=m):∀d,c<=d->ech m Z d=ech m Z c
 |0,hd=>by
  obtain rfl:c=0:=aa;rfl
 |d+1,hd=>by
  by_cases e:c=d+1
  .subst e;rfl
  .have B:=Gu h d aa;show jL m d (ech m Z d)=_;rw[B];apply eF;rw[h,Nat.sub_self];rfl
def MxI.ne{W G m n P R X}(h:MxI W G m n P R X){i g cs}(hi:i<m)(hn:0<n)(hb:Blk W g 174 cs):(R i).b≠g:=by
 obtain⟨_,f,j,_⟩:=h.row i hi hn;exact j.fO hb aj
def side (na:Nat) (X Y:Nat->Nat->GQ):Nat->Nat->GQ:=fun i j=>if j<na then X i j else Y i (j-na)
def elm (X:Nat->Nat->GQ) (r c i:Nat):Nat->Nat->GQ:=upd X i (fun j=>X i j-X i c/X r c*X r j)
def nL (X:Nat->Nat->GQ) (r c i:Nat):Nat->Nat->GQ:=fun C j=>if r<C/\C<i then X C j-X C c/X r c*X r j else X C j
theorem AY(X r c):nL X r c (r+1)=X:=by
 funext i j;unfold nL;rw[if_neg aa]
structure EI (W:World) (gf Ga Gb m na nb:Nat) (PA PB:Nat->Prop) (Z:Nat->Nat->GQ):Prop where
 calm:jg W gf
 a:∃R,MxI W Ga m na PA R Z
 b:∃R,MxI W Gb m nb PB R (fun i j=>Z i (na+j))
def Room (N m na nb:Nat) (Z:Nat->Nat->GQ):Prop:=∀c,c<na->(ech m Z c).r+1<m->(∀i j,(ech m Z c).r<=i->i<m->j<na+nb->Bd ((ech m Z c).X i j) N)/\
 ∀i k,(ech m Z c).r<=i->i<m->(ech m Z c).r<=k->k<m->(ech m Z c).X k c≠GQ.i 0 0->Bd ((ech m Z c).X i c/(ech m Z c).X k c) N
def EI.ext{W W' gf Ga Gb m na nb PA PB Z}(h:EI W gf Ga Gb m na nb PA PB Z)(x:Ext W W'):EI W' gf Ga Gb m na nb PA PB Z:=by
 obtain⟨j,⟨R,l⟩,⟨R2,B⟩⟩:=h;exact⟨j.ext x,⟨R,l.ext x⟩,⟨R2,B.ext x⟩⟩
def EI.congr{W gf Ga Gb m na nb PA PB Z l}(h:EI W gf Ga Gb m na nb PA PB Z)(e:∀i j,i<m->Z i j=l i j):EI W gf Ga Gb m na nb PA PB l:=by
 obtain⟨D,⟨R,C⟩,⟨R2,B⟩⟩:=h;exact⟨D,⟨R,C.congr fun i j hi _=>e i j hi⟩,⟨R2,B.congr fun i j hi _=>e i _ hi⟩⟩
theorem Cm(X){r c i}(hi:r<i):elm (nL X r c i) r c i=nL X r c (i+1):=by
 funext i' j;unfold elm upd;by_cases e:i'=i
 .subst e;rw[if_pos rfl];unfold nL;rw[if_neg aa,if_neg aa,if_neg aa,if_neg aa,if_pos aa]
 .rw[if_neg e];unfold nL;by_cases h:r<i'/\i'<i
  .rw[if_pos h,if_pos aa]
  .rw[if_neg h,if_neg aa]
theorem Gi(gf Ga Gb m cA cB na nb r i c N PA PB T X w)(h:EI w gf Ga Gb m na nb PA PB X)(hd:∀g,PA g->PB g->False)(hT:T Ga/\T Gb/\(∀g,PA g->T g)/\∀g,PB g->T g)(hi:i<m)(Xl:r<i)(hc:c<na)(hm:m<=24)(Xp:na<=24)(WH:nb<=24)(h0:X r c≠GQ.i 0 0)(hz:∀j,j<c->X r j=GQ.i 0 0)(Q:∀j,j<na+nb->Bd (X i j) N)(br:∀j,j<na+nb->Bd (X r j) N)(bq:Bd (X i c/X r c) N)(hN:4*N+67<=12800):
  Calls Tryz.prog 211 #[.pointer (some ⟨gf,0,none⟩),.slice (some ⟨Ga,0,none⟩) m cA,.slice (some ⟨Gb,0,none⟩) m cB,.int .i64 r,.int .i64 i,.int .i64 c] w fun e w'=>e=.returned (.tuple #[])/\EI w' gf Ga Gb m na nb PA PB (elm X r c i)/\Mod T w w':=by
 obtain⟨F,⟨R,L⟩,⟨R2,J⟩⟩:=h;have P:r<m:=aa;obtain⟨H,ri⟩:=L.row i hi aa;obtain⟨I,S⟩:=L.row r P aa;have WZ:(mxc m R).toArray[i]? =some (.slice (some ⟨(R i).b,0,none⟩) na na):=by rw[iI hi,L.v hi aa]
 have W:(mxc m R).toArray[r]? =some (.slice (some ⟨(R r).b,0,none⟩) na na):=by rw[iI P,L.v P aa]
 have Yq:(mxc m R2).toArray[i]? =some (.slice (R2 i).A nb nb):=by rw[iI hi,J.v0 hi]
 have K:(mxc m R2).toArray[r]? =some (.slice (R2 r).A nb nb):=by rw[iI P,J.v0 P]
 have Y:(R i).b≠(R r).b:=fun e=>by have:=L.inj i r hi P aa e;omega
 refine(PZ gf Ga Gb m cA cB i r c na nb (R i).b (R r).b (R2 i).b (R2 r).b nb nb N (R2 i).A (R2 r).A _ _ (X i) (X r) (fun j=>X i (na+j)) (fun j=>X r (na+j)) w F L.o J.o WZ W Yq K hi P hc aa aa aa ri S
  (fun hn=>J.row i hi hn) (fun hn=>J.row r P hn) Y (fun hn=>⟨fun e=>by have:=J.inj i r hi P hn e;omega,fun e=>hd _ (L.mem i hi aa) (e ▸ J.mem i hi hn),fun e=>hd _ (L.mem i hi aa) (e ▸ J.mem r P hn)⟩)
  h0 (fun j M=>Q j aa) (fun j M=>br j aa) (fun j M=>Q _ aa) (fun j M=>br _ aa) bq hN).mono ?_
 rintro e w' ⟨O,h1,h2,U⟩;have l:Far (fun g=>g=(R i).b\/0<nb/\g=(R2 i).b) w:=by
  rintro g (rfl|⟨hn,rfl⟩) _
  .obtain⟨f,Z,_⟩:=ri;exact⟨_,_,Z,cu _ _⟩
  .obtain⟨f,Z,_⟩:=(J.row i hi hn).2;exact⟨_,_,Z,cu _ _⟩
 have B:∀(G:Nat) (cs:Array Value),Blk w G 174 cs->¬(G=(R i).b\/0<nb/\G=(R2 i).b):=by
  rintro G cs hG (e|⟨hn,e⟩)
  .exact L.ne hi aa hG e.symm
  .exact J.ne hi hn hG e.symm
 refine⟨O,⟨?_,⟨R,?_⟩,⟨R2,?_⟩⟩,U.mono ?_⟩
 .refine Blk.mod F U ?_;rintro(e|⟨hn,e⟩)
  .exact jg.ne F ri e
  .exact jg.ne F (J.row i hi hn).2 e
 .refine(L.Rm (i:=i) (x:=CS (X i) (X r) (X i c/X r c) c) U l (B _ _ L.o) ?_ (fun _=>h1)).congr ?_
  .rintro j M D hn (e|⟨V,e⟩)
   .exact D (L.inj j i M hi hn e)
   .exact hd _ (L.mem j M hn) (e ▸ J.mem i hi V)
  .intro C j Wu M;unfold elm upd;by_cases e:C=i
   .rw[if_pos e,if_pos e];unfold CS;by_cases e1:j<c
    .rw[if_pos e1,hz j e1,GQ.bI,GQ.eu]
    .rw[if_neg e1];by_cases e2:j=c
     .subst e2;rw[if_pos rfl,GQ.gu h0,GQ.qx]
     .rw[if_neg e2]
   .rw[if_neg e,if_neg e]
 .refine(J.Rm (i:=i) (x:=fun j=>X i (na+j)-X i c/X r c*X r (na+j)) U l (B _ _ J.o) ?_ (fun hn=>h2 hn)).congr ?_
  .rintro j M D hn (e|⟨V,e⟩)
   .exact hd _ (L.mem i hi aa) (e ▸ J.mem j M hn)
   .exact D (J.inj j i M hi hn e)
  .intro C j Wu M;unfold elm upd;by_cases e:C=i
   .rw[if_pos e,if_pos e]
   .rw[if_neg e,if_neg e]
 .rintro g (rfl|⟨hn,rfl⟩)
  .exact hT.2.2.1 _ (L.mem i hi aa)
  .exact hT.2.2.2 _ (J.mem i hi hn)
theorem Jf(gf Ga Gb m cA cB na nb N PA PB T Z w)(h:EI w gf Ga Gb m na nb PA PB Z)(Wq:Ga≠Gb)(hd:∀g,PA g->PB g->False)(hT:T Ga/\T Gb/\(∀g,PA g->T g)/\∀g,PB g->T g)(Xg:m=0->na=0)(hm:m<=24)(Xp:na<=24)(WH:nb<=24)(hN:4*N+67<=12800)(K:Room N m na nb Z)(Y:∀w',Ext w w'->CE 190 #[.slice (some ⟨Ga,0,none⟩) m cA] w' (.int .i64 na)):
  Calls Tryz.prog 192 #[.pointer (some ⟨gf,0,none⟩),.slice (some ⟨Ga,0,none⟩) m cA,.slice (some ⟨Gb,0,none⟩) m cB] w fun e w'=>e=.returned (.tuple #[.int .i64 (ech m Z na).r,.bool (ech m Z na).odd])/\
   EI w' gf Ga Gb m na nb PA PB (ech m Z na).X/\Mod T w w':=by
 have HH:=aJ h;have Q:=aJ K;have HT:=aJ hT;have HD:=aJ hd;clear h K hT hd;go_enter Tryz.func192,Tryz.ntmps192;go_wp2_with fail
 go_step3
 go_wp2_with fail
 go_step3
 (go_wp2_with fail);refine(Y _ (Ext.refl _)).mono ?_;rintro e w1 ⟨rfl,H⟩;have WC:=aJ H;clear H Y;go_wp2_with fail
 go_loopw [6,7,13] (fun r o i wr=>∃c:Nat,c<=na/\i=.int .i64 c/\r=.int .i64 (ech m Z c).r/\o=.bool (ech m Z c).odd/\EI wr gf Ga Gb m na nb PA PB (ech m Z c).X/\Mod T w wr) (fun _ _ i _=>na-(intOf i).toNat)
 case atStart=>
  obtain⟨h1,⟨R,h2⟩,⟨R2,h3⟩⟩:=HH.o;exact⟨0,aa,rfl,rfl,rfl,⟨h1.ext WC.o,⟨R,h2.ext WC.o⟩,⟨R2,h3.ext WC.o⟩⟩,Mod.of WC.o⟩
 case round=>
  obtain⟨c,hc,rfl,rfl,rfl,Xc,Ws⟩:=hrel;have HE:=aJ Xc;have HM:=aJ Ws;clear Xc Ws HH WC;by_cases Wo:c<na
  .have hd:decide ((c:Int)<(na:Int))=true:=ae;obtain⟨o,P,WN⟩:=nN m Z c;have WR:=WN.rm;have HZ:=aJ WN.z;clear WN;generalize hs:ech m Z c=s at*
   have HS:=aJ hs;clear hs;by_cases O:s.r=m
   .have df:((s.r:Int)==(m:Int))=true:=by simp[O]
    have Wt:ech m Z na=s:=by rw[<-HS.o];exact Gu (by rw[HS.o];exact O) na aa
    have Wu:=aJ Wt;clear Wt O;(go_wp2_with fail);rw[Exit.noGoto_ret];refine vE rfl rfl ?_;rw[Wu.o];exact⟨rfl,HE.o,HM.o⟩
   .have df:((s.r:Int)==(m:Int))=false:=ae;have WA:s.r<m:=aa;clear O;go_wp2_with fail
    go_loopw [9] (fun i w2=>∃k:Nat,s.r<=k/\k<m/\i=.int .i64 k/\(∀i,s.r<=i->i<k->s.X i c=GQ.i 0 0)/\Ext wr w2) (fun i _=>m-(intOf i).toNat)
    case atStart=>exact⟨s.r,Nat.le_refl _,WA,rfl,by intros;omega,Ext.refl _⟩
    case round=>
     clear hd df;obtain⟨k,Xi,WF,rfl,hz,J⟩:=hrel;have HX:=aJ J;have WY:=aJ hz;clear J hz;obtain⟨F,⟨R,hA⟩,⟨R2,hB⟩⟩:=HE.o;obtain⟨WS,f,hf,hv⟩:=hA.row k WF aa;have k1:=hA.cell WF;rw[WS] at k1;replace k1:=HX.o.cell_ k1;obtain⟨a0,M,a2,a3,a4,a5⟩:=dm.cells (hf.ext HX.o) Wo rfl;have d1:decide ((k:Int)<(m:Int))=true:=ae;have d2:decide ((c:Int)<(na:Int))=true:=ae;have U:=aJ ((hv c Wo).ext HX.o);clear hv hf F hA hB;(go_wp2_with fail);refine(uU _ _ _ _ U.o aa).mono ?_;rintro e w3 ⟨rfl,Wp⟩;have Ww:=HX.aC Wp;clear Wp k1 a0 M a2 a3 a4 a5;by_cases h0:s.X k c=GQ.i 0 0
     .rw[decide_eq_true h0];have WI:Hid (∀i,s.r<=i->i<k+1->s.X i c=GQ.i 0 0):=aJ fun i h1 h2=>by
       by_cases e:i=k
       .subst e;exact h0
       .exact WY.o i h1 aa
      clear h0;by_cases Xv:k+1=m
      .have dl:(((k:Int)+1)==(m:Int))=true:=ae;have I:ech m Z (c+1)=s:=by
        show jL m c (ech m Z c)=s;rw[HS.o];exact eF (yQ fun i h1 h2=>WI.o i h1 aa)
       have l:=aJ I;clear I;(go_wp2_with fail);refine⟨⟨c+1,aa,au,by rw[l.o],by rw[l.o],?_,HM.o.trans (Mod.of Ww.o)⟩,by simp[intOf];omega⟩;rw[l.o];obtain⟨h1,⟨R,h2⟩,⟨R2,h3⟩⟩:=HE.o;exact⟨h1.ext Ww.o,⟨R,h2.ext Ww.o⟩,⟨R2,h3.ext Ww.o⟩⟩
      .have dl:(((k:Int)+1)==(m:Int))=false:=ae
       go_wp2_with fail
       go_roundw
       case rel=>exact⟨k+1,aa,aa,au,WI.o,Ww.o⟩
       case measure=>simp[intOf];omega
     .rw[decide_eq_false h0];have WK:ech m Z (c+1)=⟨s.r+1,clr (fun i=>s.X (swp k s.r i)) s.r c,s.odd^^decide (k≠s.r),c::s.q⟩:=by
       show jL m c (ech m Z c)=_;rw[HS.o];exact dG (yV Xi aa WY.o h0)
      have WB:=aJ WK;clear WK;have Xd:Hid (EI w3 gf Ga Gb m na nb PA PB s.X):=aJ (by
       obtain⟨h1,⟨R,h2⟩,⟨R2,h3⟩⟩:=HE.o;exact⟨h1.ext Ww.o,⟨R,h2.ext Ww.o⟩,⟨R2,h3.ext Ww.o⟩⟩)
      have S:=HM.aC (Mod.of Ww.o);clear HE HM HX Ww WY WS U d1 d2;have WU:=aJ h0;have G:=aJ (And.intro Xi WF);have W:Hid (∀i,s.r<i->i<m->s.r<=swp k s.r i/\swp k s.r i<m):=aJ fun i h1 h2=>⟨by unfold swp;split<;>(try split)<;>omega,kU WF WA h2⟩;have Wz:Hid ((s.r+1<m->∀i j,s.r<=i->i<m->j<na+nb->Bd (s.X i j) N)/\(s.r+1<m->∀i k,s.r<=i->i<m->s.r<=k->k<m->s.X k c≠GQ.i 0 0->Bd (s.X i c/s.X k c) N)):=aJ (by
       have:=Q.o c Wo;rw[HS.o] at this;exact⟨fun h=>(this h).1,fun h=>(this h).2⟩)
      clear h0;by_cases W9:k=s.r
      .subst W9;have dne:((s.r:Int) !=(s.r:Int))=false:=ag;(go_wp2_with fail);have Xa:Hid (EI w3 gf Ga Gb m na nb PA PB (fun i=>s.X (swp s.r s.r i))):=aJ (by
        have e:(fun i=>s.X (swp s.r s.r i))=s.X:=by funext i;rw[PX]
        rw[e];exact Xd.o)
       have WM:=S;clear Xd S;go_loopw [10] (fun i w2=>∃C:Nat,s.r+1<=C/\C<=m/\i=.int .i64 C/\EI w2 gf Ga Gb m na nb PA PB (nL (fun i=>s.X (swp s.r s.r i)) s.r c C)/\Mod T w w2) (fun i _=>m-(intOf i).toNat)
       case atStart=>
        refine⟨s.r+1,Nat.le_refl _,aa,au,?_,?_⟩
        .rw[AY];first|exact Xa.o|exact Xa.o.ext (Ext.refl _).drew|exact Xa.o.ext (Ext.refl _).drew.drew
        .first|exact WM.o|exact WM.o.trans (Mod.of (Ext.refl _).drew)|exact WM.o.trans (Mod.of (Ext.refl _).drew.drew)
       case round=>
        obtain⟨C,Wv,Xf,rfl,hE,hM⟩:=hrel;have L:=aJ hE;have WL:=aJ hM;clear hE hM;by_cases D:C<m
        .have q1:decide ((C:Int)<(m:Int))=true:=ae;(go_wp2_with fail);refine(Gi gf Ga Gb m cA cB na nb s.r C c N PA PB T (nL (fun i=>s.X (swp s.r s.r i)) s.r c C) _ L.o HD.o HT.o D aa Wo hm Xp WH ?_ ?_ ?_ ?_ ?_ hN).mono ?_
         .unfold nL;rw[if_neg aa];simp only[nJ];exact WU.o
         .exact Adp
         .exact AcS
         .exact Adb
         .exact Abc
         rintro e w7 ⟨rfl,WQ,WP⟩;have B:=aJ WQ;have WZ:=WL.aC WP;clear WQ WP L WL;go_wp2_with fail
         exact Acg
        .obtain rfl:C=m:=aa;have q1:decide ((C:Int)<(C:Int))=false:=ag;have e0:=L.o.calm.cell;(go_wp2_with fail);refine⟨⟨c+1,aa,au,by rw[WB.o];go_num,by rw[WB.o];simp,?_,WL.o⟩,by simp[intOf];omega⟩;rw[WB.o];refine L.o.congr fun i j hi=> ?_;show nL (fun i=>s.X (swp s.r s.r i)) s.r c C i j=clr (fun i=>s.X (swp s.r s.r i)) s.r c i j;unfold nL clr;by_cases h:s.r<i
         .rw[if_pos ⟨h,hi⟩,if_pos h]
         .rw[if_neg (fun e=>h e.1),if_neg h]
      .have dne:((k:Int) !=(s.r:Int))=true:=ae;obtain⟨F,⟨R,hA⟩,⟨R2,hB⟩⟩:=Xd.o;have HA:=aJ hA;have HB:=aJ hB;have HC:=aJ F;have k1:=hA.cell WF;have k2:=hA.cell WA;have f1:=hA.o.frozen;clear hA hB F;have q1:decide ((k:Int)<(m:Int))=true:=ae;have q2:decide ((s.r:Int)<(m:Int))=true:=ae
       go_wp2_with fail
       go_region;obtain⟨Xm,WW⟩:=HA.o.swap WF WA;have WJ:Far (fun g=>g=Ga) w3:=fun g hg _=>by subst hg;exact⟨_,_,HA.o.o,jW _ _⟩
       have Wx:=HB.o.mod WW WJ Adz (fun j hj hn=>HB.o.ne hj hn HA.o.o);have Xb:jg _ gf:=Blk.mod HC.o WW (by exact fun e=>HC.o.fO HA.o.o aj e);have WO:=aJ Xm;have V:=aJ Wx;have WV:=aJ Xb;have YJ:=aJ WW;clear Xm Wx Xb WW WJ k1 k2 f1;generalize XJ:World.setCell _ _ _=w4 at WO V WV YJ⊢;clear XJ;have k1:=V.o.cell WF;have k2:=V.o.cell WA;have f1:=V.o.o.frozen;go_wp2_with fail
       go_region;obtain⟨WX,WT⟩:=V.o.swap WF WA;have WE:Far (fun g=>g=Gb) w4:=fun g hg _=>by subst hg;exact⟨_,_,V.o.o,jW _ _⟩
       have Xw:=WO.o.mod WT WE (by exact Wq) (fun j hj hn=>WO.o.ne hj hn V.o.o);have Wy:jg _ gf:=Blk.mod WV.o WT (by exact fun e=>WV.o.fO V.o.o aj e);have WG:=aJ (EI.mk Wy ⟨_,Xw⟩ ⟨_,WX⟩);have WM:=aJ ((S.o.trans (YJ.o.mono (T:=T) (fun g hg=>by subst hg;exact HT.o.1))).trans (WT.mono (T:=T) (fun g hg=>by subst hg;exact HT.o.2.1)));clear WX WT WE Xw Wy WO V WV YJ HA HB HC S Xd k1 k2 f1;generalize Xe:World.setCell _ _ _=w5 at WG WM⊢;clear Xe;have Xa:Hid (EI w5 gf Ga Gb m na nb PA PB (fun i=>s.X (swp k s.r i))):=aJ WG.o;clear WG;go_wp2_with fail
       go_loopw [10] (fun i w2=>∃C:Nat,s.r+1<=C/\C<=m/\i=.int .i64 C/\EI w2 gf Ga Gb m na nb PA PB (nL (fun i=>s.X (swp k s.r i)) s.r c C)/\Mod T w w2) (fun i _=>m-(intOf i).toNat)
       case atStart=>
        refine⟨s.r+1,Nat.le_refl _,aa,au,?_,?_⟩
        .rw[AY];first|exact Xa.o|exact Xa.o.ext (Ext.refl _).drew|exact Xa.o.ext (Ext.refl _).drew.drew
        .first|exact WM.o|exact WM.o.trans (Mod.of (Ext.refl _).drew)|exact WM.o.trans (Mod.of (Ext.refl _).drew.drew)
       case round=>
        obtain⟨C,Wv,Xf,rfl,hE,hM⟩:=hrel;have L:=aJ hE;have WL:=aJ hM;clear hE hM;by_cases D:C<m
        .have q1:decide ((C:Int)<(m:Int))=true:=ae;(go_wp2_with fail);refine(Gi gf Ga Gb m cA cB na nb s.r C c N PA PB T (nL (fun i=>s.X (swp k s.r i)) s.r c C) _ L.o HD.o HT.o D aa Wo hm Xp WH ?_ ?_ ?_ ?_ ?_ hN).mono ?_
         .unfold nL;rw[if_neg aa];simp only[nJ];exact WU.o
         .exact Adp
         .exact AcS
         .exact Adb
         .exact Abc
         rintro e w7 ⟨rfl,WQ,WP⟩;have B:=aJ WQ;have WZ:=WL.aC WP;clear WQ WP L WL;go_wp2_with fail
         exact Acg
        .obtain rfl:C=m:=aa;have q1:decide ((C:Int)<(C:Int))=false:=ag;have e0:=L.o.calm.cell;(go_wp2_with fail);refine⟨⟨c+1,aa,au,by rw[WB.o];go_num,by rw[WB.o];simp[W9],?_,WL.o⟩,by simp[intOf];omega⟩;rw[WB.o];refine L.o.congr fun i j hi=> ?_;show nL (fun i=>s.X (swp k s.r i)) s.r c C i j=clr (fun i=>s.X (swp k s.r i)) s.r c i j;unfold nL clr;by_cases h:s.r<i
         .rw[if_pos ⟨h,hi⟩,if_pos h]
         .rw[if_neg (fun e=>h e.1),if_neg h]
  .obtain rfl:c=na:=aa;have hd:decide ((c:Int)<(c:Int))=false:=ag;(go_wp2_with fail);rw[Exit.noGoto_ret];exact vE rfl rfl ⟨rfl,HE.o,HM.o⟩
def BN:Rw:=⟨none,0,0,0,0⟩
def zEn:En:=⟨false,none,0,0,false,none,0,0,false,none,0,0⟩
def QC:(Tryz.prog.info? 174).map (fun i=>(i.zero,i.size,i.bytes))=some (some (.slice none 0 0),1,24):=ah
def JW:(Tryz.prog.info? 42).map (fun i=>(i.zero,i.size,i.bytes))=some (some zEn.v,6,96):=ah
theorem Ez(m):madeCells #[Value.slice none 0 0] m=(mxc m fun _=>BN).toArray:=by
 rw[um];congr 1;unfold mxc;rw[List.map_const',List.length_range];rfl
theorem Cj(n):madeCells zEn.v.cells (n*6)=(aN n fun _=>zEn).toArray:=by
 unfold madeCells;apply Array.ext
 .simp[aW]
 .intro i D G;have hi:i<n*6:=by simpa using D
  have e:i=(i/6)*6+i%6:=aa;have h:=dM (f:=fun _=>zEn) (j:=i/6) (t:=i%6) (n:=n) (Nat.mod_lt _ aa) aa;rw[<-e] at h;have B:(aN n fun _=>zEn)[i]? =some ((aN n fun _=>zEn).toArray[i]):=ag;rw[B] at h;have hs:zEn.v.cells.size=6:=rfl;have F:∀k,k<6->some (zEn.v.cells[k]!)=zEn.cells[k]? :=fun k l=>match k,l with
   |0,_=>rfl
   |1,_=>rfl
   |2,_=>rfl
   |3,_=>rfl
   |4,_=>rfl
   |5,_=>rfl
  simp only[Array.getElem_map,Array.getElem_range];rw[hs];have C:=F (i%6) (Nat.mod_lt _ aa);rw[<-C] at h;injection h with h;exact h.symm
def DK(m:Nat)(C:m<=1000)(W:World):(Instr.makeSlice 223 (.int .i64 m) (.int .i64 m)).run Tryz.prog W=.ok (.slice (some ⟨W.heap.size,0,none⟩) m m) (W.alloc (.cells (mxc m fun _=>BN).toArray 174)):=by
 obtain⟨i0,U,B,l,j⟩:=info_parts QC;have h:=run_make (P:=Tryz.prog) W 223 174 i0 (.slice none 0 0) Tryz.underlying223 U B .i64 .i64 m m aa aa Abt aa;rw[h,l];have e:madeCells (Value.slice none 0 0).cells m=(mxc m fun _=>BN).toArray:=Ez m;simp only[Nat.mul_one,Int.toNat_natCast,e]
def Ba(n:Nat)(hn:n<=1000)(W:World):(Instr.makeSlice 174 (.int .i64 n) (.int .i64 n)).run Tryz.prog W=.ok (.slice (some ⟨W.heap.size,0,none⟩) n n) (W.alloc (.cells (aN n fun _=>zEn).toArray 42)):=by
 obtain⟨i0,U,B,l,j⟩:=info_parts JW;have h:=run_make (P:=Tryz.prog) W 174 42 i0 zEn.v Tryz.underlying174 U B .i64 .i64 n n aa aa Abt aa;rw[h,l];simp only[Int.toNat_natCast,Cj]
def IC(k){P}(w J K F l g o C G a D H cur t cs)(M:P.underlying J=some (.slice l))(hs:(P.info? l).map (·.size)=some k)(N:w.heap[g]? =some (.cells cur t (0,0)))(hn:cs.length=Nat.min D C*k)(B:∀j v,cs[j]? =some v->w.cell? (a.add j)=some v)(I:o+cs.length<=cur.size)(O:∀v∈cs,v.oneCell'=true):
  (Builtin.copy_ #[J,K] F #[.slice (some ⟨g,o,none⟩) C G,.slice (some a) D H]).run P w=
   .ok (goInt (Nat.min D C)) (w.setRow g (cur.toList.take o++cs++cur.toList.drop (o+cs.length)).toArray):=by
 have Z:=run_loadCells_list (P:=P) w a cs B;have L:=run_storeCells_at P g o t cs 0 cur w N (by simpa using I) O;cases hq:P.info? l with
 |none=>simp[hq] at hs
 |some i=>
  have hi:i.size=k:=by simpa[hq] using hs
  simp[Builtin.copy_,run_underlying M,Builtin.lenOf,Builtin.firstCells,sizeOf,typeInfo,hq,hi,<-hn,Z,L]
def CJ:(Tryz.prog.info? 42).map (·.size)=some 6:=ah
theorem dH(n f):∀v∈aN n f,v.oneCell'=true:=by
 intro v hv;unfold aN at hv;obtain⟨j,_,hv⟩:=List.mem_flatMap.1 hv;unfold En.cells at hv;simp only[List.mem_cons,List.not_mem_nil,or_false] at hv;rcases hv with rfl|rfl|rfl|rfl|rfl|rfl<;>rfl
def M6{f j n t u e}(H:j<n)(F:t<6)(hc:e.cells=(f j).cells.set t u):(aN n f).toArray.setIfInBounds (j*6+t) u=(aN n (upd f j e)).toArray:=by
 rw[List.setIfInBounds_toArray];congr 1;apply List.ext_getElem?;intro i;rw[List.getElem?_set];by_cases hi:i<n*6
 .have B:i=(i/6)*6+i%6:=aa;have C:i%6<6:=Nat.mod_lt _ aa;by_cases D:i/6=j
  .have G:(aN n (upd f j e))[i]? =e.cells[i%6]? :=by
    conv=>lhs;rw[B]
    rw[dM C aa,D,upd_same]
   rw[G,hc,List.getElem?_set];by_cases l:i%6=t
   .rw[if_pos aa,if_pos l.symm,aW,if_pos aa,if_pos (by show t<6;exact F)]
   .rw[if_neg aa,if_neg (fun e=>l e.symm)]
    conv=>lhs;rw[B]
    rw[dM C aa,D]
  .rw[if_neg aa]
   conv=>lhs;rw[B]
   conv=>rhs;rw[B]
   rw[dM C aa,dM C aa,upd_ne D]
 .rw[if_neg aa,List.getElem?_eq_none Ab8,List.getElem?_eq_none Ab8]
def dm.Ue{w:World}{g n j t:Nat}{f:Nat->En}{x:Nat->GQ}{e:En}{u:Value}(hb:Blk w g 42 (aN n f).toArray)(J:∀j,j<n->GV w (f j).v (x j) 12800)(B:j<n)(D:t<6)(hc:e.cells=(f j).cells.set t u)(O:GV w e.v (x j) 12800):
  (Blk (w.setCell ⟨g,j*6+t,none⟩ u) g 42 (aN n (upd f j e)).toArray/\∀i,i<n->GV (w.setCell ⟨g,j*6+t,none⟩ u) (upd f j e i).v (x i) 12800)/\Mod (fun k=>k=g) w (w.setCell ⟨g,j*6+t,none⟩ u):=by
 have l:Mod (fun k=>k=g) w (w.setCell ⟨g,j*6+t,none⟩ u):=Mod.only (Only.set _ _ _ _) rfl;have hS:Far (fun k=>k=g) w:=fun k C _=>by subst C;exact⟨_,_,hb,cu _ _⟩
 refine⟨⟨?_,fun i hi=> ?_⟩,l⟩
 .rw[<-M6 B D hc];exact hb.mX _ _
 .by_cases h:i=j
  .subst h;rw[upd_same];exact O.mod l hS
  .rw[upd_ne h];exact(J i hi).mod l hS
def zD(A n c s z w)(h:RI w (iv s A n c) z)(hn:n<=1000000):
  Calls Tryz.prog 198 #[.slice A n c] w fun e w'=>∃A' n' c',e=.returned (.slice A' n' c')/\RI w' (iv s A' n' c') z/\Ext w w':=by
 obtain⟨A2,n2,c2,e,l⟩:=h;simp at e;obtain⟨rfl,rfl,rfl,rfl⟩:=e;refine(sS A n c _ w l hn).mono ?_;rintro e w' ⟨v,rfl,⟨A1,n1,c1,rfl,B⟩,j⟩;exact⟨A1,n1,c1,rfl,⟨A1,n1,c1,rfl,B⟩,j⟩
structure DI (w W:World) (G m na i:Nat) (X:Nat->Nat->GQ) (R:Nat->Rw):Prop where
 o:Blk W G 174 (mxc m R).toArray
 gx:w.heap.size<=G
 len:∀i',i'<i->(R i').n=na/\(R i').c=na
 row:∀i',i'<i->(R i').A=some ⟨(R i').b,0,none⟩/\dm W (R i').b na (X i')/\w.heap.size<=(R i').b
 inj:∀i' j',i'<i->j'<i->(R i').b=(R j').b->i'=j'
 ext:Ext w W
def Fg{m R i r}:(mxc m R).toArray.setIfInBounds i r.v=(mxc m (upd R i r)).toArray:=by
 rw[List.setIfInBounds_toArray];congr 1;apply List.ext_getElem
 .simp[mxc]
 .intro k l j;simp only[mxc,List.getElem_set,List.getElem_map,List.getElem_range];by_cases e:i=k
  .subst e;rw[if_pos rfl,upd_same]
  .rw[if_neg e,upd_ne (fun x=>e x.symm)]
def RI3{w}{e:En}{q n}(h:GV w e.v q n):∃a b d,RI w (iv e.s1 e.A1 e.n1 e.c1) a/\RI w (iv e.s2 e.A2 e.n2 e.c2) b/\RI w (iv e.s3 e.A3 e.n3 e.c3) d/\Is q a b d/\Sz n a b d:=by
 obtain⟨a,b,d,j,I,Z⟩:=h;have:=RG.inj (show RG w (gv e.s1 e.A1 e.n1 e.c1 e.s2 e.A2 e.n2 e.c2 e.s3 e.A3 e.n3 e.c3) a b d from j);exact⟨a,b,d,this.1,this.2.1,this.2.2,I,Z⟩
def RI.small{w s A n c z}(h:RI w (iv s A n c) z)(j:z.natAbs<2^12800):n<=1000000:=by
 have l:z.natAbs<2^(32*400):=by rw[show 32*400=12800 from rfl];exact j
 have:=RI.le h l;omega
theorem NH{W2 g na b o cs D f0 f}(hb:Blk W2 g 42 (aN na f0).toArray)(B:0<na->D=some ⟨b,o,none⟩)(hc:∀j,j<na->∀t u,(f j).cells[t]? =some u->W2.cell? ⟨b,o+(j*6+t),none⟩=some u):
  ∃F,Sem.run Tryz.prog (Builtin.copy_ #[174,174] 3 #[.slice (some ⟨g,0,none⟩) na na,.slice D na cs]) W2=.ok (goInt na) F/\Blk F g 42 (aN na f).toArray/\Mod (fun k=>k=g) W2 F:=by
 have l:Nat.min na na=na:=ag;by_cases I:na=0
 .subst I;refine⟨W2,?_,hb,Mod.refl _ _⟩;have Z:∀(x:Addr),(loadCells x 0).run Tryz.prog W2=.ok #[] W2:=fun x=>by simpa using run_loadCells_list (P:=Tryz.prog) W2 x [] ag
  cases hq:Tryz.prog.info? 42 with
  |none=>have:=CJ;rw[hq] at this;cases this
  |some i=>cases D<;>simp[Builtin.copy_,run_underlying Tryz.underlying174,Builtin.lenOf,Builtin.firstCells,sizeOf,typeInfo,hq,storeCells,Z]
 .have H:=B aa;subst H;have h:=IC 6 W2 174 174 3 42 g 0 na na ⟨b,o,none⟩ na cs (aN na f0).toArray 42 (aN na f) Tryz.underlying174 CJ hb (by rw[aW,l]) (fun j v G=>by
   have K:j<na*6:=by have:=(List.getElem?_eq_some_iff.1 G).1;rwa[aW] at this
   have e:j=(j/6)*6+j%6:=aa;rw[e,dM (Nat.mod_lt _ aa) aa] at G;have:=hc _ aa _ _ G;rw[<-e] at this;have J:(⟨b,o,none⟩:Addr).add j=⟨b,o+j,none⟩:=by unfold Addr.add;by_cases C:j=0<;>simp[C]
   rw[J];exact this) (by rw[aW];simp[aW]) (dH na f)
  rw[l] at h;refine⟨_,h,?_,?_⟩
  .have e:((aN na f0).toArray.toList.take 0++aN na f++(aN na f0).toArray.toList.drop (0+(aN na f).length)).toArray=(aN na f).toArray:=by
    simp[aW]
   rw[e];exact setRow_heap _ g _ _ _ _ hb
  .exact Mod.only (Only.setRow _ _ _) rfl
def MH{w V:World}{g na j:Nat}{f:Nat->En}{x:Nat->GQ}{A':Option Addr}{n' c':Nat}{z:Int}(hb:Blk w g 42 (aN na f).toArray)(hv:∀j,j<na->GV w (f j).v (x j) 12800)(l:j<na)(C:RI w (iv (f j).s1 (f j).A1 (f j).n1 (f j).c1) z)(S:Ext w V)(B:RI V (iv (f j).s1 A' n' c') z)(F:∃a b d,RI w (iv (f j).s1 (f j).A1 (f j).n1 (f j).c1) a/\RI w (iv (f j).s2 (f j).A2 (f j).n2 (f j).c2) b/\RI w (iv (f j).s3 (f j).A3 (f j).n3 (f j).c3) d/\Is (x j) a b d/\Sz 12800 a b d/\z=a):
  ∃f',Blk (V.setCell ⟨g,j*6+1,none⟩ (.slice A' n' c')) g 42 (aN na f').toArray/\(∀H,H<na->GV (V.setCell ⟨g,j*6+1,none⟩ (.slice A' n' c')) (f' H).v (x H) 12800)/\Mod (fun k=>k=g) w (V.setCell ⟨g,j*6+1,none⟩ (.slice A' n' c')):=by
 obtain⟨a,b,d,i1,Q,D,I,Z,rfl⟩:=F;have hp:=dm.Ue (e:={f j with A1:=A',n1:=n',c1:=c'}) (t:=1) (u:=.slice A' n' c') (hb.ext S) (fun j l=>(hv j l).ext S) l aa rfl ⟨_,_,_,⟨_,_,_,_,_,_,_,_,_,_,_,_,rfl,B,Q.ext S,D.ext S⟩,I,Z⟩;exact Abs
def ME{w V:World}{g na j:Nat}{f:Nat->En}{x:Nat->GQ}{A':Option Addr}{n' c':Nat}{z:Int}(hb:Blk w g 42 (aN na f).toArray)(hv:∀j,j<na->GV w (f j).v (x j) 12800)(l:j<na)(C:RI w (iv (f j).s2 (f j).A2 (f j).n2 (f j).c2) z)(S:Ext w V)(B:RI V (iv (f j).s2 A' n' c') z)(F:∃a b d,RI w (iv (f j).s1 (f j).A1 (f j).n1 (f j).c1) a/\RI w (iv (f j).s2 (f j).A2 (f j).n2 (f j).c2) b/\RI w (iv (f j).s3 (f j).A3 (f j).n3 (f j).c3) d/\Is (x j) a b d/\Sz 12800 a b d/\z=b):
  ∃f',Blk (V.setCell ⟨g,j*6+3,none⟩ (.slice A' n' c')) g 42 (aN na f').toArray/\(∀H,H<na->GV (V.setCell ⟨g,j*6+3,none⟩ (.slice A' n' c')) (f' H).v (x H) 12800)/\Mod (fun k=>k=g) w (V.setCell ⟨g,j*6+3,none⟩ (.slice A' n' c')):=by
 obtain⟨a,b,d,i1,Q,D,I,Z,rfl⟩:=F;have hp:=dm.Ue (e:={f j with A2:=A',n2:=n',c2:=c'}) (t:=3) (u:=.slice A' n' c') (hb.ext S) (fun j l=>(hv j l).ext S) l aa rfl ⟨_,_,_,⟨_,_,_,_,_,_,_,_,_,_,_,_,rfl,i1.ext S,B,D.ext S⟩,I,Z⟩;exact Abs
def MQ{w V:World}{g na j:Nat}{f:Nat->En}{x:Nat->GQ}{A':Option Addr}{n' c':Nat}{z:Int}(hb:Blk w g 42 (aN na f).toArray)(hv:∀j,j<na->GV w (f j).v (x j) 12800)(l:j<na)(C:RI w (iv (f j).s3 (f j).A3 (f j).n3 (f j).c3) z)(S:Ext w V)(B:RI V (iv (f j).s3 A' n' c') z)(F:∃a b d,RI w (iv (f j).s1 (f j).A1 (f j).n1 (f j).c1) a/\RI w (iv (f j).s2 (f j).A2 (f j).n2 (f j).c2) b/\RI w (iv (f j).s3 (f j).A3 (f j).n3 (f j).c3) d/\Is (x j) a b d/\Sz 12800 a b d/\z=d):
  ∃f',Blk (V.setCell ⟨g,j*6+5,none⟩ (.slice A' n' c')) g 42 (aN na f').toArray/\(∀H,H<na->GV (V.setCell ⟨g,j*6+5,none⟩ (.slice A' n' c')) (f' H).v (x H) 12800)/\Mod (fun k=>k=g) w (V.setCell ⟨g,j*6+5,none⟩ (.slice A' n' c')):=by
 obtain⟨a,b,d,i1,Q,D,I,Z,rfl⟩:=F;have hp:=dm.Ue (e:={f j with A3:=A',n3:=n',c3:=c'}) (t:=5) (u:=.slice A' n' c') (hb.ext S) (fun j l=>(hv j l).ext S) l aa rfl ⟨_,_,_,⟨_,_,_,_,_,_,_,_,_,_,_,_,rfl,i1.ext S,Q.ext S,B⟩,I,Z⟩;exact Abs
def TJ{A B O m c na R}{E:Nat->Nat->En}{X w}(h:Mem w A B O m R E)(hn:∀i,i<m->(R i).n=na)(hv:∀i j,i<m->j<na->GV w (E i j).v (X i j) 12800)(hm:m<=24)(Xp:na<=24):
  Calls Tryz.prog 191 #[.slice A m c] w fun e w'=>∃(G:Nat) (T:Nat->Rw),e=.returned (.slice (some ⟨G,0,none⟩) m m)/\DI w w' G m na m X T:=by
 have HM:=aJ h;have HN:=aJ hn;have U:=aJ hv;clear h hn hv;have WN:=DK m aa;have XQ:=Ba na aa;go_enter Tryz.func191,Tryz.ntmps191;(go_wp2_with fail);clear WN;go_loopw [13] (fun i wr=>∃(C:Nat) (T:Nat->Rw),C<=m/\i=.int .i64 C/\DI w wr w.heap.size m na C X T) (fun i _=>m-(intOf i).toNat)
 case atStart=>exact⟨0,fun _=>BN,aa,rfl,Blk.new _ _ _,Nat.le_refl _,by intros;omega,by intros;omega,by intros;omega,Ext.new _ _⟩
 case round=>
  obtain⟨i,T,hi,rfl,hD⟩:=hrel;have HD:=aJ hD;clear hD;by_cases Wo:i<m
  .have hd:decide ((i:Int)<(m:Int))=true:=ae;have hA:=HM.o.at0 aa;have hr:=HM.o.aN Wo HD.o.ext;rw[HN.o i Wo] at hr;subst hA;have Xo:=Ext.new wr (.cells (aN na fun _=>zEn).toArray 42);have WI:=HD.o.o.ext Xo;have fr:=WI.frozen;have k1:(wr.alloc (.cells (aN na fun _=>zEn).toArray 42)).cell? ⟨w.heap.size,i,none⟩=some (T i).v:=by rw[WI.cell];exact iI Wo
   have WT:Blk ((wr.alloc (.cells (aN na fun _=>zEn).toArray 42)).setCell ⟨w.heap.size,i,none⟩ (.slice (some ⟨wr.heap.size,0,none⟩) na na)) w.heap.size 174 (mxc m (upd T i ⟨some ⟨wr.heap.size,0,none⟩,wr.heap.size,0,na,na⟩)).toArray:=by
    rw[<-Fg];exact WI.mX _ _
   have k2:((wr.alloc (.cells (aN na fun _=>zEn).toArray 42)).setCell ⟨w.heap.size,i,none⟩ (.slice (some ⟨wr.heap.size,0,none⟩) na na)).cell? ⟨w.heap.size,i,none⟩=some (.slice (some ⟨wr.heap.size,0,none⟩) na na):=by rw[WT.cell,iI Wo,upd_same];rfl
   have W9:=aJ WI;have Ws:=aJ WT;have l:=aJ Xo;clear WI WT Xo;have WW:w.heap.size<wr.heap.size:=HD.o.o.lt;have Wx:Blk ((wr.alloc (.cells (aN na fun _=>zEn).toArray 42)).setCell ⟨w.heap.size,i,none⟩ (.slice (some ⟨wr.heap.size,0,none⟩) na na)) wr.heap.size 42 (aN na fun _=>zEn).toArray:=(Blk.new _ _ _).far (by show wr.heap.size≠w.heap.size;omega) _;have WR:Ext w ((wr.alloc (.cells (aN na fun _=>zEn).toArray 42)).setCell ⟨w.heap.size,i,none⟩ (.slice (some ⟨wr.heap.size,0,none⟩) na na)):=(HD.o.ext.trans l.o).setCell (Nat.le_refl _) _;obtain⟨w3,Xd,WX,Xe⟩:=NH (cs:=(R i).c) Wx (fun h0=>HM.o.ra i Wo (by rw[HN.o i Wo];exact h0)) (fun j hj t u hu=>WR.cell_ (HM.o.el i j Wo (by rw[HN.o i Wo];exact hj) t u hu));have WH:Ext w w3:=⟨Xe.os.trans WR.os,Xe.tape.trans WR.tape,Xe.output.trans WR.output,Nat.le_trans WR.size Xe.size,fun k hk=>(Xe.block k (Nat.lt_of_lt_of_le hk WR.size) aa).trans (WR.block k hk)⟩;have WF:=Ws.o.mod Xe (by show ¬w.heap.size=wr.heap.size;omega);have k3:w3.cell? ⟨w.heap.size,i,none⟩=some (.slice (some ⟨wr.heap.size,0,none⟩) na na):=by rw[WF.cell,iI Wo,upd_same];rfl
   have WS:=aJ WF;have Wv:=aJ WX;have Ww:=aJ WH;have S:=aJ Xe;have WZ:=aJ WW;clear WF WX WH Xe Wx WR WW;(go_wp2_with fail);clear Xd k1 k2 fr hr;have Y:Mod (fun k=>k=w.heap.size\/k=wr.heap.size) wr w3:=((Mod.of l.o).trans (Mod.only (Only.set _ _ _ _) (.inl rfl))).trans (S.o.mono fun k hk=> .inr hk);have WQ:=aJ Y;clear Y S W9 Ws l;generalize Xh:wr.heap.size=g at*
   have WE:=aJ Xh;clear Xh;go_loopw [35] (fun Q wz=>∃(j:Nat) (f:Nat->En),j<=na/\Q=.int .i64 j/\Blk wz g 42 (aN na f).toArray/\(∀H,H<na->GV wz (f H).v (X i H) 12800)/\Mod (fun k=>k=g) w3 wz) (fun Q _=>na-(intOf Q).toNat)
   case atStart=>exact⟨0,E i,aa,rfl,Wv.o,fun j hj=>(U.o i j Wo hj).ext Ww.o,Mod.refl _ _⟩
   case round=>
    clear k3;rename World=>wz;obtain⟨j,f,hj,rfl,hb,WY,Xi⟩:=hrel;have WP:=aJ hb;have WJ:=aJ WY;have WG:=aJ Xi;clear hb WY Xi;have WB:w.heap.size≠g:=by have:=WZ.o;omega
    have Wq:=WS.o.mod WG.o WB;have Xq:=aJ Wq;by_cases WC:j<na
    .have hd:decide ((j:Int)<(na:Int))=true:=ae;have k3:wz.cell? ⟨w.heap.size,i,none⟩=some (.slice (some ⟨g,0,none⟩) na na):=by rw[Wq.cell,iI Wo,upd_same];rfl
     clear Wq;have WM:=WJ;obtain⟨_,M,_,_,_,_⟩:=dm.cells WP.o WC rfl;obtain⟨za,zb,zd,i1,Q,D,I,Z⟩:=RI3 (WM.o j WC);have HI:=aJ i1;have H3:=aJ (show ∃a b d,RI _ (iv (f j).s1 (f j).A1 (f j).n1 (f j).c1) a/\RI _ (iv (f j).s2 (f j).A2 (f j).n2 (f j).c2) b/\RI _ (iv (f j).s3 (f j).A3 (f j).n3 (f j).c3) d/\Is (X i j) a b d/\Sz 12800 a b d/\za=a from ⟨za,zb,zd,i1,Q,D,I,Z,rfl⟩);have W:=RI.small i1 Z.a;clear i1 Q D I Z;(go_wp2_with fail);refine(zD _ _ _ _ _ _ HI.o W).mono ?_;rintro e w4 ⟨A',n',c',rfl,Wt,N⟩;replace M:=N.cell_ M;have fr:=(WP.o.ext N).frozen;obtain⟨P,Xx,Xt,Yc⟩:=MH WP.o WM.o WC HI.o N Wt H3.o;have J:=aJ Xx;have Xv:=aJ Xt;have WV:=aJ Yc;clear Xx Xt Yc Wt N HI H3 W;(iterate 15 (try (first|go_values|go_skip|go_guarded|go_step|go_upon|go_in|go_back|go_simp)));clear M fr;generalize w4.setCell _ _=wa at J Xv WV⊢;obtain⟨_,_,_,M,_,_⟩:=dm.cells J.o WC rfl;obtain⟨za,zb,zd,i1,Q,D,I,Z⟩:=RI3 (Xv.o j WC);have HI:=aJ Q;have H3:=aJ (show ∃a b d,RI _ (iv (P j).s1 (P j).A1 (P j).n1 (P j).c1) a/\RI _ (iv (P j).s2 (P j).A2 (P j).n2 (P j).c2) b/\RI _ (iv (P j).s3 (P j).A3 (P j).n3 (P j).c3) d/\Is (X i j) a b d/\Sz 12800 a b d/\zb=b from ⟨za,zb,zd,i1,Q,D,I,Z,rfl⟩);have W:=RI.small Q Z.b;clear i1 Q D I Z;(go_wp2_with fail);refine(zD _ _ _ _ _ _ HI.o W).mono ?_;rintro e w4 ⟨A',n',c',rfl,Wt,N⟩;replace M:=N.cell_ M;have fr:=(J.o.ext N).frozen;obtain⟨fb,Wp,WU,Xa⟩:=ME J.o Xv.o WC HI.o N Wt H3.o;have K:=aJ Wp;have Xu:=aJ WU;have Wz:=aJ Xa;clear Wp WU Xa Wt N HI H3 W;(iterate 15 (try (first|go_values|go_skip|go_guarded|go_step|go_upon|go_in|go_back|go_simp)));clear M fr;generalize w4.setCell _ _=wb at K Xu Wz⊢;obtain⟨_,_,_,_,_,M⟩:=dm.cells K.o WC rfl;obtain⟨za,zb,zd,i1,Q,D,I,Z⟩:=RI3 (Xu.o j WC);have HI:=aJ D;have H3:=aJ (show ∃a b d,RI _ (iv (fb j).s1 (fb j).A1 (fb j).n1 (fb j).c1) a/\RI _ (iv (fb j).s2 (fb j).A2 (fb j).n2 (fb j).c2) b/\RI _ (iv (fb j).s3 (fb j).A3 (fb j).n3 (fb j).c3) d/\Is (X i j) a b d/\Sz 12800 a b d/\zd=d from ⟨za,zb,zd,i1,Q,D,I,Z,rfl⟩);have W:=RI.small D Z.d;clear i1 Q D I Z;(go_wp2_with fail);refine(zD _ _ _ _ _ _ HI.o W).mono ?_;rintro e w4 ⟨A',n',c',rfl,Wt,N⟩;replace M:=N.cell_ M;have fr:=(K.o.ext N).frozen;obtain⟨fc,Xf,WO,V⟩:=MQ K.o Xu.o WC HI.o N Wt H3.o;have Xb:=aJ Xf;have WK:=aJ WO;have WL:=aJ V;clear Xf WO V Wt N HI H3 W;(go_wp2_with fail);clear M fr;generalize w4.setCell _ _=wc at Xb WK WL⊢;go_wp2_with fail
     go_roundw
     case rel=>exact⟨j+1,fc,aa,au,Xb.o,WK.o,((WG.o.trans WV.o).trans Wz.o).trans WL.o⟩
     case measure=>simp[intOf];omega
    .obtain rfl:j=na:=aa;have hd:decide ((j:Int)<(j:Int))=false:=ag;clear Wq;(go_wp2_with fail);refine⟨⟨i+1,upd T i ⟨some ⟨g,0,none⟩,g,0,j,j⟩,aa,au,?_⟩,by simp[intOf];omega⟩;have Xc:Mod (fun k=>k=w.heap.size\/k=g) wr wz:=WQ.o.trans (WG.o.mono fun k hk=> .inr hk);have hS:Far (fun k=>k=w.heap.size\/k=g) wr:=by
      rintro k (rfl|rfl) hk
      .exact⟨_,_,HD.o.o,jW _ _⟩
      .have:=WE.o;omega
     have F:∀C,C<i->(T C).b<g:=fun C Wu=>by
      obtain⟨cs,WA⟩:=(HD.o.row C Wu).2.1.blk;have:=WA.lt;have:=WE.o;omega
     refine⟨Xq.o,Nat.le_refl _,fun C Wu=> ?_,fun C Wu=> ?_,fun C H Wu Wy e=> ?_,?_⟩
     .exact AcQ
     .by_cases e:C=i
      .exact Aco
      .rw[upd_ne e];obtain⟨h1,h2,h3⟩:=HD.o.row C aa;refine⟨h1,h2.mod Xc hS ?_,h3⟩;rintro(e2|e2)
       .obtain⟨cs,WA⟩:=h2.blk;exact WA.fO HD.o.o aj e2
       .have:=F C aa;omega
     .by_cases e1:C=i
      .by_cases e2:H=i
       .omega
       .rw[e1,upd_same,upd_ne e2] at e;have:=F H aa;have e':g=(T H).b:=e;omega
      .by_cases e2:H=i
       .rw[e2,upd_same,upd_ne e1] at e;have:=F C aa;have e':(T C).b=g:=e;omega
       .rw[upd_ne e1,upd_ne e2] at e;exact HD.o.inj C H aa aa e
     .have L:=Ww.o;have hM:=WG.o;exact⟨hM.os.trans L.os,hM.tape.trans L.tape,hM.output.trans L.output,Nat.le_trans L.size hM.size,fun k hk=>(hM.block k (Nat.lt_of_lt_of_le hk L.size) (by have:=WZ.o;omega)).trans (L.block k hk)⟩
  .obtain rfl:i=m:=aa;have hd:decide ((i:Int)<(i:Int))=false:=ag;(go_wp2_with fail);go_ret;exact⟨_,_,rfl,HD.o⟩
def DI.mx{w W W' G m na X R}(h:DI w W G m na m X R)(x:Ext W W'):MxI W' G m na (fun g=>∃i,i<m/\g=(R i).b) R X:=
 ⟨h.o.ext x,h.len,fun i hi _=>⟨(h.row i hi).1,(h.row i hi).2.1.ext x⟩,fun i j hi l _ e=>h.inj i j hi l e,fun i hi _=>⟨i,hi,rfl⟩⟩
def Mg{W G m n P R X}(h:MxI W G m n P R X)(l:m=0->n=0)(c)(C:m<=1000):CE 190 #[.slice (some ⟨G,0,none⟩) m c] W (.int .i64 n):=by
 by_cases j:m=0
 .have B:((m:Int)==0)=true:=by simp[j]
  rw[l j];clear h l j;exact AaN
 .have B:((m:Int)==0)=false:=by simp[j]
  have D:=h.cell (i:=0) aa;have q1:(0:Int)<(m:Int):=aa;clear h l;exact AaN
def Mod.U3{B0 w W}(h:Mod (fun g=>B0<=g) w W){w0}(x:Ext w0 w)(hb:w0.heap.size<=B0):Ext w0 W:=
 ⟨h.os.trans x.os,h.tape.trans x.tape,h.output.trans x.output,Nat.le_trans x.size h.size,fun k j=>(h.block k (Nat.lt_of_lt_of_le j x.size) aa).trans (x.block k j)⟩
def Qa(W:World):jg (W.alloc (.cells #[.int .i64 0] 250)) W.heap.size:=Blk.new _ _ _
def qo (X:Nat->Nat->GQ):Nat->GQ
 |0=>GQ.i 1 0
 |k+1=>qo X k*X k k
def Fu{A B D a b d}(j:D≠0)(E:(a,b,d)=nf A B D):Low a b d:=by
 have h:=NE (a:=A) (b:=B) j;rw[<-E] at h;exact h.low
def Fh(T v1 v2 a b d a' b' d' u v t m n w)(hc:Calm w T)(L:RG w v1 a b d)(l:RG w v2 a' b' d')(sx:Sz m a b d)(sy:Sz n a' b' d')(hn:m+n+1<=12800)(WP:n+n+1<=12800)(K)(I:K<=12800)(WB:m+n+1<=K)(WC:n+n+1<=K)(sz:Sz K u v t)(hd:d≠0)(hd':d'≠0)(R:a'≠0\/b'≠0)(E:(u,v,t)=nf ((a*a'+b*b')*d') ((b*a'-a*b')*d') (d*(a'*a'+b'*b'))):
  CV 173 #[.pointer (some ⟨T,0,none⟩),v1,v2] w fun x w'=>RG w' x u v t:=by
 obtain⟨g,M,b1,p,q,hg,N,ea,J,C,B⟩:=zz (a:=a) (b:=b) R;have O:p≠0\/q≠0:=by
  exact Ach
 obtain⟨h,c1,o,hh,j,ec,eo⟩:=rz (a:=d) (b:=d') hd';obtain⟨i,p1,q1,hi,U,V,eq⟩:=xV O;have Ws:p1≠0\/q1≠0:=by
  exact Abe
 have bg:g.natAbs<2^n:=by
  rcases R with h|h
  .exact pY h C sy.a
  .exact pY h B sy.b
 have Wo:=fJ N ea sx.a;have F:=fJ N J sx.b;have bp:=fJ N C sy.a;have bq:=fJ N B sy.b;have Q:i.natAbs<2^n:=by
  rcases O with h|h
  .exact pY h V bp
  .exact pY h eq bq
 have Wp:=fJ U V bp;have Wq:=fJ U eq bq;have bh:=pY hd ec sx.d;have Wu:=fJ j ec sx.d;have bo:=fJ j eo sy.d;have m1:=bG Wo Wp;have m2:=bG F Wq;have m3:=bG F Wp;have m4:=bG Wo Wq;have m5:=bG Wp Wp;have m6:=bG Wq Wq;have m7:=ja m1 m2;have m8:=sJ m3 m4;have m9:=ja m5 m6;have Wt:=bG Q Wu;have hN:=pR Ws;have Z:i*c1≠0:=Int.mul_ne_zero U (by intro e;rw[e] at ec;simp at ec;exact hd ec);obtain⟨P,fb,S,Ef⟩:=Gz (M*p1+b1*q1) (b1*p1-M*q1) (p1*p1+q1*q1);obtain⟨sa,sb,D,Es⟩:=Gz o 0 (i*c1);obtain⟨G,WA,e1,e2,e3,Yp⟩:=DT hN Ef;obtain⟨H,Wx,e4,e6,e5,Yw⟩:=DT Z Es;have XG:sb=0:=by
  exact AcW
 subst XG;have sf:=jh (n:=K) hN Ef (iU m7 aa) (iU m8 aa) (iU m9 aa);have ss:=jh (n:=K) Z Es (iU bo aa) (show(0:Int).natAbs<2^K from Nat.pow_pos aa) (iU Wt aa);have Wv:d*(a'*a'+b'*b')≠0:=Int.mul_ne_zero hd (pR R);have Wz:S*D≠0:=Int.mul_ne_zero aa aa;obtain⟨Ww,Wy⟩:=zl ea J C B V eq eo ec e1 e2 e3 e4 e5;have E':(u,v,t)=nf (P*sa) (fb*sa) (S*D):=by
  rw[E];refine nS Wv Wz ?_ ?_
  .rw[Ww]
  .rw[Wy]
 obtain⟨x1,x2,Y⟩:=sx.pW aa;obtain⟨y1,y2,y3⟩:=sy.pW aa;obtain⟨f1,f2,f3⟩:=sf.pW aa;obtain⟨t1,t2,t3⟩:=ss.pW aa;obtain⟨s1,s2,s3⟩:=sz.pW aa;exact equotient_g T v1 a b d v2 a' b' d' w hc L x1 x2 Y l y1 y2 y3 g (aJ hg) (bC bg aa) h (aJ hh) (bC bh aa)
  M (aJ (fC N ea)) (bC Wo aa) (aJ N) (aJ ⟨_,ea⟩) b1 (aJ (fC N J)) (bC F aa) (aJ N) (aJ ⟨_,J⟩)
  p (aJ (fC N C)) (bC bp aa) (aJ N) (aJ ⟨_,C⟩) q (aJ (fC N B)) (bC bq aa) (aJ N) (aJ ⟨_,B⟩)
  i (aJ hi) (bC Q aa) p1 (aJ (fC U V)) (bC Wp aa) (aJ U) (aJ ⟨_,V⟩) q1 (aJ (fC U eq)) (bC Wq aa) (aJ U) (aJ ⟨_,eq⟩)
  _ (aJ rfl) (bC m1 aa) _ (aJ rfl) (bC m2 aa) _ (aJ rfl) (bC m7 aa)
  _ (aJ rfl) (bC m3 aa) _ (aJ rfl) (bC m4 aa) _ (aJ rfl) (bC m8 aa)
  _ (aJ rfl) (bC m5 aa) _ (aJ rfl) (bC m6 aa) _ (aJ rfl) (bC m9 aa) (aJ hN)
  P fb S (aJ Ef) f1 f2 f3 o (aJ (fC j eo)) (bC bo aa) (aJ j) (aJ ⟨_,eo⟩)
  c1 (aJ (fC j ec)) (bC Wu aa) (aJ j) (aJ ⟨_,ec⟩) _ (aJ rfl) (bC Wt aa) (aJ Z)
  sa 0 D (aJ Es) t1 t2 t3 u v t (aJ fun _ _ W h1 h2 h3=>JE T _ _ P fb S sa D u v t K I W h1 h2 h3 (Fu hN Ef) (Fu Z Es) sf ss E' sz) s1 s2 s3
def Fy(T v1 C x y n1 n2 j w)(hc:Calm w T)(L:GV w v1 x n1)(l:GV w C y n2)(hn:n1+n2+1<=12800)(B:n2+n2+1<=12800)(hb:Bd (x/y) j)(I:j<=12800)(R:y≠GQ.i 0 0):
  CV 173 #[.pointer (some ⟨T,0,none⟩),v1,C] w fun v w'=>GV w' v (x/y) j:=by
 obtain⟨a,b,d,G,i1,s1⟩:=L;obtain⟨a',b',d',F,Q,s2⟩:=l;obtain⟨u,v,t,h⟩:=fV (x/y);have D:=Q.ne0 R;have E:=i1.JB Q D h;have sz:=hb.sz h;exact(Fh T v1 C a b d a' b' d' u v t n1 n2 w hc G F s1 s2 hn B (max j (max (n1+n2+1) (n2+n2+1))) aa aa aa (sz.mono aa) i1.dne Q.dne D E).mono fun e w' ⟨z,O,H,J⟩=>⟨z,O,⟨u,v,t,H,h,sz⟩,J⟩
def O6(v0 q0 n0 v1 q1 n1 w)(WA:GV w v0 q0 n0)(J:GV w v1 q1 n1)(H0:Hid (q1≠GQ.i 0 0))(nr)(hn:n0+n1+1<=12800)(WP:n1+n1+1<=12800)(hb:Bd (q0/q1) nr)(hr:nr<=12800):
  CV 137 #[v0,v1] w fun v w'=>(∃u,v=.tuple #[u,.int .i64 0]/\GV w' u (q0/q1) nr):=by
 have hS:=St.start w;obtain⟨Xf,Xe,Xc,WA,I0,S0⟩:=WA;obtain⟨C,L,Z,P,D,W,U,Y,G,H,S,V,rfl,WJ,WH,WI⟩:=WA;replace hS:=hS.aU WJ;clear WJ;replace hS:=hS.aU WH;clear WH;replace hS:=hS.aU WI;clear WI;obtain⟨WN,WO,WL,J,I1,S1⟩:=J;obtain⟨Wv,Ws,Wq,Wt,Wy,Wu,Ww,Wx,Wp,Q,Wo,O,rfl,WE,WF,WG⟩:=J;replace hS:=hS.aU WE;clear WE;replace hS:=hS.aU WF;clear WF;replace hS:=hS.aU WG;clear WG;have l:=(St.al (St.al (St.al hS 42 #[.bool C,.slice L Z P,.bool D,.slice W U Y,.bool G,.slice H S V] (g:=w.heap.size) ag) 42 #[.bool Wv,.slice Ws Wq Wt,.bool Wy,.slice Wu Ww Wx,.bool Wp,.slice Q Wo O] (g:=(w.heap.size+1)) ag) 42 #[.bool false,.slice none 0 0,.bool false,.slice none 0 0,.bool false,.slice none 0 0] (g:=(w.heap.size+2)) ag);have WC:=(l.aH 2).cell;have WB:=(l.aH 1).cell;go_enter Tryz.func137,Tryz.ntmps137;(go_wp2_with fail);clear WC WB;clear l;refine gA4 hS 42 #[.bool C,.slice L Z P,.bool D,.slice W U Y,.bool G,.slice H S V] 42 #[.bool Wv,.slice Ws Wq Wt,.bool Wy,.slice Wu Ww Wx,.bool Wp,.slice Q Wo O] 42 #[.bool false,.slice none 0 0,.bool false,.slice none 0 0,.bool false,.slice none 0 0] 42 #[.bool C,.slice L Z P,.bool D,.slice W U Y,.bool G,.slice H S V,.bool Wv,.slice Ws Wq Wt,.bool Wy,.slice Wu Ww Wx,.bool Wp,.slice Q Wo O] ?_;clear hS;intro w1 g2 o2 g3 o3 g4 o4 g9 o9 hS;refine(jI g9 q0 q1 n0 n1 _ (hS.aH 0) ⟨_,_,_,RG.mk (hS.aF 5) (hS.aF 4) (hS.aF 3),I0,S0⟩ aa ⟨_,_,_,RG.mk (hS.aF 2) (hS.aF 1) (hS.aF 0),I1,S1⟩ aa).mono ?_;rintro e w2 ⟨rfl,F⟩;replace hS:=hS.mv F;clear F;have WK:=(hS.aH 2).cell;(go_wp2_with fail);clear WK;refine(Gr _ q1 (n1) _ ⟨_,_,_,RG.mk (hS.aF 2) (hS.aF 1) (hS.aF 0),I1,S1⟩ H0.o).mono ?_;rintro e w3 ⟨rfl,F⟩;replace hS:=hS.mv F;clear F;have Wz:=(St.al hS 197 #[.int .i64 0] (g:=w3.heap.size) ag);have WM:=(Wz.aH 4).cell;have WQ:=(Wz.aH 3).cell;(go_wp2_with fail);clear WM WQ;clear Wz;refine gA1 hS 197 #[.int .i64 0] ?_;clear hS;intro w4 g6 o6 hS;obtain⟨T,WR,WS,Xj⟩:=fV (q0/q1);have Xx:Sz nr T WR WS:=hb.sz Xj;refine(mi (Fy g6 _ _ q0 q1 _ _ nr _ (hS.aH 0) ⟨_,_,_,RG.mk (hS.aF 5) (hS.aF 4) (hS.aF 3),I0,S0⟩ ⟨_,_,_,RG.mk (hS.aF 2) (hS.aF 1) (hS.aF 0),I1,S1⟩ aa aa hb hr H0.o) Xj).mono ?_;exact Aar
def UM(g v0 v1 q0 q1 n0 n1 w)(hc:jg w g)(L:GV w v0 q0 n0)(l:GV w v1 q1 n1)(h0:q1≠GQ.i 0 0)(nr)(hn:n0+n1+1<=12800)(WP:n1+n1+1<=12800)(hb:Bd (q0/q1) nr)(hr:nr<=12800):
  CV 213 #[.pointer (some ⟨g,0,none⟩),v0,v1] w fun v w'=>GV w' v (q0/q1) nr:=by
 obtain⟨D,H,C,G,K,N,P,Q,W,V,S,U,rfl⟩:=L.opn;obtain⟨Ws,Wv,Y,Wp,M,Wq,Wu,Z,R,Ww,T,Wt,rfl⟩:=l.opn;have HX:=aJ L;have HY:=aJ l;clear L l;obtain⟨B,I,F,j⟩:=an3 w 42 #[.bool D,.slice H C G,.bool K,.slice N P Q,.bool W,.slice V S U] 42 #[.bool Ws,.slice Wv Y Wp,.bool M,.slice Wq Wu Z,.bool R,.slice Ww T Wt] 42 #[.bool false,.slice none 0 0,.bool false,.slice none 0 0,.bool false,.slice none 0 0];have O:=hc.ext B;have k0:=Blk.cell O;go_enter Tryz.func213,Tryz.ntmps213;(go_wp2_with fail);refine(O6 _ q0 n0 _ q1 n1 _ (HX.ext B) (HY.ext B) (aJ h0) nr hn WP hb hr).mono ?_;exact AbQ
def bps (Z S:Nat->Nat->GQ) (m i j:Nat):Nat->GQ
 |0=>Z i (m+j)
 |s+1=>bps Z S m i j s-Z i (i+1+s)*S (i+1+s) j
def iW (Z:Nat->Nat->GQ) (m:Nat):Nat->Nat->Nat->GQ
 |0=>fun _ _=>GQ.i 0 0
 |k+1=>upd (iW Z m k) (m-1-k) (fun j=>bps Z (iW Z m k) m (m-1-k) j k/Z (m-1-k) (m-1-k))
def Dc(Z){m k i}(j:k<m)(hi:m-k<=i):iW Z m (k+1) i=iW Z m k i:=by
 show upd _ _ _ i=_;rw[upd_ne aa]
structure BI (w W:World) (gf Ga Gb G m nb:Nat) (PA PB:Nat->Prop) (Z:Nat->Nat->GQ) (k:Nat) (RX:Nat->Rw):Prop where
 calm:jg W gf
 a:∃R,MxI W Ga m m PA R Z
 b:∃R Y,MxI W Gb m nb PB R Y/\∀i j,i<m-k->Y i j=Z i (m+j)
 x:Blk W G 174 (mxc m RX).toArray
 gx:w.heap.size<=G
 row:∀i,m-k<=i->i<m->(RX i).A=some ⟨(RX i).b,0,none⟩/\(RX i).n=nb/\(RX i).c=nb/\w.heap.size<=(RX i).b/\dm W (RX i).b nb (iW Z m k i)
 mod:Mod PB w W
theorem NA(gf C D nb l B Nx Ny G Z W v I H q w)(hc:jg w gf)(hq:GV w v q G)(N:0<nb->Z=some ⟨C,0,none⟩/\dm w C nb I)(P:0<nb->W=some ⟨D,0,none⟩/\dm w D nb H)(L:0<nb->C≠D)(U:nb<=1000)(K:∀j,j<nb->Bd (I j) Nx)(M:∀j,j<nb->Bd (H j) Ny)(hN:2*max Nx (G+Ny+1)+65<=12800)(T:2*max G Ny+1<=12800):
  Calls Tryz.prog 212 #[.pointer (some ⟨gf,0,none⟩),.slice Z nb l,.slice W nb B,v] w.drew fun e w'=>e=.returned (.tuple #[])/\(0<nb->dm w' C nb (fun j=>I j-q*H j))/\Mod (fun g=>0<nb/\g=C) w w':=by
 have hd:Ext w w.drew:=(Ext.refl _).drew;by_cases h:0<nb
 .obtain⟨e1,r1⟩:=N h;obtain⟨Y,r2⟩:=P h;refine(xR gf C D 0 0 nb nb nb l nb B Nx Ny G Z W v I H q w.drew (hc.ext hd) (r1.ext hd) (r2.ext hd) (L h) (fun _=>by simpa using e1) (fun _=>by simpa using Y) (Nat.le_refl _) aa aa aa aa (hq.ext hd) (fun j F=>by simpa using K j F) (fun j F=>by simpa using M j F) hN T).mono ?_;rintro e w' ⟨O,V,Q⟩;refine⟨O,fun _=>V.congr fun j F=> ?_,(Mod.of hd).trans (Q.mono fun g S=>⟨h,S⟩)⟩;unfold uB;rw[if_pos aa];simp
 .obtain rfl:nb=0:=aa;refine(yl gf l 0 B Z W v q G w.drew (hq.ext hd)).mono ?_;exact Abx
def D6(m Z):∀c,(ech m Z c).r<=c
 |0=>Nat.le_refl _
 |c+1=>by
  have B:=D6 m Z c;show(jL m c (ech m Z c)).r<=c+1;cases j:fp (ech m Z c).X c (m-(ech m Z c).r) (ech m Z c).r with
  |none=>rw[eF j];omega
  |some k=>rw[dG j];show(ech m Z c).r+1<=c+1;omega
theorem zW(m Z):∀c,(ech m Z c).r=c->∀i,i<c->(ech m Z c).X i i≠GQ.i 0 0
 |0,_,i,hi=>aa
 |c+1,h,i,hi=>by
  have G:=D6 m Z c;have e:ech m Z (c+1)=jL m c (ech m Z c):=rfl;rw[e] at h⊢;cases j:fp (ech m Z c).X c (m-(ech m Z c).r) (ech m Z c).r with
  |none=>rw[eF j] at h;omega
  |some k=>
   rw[dG j] at h⊢;have C:(ech m Z c).r=c:=by have I:(ech m Z c).r+1=c+1:=h;omega
   have B:=zW m Z c C;obtain⟨D,H,F,J⟩:=iD j;show clr (fun i=>(ech m Z c).X (swp k (ech m Z c).r i)) (ech m Z c).r c i i≠_;rw[C] at D⊢;unfold clr;rw[if_neg aa];show(ech m Z c).X (swp k c i) i≠_;by_cases l:i=c
   .subst l;rw[nJ];exact F
   .rw[uH aa l];exact B i aa
theorem Iu{na X Y i j}(h:j<na):side na X Y i j=X i j:=by unfold side;rw[if_pos h]
theorem OG{na X Y i j}:side na X Y i (na+j)=Y i j:=by unfold side;rw[if_neg aa,show na+j-na=j by omega]
structure Out (W:World) (G m n:Nat) (RX:Nat->Rw) (X:Nat->Nat->GQ):Prop where
 x:Blk W G 174 (mxc m RX).toArray
 row:∀i,i<m->(RX i).A=some ⟨(RX i).b,0,none⟩/\(RX i).n=n/\(RX i).c=n/\dm W (RX i).b n (X i)
def Out.ext{W W' G m n RX X}(h:Out W G m n RX X)(x:Ext W W'):Out W' G m n RX X:=
 ⟨h.x.ext x,fun i hi=>⟨(h.row i hi).1,(h.row i hi).2.1,(h.row i hi).2.2.1,(h.row i hi).2.2.2.ext x⟩⟩
structure Ky (N Ns Nd Nx m nb:Nat) (Z:Nat->Nat->GQ):Prop where
 a:∀i l,i<m->l<m->Bd (Z i l) N
 s:∀k j s,k<m->j<nb->s<k->Bd (bps Z (iW Z m k) m (m-1-k) j s) Ns
 d:∀k j,k<m->j<nb->Bd (bps Z (iW Z m k) m (m-1-k) j k) Nd
 x:∀k i j,k<=m->m-k<=i->i<m->j<nb->Bd (iW Z m k i j) Nx
 c1:2*max Ns (N+Nx+1)+65<=12800
 c2:2*max N Nx+1<=12800
 c3:Nd+N+1<=12800
 c4:N+N+1<=12800
 c5:Nx<=12800
def RJ{N Ns Nd Nx m nb k i j Z}(h:Ky N Ns Nd Nx m nb Z)(hi:i=m-1-k)(D:k<m)(B:j<nb):Bd (bps Z (iW Z m k) m i j k/Z i i) Nx:=by
 have l:=h.x (k+1) (m-1-k) j aa aa aa B;have C:iW Z m (k+1) (m-1-k) j=bps Z (iW Z m k) m (m-1-k) j k/Z (m-1-k) (m-1-k):=by
  show(upd (iW Z m k) (m-1-k) (fun j=>bps Z (iW Z m k) m (m-1-k) j k/Z (m-1-k) (m-1-k))) (m-1-k) j=_;rw[upd_same]
 rw[C] at l;rwa[<-hi] at l
theorem Ro(gf Ga Gb m cA cB nb N Ns Nd Nx PA PB Z w)(h:EI w gf Ga Gb m m nb PA PB Z)(hd:∀g,PA g->PB g->False)(Xr:∀g,PA g->g<w.heap.size)(WX:∀g,PB g->g<w.heap.size)(hm:m<=24)(WH:nb<=24)(hz:∀i,i<m->Z i i≠GQ.i 0 0)(hR:Ky N Ns Nd Nx m nb Z):
  Calls Tryz.prog 193 #[.pointer (some ⟨gf,0,none⟩),.slice (some ⟨Ga,0,none⟩) m cA,.slice (some ⟨Gb,0,none⟩) m cB] w fun e w'=>∃(G:Nat) (RX:Nat->Rw),e=.returned (.slice (some ⟨G,0,none⟩) m m)/\BI w w' gf Ga Gb G m nb PA PB Z m RX:=by
 have HH:=aJ h;have HD:=aJ hd;have XE:=aJ Xr;have Xd:=aJ WX;have HZ:=aJ hz;have Q:=aJ hR;clear h hd Xr WX hz hR;have WN:=DK m aa;have XQ:=Ba nb aa;have Xk:(0:Int)<=(m:Int):=aa;have XD:Hid (Ga<w.heap.size/\Gb<w.heap.size):=aJ (by
  obtain⟨_,⟨_,a⟩,⟨_,b⟩⟩:=HH.o;exact⟨a.o.lt,b.o.lt⟩)
 go_enter Tryz.func193,Tryz.ntmps193;(go_wp2_with fail);clear WN;go_loopw [8] (fun i wr=>∃(k:Nat) (RX:Nat->Rw),k<=m/\i=.int .i64 ((m:Int)-1-(k:Int))/\BI w wr gf Ga Gb w.heap.size m nb PA PB Z k RX) (fun i _=>(intOf i+1).toNat)
 case atStart=>
  obtain⟨hc,⟨R,ha⟩,⟨R2,hb⟩⟩:=HH.o;have J:=Ext.new w (.cells (mxc m fun _=>BN).toArray 174);exact⟨0,fun _=>BN,aa,au,⟨hc.ext J,⟨R,ha.ext J⟩,⟨R2,_,hb.ext J,fun _ _ _=>rfl⟩,Blk.new _ _ _,Nat.le_refl _,fun i h1 h2=>absurd h1 aa,Mod.of J⟩⟩
 case round=>
  obtain⟨k,RX,hk,rfl,hB⟩:=hrel;have HB:=aJ hB;clear hB HH;by_cases Wo:k<m
  .obtain⟨i,hi⟩:∃i,i=m-1-k:=⟨_,rfl⟩;have XC:(m:Int)-1-(k:Int)=(i:Int):=aa;have Wv:i<m:=aa;rw[XC];have HI:=aJ hi;clear hi XC;have d1:decide ((i:Int)≥0)=true:=ag;(go_wp2_with fail);obtain⟨XV,⟨R,hA⟩,⟨R2,Y,X5,l⟩,J,WS,F,Ws⟩:=HB.o;have HC:=aJ XV;have HA:=aJ hA;have B:=aJ X5;have HY:=aJ l;have XB:=aJ J;have XH:=aJ F;have Yd:=aJ Ws;clear XV hA X5 l J WS F Ws HB;have Xz:Far (fun g=>0<nb/\g=(R2 i).b) wr:=by
    rintro g ⟨hn,rfl⟩ _;obtain⟨ff,Xg,_⟩:=(B.o.row i Wv hn).2;exact⟨_,_,Xg,cu _ _⟩
   have XP:=aJ Xz;clear Xz;have T:Hid (m-k=i+1):=aJ (by have:=HI.o;omega);go_loopw [9] (fun i9 w2=>∃s j:Nat,s<=k/\j=i+1+s/\i9=.int .i64 j/\(0<nb->dm w2 (R2 i).b nb (fun j=>bps Z (iW Z m k) m i j s))/\Mod (fun g=>0<nb/\g=(R2 i).b) wr w2) (fun i9 _=>m-(intOf i9).toNat)
   case atStart=>exact⟨0,i+1,aa,aa,au,fun hn=>(B.o.row i Wv hn).2.congr fun j hj=>HY.o i j (by have:=HI.o;omega),Mod.refl _ _⟩
   case round=>
    obtain⟨s,j,hs,hj,rfl,Xl,WF⟩:=hrel;have Xx:=aJ Xl;have O:=aJ WF;have HJ:=aJ hj;clear Xl WF hj;rename World=>w2;have WO:=aJ (HA.o.mod O.o XP.o (by rintro⟨hn,e⟩;exact B.o.ne Wv hn HA.o.o e.symm) (by rintro H Wy _ ⟨hn,e⟩;exact HD.o _ (HA.o.mem H Wy aa) (e ▸ B.o.mem i Wv hn)));have WV:=aJ (Blk.mod HC.o O.o (by
     rintro⟨hn,e⟩;exact jg.ne HC.o (B.o.row i Wv hn).2 e))
    have W:=aJ (XB.o.mod O.o (by rintro⟨hn,e⟩;exact B.o.ne Wv hn XB.o e.symm));have Xp:=aJ (B.o.o.mod O.o (by rintro⟨hn,e⟩;exact B.o.ne Wv hn B.o.o e.symm));by_cases X7:s<k
    .have WQ:j<m:=by have:=HI.o;have:=HJ.o;omega
     have L:i<j:=by have:=HJ.o;omega
     have dj:decide ((j:Int)<(m:Int))=true:=ae;have di:decide ((i:Int)<(m:Int))=true:=ae;obtain⟨Xy,f,hf,hv⟩:=WO.o.row i Wv aa;have k1:=WO.o.cell Wv;rw[Xy] at k1;obtain⟨a0,M,a2,a3,a4,a5⟩:=dm.cells hf WQ rfl;have X6:=aJ ((hv j WQ).to (Q.o.a i j Wv WQ));clear Xy hf hv;(go_wp2_with fail);refine(uU _ _ _ _ X6.o (by have:=Q.o.c2;omega)).mono ?_;rintro e w3 ⟨rfl,Wp⟩;by_cases h0:Z i j=GQ.i 0 0
     .rw[decide_eq_true h0];have Yc:Hid (∀H,bps Z (iW Z m k) m i H (s+1)=bps Z (iW Z m k) m i H s):=aJ fun H=>by
       show _-Z i (i+1+s)*_=_;rw[<-HJ.o,h0,GQ.eH,GQ.eu]
      have Ww:=aJ Wp;clear h0 k1 a0 M a2 a3 a4 a5 Wp;go_wp2_with fail
      go_roundw
      case rel=>exact⟨s+1,j+1,aa,by have:=HJ.o;omega,au,fun hn=>((Xx.o hn).ext Ww.o).congr fun H _=>(Yc.o H).symm,O.o.trans (Mod.of Ww.o)⟩
      case measure=>simp[intOf];omega
     .rw[decide_eq_false h0];obtain⟨xa,xn,xc,xb,xr⟩:=XH.o j (by have:=T.o;omega) WQ;have Xw:0<nb->(RX j).A=some ⟨(RX j).b,0,none⟩/\dm w3 (RX j).b nb (iW Z m k j):=fun hn=>⟨xa,(xr.mod O.o XP.o (by rintro⟨WL,e⟩;have h1:=Xd.o _ (B.o.mem i Wv WL);omega)).ext Wp⟩;have K1:=aK.cell (Wp.cell_ k1);have V:=aK.cell (show w3.cell? ⟨Gb,i,none⟩=some (.slice (R2 i).A nb nb) from Wp.cell_ (by rw[Xp.o.cell,iI Wv,B.o.v0 Wv]));have K3:=aK.cell (show w3.cell? ⟨w.heap.size,j,none⟩=some (.slice (some ⟨(RX j).b,0,none⟩) nb nb) from Wp.cell_ (by rw[W.o.cell,iI WQ];unfold Rw.v;rw[xa,xn,xc]));have A0:=aK.cell (Wp.cell_ a0);have A1:=aK.cell (Wp.cell_ M);have A2:=aK.cell (Wp.cell_ a2);have A3:=aK.cell (Wp.cell_ a3);have A4:=aK.cell (Wp.cell_ a4);have A5:=aK.cell (Wp.cell_ a5);have HS:=aJ (NA gf (R2 i).b (RX j).b nb nb nb Ns Nx N (R2 i).A (some ⟨(RX j).b,0,none⟩) _ (fun j=>bps Z (iW Z m k) m i j s) (iW Z m k j) (Z i j) w3 (WV.o.ext Wp) (X6.o.ext Wp) (fun hn=>⟨(B.o.row i Wv hn).1,(Xx.o hn).ext Wp⟩) (fun hn=>⟨rfl,(Xw hn).2⟩) (fun hn e=>by have h1:=Xd.o _ (B.o.mem i Wv hn);omega) aa (fun H Wy=>by have:=Q.o.s k H s Wo Wy X7;rwa[<-HI.o] at this) (fun H Wy=>Q.o.x k j H hk (by have:=T.o;omega) WQ Wy) Q.o.c1 Q.o.c2);have Ww:=aJ Wp;clear Xw k1 a0 M a2 a3 a4 a5 Wp xa xn xc xb xr;(go_wp2_with fail);refine bz 16 [(true,0),(true,1),(true,2),(true,3),(true,4),(true,5),(true,6),(true,7),(true,8),(true,9),(true,10),(true,11),(true,12),(true,13),(true,14),(true,15)] ah ah ?_;refine aS [0,1,2,3,4,5,6,7,8,9,10,11,12,13,14,15] [] _ ah ?_;simp only[bO,aV,List.cons_append,List.nil_append];(repeat (go_big_quiet_step (fail)));refine wpQuiet_nil ?_;clear K1 V K3 A0 A1 A2 A3 A4 A5;simp only[bP,List.drop_succ_cons,List.drop_zero];(go_wp2_with fail);refine HS.o.mono ?_;rintro e w5 ⟨rfl,X8,W9⟩;have Xj:=aJ X8;have Ya:=aJ ((O.o.trans (Mod.of Ww.o)).trans W9);clear X8 W9;go_wp2_with fail
      go_roundw
      case rel=>
       refine⟨s+1,j+1,aa,by have:=HJ.o;omega,au,fun hn=>(Xj.o hn).congr fun H _=> ?_,Ya.o⟩;show _=bps Z (iW Z m k) m i H s-Z i (i+1+s)*iW Z m k (i+1+s) H;rw[<-HJ.o]
      case measure=>simp[intOf];omega
    .obtain rfl:k=s:=aa;obtain rfl:m=j:=by have:=HI.o;have:=HJ.o;omega
     have dj:decide ((m:Int)<(m:Int))=false:=ag;have di:decide ((i:Int)<(m:Int))=true:=ae;have Xo:=Ext.new w2 (.cells (aN nb fun _=>zEn).toArray 42);have WI:=W.o.ext Xo;have fr:=WI.frozen;have k1:(w2.alloc (.cells (aN nb fun _=>zEn).toArray 42)).cell? ⟨w.heap.size,i,none⟩=some (RX i).v:=by rw[WI.cell];exact iI Wv
     have kb:w2.cell? ⟨Gb,i,none⟩=some (.slice (R2 i).A nb nb):=by rw[Xp.o.cell,iI Wv,B.o.v0 Wv]
     have WT:Blk ((w2.alloc (.cells (aN nb fun _=>zEn).toArray 42)).setCell ⟨w.heap.size,i,none⟩ (.slice (some ⟨w2.heap.size,0,none⟩) nb nb)) w.heap.size 174 (mxc m (upd RX i ⟨some ⟨w2.heap.size,0,none⟩,w2.heap.size,0,nb,nb⟩)).toArray:=by
      rw[<-Fg];exact WI.mX _ _
     have k2:((w2.alloc (.cells (aN nb fun _=>zEn).toArray 42)).setCell ⟨w.heap.size,i,none⟩ (.slice (some ⟨w2.heap.size,0,none⟩) nb nb)).cell? ⟨w.heap.size,i,none⟩=some (.slice (some ⟨w2.heap.size,0,none⟩) nb nb):=by rw[WT.cell,iI Wv,upd_same];rfl
     have WW:w.heap.size<w2.heap.size:=W.o.lt;have Wx:Blk ((w2.alloc (.cells (aN nb fun _=>zEn).toArray 42)).setCell ⟨w.heap.size,i,none⟩ (.slice (some ⟨w2.heap.size,0,none⟩) nb nb)) w2.heap.size 42 (aN nb fun _=>zEn).toArray:=(Blk.new _ _ _).far (by show w2.heap.size≠w.heap.size;omega) _;have XT:Mod (fun g=>g=w.heap.size) w2 ((w2.alloc (.cells (aN nb fun _=>zEn).toArray 42)).setCell ⟨w.heap.size,i,none⟩ (.slice (some ⟨w2.heap.size,0,none⟩) nb nb)):=(Mod.of Xo).trans (Mod.only (Only.set _ _ _ _) rfl);have XA:Far (fun g=>g=w.heap.size) w2:=fun g hg _=>by subst hg;exact⟨_,_,W.o,jW _ _⟩
     have WK:=aJ WT;have Wz:=aJ Wx;have WM:=aJ XT;have XW:=aJ XA;have WZ:=aJ WW;clear WT Wx XT XA WW Xo WI;(go_wp2_with fail);clear k1 k2 fr kb;generalize XJ:World.setCell _ _ _=w4 at WK Wz WM⊢;clear XJ;generalize Xh:w2.heap.size=g at*
     have WE:=aJ Xh;clear Xh;have XL:=aJ (Blk.mod WV.o WM.o (by exact fun e=>WV.o.fO W.o aj e));have Ye:=aJ (WO.o.mod WM.o XW.o (by have:=XD.o.1;exact fun e=>aa) (fun H Wy _=>WO.o.ne Wy aa W.o));have X3:=aJ (Xp.o.mod WM.o (by have:=XD.o.2;exact fun e=>aa));have XY:Hid (0<nb->dm w4 (R2 i).b nb (fun j=>bps Z (iW Z m k) m i j k)):=aJ fun hn=>(Xx.o hn).mod WM.o XW.o (by
      obtain⟨cs,WA⟩:=(Xx.o hn).blk;exact fun e=>WA.fO W.o aj e)
     have Xe:Hid (w.heap.size<g/\Ga<g/\Gb<g/\gf<g/\(0<nb->(R2 i).b<g)/\∀C,C<m->(R C).b<g):=aJ (by
      have h1:=WE.o;have h2:=WZ.o;have h3:=XD.o;refine⟨h2,aa,aa,by have:=Blk.lt WV.o;omega,fun hn=> ?_,fun C Wu=> ?_⟩
      .obtain⟨cs,WA⟩:=(Xx.o hn).blk;have:=WA.lt;omega
      .obtain⟨cs,WA⟩:=(WO.o.row C Wu aa).2.blk;have:=WA.lt;omega)
     clear WO WV Xp;go_loopw [69] (fun XN wz=>∃(H:Nat) (f:Nat->En),H<=nb/\XN=.int .i64 H/\Blk wz g 42 (aN nb f).toArray/\(∀j,j<H->GV wz (f j).v (bps Z (iW Z m k) m i j k/Z i i) 12800)/\Mod (fun g'=>g'=g) w4 wz) (fun XN _=>nb-(intOf XN).toNat)
     case atStart=>exact⟨0,_,aa,rfl,Wz.o,fun j hj=>aa,Mod.refl _ _⟩
     case round=>
      clear dj;obtain⟨H,f,Wy,rfl,hb,WY,Xi⟩:=hrel;have WP:=aJ hb;have WJ:=aJ WY;have WG:=aJ Xi;clear hb WY Xi;rename World=>wz;have XX:Far (fun g'=>g'=g) w4:=fun g' hg _=>by subst hg;exact⟨_,_,Wz.o,cu _ _⟩
      have XU:=aJ XX;clear XX;have Xq:=aJ (WK.o.mod WG.o (by have:=Xe.o.1;exact fun e=>aa));have XO:=aJ (Blk.mod XL.o WG.o (by have:=Xe.o.2.2.2.1;exact fun e=>aa));have XM:=aJ (Ye.o.mod WG.o XU.o (by have:=Xe.o.2.1;exact fun e=>aa) (fun C Wu _=>by have:=Xe.o.2.2.2.2.2 C Wu;exact fun e=>aa));have XZ:=aJ (X3.o.mod WG.o (by have:=Xe.o.2.2.1;exact fun e=>aa));have XG:Hid (0<nb->dm wz (R2 i).b nb (fun j=>bps Z (iW Z m k) m i j k)):=aJ fun hn=>(XY.o hn).mod WG.o XU.o (by have:=Xe.o.2.2.2.2.1 hn;exact fun e=>aa);by_cases WC:H<nb
      .have dj:decide ((H:Int)<(nb:Int))=true:=ae;have WB:0<nb:=aa;have Xm:=(B.o.row i Wv WB).1;have K1:=aK.cell (show wz.cell? ⟨w.heap.size,i,none⟩=some (.slice (some ⟨g,0,none⟩) nb nb) by rw[Xq.o.cell,iI Wv,upd_same];rfl);have V:=aK.cell (show wz.cell? ⟨Gb,i,none⟩=some (.slice (some ⟨(R2 i).b,0,none⟩) nb nb) by rw[XZ.o.cell,iI Wv,B.o.v Wv WB]);obtain⟨Xy,P,X9,Xt⟩:=XM.o.row i Wv aa;have K3:=aK.cell (show wz.cell? ⟨Ga,i,none⟩=some (.slice (some ⟨(R i).b,0,none⟩) m m) by rw[XM.o.cell Wv,Xy]);obtain⟨fb,X4,WU⟩:=XG.o WB;obtain⟨a0,M,a2,a3,a4,a5⟩:=dm.cells X9 Wv rfl;obtain⟨b0,b1,b2,b3,b4,b5⟩:=dm.cells X4 WC rfl;have A0:=aK.cell a0;have A1:=aK.cell M;have A2:=aK.cell a2;have A3:=aK.cell a3;have A4:=aK.cell a4;have A5:=aK.cell a5;have B0:=aK.cell b0;have B1:=aK.cell b1;have B2:=aK.cell b2;have B3:=aK.cell b3;have B4:=aK.cell b4;have B5:=aK.cell b5;have Xv:=aJ ((Xt i Wv).to (Q.o.a i i Wv Wv));have Xu:=aJ ((WU H WC).to (by have:=Q.o.d k H Wo WC;rwa[<-HI.o] at this));clear Xy X9 Xt X4 WU a0 M a2 a3 a4 a5 b0 b1 b2 b3 b4 b5 Xm;(go_wp2_with fail);refine bz 21 [(true,0),(true,1),(true,2),(true,3),(true,4),(true,5),(true,6),(true,7),(true,8),(true,9),(true,10),(true,11),(true,12),(true,13),(true,14),(true,15),(true,16),(true,17),(true,18),(true,19),(false,20)] ah ah ?_;refine aS [0,1,2,3,4,5,6,7,8,9,10,11,12,13,14,15,16,17,18,19] [(false,20)] _ ah ?_;simp only[bO,aV,List.cons_append,List.nil_append];(repeat (go_big_quiet_step (fail)));refine wpQuiet_nil ?_;refine aR 20 [] ah ?_;intro K I;simp only[aV];(go_wp2_with fail);have Xb:Ext wz wz.drew:=(Ext.refl _).drew;refine(UM gf _ _ (bps Z (iW Z m k) m i H k) (Z i i) Nd N _ (Blk.ext XO.o Xb) (Xu.o.ext Xb) (Xv.o.ext Xb) (HZ.o i Wv) Nx Q.o.c3 Q.o.c4 (RJ Q.o HI.o Wo WC) Q.o.c5).mono ?_;rintro e w5 ⟨v5,rfl,Xn,Wt⟩;obtain⟨u1,D1,p1,q1,u2,D2,p2,q2,u3,D3,p3,q3,rfl⟩:=Xn.opn;have WR:=aJ Wt.jd;have XI:=aJ Xn;clear Wt Xn Xb;go_wp2;refine I _ _ ⟨⟨w5,WR.o⟩,rfl⟩ ?_;clear I K K1 V K3 A0 A1 A2 A3 A4 A5 B0 B1 B2 B3 B4 B5;simp only[bP,List.drop_succ_cons,List.drop_zero];have Wq:=WP.aA WR.o;obtain⟨a0,M,a2,a3,a4,a5⟩:=dm.cells Wq.o WC rfl;have fr:=Wq.o.frozen;have W9:Mod (fun g'=>g'=g) w5 (puts w5 g (H*6) [.bool u1,.slice D1 p1 q1,.bool u2,.slice D2 p2 q2,.bool u3,.slice D3 p3 q3]):=Mod.only (fK _ _ _ _) rfl;have XK:Far (fun g'=>g'=g) w5:=fun g' hg _=>by subst hg;exact⟨_,_,Wq.o,cu _ _⟩
       have U:=bY (H*6) [.bool u1,.slice D1 p1 q1,.bool u2,.slice D2 p2 q2,.bool u3,.slice D3 p3 q3] Wq.o;have XF:=mO (f:=f) ⟨u1,D1,p1,q1,u2,D2,p2,q2,u3,D3,p3,q3⟩ WC;rw[show fD (aN nb f).toArray (H*6) [.bool u1,.slice D1 p1 q1,.bool u2,.slice D2 p2 q2,.bool u3,.slice D3 p3 q3]=_ from XF] at U;have S:=aJ U;have Xf:=aJ ((WG.o.trans (Mod.of WR.o)).trans W9);have Yf:Hid (∀j,j<H+1->GV (puts w5 g (H*6) [.bool u1,.slice D1 p1 q1,.bool u2,.slice D2 p2 q2,.bool u3,.slice D3 p3 q3]) (upd f H ⟨u1,D1,p1,q1,u2,D2,p2,q2,u3,D3,p3,q3⟩ j).v (bps Z (iW Z m k) m i j k/Z i i) 12800):=aJ fun j hj=>by
        by_cases e:j=H
        .subst e;rw[upd_same];exact((XI.o.up Q.o.c5).mod W9 XK)
        .rw[upd_ne e];exact((WJ.o j aa).ext WR.o).mod W9 XK
       clear W9 XK U XF;go_wp2_with fail
       go_roundw
       case rel=>exact⟨H+1,_,aa,au,S.o,Yf.o,Xf.o⟩
       case measure=>simp[intOf];omega
      .obtain rfl:nb=H:=aa;have dj:decide ((nb:Int)<(nb:Int))=false:=ag;have e0:=Blk.cell XO.o;(go_wp2_with fail);have hS:Far (fun g'=>(0<nb/\g'=(R2 i).b)\/g'=w.heap.size\/g'=g) wr:=by
        rintro g' (h|rfl|rfl) XR
        .exact XP.o g' h XR
        .exact⟨_,_,XB.o,jW _ _⟩
        .have h1:=WE.o;have h2:=O.o.size;omega
       have hM:Mod (fun g'=>(0<nb/\g'=(R2 i).b)\/g'=w.heap.size\/g'=g) wr wz:=((O.o.mono fun g' h=> .inl h).trans (WM.o.mono fun g' h=> .inr (.inl h))).trans (WG.o.mono fun g' h=> .inr (.inr h));have Yg:=Xe.o.1;have WX:∀j,j<m->0<nb->(R2 j).b<w.heap.size:=fun j hj hn=>Xd.o _ (B.o.mem j hj hn);have Yb:(i:Int)-1=(m:Int)-1-((k+1:Nat):Int):=by have:=HI.o;omega
       refine⟨⟨k+1,upd RX i ⟨some ⟨g,0,none⟩,g,0,nb,nb⟩,aa,by rw[Yb],?_⟩,by simp[intOf]⟩;refine⟨XO.o,⟨R,XM.o⟩,⟨R2,upd Y i (fun j=>bps Z (iW Z m k) m i j k),?_,fun C j Wu=> ?_⟩,Xq.o,Nat.le_refl _,fun C h1 h2=> ?_,?_⟩
       .refine B.o.Rm hM hS ?_ ?_ (fun hn=>XG.o hn)
        .rintro(⟨hn,e⟩|e|e)
         .exact B.o.ne Wv hn B.o.o e.symm
         .have:=XD.o.2;omega
         .have:=Xe.o.2.2.1;omega
        .rintro j hj D hn (⟨_,e⟩|e|e)
         .exact D (B.o.inj j i hj Wv hn e)
         .have:=WX j hj hn;omega
         .have:=WX j hj hn;omega
       .have:=HI.o;rw[upd_ne aa];exact HY.o C j aa
       .have hI:=HI.o;by_cases e:C=i
        .subst e;rw[upd_same];refine⟨rfl,rfl,rfl,by show w.heap.size<=g;omega,f,WP.o,fun j hj=> ?_⟩;have hb:=WJ.o j hj;have e2:iW Z m (k+1) C j=bps Z (iW Z m k) m C j k/Z C C:=by
          show upd (iW Z m k) (m-1-k) (fun j=>bps Z (iW Z m k) m (m-1-k) j k/Z (m-1-k) (m-1-k)) C j=_;rw[<-hI,upd_same]
         rw[e2];exact hb
        .rw[upd_ne e];obtain⟨h3,h4,h5,h6,h7⟩:=XH.o C aa h2;refine⟨h3,h4,h5,h6,?_⟩;rw[Dc Z Wo aa];refine h7.mod hM hS ?_;obtain⟨cs,WA⟩:=h7.blk;rintro(⟨hn,e'⟩|e'|e')
         .have:=WX i Wv hn;omega
         .exact WA.fO XB.o aj e'
         .have h8:=WA.lt;have h9:=WE.o;have Xa:=O.o.size;omega
       .have hm:=Yd.o;exact⟨hM.os.trans hm.os,hM.tape.trans hm.tape,hM.output.trans hm.output,Nat.le_trans hm.size hM.size,fun k' Xc hn=>(hM.block k' (Nat.lt_of_lt_of_le Xc hm.size) (by
         rintro(⟨WL,e'⟩|e'|e')
         .exact hn (e' ▸ B.o.mem i Wv WL)
         .omega
         .omega)).trans (hm.block k' Xc hn)⟩
  .obtain rfl:k=m:=aa;have XC:(k:Int)-1-(k:Int)= -1:=aa;rw[XC];(go_wp2_with fail);go_ret;exact⟨_,RX,rfl,HB.o⟩
theorem Q5{A A2 B O B2 O2 m c c2 nb N Ns Nd Nx R R2}{E E2:Nat->Nat->En}{X Y w}{vb vb2:Nat->Nat->Bool}(h:Mem w A B O m R E)(h2:Mem w A2 B2 O2 m R2 E2)(WU:∀i j,i<m->j<(R i).n->VB w (E i j).v (vb i j))(V:∀i j,i<m->j<(R2 i).n->VB w (E2 i j).v (vb2 i j))(hM:IsM m R vb)(Xw:IsM m R2 vb2)(hn:∀i,i<m->(R i).n=m)(WP:∀i,i<m->(R2 i).n=nb)(WH:nb<=24)(hv:∀i j,i<m->j<m->GV w (E i j).v (X i j) 12800)(XB:∀i j,i<m->j<nb->GV w (E2 i j).v (Y i j) 12800)(hN:4*N+67<=12800)(K:Room N m m nb (side m X Y))(WJ:(ech m (side m X Y) m).r=m->Ky N Ns Nd Nx m nb (ech m (side m X Y) m).X):
  Calls Tryz.prog 159 #[.slice A m c,.slice A2 m c2] w fun e w'=>((ech m (side m X Y) m).r<m/\e=.returned (.tuple #[.slice none 0 0,.int .i64 45])\/(ech m (side m X Y) m).r=m/\∃G RX,e=.returned (.tuple #[.slice (some ⟨G,0,none⟩) m m,.int .i64 0])/\Out w' G m nb RX (iW (ech m (side m X Y) m).X m m))/\Ext w w':=by
 have hm:=hM.1;have XN:=zW m (side m X Y) m;have Wo:=D6 m (side m X Y) m;have HM:=aJ h;have Wz:=aJ h2;have U:=aJ hv;have Wu:=aJ XB;have HN:=aJ hn;have WM:=aJ WP;have Q:=aJ K;have Xo:=aJ WJ;have WN:=aJ XN;have WQ:=aJ (fun(w':World) (x:Ext w w')=>zN (c:=c) (h.ext x) (fun i j hi hj=>(WU i j hi hj).ext x) true ⟨fun _=>hM,fun _=>rfl⟩);have WO:=aJ (fun(w':World) (x:Ext w w')=>zN (c:=c2) (h2.ext x) (fun i j hi hj=>(V i j hi hj).ext x) true ⟨fun _=>Xw,fun _=>rfl⟩);have WK:=aJ (fun(w':World) (x:Ext w w')=>qz (c:=c) (h.ext x));have J:wd m R=m:=by
  unfold wd;by_cases e:m=0
  .rw[if_pos e];exact e.symm
  .rw[if_neg e];exact hn 0 aa
 rw[J] at WK;clear h h2 hv XB hn WP K WJ WU V hM Xw J XN;have WS:((m:Int) !=(m:Int))=false:=ag;go_enter Tryz.func159,Tryz.ntmps159;(go_wp2_with fail);refine(WQ.o _ (Ext.refl _)).mono ?_;rintro e w1 ⟨rfl,H⟩;have WW:=aJ H;clear H;(go_wp2_with fail);refine(WO.o _ WW.o).mono ?_;rintro e w2 ⟨rfl,P⟩;have W9:=WW.aC P;clear P WW;(go_wp2_with fail);refine(WK.o _ W9.o).mono ?_;rintro e w3 ⟨rfl,Wp⟩;have WB:=(W9.o.trans Wp).alloc (.cells #[.int .i64 0] 250);have Wy:=Qa w3;clear W9 Wp;(go_wp2_with fail);generalize (w3.alloc (.cells #[.int .i64 0] 250))=w4 at Wy WB⊢;generalize w3.heap.size=gf at Wy⊢;have XL:=aJ Wy;have Xa:=aJ WB;clear Wy WB;refine(TJ (HM.o.ext Xa.o) HN.o (fun i j hi hj=>(U.o i j hi hj).ext Xa.o) hm hm).mono ?_;rintro e wa ⟨Ga,Ra,rfl,Wx⟩;have WC:=Xa.aC Wx.ext;have C:=aJ Wx;clear Wx;(go_wp2_with fail);refine(TJ (Wz.o.ext WC.o) WM.o (fun i j hi hj=>(Wu.o i j hi hj).ext WC.o) hm WH).mono ?_;rintro e wb ⟨Gb,Rb,rfl,Ww⟩;have WV:=WC.aC Ww.ext;have l:=aJ Ww;clear Ww;have YK:∀i,i<m->(Ra i).b<wa.heap.size:=fun i hi=>by
  obtain⟨cs,WA⟩:=(C.o.row i hi).2.1.blk;exact WA.lt
 have I:∀i,i<m->wa.heap.size<=(Rb i).b/\(Rb i).b<wb.heap.size:=fun i hi=>by
  obtain⟨cs,WA⟩:=(l.o.row i hi).2.1.blk;exact⟨(l.o.row i hi).2.2,WA.lt⟩
 have WL:w4.heap.size<=wa.heap.size:=C.o.ext.size;have T:wa.heap.size<=wb.heap.size:=l.o.ext.size;have WR:=aJ (EI.mk (gf:=gf) (Ga:=Ga) (Gb:=Gb) (m:=m) (na:=m) (nb:=nb) (PA:=fun g=>∃i,i<m/\g=(Ra i).b) (PB:=fun g=>∃i,i<m/\g=(Rb i).b) (Z:=side m X Y) (W:=wb) ((XL.o.ext C.o.ext).ext l.o.ext) ⟨Ra,(C.o.mx l.o.ext).congr fun i j hi hj=>(Iu hj).symm⟩ ⟨Rb,(l.o.mx (Ext.refl _)).congr fun i j hi hj=>(OG).symm⟩);have Wv:Ga≠Gb:=by have h1:=C.o.o.lt;have h2:=l.o.gx;omega
 have WI:=aJ Wv;clear Wv;have XE:=aJ YK;have Xd:=aJ I;clear YK I;have XH:=aJ (And.intro WL T);clear WL T;(go_wp2_with fail);refine(Jf gf Ga Gb m m m m nb N _ _ (fun g=>w4.heap.size<=g) (side m X Y) wb WR.o WI.o ?_ ⟨C.o.gx,Nat.le_trans XH.o.1 l.o.gx,?_,?_⟩ (fun h=>h) hm hm WH hN Q.o ?_).mono ?_
 .exact Abv
 .rintro g ⟨i,hi,rfl⟩;exact(C.o.row i hi).2.2
 .rintro g ⟨i,hi,rfl⟩;exact Nat.le_trans XH.o.1 (Xd.o i hi).1
 .intro w' x;exact Mg ((C.o.mx l.o.ext).ext x) (fun h=>h) m aa
 rintro e w5 ⟨rfl,S,WE⟩;have Wt:=aJ S;have WG:=aJ (Xa.o.trans (WE.U3 (C.o.ext.trans l.o.ext) (Nat.le_refl _)));have Xp:=aJ WE.size;have e0:=S.calm.cell;clear WE;generalize hs:ech m (side m X Y) m=s at Xo WN Wt Wo⊢;have HS:=aJ hs;clear hs;by_cases hr:s.r<m
 .have dr:decide ((s.r:Int)<(m:Int))=true:=ae;have F:=aJ hr;clear hr;(go_wp2_with fail);refine vE rfl rfl ⟨.inl ⟨?_,rfl⟩,WG.o⟩;rw[HS.o];exact F.o
 .have dr:decide ((s.r:Int)<(m:Int))=false:=ae;have WT:¬((s.r:Int)<(m:Int)):=aa;have F:Hid (s.r=m):=aJ aa;clear hr Wo;(go_wp2_with fail);refine(Ro gf Ga Gb m m m nb N Ns Nd Nx _ _ s.X _ Wt.o ?_ ?_ ?_ hm WH (WN.o F.o) (Xo.o F.o)).mono ?_
  .exact Abv
  .rintro g ⟨i,hi,rfl⟩;have h1:=XE.o i hi;have h2:=XH.o;have h3:=Xp.o;omega
  .rintro g ⟨i,hi,rfl⟩;have h1:=(Xd.o i hi).2;have h3:=Xp.o;omega
  rintro e w6 ⟨G,RX,rfl,M⟩;have e1:=M.calm.cell;have Ws:=M.mod;have WF:Ext w w6:=by
   have L:=WG.o;exact⟨Ws.os.trans L.os,Ws.tape.trans L.tape,Ws.output.trans L.output,Nat.le_trans L.size Ws.size,fun k' Xc=>(Ws.block k' (Nat.lt_of_lt_of_le Xc L.size) (by
    rintro⟨i,hi,e⟩;have h1:=(Xd.o i hi).1;have h2:=XH.o;have h3:=Xa.o.size;omega)).trans (L.block k' Xc)⟩
  have Wq:=aJ WF;have D:=aJ M;clear WF M Ws;(go_wp2_with fail);refine vE rfl rfl ⟨.inr ⟨?_,G,RX,rfl,?_⟩,Wq.o⟩
  .rw[HS.o];exact F.o
  .rw[HS.o];exact⟨D.o.x,fun i hi=>⟨(D.o.row i aa hi).1,(D.o.row i aa hi).2.1,(D.o.row i aa hi).2.2.1,(D.o.row i aa hi).2.2.2.2⟩⟩
structure Imp where
 r:Int
 x:Int
 deriving DecidableEq,Inhabited
structure Cy where
 name:ByteArray
 z1:Imp
 z0:Imp
 deriving DecidableEq,Inhabited
structure Ce where
 name:ByteArray
 emf:Int
 z1:Imp
 z0:Imp
 deriving DecidableEq,Inhabited
structure pF where
 bus:Int
 pos:Int
 deriving DecidableEq,Inhabited
structure gD where
 name:ByteArray
 kind:Int
 obj:Int
 en:Int
 z:Imp
 links:List pF
 closed:Bool
 ct:Int
 vt:Int
 sat:Int
 travel:Int
 deriving DecidableEq,Inhabited
structure StD where
 name:ByteArray
 buses:List ByteArray
 lines:List Cy
 srcs:List Ce
 bays:List gD
 deriving DecidableEq,Inhabited
structure dQ where
 kind:Int
 line:Bool
 obj:Int
 num:Int
 den:Int
 r:Int
 deriving DecidableEq,Inhabited
structure dC where
 closed:List Bool
 links:List (List Int)
 deriving DecidableEq,Inhabited
def dF (E:Nat->Int):Nat->Int
 |0=>0
 |n+1=>if dF E n=0 then E n else dF E n
def bX{E}:∀{n},(∀i,i<n->E i=0)->dF E n=0
 |0,_=>rfl
 |n+1,h=>by
  show(if dF E n=0 then E n else dF E n)=0;rw[bX (fun i hi=>h i aa),if_pos rfl];exact h n aa
def oJ{E}:∀{n},dF E n=0->∀i,i<n->E i=0
 |0,_,i,hi=>absurd hi aa
 |n+1,h,i,hi=>by
  have I:(if dF E n=0 then E n else dF E n)=0:=h;by_cases e:dF E n=0
  .rw[if_pos e] at I;by_cases M:i=n
   .rw[M];exact I
   .exact oJ e i aa
  .rw[if_neg e] at I;exact absurd I e
def Db{E k}(l:∀i,i<k->E i=0)(j:E k≠0):∀{n},k<n->dF E n=E k
 |0,h=>absurd h aa
 |n+1,h=>by
  show(if dF E n=0 then E n else dF E n)=E k;by_cases Y:k=n
  .rw[bX (fun i hi=>l i aa),if_pos rfl,Y]
  .rw[Db l j (n:=n) aa,if_neg j]
def dD (c:Nat):Bool:=(decide (65<=c)&&decide (c<=90))||(decide (97<=c)&&decide (c<=122))
def dV (c:Nat):Bool:=(decide (48<=c)&&decide (c<=57))||decide (c=95)
def uR (s:ByteArray) (i:Nat):Nat:=(s.data.getD i 0).toNat
def iJ (s:ByteArray) (i:Nat):Bool:=dD (uR s i)||(decide (0<i)&&dV (uR s i))
def fT (s:ByteArray):Bool:=decide (0<s.size)&&decide (s.size<=12)&&(List.range s.size).all (iJ s)
def Dh{s}(j:0<s.size)(l:s.size<=12)(h:∀i,i<s.size->iJ s i=true):fT s=true:=by
 simp only[fT,j,l,decide_true,Bool.true_and,List.all_eq_true,List.mem_range];exact h
def dA{s i}(hi:i<s.size)(h:iJ s i=false):fT s=false:=by
 cases j:fT s with
 |false=>rfl
 |true=>
  simp only[fT,Bool.and_eq_true,List.all_eq_true,List.mem_range] at j;rw[j.2 i hi] at h;cases h
def x9{s}(h:s.size=0\/12<s.size):fT s=false:=by
 cases j:fT s with
 |false=>rfl
 |true=>
  simp only[fT,Bool.and_eq_true,decide_eq_true_eq] at j;omega
def btw (n lo hi:Int):Bool:=decide (lo<=n)&&decide (n<=hi)
def eP{n lo hi}:btw n lo hi=true↔lo<=n/\n<=hi:=by simp[btw]
def okZ (z:Imp):Bool:=btw z.r 0 1000&&btw z.x 1 1000
def D7{z:Imp}:okZ z=true↔(0<=z.r/\z.r<=1000)/\1<=z.x/\z.x<=1000:=by simp[okZ,btw]
def nms (s:StD) (b l g q:Nat):List ByteArray:=
 s.buses.take b++(s.lines.take l).map Cy.name++(s.srcs.take g).map Ce.name++(s.bays.take q).map gD.name
def tZ (s:ByteArray):List ByteArray->Bool
 |[]=>false
 |x::l=>decide (x=s)||tZ s l
def dP (l:List ByteArray) (s:ByteArray):Int:=if fT s=true then (if tZ s l=true then 8 else 0) else 7
def uI (s:StD) (i:Nat):Int:=dP (nms s i 0 0 0) (s.buses.getD i default)
def lL (s:StD) (i:Nat):Int:=
 let x:=s.lines.getD i default
 let e:=dP (nms s s.buses.length i 0 0) x.name
 if e=0 then (if (okZ x.z1&&okZ x.z0)=true then 0 else 2) else e
def jB (x:Ce):Bool:=btw x.emf 1 1000000&&okZ x.z1&&okZ x.z0
def sH (s:StD) (i:Nat):Int:=
 let x:=s.srcs.getD i default
 let e:=dP (nms s s.buses.length s.lines.length i 0) x.name
 if e=0 then (if jB x=true then 0 else 2) else e
def iX (nl ns:Nat) (x:gD):Int:=
 if x.kind=1 then (if btw x.obj 0 ((nl:Int)-1)=true then 0 else 9)
 else if x.kind=2 then (if btw x.obj 0 ((ns:Int)-1)=true then 0 else 9)
 else if x.kind=3 then (if x.obj=0 then 0 else 9)
 else 10
def bS (x:gD):Bool:=
 (if x.kind=3 then okZ x.z&&decide (x.vt=0) else decide (x.z=⟨0,0⟩)&&btw x.vt 1 10000)&&
 (btw x.en 0 (if x.kind=1 then 1 else 0)&&btw x.ct 1 100&&btw x.sat 0 16383&&btw x.travel 1 6)
def lI (x y:gD):Bool:=decide (x.kind=y.kind)&&decide (x.obj=y.obj)&&decide (x.en=y.en)
def nD (l:List gD) (x:gD):Bool:=decide (x.kind≠3)&&l.any (lI x)
def ik (nb:Nat) (x:gD) (i:Nat):Int:=
  let l:=x.links.getD i default
  if btw l.bus 0 ((nb:Int)-1)=true then
    (if l.pos≠1/\(l.pos≠0\/x.kind=3) then 16
     else if 0<i/\(x.links.getD (i-1) default).bus=l.bus then 12 else 0)
  else 9
def gN (nb:Nat) (x:gD):Int:=
 if x.links.length<1\/2<x.links.length\/(x.kind=3/\x.links.length≠2) then 3 else dF (ik nb x) x.links.length
def rF (s:StD) (i:Nat):Int:=
 let x:=s.bays.getD i default
 if iX s.lines.length s.srcs.length x=0 then
  (if bS x=true then (if nD (s.bays.take i) x=true then 12 else gN s.buses.length x) else 2)
 else iX s.lines.length s.srcs.length x
def uE (s:StD) (i:Nat):Int:=
 let e:=dP (nms s s.buses.length s.lines.length s.srcs.length i) (s.bays.getD i default).name
 if e=0 then rF s i else e
def rM (s:StD):Bool:=
 decide (1<=s.buses.length)&&decide (s.buses.length<=4)&&decide (s.lines.length<=6)&&decide (s.srcs.length<=4)&&decide (s.bays.length<=16)
def chk (s:StD):Int:=
 if fT s.name=true then
  if rM s=true then
   if dF (uI s) s.buses.length=0 then
    if dF (lL s) s.lines.length=0 then
     if dF (sH s) s.srcs.length=0 then dF (uE s) s.bays.length
     else dF (sH s) s.srcs.length
    else dF (lL s) s.lines.length
   else dF (uI s) s.buses.length
  else 3
 else 7
def eD (nb nl:Nat) (f:dQ):Int:=
 if f=⟨0,false,0,0,0,0⟩ then 0
 else if btw f.kind 1 10=true then
  if btw f.obj 0 ((if f.line=true then (nl:Int) else (nb:Int))-1)=true then
   if f.line=true/\(f.den<2\/16<f.den\/f.num<1\/f.den-1<f.num) then 2
   else if f.line=false/\(f.num≠0\/f.den≠0) then 2
   else if btw f.r 0 1000=true then 0 else 2
  else 9
 else 10
def wM (s:StD) (f:dQ):Int:=if chk s=0 then eD s.buses.length s.lines.length f else chk s
structure lG (s:StD):Prop where
 nb:1<=s.buses.length/\s.buses.length<=4
 nl:s.lines.length<=6
 ns:s.srcs.length<=4
 nq:s.bays.length<=16
 line:∀i,i<s.lines.length->okZ (s.lines.getD i default).z1=true/\okZ (s.lines.getD i default).z0=true
 src:∀i,i<s.srcs.length->jB (s.srcs.getD i default)=true
 obj:∀i,i<s.bays.length->iX s.lines.length s.srcs.length (s.bays.getD i default)=0
 rng:∀i,i<s.bays.length->bS (s.bays.getD i default)=true
 conf:∀i,i<s.bays.length->nD (s.bays.take i) (s.bays.getD i default)=false
 links:∀i,i<s.bays.length->gN s.buses.length (s.bays.getD i default)=0
theorem wU{s}(h:chk s=0):lG s:=by
 unfold chk at h;split at h
 .split at h
  .rename_i hc
   split at h
   .rename_i D
    split at h
    .rename_i B
     split at h
     .rename_i C
      simp only[rM,Bool.and_eq_true,decide_eq_true_eq] at hc;have b (i:Nat) (hi:i<s.bays.length):rF s i=0:=by
       have hb:=oJ h i hi;unfold uE at hb;simp only[] at hb;split at hb
       .exact hb
       .exact absurd hb Abp
      refine⟨⟨aa,aa⟩,aa,aa,aa,?_,?_,?_,?_,?_,?_⟩
      .intro i hi;have hb:=oJ B i hi;unfold lL at hb;simp only[] at hb;split at hb
       .split at hb
        .rename_i l
         simpa only[Bool.and_eq_true] using l
        .exact absurd hb aj
       .exact absurd hb Abp
      .intro i hi;have hb:=oJ C i hi;unfold sH at hb;simp only[] at hb;split at hb
       .split at hb
        .assumption
        .exact absurd hb aj
       .exact absurd hb Abp
      all_goals
       intro i hi;have hb:=b i hi;unfold rF at hb;simp only[] at hb;split at hb
       .split at hb
        .split at hb
         .exact absurd hb aj
         .first
          |assumption
          |(rename_i j;exact Bool.eq_false_iff.mpr j)
        .exact absurd hb aj
       .exact absurd hb Abp
     .exact absurd h Abp
    .exact absurd h Abp
   .exact absurd h Abp
  .exact absurd h aj
 .exact absurd h aj
def nK (s:StD) (i:Nat) (x:Int):Bool:=decide (x=1)||(decide ((s.bays.getD i default).kind≠3)&&(decide (x=0)||decide (x=2)))
def kQ (s:StD) (p:dC):Int:=
 if p.closed.length=s.bays.length/\p.links.length=s.bays.length then
  if (List.range s.bays.length).all (fun i=>decide ((p.links.getD i []).length=(s.bays.getD i default).links.length))=true then
   if (List.range s.bays.length).all (fun i=>(p.links.getD i []).all (nK s i))=true then 0 else 16
  else 3
 else 3
def resolve (c:Int) (p:dC):dC:=⟨p.closed,p.links.map (List.map (fun x=>if x=2 then c else x))⟩
def normal (s:StD):dC:=⟨s.bays.map gD.closed,s.bays.map (fun b=>b.links.map pF.pos)⟩
def joins (s:StD) (p:dC) (i:Nat):Bool:=
 decide ((s.bays.getD i default).kind≠3)&&decide ((s.bays.getD i default).links.length=2)&&
 decide ((p.links.getD i []).getD 0 0=1)&&decide ((p.links.getD i []).getD 1 0=1)
def merge (x y:Int) (g:List Int):List Int:=g.map (fun v=>if v=x\/v=y then min x y else v)
def iZ (s:StD) (i k:Nat):Nat:=(((s.bays.getD i default).links.getD k default).bus).toNat
def pI (s:StD) (p:dC) (i:Nat) (g:List Int):List Int:=
 if joins s p i=true then merge (g.getD (iZ s i 0) 0) (g.getD (iZ s i 1) 0) g else g
def jc (s:StD) (p:dC):Nat->List Int
 |0=>(List.range s.buses.length).map (fun k:Nat=>(k:Int))
 |n+1=>pI s p n (jc s p n)
def groups (s:StD) (p:dC):List Int:=jc s p s.bays.length
def Cn (s:StD) (p:dC) (bus:Nat):Int×Int:=(1,(groups s p).getD bus 0)
def uh (s:StD) (p:dC) (i:Nat):Int×Int:=
 if (p.links.getD i []).getD 0 0=1 then Cn s p (iZ s i 0)
 else if 1<(s.bays.getD i default).links.length/\(p.links.getD i []).getD 1 0=1 then Cn s p (iZ s i 1)
 else (0,0)
def sides (s:StD) (p:dC) (i:Nat):(Int×Int)×(Int×Int):=
 if (s.bays.getD i default).kind=3 then (Cn s p (iZ s i 0),Cn s p (iZ s i 1))
 else (uh s p i,((if (s.bays.getD i default).kind=1 then 2 else 3),(s.bays.getD i default).obj))
def MS{x y}(g):g.map (fun v=>if v=max x y then min x y else v)=merge x y g:=by
 refine List.map_congr_left fun v _=> ?_;by_cases h:v=max x y
 .rw[if_pos h,if_pos aa]
 .rw[if_neg h];by_cases j:v=x\/v=y
  .rw[if_pos j];omega
  .rw[if_neg j]
def wG{x y}(g):(merge x y g).length=g.length:=by simp[merge]
theorem jD(s p):∀n,(jc s p n).length=s.buses.length
 |0=>by simp[jc]
 |n+1=>by
  show(pI s p n (jc s p n)).length=_;unfold pI;split
  .rw[wG];exact jD s p n
  .exact jD s p n
def Mr (g:List Int):Prop:=∀k,k<g.length->0<=g.getD k 0/\g.getD k 0<=(k:Int)/\g.getD (g.getD k 0).toNat 0=g.getD k 0
def xq{x y}(g k)(j:k<g.length):(merge x y g).getD k 0=if g.getD k 0=x\/g.getD k 0=y then min x y else g.getD k 0:=by
 simp[merge,List.getD_eq_getElem?_getD,List.getElem?_map,List.getElem?_eq_getElem j]
def Mr.merge{g:List Int}(h:Mr g){a b:Nat}(ha:a<g.length)(hb:b<g.length):Mr (merge (g.getD a 0) (g.getD b 0) g):=by
 intro k j;rw[wG] at j;have⟨k0,F,C⟩:=h k j;have⟨G,M,B⟩:=h a ha;have⟨H,b1,b2⟩:=h b hb;rw[xq g k j];by_cases e:g.getD k 0=g.getD a 0\/g.getD k 0=g.getD b 0
 .rw[if_pos e];refine⟨aa,aa,?_⟩;have l:g.getD (min (g.getD a 0) (g.getD b 0)).toNat 0=min (g.getD a 0) (g.getD b 0):=by
   by_cases D:g.getD a 0<=g.getD b 0
   .rw[show min (g.getD a 0) (g.getD b 0)=g.getD a 0 by omega];exact B
   .rw[show min (g.getD a 0) (g.getD b 0)=g.getD b 0 by omega];exact b2
  rw[xq g _ aa,l,if_pos aa]
 .rw[if_neg e];refine⟨k0,F,?_⟩;rw[xq g _ aa,C,if_neg e]
theorem Kk{s}(p)(Z:∀i,i<s.bays.length->joins s p i=true->iZ s i 0<s.buses.length/\iZ s i 1<s.buses.length):∀n,n<=s.bays.length->Mr (jc s p n)
 |0,_=>by
  intro k D;have l:k<s.buses.length:=by rw[<-jD s p 0];exact D
  have e:∀j,j<s.buses.length->(jc s p 0).getD j 0=(j:Int):=by
   intro j C;simp[jc,List.getD_eq_getElem?_getD,List.getElem?_map,List.getElem?_range C]
  rw[e k l];refine⟨aa,aa,?_⟩;rw[Int.toNat_natCast];exact e k l
 |n+1,hn=>by
  have B:=Kk p Z n aa;show Mr (pI s p n (jc s p n));unfold pI;by_cases C:joins s p n=true
  .rw[if_pos C];obtain⟨G,F⟩:=Z n aa C;exact B.merge (by rw[jD];exact G) (by rw[jD];exact F)
  .rw[if_neg C];exact B
theorem lG.link{s}(h:lG s){i}(hi:i<s.bays.length):
  (1<=(s.bays.getD i default).links.length/\(s.bays.getD i default).links.length<=2)/\((s.bays.getD i default).kind=3->(s.bays.getD i default).links.length=2)/\
  ∀k,k<(s.bays.getD i default).links.length->ik s.buses.length (s.bays.getD i default) k=0:=by
 have Z:=h.links i hi;unfold gN at Z;split at Z
 .exact absurd Z aj
 .rename_i hn
  refine⟨⟨aa,aa⟩,fun j=> ?_,oJ Z⟩;by_cases e:(s.bays.getD i default).links.length=2
  .exact e
  .exact absurd (Or.inr (Or.inr ⟨j,e⟩)) hn
theorem lG.bus{s}(h:lG s){i k}(hi:i<s.bays.length)(j:k<(s.bays.getD i default).links.length):
  ((s.bays.getD i default).links.getD k default).bus=(iZ s i k:Nat)/\iZ s i k<s.buses.length:=by
 have Z:=(h.link hi).2.2 k j;unfold ik at Z;simp only[] at Z;split at Z
 .rename_i hb
  rw[eP] at hb;unfold iZ;omega
 .exact absurd Z aj
def lG.groups{s:StD}(h:lG s)(p:dC):Mr (groups s p):=by
 refine Kk p (fun i hi j=> ?_) _ (Nat.le_refl _);have T:(s.bays.getD i default).links.length=2:=by
  simp only[joins,Bool.and_eq_true,decide_eq_true_eq] at j;exact j.1.1.2
 exact⟨(h.bus hi aa).2,(h.bus hi aa).2⟩
def uj(s p):(groups s p).length=s.buses.length:=jD s p _
structure BrD where
 a:Nat
 b:Nat
 z0:Imp
 z1:Imp
 n:Int
 d:Int
 emf:Int
 deriving DecidableEq,Inhabited
def nP (s:StD) (p:dC) (i:Nat):Bool:=p.closed.getD i false&&decide ((sides s p i).1.1=1)
def kT (s:StD) (p:dC) (i:Nat):Nat:=13+(sides s p i).1.2.toNat
def rJ (s:StD) (p:dC) (l e i:Nat):Bool:=
 nP s p i&&decide ((s.bays.getD i default).kind=1)&&decide ((s.bays.getD i default).obj=(l:Int))&&decide ((s.bays.getD i default).en=(e:Int))
def Ca (s:StD) (p:dC) (l e:Nat):Nat->Nat
 |0=>2*l+e
 |n+1=>if rJ s p l e n=true then kT s p n else Ca s p l e n
def mD (s:StD) (p:dC) (l e:Nat):Nat:=Ca s p l e s.bays.length
def iV (s:StD) (p:dC) (i:Nat):Option BrD:=
 let x:=s.bays.getD i default
 if nP s p i=true then
  if x.kind=2 then
   let g:=s.srcs.getD x.obj.toNat default
   some ⟨kT s p i,17,g.z0,g.z1,1,1,g.emf⟩
  else if x.kind=3/\(sides s p i).1≠(sides s p i).2 then
   some ⟨kT s p i,13+(sides s p i).2.2.toNat,x.z,x.z,1,1,0⟩
  else none
 else none
def gQ (s:StD) (p:dC):Nat->List BrD
 |0=>[]
 |n+1=>gQ s p n++(iV s p n).toList
def qY (f:dQ) (l:Nat):Bool:=f.line&&decide (f.obj=(l:Int))
def half (s:StD) (p:dC) (f:dQ) (l e:Nat):BrD:=
 let x:=s.lines.getD l default
 if qY f l=true then ⟨mD s p l e,12,x.z0,x.z1,(if e=0 then f.num else f.den-f.num),f.den,0⟩
 else ⟨mD s p l e,mD s p l (1-e),x.z0,x.z1,1,1,0⟩
def uA (s:StD) (p:dC) (f:dQ) (l:Nat):List BrD:=
 if qY f l=true then [half s p f l 0,half s p f l 1] else [half s p f l 0]
def jS (s:StD) (p:dC) (f:dQ):Nat->List BrD
 |0=>[]
 |n+1=>jS s p f n++uA s p f n
def cZ (s:StD) (p:dC) (f:dQ):List BrD:=gQ s p s.bays.length++jS s p f s.lines.length
def way (s:StD) (p:dC) (f:dQ) (i:Nat):Option BrD:=
 if (s.bays.getD i default).kind=1 then some (half s p f (s.bays.getD i default).obj.toNat (s.bays.getD i default).en.toNat)
 else iV s p i
def fH (s:StD) (p:dC) (f:dQ):Nat:=
 if f.line=true then 12 else if f.kind=0 then 17 else 13+((groups s p).getD f.obj.toNat 0).toNat
def qC (L:Nat->Bool) (b:BrD):Nat->Bool:=
 fun n=>L n||((decide (b.b=17)||L b.a||L b.b)&&decide (n≠17)&&(decide (n=b.a)||decide (n=b.b)))
structure xy (bs:List BrD) (L:Nat->Bool):Prop where
 closed:∀b∈bs,(b.b=17\/L b.a=true\/L b.b=true)->(b.a≠17->L b.a=true)/\(b.b≠17->L b.b=true)
 none:L 17=false
def xy.of{bs L}(B:L 17=false)(h:∀b∈bs,∀n,qC L b n=L n):xy bs L:=by
 refine⟨fun b hb Z=> ?_,B⟩;have ha:=h b hb b.a;have hc:=h b hb b.b;simp only[qC] at ha hc;have J:(decide (b.b=17)||L b.a||L b.b)=true:=by
  rcases Z with h|h|h<;>simp[h]
 constructor
 .intro hn;cases j:L b.a with
  |true=>rfl
  |false=>rw[J,j] at ha;simp[hn] at ha
 .intro hn;cases j:L b.b with
  |true=>rfl
  |false=>rw[J,j] at hc;simp[hn] at hc
def bT (w:World) (g:Nat):Prop:=Blk w g 109 #[.int .i64 0]
def bT.ext{w w' g}(h:bT w g)(x:Ext w w'):bT w' g:=Blk.ext h x
def qB(g v q n w)(hc:bT w g)(L:GV w v q n):
  CV 172 #[.pointer (some ⟨g,0,none⟩),v,.int .i64 0] w fun v w'=>GV w' v q n:=by
 obtain⟨D,H,C,G,K,N,P,Q,W,V,S,U,rfl⟩:=L.opn;obtain⟨M,I,j⟩:=an2 w 42 #[.bool D,.slice H C G,.bool K,.slice N P Q,.bool W,.slice V S U] 42 #[.bool false,.slice none 0 0,.bool false,.slice none 0 0,.bool false,.slice none 0 0];have R:=Blk.cell hc;have l:=Blk.frozen hc;have B:Ext w (w.setCell ⟨g,0,none⟩ (.int .i64 0)):=(Ext.refl w).stay hc rfl;have O:=hc.ext B;have T:=Blk.cell O;have J:g<w.heap.size:=Blk.lt hc;have F:=aJ (L.ext B);clear L M I j;go_enter Tryz.func172,Tryz.ntmps172;(go_wp2_with fail);exact dh rfl rfl rfl (Blk.new' _ _ Abj) ⟨_,rfl,F.ext ((Ext.new _ _).alloc _),B.trans ((Ext.new _ _).alloc _)⟩
def IR(g v0 v1 q0 q1 n0 n1 w)(hc:bT w g)(L:GV w v0 q0 n0)(l:GV w v1 q1 n1)(hn:2*max n0 n1+65<=12800):
  CV 134 #[.pointer (some ⟨g,0,none⟩),v0,v1,.func (Fn.func 194) #[] #[]] w fun v w'=>GV w' v (q0+q1) (n0+n1+65):=by
 obtain⟨D,H,C,G,K,N,P,Q,W,V,S,U,rfl⟩:=L.opn;obtain⟨Ws,Wv,Y,Wp,M,Wq,Wu,Z,R,Ww,T,Wt,rfl⟩:=l.opn;have HX:=aJ L;have HY:=aJ l;clear L l;obtain⟨hE,I,F,j⟩:=an3 w 42 #[.bool D,.slice H C G,.bool K,.slice N P Q,.bool W,.slice V S U] 42 #[.bool Ws,.slice Wv Y Wp,.bool M,.slice Wq Wu Z,.bool R,.slice Ww T Wt] 42 #[.bool false,.slice none 0 0,.bool false,.slice none 0 0,.bool false,.slice none 0 0];have O:=hc.ext hE;have k0:=Blk.cell O;have k4:=I.cell;have k5:=F.cell;have Wo:g<w.heap.size:=Blk.lt hc;go_enter Tryz.func134,Tryz.ntmps134;(go_wp2_with fail);refine(Su _ q0 n0 _ q1 n1 _ (HX.ext hE) (HY.ext hE) hn).mono ?_;exact Aae
def J7(g v0 v1 q0 q1 n0 n1 w)(hc:bT w g)(L:GV w v0 q0 n0)(l:GV w v1 q1 n1)(hn:2*max n0 n1+65<=12800):
  CV 134 #[.pointer (some ⟨g,0,none⟩),v0,v1,.func (Fn.func 135) #[] #[]] w fun v w'=>GV w' v (q0-q1) (n0+n1+65):=by
 obtain⟨D,H,C,G,K,N,P,Q,W,V,S,U,rfl⟩:=L.opn;obtain⟨Ws,Wv,Y,Wp,M,Wq,Wu,Z,R,Ww,T,Wt,rfl⟩:=l.opn;have HX:=aJ L;have HY:=aJ l;clear L l;obtain⟨hE,I,F,j⟩:=an3 w 42 #[.bool D,.slice H C G,.bool K,.slice N P Q,.bool W,.slice V S U] 42 #[.bool Ws,.slice Wv Y Wp,.bool M,.slice Wq Wu Z,.bool R,.slice Ww T Wt] 42 #[.bool false,.slice none 0 0,.bool false,.slice none 0 0,.bool false,.slice none 0 0];have O:=hc.ext hE;have k0:=Blk.cell O;have k4:=I.cell;have k5:=F.cell;have Wo:g<w.heap.size:=Blk.lt hc;go_enter Tryz.func134,Tryz.ntmps134;(go_wp2_with fail);refine(Lb _ q0 n0 _ q1 n1 _ (HX.ext hE) (HY.ext hE) hn).mono ?_;exact Aae
def Kb(g v0 v1 q0 q1 n0 n1 w)(hc:bT w g)(L:GV w v0 q0 n0)(l:GV w v1 q1 n1)(hn:2*max n0 n1+1<=12800):
  CV 134 #[.pointer (some ⟨g,0,none⟩),v0,v1,.func (Fn.func 164) #[] #[]] w fun v w'=>GV w' v (q0*q1) (n0+n1+1):=by
 obtain⟨D,H,C,G,K,N,P,Q,W,V,S,U,rfl⟩:=L.opn;obtain⟨Ws,Wv,Y,Wp,M,Wq,Wu,Z,R,Ww,T,Wt,rfl⟩:=l.opn;have HX:=aJ L;have HY:=aJ l;clear L l;obtain⟨hE,I,F,j⟩:=an3 w 42 #[.bool D,.slice H C G,.bool K,.slice N P Q,.bool W,.slice V S U] 42 #[.bool Ws,.slice Wv Y Wp,.bool M,.slice Wq Wu Z,.bool R,.slice Ww T Wt] 42 #[.bool false,.slice none 0 0,.bool false,.slice none 0 0,.bool false,.slice none 0 0];have O:=hc.ext hE;have k0:=Blk.cell O;have k4:=I.cell;have k5:=F.cell;have Wo:g<w.heap.size:=Blk.lt hc;go_enter Tryz.func134,Tryz.ntmps134;(go_wp2_with fail);refine(Ps _ q0 n0 _ q1 n1 _ (HX.ext hE) (HY.ext hE) hn).mono ?_;exact Aae
def IP(g v0 v1 q0 q1 n0 n1 w)(hc:bT w g)(L:GV w v0 q0 n0)(l:GV w v1 q1 n1)(h0:q1≠GQ.i 0 0)(nr)(hn:n0+n1+1<=12800)(WP:n1+n1+1<=12800)(hb:Bd (q0/q1) nr)(hr:nr<=12800):
  CV 134 #[.pointer (some ⟨g,0,none⟩),v0,v1,.func (Fn.func 137) #[] #[]] w fun v w'=>GV w' v (q0/q1) (nr):=by
 obtain⟨D,H,C,G,K,N,P,Q,W,V,S,U,rfl⟩:=L.opn;obtain⟨Ws,Wv,Y,Wp,M,Wq,Wu,Z,R,Ww,T,Wt,rfl⟩:=l.opn;have HX:=aJ L;have HY:=aJ l;clear L l;have H0:=aJ h0;clear h0;obtain⟨hE,I,F,j⟩:=an3 w 42 #[.bool D,.slice H C G,.bool K,.slice N P Q,.bool W,.slice V S U] 42 #[.bool Ws,.slice Wv Y Wp,.bool M,.slice Wq Wu Z,.bool R,.slice Ww T Wt] 42 #[.bool false,.slice none 0 0,.bool false,.slice none 0 0,.bool false,.slice none 0 0];have O:=hc.ext hE;have k0:=Blk.cell O;have k4:=I.cell;have k5:=F.cell;have Wo:g<w.heap.size:=Blk.lt hc;go_enter Tryz.func134,Tryz.ntmps134;(go_wp2_with fail);refine(O6 _ q0 n0 _ q1 n1 _ (HX.ext hE) (HY.ext hE) H0 nr hn WP hb hr).mono ?_;exact Aae
def yO(g v0 v1 q0 q1 n0 n1 w)(hc:bT w g)(L:GV w v0 q0 n0)(l:GV w v1 q1 n1)(hn:2*max n0 n1+65<=12800):
  CV 161 #[.pointer (some ⟨g,0,none⟩),v0,v1] w fun v w'=>GV w' v (q0+q1) (n0+n1+65):=by
 obtain⟨D,H,C,G,K,N,P,Q,W,V,S,U,rfl⟩:=L.opn;obtain⟨Ws,Wv,Y,Wp,M,Wq,Wu,Z,R,Ww,T,Wt,rfl⟩:=l.opn;have HX:=aJ L;have HY:=aJ l;clear L l;obtain⟨B,I,F,j⟩:=an3 w 42 #[.bool D,.slice H C G,.bool K,.slice N P Q,.bool W,.slice V S U] 42 #[.bool Ws,.slice Wv Y Wp,.bool M,.slice Wq Wu Z,.bool R,.slice Ww T Wt] 42 #[.bool false,.slice none 0 0,.bool false,.slice none 0 0,.bool false,.slice none 0 0];have O:=hc.ext B;have k4:=I.cell;have k5:=F.cell;go_enter Tryz.func161,Tryz.ntmps161;(go_wp2_with fail);clear k4 k5 I F;refine(IR g _ _ q0 q1 n0 n1 _ O (HX.ext B) (HY.ext B) hn).mono ?_;exact AbX
def vF(g v0 v1 q0 q1 n0 n1 w)(hc:bT w g)(L:GV w v0 q0 n0)(l:GV w v1 q1 n1)(hn:2*max n0 n1+65<=12800):
  CV 89 #[.pointer (some ⟨g,0,none⟩),v0,v1] w fun v w'=>GV w' v (q0-q1) (n0+n1+65):=by
 obtain⟨D,H,C,G,K,N,P,Q,W,V,S,U,rfl⟩:=L.opn;obtain⟨Ws,Wv,Y,Wp,M,Wq,Wu,Z,R,Ww,T,Wt,rfl⟩:=l.opn;have HX:=aJ L;have HY:=aJ l;clear L l;obtain⟨B,I,F,j⟩:=an3 w 42 #[.bool D,.slice H C G,.bool K,.slice N P Q,.bool W,.slice V S U] 42 #[.bool Ws,.slice Wv Y Wp,.bool M,.slice Wq Wu Z,.bool R,.slice Ww T Wt] 42 #[.bool false,.slice none 0 0,.bool false,.slice none 0 0,.bool false,.slice none 0 0];have O:=hc.ext B;have k4:=I.cell;have k5:=F.cell;go_enter Tryz.func89,Tryz.ntmps89;(go_wp2_with fail);clear k4 k5 I F;refine(J7 g _ _ q0 q1 n0 n1 _ O (HX.ext B) (HY.ext B) hn).mono ?_;exact AbX
def Km(g v0 v1 q0 q1 n0 n1 w)(hc:bT w g)(L:GV w v0 q0 n0)(l:GV w v1 q1 n1)(hn:2*max n0 n1+1<=12800):
  CV 127 #[.pointer (some ⟨g,0,none⟩),v0,v1] w fun v w'=>GV w' v (q0*q1) (n0+n1+1):=by
 obtain⟨D,H,C,G,K,N,P,Q,W,V,S,U,rfl⟩:=L.opn;obtain⟨Ws,Wv,Y,Wp,M,Wq,Wu,Z,R,Ww,T,Wt,rfl⟩:=l.opn;have HX:=aJ L;have HY:=aJ l;clear L l;obtain⟨B,I,F,j⟩:=an3 w 42 #[.bool D,.slice H C G,.bool K,.slice N P Q,.bool W,.slice V S U] 42 #[.bool Ws,.slice Wv Y Wp,.bool M,.slice Wq Wu Z,.bool R,.slice Ww T Wt] 42 #[.bool false,.slice none 0 0,.bool false,.slice none 0 0,.bool false,.slice none 0 0];have O:=hc.ext B;have k4:=I.cell;have k5:=F.cell;go_enter Tryz.func127,Tryz.ntmps127;(go_wp2_with fail);clear k4 k5 I F;refine(Kb g _ _ q0 q1 n0 n1 _ O (HX.ext B) (HY.ext B) hn).mono ?_;exact AbX
def ze(g v0 v1 q0 q1 n0 n1 w)(hc:bT w g)(L:GV w v0 q0 n0)(l:GV w v1 q1 n1)(h0:q1≠GQ.i 0 0)(nr)(hn:n0+n1+1<=12800)(WP:n1+n1+1<=12800)(hb:Bd (q0/q1) nr)(hr:nr<=12800):
  CV 91 #[.pointer (some ⟨g,0,none⟩),v0,v1] w fun v w'=>GV w' v (q0/q1) (nr):=by
 obtain⟨D,H,C,G,K,N,P,Q,W,V,S,U,rfl⟩:=L.opn;obtain⟨Ws,Wv,Y,Wp,M,Wq,Wu,Z,R,Ww,T,Wt,rfl⟩:=l.opn;have HX:=aJ L;have HY:=aJ l;clear L l;obtain⟨B,I,F,j⟩:=an3 w 42 #[.bool D,.slice H C G,.bool K,.slice N P Q,.bool W,.slice V S U] 42 #[.bool Ws,.slice Wv Y Wp,.bool M,.slice Wq Wu Z,.bool R,.slice Ww T Wt] 42 #[.bool false,.slice none 0 0,.bool false,.slice none 0 0,.bool false,.slice none 0 0];have O:=hc.ext B;have k4:=I.cell;have k5:=F.cell;go_enter Tryz.func91,Tryz.ntmps91;(go_wp2_with fail);clear k4 k5 I F;refine(IP g _ _ q0 q1 n0 n1 _ O (HX.ext B) (HY.ext B) h0 nr hn WP hb hr).mono ?_;exact AbX
def OT(g re im den w)(hc:bT w g)(l0: -9223372036854775808<=re)(u0:re<=9223372036854775807)(l1: -9223372036854775808<=im)(u1:im<=9223372036854775807)(l2: -9223372036854775808<=den)(u2:den<=9223372036854775807)(hd:den≠0):
  CV 133 #[.pointer (some ⟨g,0,none⟩),.int .i64 re,.int .i64 im,.int .i64 den] w fun v w'=>GV w' v ⟨(re:Rat)/(den:Rat),(im:Rat)/(den:Rat)⟩ 64:=by
 obtain⟨l,j⟩:=an1 w 42 #[.bool false,.slice none 0 0,.bool false,.slice none 0 0,.bool false,.slice none 0 0];have O:=hc.ext l;have HO:=aJ (fun w=>TA re im den w l0 u0 l1 u1 l2 u2 hd);clear l0 u0 l1 u1 l2 u2 hd;go_enter Tryz.func133,Tryz.ntmps133;(go_wp2_with fail);refine(HO.o _).mono ?_;rintro e w2 ⟨v,rfl,⟨u,rfl,C⟩,J⟩;replace l:=l.trans J;replace j:=j.ext J;replace O:=O.ext J;have WT:=J.size;clear J;obtain⟨M,Q,N,S,G,H,D,I,K,R,F,L,rfl⟩:=C.opn;obtain⟨B,P⟩:=an1 w2 42 #[.bool M,.slice Q N S,.bool G,.slice H D I,.bool K,.slice R F L];have U:=aJ (C.ext B);clear C;replace l:=l.trans B;replace j:=j.ext B;replace O:=O.ext B;have k7:=P.cell;(go_wp2_with fail);refine(qB g _ _ _ _ O U.o).mono ?_;rintro e w3 ⟨v,rfl,hv,J⟩;replace l:=l.trans J;replace j:=j.ext J;clear J;obtain⟨Wz,WJ,WI,WF,W,V,WH,WG,WE,WA,WC,WB,rfl⟩:=hv.opn;have k6:=j.cell;have f6:=j.frozen;obtain⟨p1,p2,T⟩:=eX l aa j hv;have Y:=aJ p1;have Z:=aJ p2;have P3:=aJ T;clear p1 p2 T l j hv;(go_wp2_with fail);exact dh rfl rfl rfl Z.o ⟨_,rfl,P3.o,Y.o⟩
def dz(g m w)(hc:bT w g)(l0: -9223372036854775808<=m)(u0:m<=9223372036854775807):
  CV 88 #[.pointer (some ⟨g,0,none⟩),.int .i64 m] w fun v w'=>GV w' v (GQ.i m 0) 64:=by
 obtain⟨l,j⟩:=an1 w 42 #[.bool false,.slice none 0 0,.bool false,.slice none 0 0,.bool false,.slice none 0 0];have O:=hc.ext l;have L:(⟨(m:Rat)/((1:Int):Rat),((0:Int):Rat)/((1:Int):Rat)⟩:GQ)=GQ.i m 0:=by ext<;>simp only[GQ.dE,GQ.dB]<;>grind
 have C:=aJ (fun w hc=>OT g m 0 1 w hc l0 u0 aa aa aa aa aa);rw[L] at C;clear l0 u0;go_enter Tryz.func88,Tryz.ntmps88;(go_wp2_with fail);refine(C.o _ O).mono ?_;rintro e W ⟨v,rfl,hv,J⟩;replace l:=l.trans J;replace j:=j.ext J;clear J;obtain⟨I,V,U,R,G,F,T,S,Q,K,P,M,rfl⟩:=hv.opn;have Z:=j.cell;have Y:=j.frozen;obtain⟨p1,p2,B⟩:=eX l aa j hv;have D:=aJ p1;have H:=aJ p2;have N:=aJ B;clear p1 p2 B l j hv;(go_wp2_with fail);exact dh rfl rfl rfl H.o ⟨_,rfl,N.o,D.o⟩
def ofC (n:Nat) (C:Nat->Value):Array Value:=((List.range n).map C).toArray
def FR(n C):(ofC n C).size=n:=by simp[ofC]
def zS{n k C}(h:k<n):(ofC n C)[k]? =some (C k):=by
 simp[ofC,List.getElem?_map,List.getElem?_range h]
def EW{n k C}(h:n<=k):(ofC n C)[k]? =none:=by
 rw[Array.getElem?_eq_none];rw[FR];exact h
theorem Mt{n C D}(h:∀k,k<n->C k=D k):ofC n C=ofC n D:=by
 unfold ofC;rw[List.map_congr_left (fun k j=>h k (List.mem_range.1 j))]
def Q4{a b:Array Value}(h:∀k:Nat,a[k]? =b[k]?):a=b:=Array.ext_getElem? h
def Lh{n k C}(v)(h:k<n):(ofC n C).setIfInBounds k v=ofC n (upd C k v):=by
 refine Q4 fun i=> ?_;rw[Array.getElem?_setIfInBounds];by_cases hi:i<n
 .rw[zS hi];by_cases e:k=i
  .subst e;rw[if_pos rfl,if_pos (by rw[FR];exact h),zS h,upd_same]
  .rw[if_neg e,zS hi,upd_ne (fun h=>e h.symm)]
 .rw[EW aa,if_neg aa,EW aa]
def DZ (C:Nat->Value) (k:Nat):List Value->Nat->Value
 |[]=>C
 |v::vs=>DZ (upd C k v) (k+1) vs
def DJ:∀(B:List Value) {C:Nat->Value} {k i:Nat},(i<k\/k+B.length<=i)->DZ C k B i=C i
 |[],_,_,_,_=>rfl
 |v::B,C,k,i,h=>by
  show DZ (upd C k v) (k+1) B i=C i;rw[List.length_cons] at h;rw[DJ B aa,upd_ne aa]
def K8:∀(B:List Value) {C:Nat->Value} {k j:Nat} {v:Value},B[j]? =some v->DZ C k B (k+j)=v
 |[],_,_,_,_,h=>by simp at h
 |u::B,C,k,0,v,h=>by
  show DZ (upd C k u) (k+1) B (k+0)=v;simp only[List.getElem?_cons_zero,Option.some.injEq] at h;rw[DJ B aa,Nat.add_zero,upd_same,h]
 |u::B,C,k,j+1,v,h=>by
  show DZ (upd C k u) (k+1) B (k+(j+1))=v;rw[List.getElem?_cons_succ] at h;rw[show k+(j+1)=k+1+j by omega];exact K8 B h
def Cs:∀(B:List Value) {n k:Nat} {C:Nat->Value},k+B.length<=n->fD (ofC n C) k B=ofC n (DZ C k B)
 |[],_,_,_,_=>rfl
 |v::B,n,k,C,h=>by
  rw[List.length_cons] at h;show fD ((ofC n C).setIfInBounds k v) (k+1) B=_;rw[Lh v aa];exact Cs B aa
def eZ (w:World) (g:Nat) (t:TypeId) (n:Nat) (C:Nat->Value):Prop:=Blk w g t (ofC n C)
section
variable {w w':World} {g n:Nat} {t:TypeId} {C D:Nat->Value}
def eZ.blk(h:eZ w g t n C):Blk w g t (ofC n C):=h
def eZ.lt(h:eZ w g t n C):g<w.heap.size:=Blk.lt h
def eZ.ext(h:eZ w g t n C)(x:Ext w w'):eZ w' g t n C:=Blk.ext h x
def eZ.mod{S}(h:eZ w g t n C)(m:Mod S w w')(j:¬S g):eZ w' g t n C:=Blk.mod h m j
theorem eZ.congr(h:eZ w g t n C)(e:∀k,k<n->C k=D k):eZ w g t n D:=by unfold eZ;rw[<-Mt e];exact h
def eZ.cell(h:eZ w g t n C){k}(j:k<n):w.cell? ⟨g,k,none⟩=some (C k):=(Blk.cell h k).trans (zS j)
def eZ.cell_(h:eZ w g t n C){k v}(j:k<n)(hv:C k=v):w.cell? ⟨g,k,none⟩=some v:=(h.cell j).trans (by rw[hv])
def eZ.frozen(h:eZ w g t n C)(k):w.frozen? ⟨g,k,none⟩=false:=Blk.frozen h k
def eZ.set(h:eZ w g t n C){k}(v)(j:k<n):eZ (w.setCell ⟨g,k,none⟩ v) g t n (upd C k v):=by
 have:=Blk.mX h k v;rw[Lh v j] at this;exact this
def eZ.puts(h:eZ w g t n C){k:Nat}(B:List Value)(j:k+B.length<=n):eZ (puts w g k B) g t n (DZ C k B):=by
 have:=bY k B h;rw[Cs B j] at this;exact this
def Mod.set{S}(w g k v)(j:S g):Mod S w (w.setCell ⟨g,k,none⟩ v):=Mod.only (Only.set w g k v) j
def Mod.puts{S:Nat->Prop}(w:World)(g k:Nat)(B:List Value)(j:S g):Mod S w (puts w g k B):=Mod.only (fK w g k B) j
end
def eZ.rangeAt{w g n o t C}(h:eZ w g t n C){B}(hn:o+B.length<=n)(hv:∀j v,B[j]? =some v->C (o+j)=v):w.rangeAt g o B:=fun j v l=>by
 have:=(List.getElem?_eq_some_iff.1 l).1;exact h.cell_ aa (hv j v l)
def eZ.there{w g n o m t C}(h:eZ w g t n C)(hn:o+m<=n):w.there g o m:=fun j l=>
 ⟨by rw[h.cell (k:=o+j) aa];rfl,h.frozen _⟩
def mE(g):∀(B:List Value) (o:Nat) (w:World),w.setCells g o B=puts w g o B
 |[],_,_=>rfl
 |v::B,o,w=>by
  show(w.setCell ⟨g,o,none⟩ v).setCells g (o+1) B=_;rw[mE g B (o+1)];rfl
def fw{S w0 w w'}(h:Ext w0 w)(m:Mod S w w')(hs:∀k,S k->w0.heap.size<=k):Ext w0 w':=
 ⟨m.os.trans h.os,m.tape.trans h.tape,m.output.trans h.output,Nat.le_trans h.size m.size,fun k j=>(m.block k (Nat.lt_of_lt_of_le j h.size) (fun e=>by have:=hs k e;omega)).trans (h.block k j)⟩
def mM (v:Value):Bool:=match v with| .int .u32 _=>false|_=>true
def gG (S:Nat->Prop) (w:World):Prop:=∀g,S g->g<w.heap.size->∃(t:TypeId) (cs:Array Value),Blk w g t cs/\∀(j:Nat) (v:Value),cs[j]? =some v->mM v=true
def gG.of{S w g n t C}(h:eZ w g t n C)(D:∀k,k<n->mM (C k)=true)(hS:∀k,S k->k=g):gG S w:=by
 intro k B _;obtain rfl:=hS k B;refine⟨t,_,h.blk,fun j v l=> ?_⟩;by_cases hn:j<n
 .rw[zS hn] at l;injection l with l;rw[<-l];exact D j hn
 .rw[EW aa] at l;cases l
section
variable {S:Nat->Prop} {w w':World}
def RM.fQ{A n c l}(h:RM w A n c l)(m:Mod S w w')(hS:gG S w):RM w' A n c l:=by
 refine⟨⟨h.rd.1,fun hn=> ?_⟩,h.dg,h.nc,h.cm⟩;obtain⟨b,o,rfl,B,hc⟩:=h.rd.plain hn;obtain⟨I,x,e,_,J,_,_⟩:=h.at_ hn;have D:¬S b:=by
  intro hs;obtain⟨t,cs,hb,C⟩:=hS b hs B;have:=hc 0 _ (oz J);rw[hb.cell] at this;have:=C _ _ this;cases this
 exact Aa3
def RI.fQ{v z}(h:RI w v z)(m:Mod S w w')(hS:gG S w):RI w' v z:=by
 obtain⟨A,n,c,e,h⟩:=h;exact⟨A,n,c,e,h.fQ m hS⟩
def GV.fQ{v q n}(h:GV w v q n)(m:Mod S w w')(hS:gG S w):GV w' v q n:=by
 obtain⟨a,b,d,⟨s1,A1,n1,c1,s2,A2,n2,c2,s3,A3,n3,c3,e,B,l,j⟩,I,Z⟩:=h;exact⟨a,b,d,⟨s1,A1,n1,c1,s2,A2,n2,c2,s3,A3,n3,c3,e,B.fQ m hS,l.fQ m hS,j.fQ m hS⟩,I,Z⟩
end
def F8(a f):∀b,aN a f++aN b (fun _=>zEn)=aN (a+b) (fun i=>if i<a then f i else zEn)
 |0=>by
  show aN a f++[]=_;rw[List.append_nil];exact AL fun i hi=>by rw[if_pos hi]
 |b+1=>by
  rw[iL,<-List.append_assoc,F8 a f b,show a+(b+1)=(a+b)+1 by omega,iL,if_neg aa]
def Only.IV(w g cs):Mod (fun k=>k=g) w (w.setRow g cs):=Mod.only (Only.setRow w g cs) rfl
def JO{w g t old cs}(h:Blk w g t old):Blk (w.setRow g cs) g t cs:=setRow_heap w g old cs t (0,0) h
theorem Jl{P w ops rest o a Q}(L:o.guard=none)(s x:Operand)(t)(l:o.op=.call {callee:=.builtin .append,args:= #[s,x],argTypes:= #[t,t]}){B j H w'}(hs:a.eval s=B)(J:a.eval x=j)(C:(Builtin.append_ #[t,t] o.type #[B,j]).run P w=.ok H w')(h:wpList P ops Q rest (a.put o.dst H) w'):wpList P ops Q (o::rest) a w:=by
 refine wpList_plain L fun _ I=> ?_;unfold Oper.wp execOp;simp only[l,Go.resolve,invoke,builtin,Sem.run_bind,Sem.run_pure,Result.andThen_ok,List.map_toArray,List.map_cons,List.map_nil,hs,J,C];exact I _ _ h
def GQ.JV(x y):x/y=GQ.i 1 0/y*x:=by
 ext<;>simp only[GQ.zH,GQ.uC,GQ.aZ,GQ.aX,GQ.dE,GQ.dB]<;>grind
def GQ.O8(a b c:GQ):a*(b/c)=a/c*b:=by
 rw[GQ.JV b,GQ.JV a,<-GQ.bW,GQ.dW a,GQ.bW]
def GQ.Dv{x}(h:x≠GQ.i 0 0):x/x=GQ.i 1 0:=by
 have:=GQ.Kz (x:=GQ.i 1 0) h;rw[GQ.jH] at this;exact this
def GQ.Mh: -(GQ.i 0 0)=GQ.i 0 0:=by(ext<;>simp only[GQ.bQ,GQ.bN,GQ.dI,GQ.dJ,GQ.aZ,GQ.aX,GQ.ky,GQ.ku,GQ.dE,GQ.dB]<;>grind)
def GQ.Ob(x:GQ): - -x=x:=by(ext<;>simp only[GQ.bQ,GQ.bN,GQ.dI,GQ.dJ,GQ.aZ,GQ.aX,GQ.ky,GQ.ku,GQ.dE,GQ.dB]<;>grind)
def GQ.lT{x y}(h:x-y=GQ.i 0 0):x=y:=by
 have a:=congrArg GQ.re h;have b:=congrArg GQ.im h;simp only[GQ.dI,GQ.dJ,GQ.dE,GQ.dB] at a b;ext<;>grind
def Spn (v:Nat->GQ) (P:List (Nat->GQ)):Prop:=∀cs,det (v::P) cs=GQ.i 0 0
def Spn.more{v b P}(h:Spn v P):Spn v (b::P):=by
 intro cs;rw[vg];have:det (v::P)=fun _=>GQ.i 0 0:=funext h;show-bU b (det (v::P)) cs=_;rw[this,mq,GQ.Mh]
def Spn.KZ{y a P}(h:Says y a P):Spn y (a::P):=fun cs=>by
 rw[h.more cs,qD a (a::P) cs (List.mem_cons_self)]
def Spn.Vi{x y P}(J:Spn x P)(R:Spn y P)(f):Spn (fun c=>x c-f*y c) P:=fun cs=>by
 have j:det ((fun c=>x c-f*y c)::P) cs=det (x::P) cs-f*det (y::P) cs:=vz x y f cs (det P);rw[j,J cs,R cs,GQ.bI,GQ.eu]
def Spn.Qf{x P}(J:Spn x P)(f):Spn (fun c=>x c/f) P:=fun cs=>by
 have e:(fun c=>x c/f)=fun c=>GQ.i 1 0/f*x c:=funext fun c=>GQ.JV _ _;rw[e];have j:det ((fun c=>GQ.i 1 0/f*x c)::P) cs=GQ.i 1 0/f*det (x::P) cs:=qW _ _ _;rw[j,J cs,GQ.bI]
def CU{v}:∀(cs:List Nat) (k:Nat) (D:List Nat->GQ),k<cs.length->(∀t d,cs[t]? =some d->v d=if t=k then GQ.i 1 0 else GQ.i 0 0)->bU v D cs=D (cs.eraseIdx k)\/bU v D cs= -D (cs.eraseIdx k)
 |[],k,D,hk,_=>by simp at hk
 |c::cs,0,D,_,h=>by
  left
  show v c*D cs-bU v (fun l=>D (c::l)) cs=D cs;rw[h 0 c rfl,if_pos rfl,GQ.jH,lW cs _ (fun d hd=>by
   obtain⟨t,j⟩:=List.getElem?_of_mem hd;rw[h (t+1) d j,if_neg aa]),GQ.eu]
 |c::cs,k+1,D,hk,h=>by
  have hv:v c=GQ.i 0 0:=by rw[h 0 c rfl,if_neg aa]
  have B:=CU (v:=v) cs k (fun l=>D (c::l)) (by simpa using hk) (fun t d j=>by
   rw[h (t+1) d j];by_cases e:t=k
   .rw[if_pos aa,if_pos e]
   .rw[if_neg aa,if_neg e])
  have e:bU v D (c::cs)= -bU v (fun l=>D (c::l)) cs:=by
   show v c*D cs-bU v (fun l=>D (c::l)) cs=_;rw[hv,GQ.eH,GQ.Mq]
  rw[e];rcases B with B|B
  .right;rw[B];rfl
  .left;rw[B,GQ.Ob];rfl
def Spn.entry{v P q k}(h:Spn v P)(B:k<q.length)(hq:∀t d,q[t]? =some d->v d=if t=k then GQ.i 1 0 else GQ.i 0 0)(j):
  v j*det P q=det P (j::q.eraseIdx k)\/v j*det P q= -det P (j::q.eraseIdx k):=by
 have e:v j*det P q=bU v (fun l=>det P (j::l)) q:=GQ.lT (h (j::q));rw[e];exact CU q k _ B hq
def Wh.neg{x B}(h:Wh x B):Wh (-x) B:=by
 obtain⟨a,b,rfl,j⟩:=h;exact⟨-a,-b,by(ext<;>simp only[GQ.bQ,GQ.bN,GQ.dI,GQ.dJ,GQ.aZ,GQ.aX,GQ.ky,GQ.ku,GQ.dE,GQ.dB]<;>grind),aa⟩
def red (Y:Nat->Nat->GQ) (r c:Nat):Nat->Nat->GQ:=fun i j=>if i=r then Y r j/Y r c else Y i j-Y i c*(Y r j/Y r c)
structure Rc where
 r:Nat
 X:Nat->Nat->GQ
 d:GQ
def Ag (m c:Nat) (s:Rc):Rc:=
 match fp s.X c (m-s.r) s.r with
 |none=>s
 |some k=>⟨s.r+1,red (fun i=>s.X (swp k s.r i)) s.r c,(if k=s.r then s.d else s.d*GQ.i (-1) 0)*s.X k c⟩
def mF (m:Nat) (X:Nat->Nat->GQ):Nat->Rc
 |0=>⟨0,X,GQ.i 1 0⟩
 |c+1=>Ag m c (mF m X c)
theorem JA{m c}{s:Rc}(h:fp s.X c (m-s.r) s.r=none):Ag m c s=s:=by unfold Ag;rw[h]
theorem IL{m c k}{s:Rc}(h:fp s.X c (m-s.r) s.r=some k):Ag m c s=⟨s.r+1,red (fun i=>s.X (swp k s.r i)) s.r c,(if k=s.r then s.d else s.d*GQ.i (-1) 0)*s.X k c⟩:=by unfold Ag;rw[h]
def yP(m Z):∀c,(ech m Z c).r<=c
 |0=>Nat.le_refl _
 |c+1=>by
  have B:=yP m Z c;show(jL m c (ech m Z c)).r<=c+1;cases j:fp (ech m Z c).X c (m-(ech m Z c).r) (ech m Z c).r with
  |none=>rw[eF j];omega
  |some k=>rw[dG j];show(ech m Z c).r+1<=c+1;omega
def xS{X Y}:∀{k:Nat},(∀i,i<k->X i i=Y i i)->qo X k=qo Y k
 |0,_=>rfl
 |k+1,h=>by
  show qo X k*X k k=qo Y k*Y k k;rw[xS (fun i hi=>h i aa),h k aa]
structure RInv (m:Nat) (X0:Nat->Nat->GQ) (c:Nat) (s:Ec) (t:Rc) (o:Nat->Nat) (P:List (Nat->GQ)):Prop where
 inv:Inv m X0 c s o P
 re:t.r=s.r
 lo:∀i,s.r<=i->i<m->t.X i=s.X i
 sp:∀i,i<s.r->Spn (t.X i) P
 un:∀i,i<s.r->∀k d,s.q[k]? =some d->t.X i d=if k+i+1=s.r then GQ.i 1 0 else GQ.i 0 0
 dd:t.d=if s.odd then-det P s.q else det P s.q
 pp:s.r=c->qo s.X c=det P s.q
def RInv.start(m l):RInv m l 0 (ech m l 0) (mF m l 0) (fun i=>i) []:=
 ⟨Inv.start m l,rfl,fun _ _ _=>rfl,fun i hi=>absurd hi (Nat.not_lt_zero i),fun i hi=>absurd hi (Nat.not_lt_zero i),rfl,fun _=>rfl⟩
theorem RInv.step{m c l}{s:Ec}{t:Rc}{o P}(h:RInv m l c s t o P)(G:s.r<=c):(fp s.X c (m-s.r) s.r=none/\RInv m l (c+1) (jL m c s) (Ag m c t) o P)\/∃k,fp s.X c (m-s.r) s.r=some k/\RInv m l (c+1) (jL m c s) (Ag m c t) (fun i=>o (swp k s.r i)) (l (o k)::P):=by
 have WR:=h.inv.rm;cases T:fp s.X c (m-s.r) s.r with
 |none=>
  have K:fp t.X c (m-t.r) t.r=none:=by
   rw[h.re];refine yQ fun i R Q=> ?_;rw[h.lo i R aa];exact oM T i R Q
  have W:Inv m l (c+1) s o P:=⟨h.inv.rm,h.inv.pl,h.inv.ql,h.inv.ne,fun d hd=>Nat.lt_succ_of_lt (h.inv.qc d hd),h.inv.pm,h.inv.om,h.inv.sy,fun i j R Q h3=>by
   by_cases e:j=c
   .subst e;exact oM T i R aa
   .exact h.inv.z i j R Q aa⟩
  rw[eF T,JA K];exact .inl ⟨rfl,W,h.re,h.lo,h.sp,h.un,h.dd,fun e=>aa⟩
 |some k=>
  obtain⟨S,k2,V,k4⟩:=iD T;have O:k<m:=aa;have H:∀i,s.r<=i->i<m->t.X i=s.X i:=h.lo;have K:fp t.X c (m-t.r) t.r=some k:=by
   rw[h.re];refine yV S aa (fun i R Q=> ?_) ?_
   .rw[H i R aa];exact k4 i R Q
   .rw[H k S O];exact V
  have L:=(h.inv.sy k S aa).entry (fun d hd=>h.inv.z k d S aa (h.inv.qc d hd)) c;have I:Spn (s.X k) (l (o k)::P):=Spn.KZ (h.inv.sy k S aa);have N:∀d∈s.q,s.X k d=GQ.i 0 0:=fun d hd=>h.inv.z k d S O (h.inv.qc d hd);have B:swp k s.r s.r=k:=nJ _ _;have F:∀i,i<s.r->swp k s.r i=i:=fun i hi=>uH aa aa;have D:∀i,s.r<i->i<m->s.r<=swp k s.r i/\swp k s.r i<m:=fun i R Q=>⟨by unfold swp;split<;>(try split)<;>omega,kU O aa Q⟩;have W:Inv m l (c+1) (jL m c s) (fun i=>o (swp k s.r i)) (l (o k)::P):=by
   rw[dG T];refine⟨by show s.r+1<=m;omega,by simp[h.inv.pl],by simp[h.inv.ql],?_,?_,?_,?_,?_,?_⟩
   .show det (l (o k)::P) (c::s.q)≠_;rw[L];exact GQ.iK V h.inv.ne
   .intro d hd;rcases List.mem_cons.1 hd with rfl|hd
    .omega
    .exact Nat.lt_succ_of_lt (h.inv.qc d hd)
   .intro p hp;rcases List.mem_cons.1 hp with rfl|hp
    .exact⟨o k,h.inv.om k aa,rfl⟩
    .exact h.inv.pm p hp
   .intro i hi;exact h.inv.om _ (kU aa aa hi)
   .intro i R Q;have C:s.r<i:=R;have e:(clr (fun i=>s.X (swp k s.r i)) s.r c) i=fun j=>s.X (swp k s.r i) j-(s.X (swp k s.r i) c/s.X k c)*s.X k j:=by
     funext j;unfold clr;rw[if_pos C];simp only[B]
    show Says ((clr (fun i=>s.X (swp k s.r i)) s.r c) i) _ _;rw[e];exact Says.step (h.inv.sy _ (D i C Q).1 (D i C Q).2) (h.inv.sy k S aa) _
   .intro i j R Q h3;have C:s.r<i:=R;show(clr (fun i=>s.X (swp k s.r i)) s.r c) i j=_;unfold clr;rw[if_pos C];simp only[B];by_cases e:j=c
    .subst e;rw[GQ.gu V,GQ.qx]
    .rw[h.inv.z _ j (D i C Q).1 (D i C Q).2 aa,h.inv.z k j S aa aa,GQ.bI,GQ.eu]
  rw[IL K];refine .inr ⟨k,rfl,W,?_,?_,?_,?_,?_,?_⟩
  .rw[dG T];show t.r+1=s.r+1;rw[h.re]
  .rw[dG T];intro i R Q;have C:s.r<i:=R;funext j;show red (fun i=>t.X (swp k t.r i)) t.r c i j=clr (fun i=>s.X (swp k s.r i)) s.r c i j;rw[h.re];unfold red clr;rw[if_neg aa,if_pos C];simp only[B];rw[H _ (D i C Q).1 (D i C Q).2,H k S O,GQ.O8]
  .rw[dG T];intro i hi;have Y:i<s.r+1:=hi;show Spn (red (fun i=>t.X (swp k t.r i)) t.r c i) _;rw[h.re];by_cases e:i=s.r
   .subst e;have U:red (fun i=>t.X (swp k s.r i)) s.r c s.r=fun j=>s.X k j/s.X k c:=by
     funext j;unfold red;rw[if_pos rfl];simp only[B];rw[H k S O]
    rw[U];exact I.Qf _
   .have U:red (fun i=>t.X (swp k s.r i)) s.r c i=fun j=>t.X i j-t.X i c*(s.X k j/s.X k c):=by
     funext j;unfold red;rw[if_neg e];simp only[B];rw[H k S O,F i aa]
    rw[U];exact(h.sp i aa).more.Vi (I.Qf _) _
  .rw[dG T];intro i hi n d hd;have Y:i<s.r+1:=hi;show red (fun i=>t.X (swp k t.r i)) t.r c i d=if n+i+1=s.r+1 then _ else _;rw[h.re];by_cases e:i=s.r
   .subst e;have U:red (fun i=>t.X (swp k s.r i)) s.r c s.r d=s.X k d/s.X k c:=by
     unfold red;rw[if_pos rfl];simp only[B];rw[H k S O]
    rw[U]
    match n,hd with
    |0,hd=>
     obtain rfl:c=d:=by simpa using hd
     rw[if_pos aa,GQ.Dv V]
    |n+1,hd=>
     have hd':s.q[n]? =some d:=by simpa using hd
     rw[if_neg aa,N d (List.mem_of_getElem? hd'),GQ.qm]
   .have U:red (fun i=>t.X (swp k s.r i)) s.r c i d=t.X i d-t.X i c*(s.X k d/s.X k c):=by
     unfold red;rw[if_neg e];simp only[B];rw[H k S O,F i aa]
    rw[U]
    match n,hd with
    |0,hd=>
     obtain rfl:c=d:=by simpa using hd
     rw[if_neg aa,GQ.Dv V,GQ.nY,GQ.qx]
    |n+1,hd=>
     have hd':s.q[n]? =some d:=by simpa using hd
     rw[N d (List.mem_of_getElem? hd'),GQ.qm,GQ.bI,GQ.eu,h.un i aa n d hd'];by_cases e3:n+i+1=s.r
     .rw[if_pos e3,if_pos aa]
     .rw[if_neg e3,if_neg aa]
  .rw[dG T];show(if k=t.r then t.d else t.d*GQ.i (-1) 0)*t.X k c=if (s.odd^^decide (k≠s.r)) then-det (l (o k)::P) (c::s.q) else det (l (o k)::P) (c::s.q);rw[L,H k S O,h.re,h.dd];generalize s.X k c=x;generalize det P s.q=y;by_cases e:k=s.r
   .have J:(s.odd^^decide (k≠s.r))=s.odd:=by simp[e]
    rw[if_pos e,J];cases s.odd
    .show y*x=x*y;exact GQ.dW _ _
    .show-y*x= -(x*y)
     (ext<;>simp only[GQ.bQ,GQ.bN,GQ.dI,GQ.dJ,GQ.aZ,GQ.aX,GQ.ky,GQ.ku,GQ.dE,GQ.dB]<;>grind)
   .have J:(s.odd^^decide (k≠s.r))= !s.odd:=by simp[e]
    rw[if_neg e,J];cases s.odd
    .show y*GQ.i (-1) 0*x= -(x*y)
     (ext<;>simp only[GQ.bQ,GQ.bN,GQ.dI,GQ.dJ,GQ.aZ,GQ.aX,GQ.ky,GQ.ku,GQ.dE,GQ.dB]<;>grind)
    .show-y*GQ.i (-1) 0*x=x*y
     (ext<;>simp only[GQ.bQ,GQ.bN,GQ.dI,GQ.dJ,GQ.aZ,GQ.aX,GQ.ky,GQ.ku,GQ.dE,GQ.dB]<;>grind)
  .rw[dG T];intro e;have Z:s.r=c:=by have:s.r+1=c+1:=e;omega
   show qo (clr (fun i=>s.X (swp k s.r i)) s.r c) c*clr (fun i=>s.X (swp k s.r i)) s.r c c c=det (l (o k)::P) (c::s.q);rw[L,<-h.pp Z];have M:clr (fun i=>s.X (swp k s.r i)) s.r c c c=s.X k c:=by
    unfold clr;rw[if_neg aa];simp only[];rw[<-Z,B]
   have a2:qo (clr (fun i=>s.X (swp k s.r i)) s.r c) c=qo s.X c:=xS fun i hi=>by
    unfold clr;rw[if_neg aa];simp only[];rw[F i aa]
   rw[M,a2,GQ.dW]
def Out.mem{W G m n RX X}(h:Out W G m n RX X)(K:m<=1000)(hn:n<=1000):∃(R:Nat->Rw) (E:Nat->Nat->En),Mem W (some ⟨G,0,none⟩) G 0 m R E/\(∀i,i<m->(R i).n=n)/\∀i j,i<m->j<n->GV W (E i j).v (X i j) 12800:=by
 have hc:∀i,∃f:Nat->En,i<m->Blk W (RX i).b 42 (aN n f).toArray/\∀j,j<n->GV W (f j).v (X i j) 12800:=fun i=>by
  by_cases hi:i<m
  .obtain⟨f,J,F⟩:=(h.row i hi).2.2.2;exact⟨f,fun _=>⟨J,F⟩⟩
  .exact⟨fun _=>zEn,fun h=>absurd h hi⟩
 obtain⟨E,D⟩:=Classical.axiomOfChoice hc;refine⟨fun i=>⟨(RX i).A,(RX i).b,0,(RX i).n,(RX i).c⟩,E,⟨fun _=>rfl,fun i hi=> ?_,fun i hi _=>(h.row i hi).1,fun i j hi l t u C=> ?_,aa,fun i hi=> ?_⟩,fun i hi=>(h.row i hi).2.1,fun i j hi l=>(D i hi).2 j l⟩
 .rw[h.x.cell,Nat.zero_add,iI hi];rfl
 .have B:j<n:=by have:=(h.row i hi).2.1;have H:j<(RX i).n:=l;omega
  have I:t<6:=(List.getElem?_eq_some_iff.1 C).1;show W.cell? ⟨(RX i).b,0+(j*6+t),none⟩=some u;rw[Nat.zero_add,(D i hi).1.cell,List.getElem?_toArray,dM I B];exact C
 .have:=(h.row i hi).2.1;show(RX i).n<=_;omega
def EL{a b n}(ha:a.natAbs<2^n)(hb:b.natAbs<2^n)(hn:1<=n):Bd (GQ.i a b) n:=by
 refine⟨a,b,1,Jk a b,ha,hb,?_⟩;have:2^1<=2^n:=Nat.pow_le_pow_right aa hn;show(1:Int).natAbs<2^n;simp;omega
def mx2 (a b c d:GQ):Nat->Nat->GQ:=fun i j=>if i=0 then (if j=0 then a else b) else (if j=0 then c else d)
def kA:Nat->Nat->GQ:=mx2 (GQ.i 0 0) (GQ.i 1 0) (GQ.i 1 0) (GQ.i 0 0)
def kB:Nat->Nat->GQ:=mx2 (GQ.i 5 0) (GQ.i 5 0) (GQ.i 7 0) (GQ.i 7 0)
def kp(k)(j:k<=2):Bd (qo (ech 2 kA 2).X k) 64:=by
 match k,j with
 |0,_=>rw[show qo (ech 2 kA 2).X 0=GQ.i 1 0 by decide+kernel];exact EL aj aj aj
 |1,_=>rw[show qo (ech 2 kA 2).X 1=GQ.i 1 0 by decide+kernel];exact EL aj aj aj
 |2,_=>rw[show qo (ech 2 kA 2).X 2=GQ.i 1 0 by decide+kernel];exact EL aj aj aj
def kd(i)(hi:i<2):Bd ((ech 2 kA 2).X i i) 64:=by
 match i,hi with
 |0,_=>rw[show(ech 2 kA 2).X 0 0=GQ.i 1 0 by decide+kernel];exact EL aj aj aj
 |1,_=>rw[show(ech 2 kA 2).X 1 1=GQ.i 1 0 by decide+kernel];exact EL aj aj aj
def oN (X Y:Nat->Nat->GQ) (i j:Nat):Nat->GQ
 |0=>GQ.i 0 0
 |s+1=>oN X Y i j s+X i s*Y s j
def D2 (X:Nat->Nat->GQ):GQ:=X 0 0*X 1 1-X 0 1*X 1 0
def D3 (X:Nat->Nat->GQ):GQ:=X 0 0*(X 1 1*X 2 2-X 1 2*X 2 1)-X 0 1*(X 1 0*X 2 2-X 1 2*X 2 0)+X 0 2*(X 1 0*X 2 1-X 1 1*X 2 0)
def d3 (a b c d e f g h i:GQ):GQ:=a*(e*i-f*h)-b*(d*i-f*g)+c*(d*h-e*g)
theorem L6(m X):∀c,(ech m X c).r=c->∀i j,i<m->j<i->j<c->(ech m X c).X i j=GQ.i 0 0
 |0,_,i,j,_,_,h=>aa
 |c+1,h,i,j,hi,hji,hjc=>by
  have G:=D6 m X c;by_cases l:c+1<=i
  .obtain⟨o,P,B⟩:=nN m X (c+1);exact B.z i j aa hi hjc
  have e:ech m X (c+1)=jL m c (ech m X c):=rfl;rw[e] at h⊢;cases C:fp (ech m X c).X c (m-(ech m X c).r) (ech m X c).r with
  |none=>rw[eF C] at h;omega
  |some k=>
   rw[dG C] at h⊢;have D:(ech m X c).r=c:=by have I:(ech m X c).r+1=c+1:=h;omega
   obtain⟨H,K,J,L⟩:=iD C;show clr (fun i=>(ech m X c).X (swp k (ech m X c).r i)) (ech m X c).r c i j=_;rw[D] at H⊢;unfold clr;rw[if_neg aa];show(ech m X c).X (swp k c i) j=_;by_cases F:i=c
   .subst F;rw[nJ];obtain⟨o,P,B⟩:=nN m X i;exact B.z k j aa aa aa
   .rw[uH aa F];exact L6 m X c D i j hi hji aa
def F3:Nat->Nat:=fun k=>if k=0 then 402 else if k=1 then 1607 else 3617
theorem FV(m X c):∀d,c<=d->∀i,i<(ech m X c).r->(ech m X d).X i=(ech m X c).X i/\(ech m X c).r<=(ech m X d).r
 |0,hd,i,hi=>by rw[show c=0 by omega] at hi⊢;exact⟨rfl,Nat.le_refl _⟩
 |d+1,hd,i,hi=>by
  by_cases e:c=d+1
  .rw[e];exact⟨rfl,Nat.le_refl _⟩
  .obtain⟨B,C⟩:=FV m X c d aa i hi;have D:ech m X (d+1)=jL m d (ech m X d):=rfl;rw[D,<-B];cases l:fp (ech m X d).X d (m-(ech m X d).r) (ech m X d).r with
   |none=>rw[eF l];exact⟨rfl,C⟩
   |some k=>
    obtain⟨H,I,G,F⟩:=iD l;rw[dG l];refine⟨?_,by show(ech m X c).r<=(ech m X d).r+1;omega⟩;funext j;show clr (fun i=>(ech m X d).X (swp k (ech m X d).r i)) (ech m X d).r d i j=_;unfold clr;rw[if_neg aa];show(ech m X d).X (swp k (ech m X d).r i) j=_;rw[uH aa aa]
def OE(m X c):∀e,(ech m X (c+e)).r<=(ech m X c).r+e
 |0=>Nat.le_refl _
 |e+1=>by
  have B:=OE m X c e;show(jL m (c+e) (ech m X (c+e))).r<=_;cases j:fp (ech m X (c+e)).X (c+e) (m-(ech m X (c+e)).r) (ech m X (c+e)).r with
  |none=>rw[eF j];omega
  |some k=>rw[dG j];show(ech m X (c+e)).r+1<=_;omega
def yu{m X}(h:¬(ech m X m).r<m){k}(l:k<=m):(ech m X k).r=k:=by
 have B:=yP m X k;have j:=OE m X k (m-k);rw[show k+(m-k)=m by omega] at j;omega
def Pq{A B c n k}(h:∀i,k<=i->i<k+n->A i c=B i c):fp A c n k=fp B c n k:=by
 cases F:fp B c n k with
 |none=>exact yQ fun i j l=>by rw[h i j l];exact oM F i j l
 |some p=>
  obtain⟨D,C,H,G⟩:=iD F;exact yV D C (fun i j l=>by rw[h i j aa];exact G i j l) (by rw[h p D C];exact H)
theorem Dx{m n A B}(h:∀i j,i<m->j<n->A i j=B i j):∀c,c<=n->(ech m A c).r=(ech m B c).r/\(ech m A c).odd=(ech m B c).odd/\∀i j,i<m->j<n->(ech m A c).X i j=(ech m B c).X i j
 |0,_=>⟨rfl,rfl,h⟩
 |c+1,hc=>by
  obtain⟨F,H,l⟩:=Dx h c aa;have I:ech m A (c+1)=jL m c (ech m A c):=rfl;have J:ech m B (c+1)=jL m c (ech m B c):=rfl;obtain⟨o,P,K⟩:=nN m B c;have L:=K.rm;have D:fp (ech m A c).X c (m-(ech m A c).r) (ech m A c).r=fp (ech m B c).X c (m-(ech m B c).r) (ech m B c).r:=by
   rw[F];exact Pq fun i _ hi=>l i c aa aa
  rw[I,J];cases C:fp (ech m B c).X c (m-(ech m B c).r) (ech m B c).r with
  |none=>rw[eF (D.trans C),eF C];exact⟨F,H,l⟩
  |some k=>
   obtain⟨Q,O,N,M⟩:=iD C;rw[dG (D.trans C),dG C];refine⟨by show _+1=_+1;rw[F],by show(_^^_)=(_^^_);rw[F,H],fun i j hi G=> ?_⟩;show clr (fun i=>(ech m A c).X (swp k (ech m A c).r i)) (ech m A c).r c i j=clr (fun i=>(ech m B c).X (swp k (ech m B c).r i)) (ech m B c).r c i j;rw[F];have hs:∀i,i<m->swp k (ech m B c).r i<m:=fun i hi=>kU aa aa hi;unfold clr;by_cases e:(ech m B c).r<i
   .rw[if_pos e,if_pos e];simp only[];rw[l _ j (hs i hi) G,l _ c (hs i hi) aa,l _ c (hs _ aa) aa,l _ j (hs _ aa) G]
   .rw[if_neg e,if_neg e];exact l _ j (hs i hi) G
def JS{m X Y}:∀c,c<=m->(ech m (side m X Y) c).r=(ech m X c).r/\(ech m (side m X Y) c).odd=(ech m X c).odd/\∀i j,i<m->j<m->(ech m (side m X Y) c).X i j=(ech m X c).X i j:=
 Dx fun i j _ l=>Iu l
structure Ku (m:Nat) (X0:Nat->Nat->GQ) (c:Nat) (s:Ec) (t:Rc) (o:Nat->Nat) (P:List (Nat->GQ)):Prop where
 r:RInv m X0 c s t o P
 cov:∀p,p<m->X0 p∈P\/∃i,s.r<=i/\i<m/\o i=p
 sp:∀i,i<s.r->Spn (s.X i) P
 qd:s.r=c->∀k,k<c->s.q[k]? =some (c-1-k)
theorem kI(m l):∀c,∃o P,Ku m l c (ech m l c) (mF m l c) o P
 |0=>⟨_,_,RInv.start m l,fun p hp=> .inr ⟨p,Nat.zero_le _,hp,rfl⟩,fun i hi=>absurd hi (Nat.not_lt_zero i),fun _ k L=>absurd L (Nat.not_lt_zero k)⟩
 |c+1=>by
  obtain⟨o,P,h⟩:=kI m l c;have G:=yP m l c;have D:ech m l (c+1)=jL m c (ech m l c):=rfl;rcases h.r.step G with ⟨B,H⟩|⟨k,B,H⟩
  .refine⟨o,P,H,?_,?_,?_⟩
   .rw[D,eF B];exact h.cov
   .rw[D,eF B];exact h.sp
   .rw[D,eF B];intro e;omega
  .obtain⟨N,T,R,Q⟩:=iD B;have O:=h.r.inv.rm;refine⟨_,_,H,?_,?_,?_⟩
   .rw[D,dG B];intro p hp;rcases h.cov p hp with hc|⟨i,S,J,I⟩
    .exact .inl (List.mem_cons_of_mem _ hc)
    .by_cases e:i=k
     .subst e;subst I;exact .inl List.mem_cons_self
     .right
      refine⟨swp k (ech m l c).r i,?_,kU aa aa J,by simp only[DU];exact I⟩;show(ech m l c).r+1<=_;by_cases C:i=(ech m l c).r
      .rw[C,nJ];omega
      .rw[uH e C];omega
   .rw[D,dG B];intro i hi;have M:i<(ech m l c).r+1:=hi;by_cases e:i=(ech m l c).r
    .have C:clr (fun i=>(ech m l c).X (swp k (ech m l c).r i)) (ech m l c).r c i=(ech m l c).X k:=by
      funext j;unfold clr;rw[if_neg aa];simp only[];rw[e,nJ]
     show Spn (clr (fun i=>(ech m l c).X (swp k (ech m l c).r i)) (ech m l c).r c i) _;rw[C];exact Spn.KZ (h.r.inv.sy k N aa)
    .have C:clr (fun i=>(ech m l c).X (swp k (ech m l c).r i)) (ech m l c).r c i=(ech m l c).X i:=by
      funext j;unfold clr;rw[if_neg aa];simp only[];rw[uH aa e]
     show Spn (clr (fun i=>(ech m l c).X (swp k (ech m l c).r i)) (ech m l c).r c i) _;rw[C];exact(h.sp i aa).more
   .rw[D,dG B];intro e F K;have C:(ech m l c).r=c:=by have:(ech m l c).r+1=c+1:=e;omega
    show(c::(ech m l c).q)[F]? =_
    match F with
    |0=>rw[show c+1-1-0=c by omega];rfl
    |F+1=>
     have:=h.qd C F aa;rw[show c+1-1-(F+1)=c-1-F by omega];exact this
def Spn.zero{v P q}(h:Spn v P)(D:det P q≠GQ.i 0 0)(C:∀c∈q,v c=GQ.i 0 0)(j):v j=GQ.i 0 0:=by
 have e:v j*det P q=bU v (fun l=>det P (j::l)) q:=GQ.lT (h (j::q));rw[lW q _ C] at e;rcases Classical.em (v j=GQ.i 0 0) with B|B
 .exact B
 .exact absurd e (GQ.iK B D)
def rest (v:Nat->GQ) (T:Nat->Nat->GQ):Nat->Nat->GQ
 |0=>v
 |s+1=>fun c=>rest v T s c-v s*T s c
def Ho{v T P}(hv:Spn v P):∀s,(∀l,l<s->Spn (T l) P)->Spn (rest v T s) P
 |0,_=>hv
 |s+1,h=>(Ho hv s (fun l Z=>h l aa)).Vi (h s aa) (v s)
def KD{v T m c}(j:∀l,l<m->T l c=if l=c then GQ.i 1 0 else GQ.i 0 0):∀s,s<=m->rest v T s c=if c<s then GQ.i 0 0 else v c
 |0,_=>by rw[if_neg aa];rfl
 |s+1,hs=>by
  show rest v T s c-v s*T s c=_;rw[KD j s aa,j s aa];by_cases e:s=c
  .subst e;rw[if_neg aa,if_pos rfl,if_pos aa,GQ.nY,GQ.qx]
  .rw[if_neg e,GQ.bI,GQ.eu];by_cases h:c<s
   .rw[if_pos h,if_pos aa]
   .rw[if_neg h,if_neg aa]
def Gj{v T c}:∀s,rest v T s c=v c-oN (fun _ l=>v l) (fun l _=>T l c) 0 0 s
 |0=>by show v c=v c-GQ.i 0 0;rw[GQ.eu]
 |s+1=>by
  show rest v T s c-v s*T s c=v c-(oN (fun _ l=>v l) (fun l _=>T l c) 0 0 s+v s*T s c);rw[Gj s];generalize oN (fun _ l=>v l) (fun l _=>T l c) 0 0 s=y;ext<;>simp only[GQ.dI,GQ.dJ,GQ.bQ,GQ.bN]<;>grind
def uF{X Y X' Y' i j C H}:∀s,(∀l,l<s->X i l=X' C l/\Y l j=Y' l H)->oN X Y i j s=oN X' Y' C H s
 |0,_=>rfl
 |s+1,h=>by
  show oN X Y i j s+X i s*Y s j=oN X' Y' C H s+X' C s*Y' s H;rw[uF s (fun l Z=>h l aa),(h s aa).1,(h s aa).2]
section
variable {m nb:Nat} {Z0:Nat->Nat->GQ}
def Gg{v o P}(h:Ku m Z0 m (ech m Z0 m) (mF m Z0 m) o P)(D:(ech m Z0 m).r=m)(hv:Spn v P)(j):v j=oN (fun _ l=>v l) (mF m Z0 m).X 0 j m:=by
 have F:∀c,c<m->∀l,l<m->(mF m Z0 m).X l c=if l=c then GQ.i 1 0 else GQ.i 0 0:=fun c hc l Z=>by
  have hq:=h.qd D (m-1-c) aa;rw[show m-1-(m-1-c)=c by omega] at hq;rw[h.r.un l aa _ _ hq,D];by_cases e:l=c
  .rw[if_pos e,if_pos aa]
  .rw[if_neg e,if_neg aa]
 have C:=Spn.zero (Ho (T:=(mF m Z0 m).X) hv m fun l Z=>h.r.sp l aa) h.r.inv.ne (fun c hc=>by
  have B:=h.r.inv.qc c hc;rw[KD (F c B) m (Nat.le_refl _),if_pos B]) j
 rw[Gj] at C;have:=GQ.lT C;rw[this];exact uF m fun l _=>⟨rfl,rfl⟩
def yS{o P}(h:Ku m Z0 m (ech m Z0 m) (mF m Z0 m) o P)(G:(ech m Z0 m).r=m)(j):∀k,k<=m->∀i,m-k<=i->i<m->iW (ech m Z0 m).X m k i j=(mF m Z0 m).X i (m+j)
 |0,_,i,h1,h2=>aa
 |k+1,hk,i,h1,h2=>by
  have B:=yS h G j k aa;by_cases e:i=m-1-k
  .have hs:∀s,s<=k->bps (ech m Z0 m).X (iW (ech m Z0 m).X m k) m i j s=(ech m Z0 m).X i (m+j)-oN (fun _ l=>(ech m Z0 m).X i (i+1+l)) (fun l _=>(mF m Z0 m).X (i+1+l) (m+j)) 0 0 s:=by
    intro s
    induction s with
    |zero=>intro _;show(ech m Z0 m).X i (m+j)=_-GQ.i 0 0;rw[GQ.eu]
    |succ s ihs=>
     intro hs;show bps _ _ m i j s-(ech m Z0 m).X i (i+1+s)*iW (ech m Z0 m).X m k (i+1+s) j=(ech m Z0 m).X i (m+j)-(oN _ _ 0 0 s+(ech m Z0 m).X i (i+1+s)*(mF m Z0 m).X (i+1+s) (m+j));rw[ihs aa,B (i+1+s) aa aa];generalize oN _ _ 0 0 s=y;ext<;>simp only[GQ.dI,GQ.dJ,GQ.bQ,GQ.bN]<;>grind
   have D:=Gg h G (h.sp i aa) (m+j);have C:∀t,i+1+t<=m->oN (fun _ l=>(ech m Z0 m).X i l) (mF m Z0 m).X 0 (m+j) (i+1+t)=(ech m Z0 m).X i i*(mF m Z0 m).X i (m+j)+oN (fun _ l=>(ech m Z0 m).X i (i+1+l)) (fun l _=>(mF m Z0 m).X (i+1+l) (m+j)) 0 0 t:=by
    have J:∀t,t<=i->oN (fun _ l=>(ech m Z0 m).X i l) (mF m Z0 m).X 0 (m+j) t=GQ.i 0 0:=by
     intro t
     induction t with
     |zero=>intro _;rfl
     |succ t iht=>
      intro K;show oN _ _ 0 (m+j) t+(ech m Z0 m).X i t*_=_;rw[iht aa,L6 m Z0 m G i t h2 aa aa,GQ.eH,GQ.add_zero']
    intro t
    induction t with
    |zero=>
     intro _;show oN _ _ 0 (m+j) i+(ech m Z0 m).X i i*_=_+GQ.i 0 0;rw[J i (Nat.le_refl _),GQ.Dy]
    |succ t iht=>
     intro K;show oN _ _ 0 (m+j) (i+1+t)+(ech m Z0 m).X i (i+1+t)*(mF m Z0 m).X (i+1+t) (m+j)=_+(oN _ _ 0 0 t+(ech m Z0 m).X i (i+1+t)*(mF m Z0 m).X (i+1+t) (m+j));rw[iht aa,GQ.Jy]
   have H:=C k aa;rw[show i+1+k=m by omega,<-D] at H;have F:=hs k (Nat.le_refl _);rw[H] at F;have hd:=zW m Z0 m G i aa;have L:iW (ech m Z0 m).X m (k+1) i j=bps (ech m Z0 m).X (iW (ech m Z0 m).X m k) m i j k/(ech m Z0 m).X i i:=by
    show(upd (iW (ech m Z0 m).X m k) (m-1-k) (fun j=>bps (ech m Z0 m).X (iW (ech m Z0 m).X m k) m (m-1-k) j k/(ech m Z0 m).X (m-1-k) (m-1-k))) i j=_;rw[<-e,upd_same]
   rw[L,F];generalize oN (fun _ l=>(ech m Z0 m).X i (i+1+l)) (fun l _=>(mF m Z0 m).X (i+1+l) (m+j)) 0 0 k=y;generalize (mF m Z0 m).X i (m+j)=x;have I:(ech m Z0 m).X i i*x+y-y=x*(ech m Z0 m).X i i:=by
    ext<;>simp only[GQ.dI,GQ.dJ,GQ.bQ,GQ.bN,GQ.aZ,GQ.aX]<;>grind
   rw[I,GQ.Kz hd]
  .rw[Dc (ech m Z0 m).X aa aa];exact B i aa h2
def Spn.TW{v P}(h:v∈P):Spn v P:=fun cs=>qD v P cs h
end
def xK (j:GQ) (e x:Nat->GQ):Nat->GQ
 |0=>j
 |s+1=>xK j e x s-e s*x s
def L9{j M F e x C B D}(w2:Wh M C)(l:Wh (j*F) B):∀s,(∀t,t<s->Wh (j*e t) B)->(∀t,t<s->Wh (M*x t) D)->Wh (j*M*xK F e x s) (B*C+s*(B*D))
 |0,_,_=>by
  have h:=l.mul w2;have e:j*M*xK F e x 0=j*F*M:=by
   show j*M*F=_;ext<;>simp only[GQ.aZ,GQ.aX]<;>grind
  rw[e];simpa using h
 |s+1,we,wx=>by
  have G:=L9 w2 l s (fun t H=>we t aa) (fun t H=>wx t aa);have I:=(we s aa).mul (wx s aa);have e:j*M*xK F e x (s+1)=j*M*xK F e x s-j*e s*(M*x s):=by
   show j*M*(xK F e x s-e s*x s)=_;ext<;>simp only[GQ.aZ,GQ.aX,GQ.dI,GQ.dJ]<;>grind
  rw[e];refine(G.sub I).mono ?_;rw[Nat.add_mul,Nat.one_mul];omega
def QN{j M H e x F C B D n s}(G:j≠GQ.i 0 0)(I:M≠GQ.i 0 0)(w1:Wh j F)(w2:Wh M C)(l:Wh (j*H) B)(J:∀t,t<s->Wh (j*e t) B)(K:∀t,t<s->Wh (M*x t) D)(n1:(B*C+s*(B*D))*(F*C)<2^n)(n2:F*C*(F*C)<2^n):Bd (xK H e x s) n:=
 vw (L9 w2 l s J K) (w1.mul w2) (GQ.iK G I) (GQ.dW _ _) n1 n2
def H6(Z S m i j):∀s,bps Z S m i j s=xK (Z i (m+j)) (fun t=>Z i (i+1+t)) (fun t=>S (i+1+t) j) s
 |0=>rfl
 |s+1=>by
  show bps Z S m i j s-_=xK _ _ _ s-_;rw[H6 Z S m i j s]
def AR{j e x x'}:∀s,(∀t,t<s->x t=x' t)->xK j e x s=xK j e x' s
 |0,_=>rfl
 |s+1,h=>by
  show xK j e x s-e s*x s=xK j e x' s-e s*x' s;rw[AR s (fun t l=>h t aa),h s aa]
section
variable {m nb:Nat} {X Y:Nat->Nat->GQ}
def sol (m:Nat) (X Y:Nat->Nat->GQ):Nat->Nat->GQ:=iW (ech m (side m X Y) m).X m m
def EN(l:(ech m (side m X Y) m).r=m){i}(hi:i<m)(j):sol m X Y i j=(mF m (side m X Y) m).X i (m+j):=by
 obtain⟨o,P,h⟩:=kI m (side m X Y) m;exact yS h l j m (Nat.le_refl m) i aa hi
def xm(D:(ech m (side m X Y) m).r=m){i}(hi:i<m)(j):oN X (sol m X Y) i j m=Y i j:=by
 obtain⟨o,P,h⟩:=kI m (side m X Y) m;have B:side m X Y i∈P:=by
  rcases h.cov i hi with C|⟨t,C,F,_⟩
  .exact C
  .omega
 have:=Gg h D (Spn.TW B) (m+j);rw[OG] at this;rw[this];exact uF m fun l Z=>⟨(Iu Z).symm,EN D Z j⟩
end
def gP (f:Nat->GQ):Nat->GQ
 |0=>GQ.i 0 0
 |n+1=>gP f n+f n
def iQ{f g}:∀n,(∀i,i<n->f i=g i)->gP f n=gP g n
 |0,_=>rfl
 |n+1,h=>by
  show gP f n+f n=gP g n+g n;rw[iQ n (fun i hi=>h i aa),h n aa]
def lX:∀n,gP (fun _=>GQ.i 0 0) n=GQ.i 0 0
 |0=>rfl
 |n+1=>by
  show gP _ n+GQ.i 0 0=_;rw[lX n,GQ.add_zero']
def kS(f g):∀n,gP (fun i=>f i+g i) n=gP f n+gP g n
 |0=>(GQ.add_zero' _).symm
 |n+1=>by
  show gP _ n+(f n+g n)=gP f n+f n+(gP g n+g n);rw[kS f g n];generalize gP f n=a;generalize gP g n=b;ext<;>simp only[GQ.bQ,GQ.bN]<;>grind
def Gy(a f):∀n,gP (fun i=>a*f i) n=a*gP f n
 |0=>(GQ.bI _).symm
 |n+1=>by
  show gP _ n+a*f n=a*(gP f n+f n);rw[Gy a f n,GQ.oG]
def qi{f c}:∀n,c<n->(∀i,i<n->i≠c->f i=GQ.i 0 0)->gP f n=f c
 |0,h,_=>aa
 |n+1,h,hz=>by
  show gP f n+f n=f c;by_cases e:c=n
  .subst e;rw[iQ (g:=fun _=>GQ.i 0 0) c (fun i hi=>hz i aa aa),lX,GQ.Dy,GQ.add_zero']
  .rw[qi n aa (fun i hi=>hz i aa),hz n aa (fun h=>e h.symm),GQ.add_zero']
def unit (c:Nat):Nat->GQ:=fun i=>if i=c then GQ.i 1 0 else GQ.i 0 0
def AP{v u}:∀(cs:List Nat) (D:List Nat->GQ),(∀c∈cs,v c=u c)->bU v D cs=bU u D cs
 |[],_,_=>rfl
 |c::cs,D,h=>by
  show v c*D cs-bU v (fun l=>D (c::l)) cs=u c*D cs-bU u (fun l=>D (c::l)) cs;rw[h c List.mem_cons_self,AP cs _ (fun d hd=>h d (List.mem_cons_of_mem _ hd))]
def CB(v u cs)(D:List Nat->GQ):bU (fun c=>v c+u c) D cs=bU v D cs+bU u D cs:=by
 have e:(fun c=>v c+u c)=fun c=>v c-GQ.i (-1) 0*u c:=funext fun c=>by
  ext<;>simp only[GQ.bQ,GQ.bN,GQ.dI,GQ.dJ,GQ.aZ,GQ.aX,GQ.dE,GQ.dB]<;>grind
 rw[e,vz];generalize bU v D cs=a;generalize bU u D cs=b;ext<;>simp only[GQ.bQ,GQ.bN,GQ.dI,GQ.dJ,GQ.aZ,GQ.aX,GQ.dE,GQ.dB]<;>grind
def CG(F:Nat->Nat->GQ)(cs:List Nat)(D:List Nat->GQ):∀n,bU (fun c=>gP (fun i=>F i c) n) D cs=gP (fun i=>bU (F i) D cs) n
 |0=>lW cs D (fun c _=>rfl)
 |n+1=>by
  show bU (fun c=>gP (fun i=>F i c) n+F n c) D cs=gP _ n+_;rw[CB (fun c=>gP (fun i=>F i c) n) (F n) cs D,CG F cs D n]
def IQ{v n}(cs)(D:List Nat->GQ)(h:∀c∈cs,c<n):bU v D cs=gP (fun c=>v c*bU (unit c) D cs) n:=by
 have e:bU v D cs=bU (fun c=>gP (fun i=>v i*unit i c) n) D cs:=AP cs D fun c hc=>by
  rw[qi (c:=c) n (h c hc) (fun i _ hi=>by
   show v i*(if c=i then _ else _)=_;rw[if_neg (fun e=>hi e.symm),GQ.bI])]
  show v c=v c*(if c=c then _ else _);rw[if_pos rfl,GQ.nY]
 rw[e,CG (fun i c=>v i*unit i c) cs D n];exact iQ n fun i _=>qW _ _ _
def all_in:∀(n:Nat) (q:List Nat),(∀j,j<n->j∈q)->n<=q.length
 |0,_,_=>Nat.zero_le _
 |n+1,q,h=>by
  have l:=all_in n (q.erase n) (fun j B=>(List.mem_erase_of_ne aa).2 (h j aa));rw[List.length_erase_of_mem (h n aa)] at l;have:0<q.length:=List.length_pos_of_mem (h n aa);omega
def UR{n}:∀(q:List Nat),q.length<n->∃j,j<n/\j∉q:=by
 intro q hq;rcases Classical.em (∃j,j<n/\j∉q) with h|h
 .exact h
 .exfalso;have hs:∀j,j<n->j∈q:=fun j B=>by
   rcases Classical.em (j∈q) with l|l
   .exact l
   .exact absurd ⟨j,B,l⟩ h
  have:=all_in n q hs;omega
def Me{n X}(h:(ech n X n).r<n):∃v:Nat->GQ,(∃c,c<n/\v c≠GQ.i 0 0)/\∀i,i<n->gP (fun c=>X i c*v c) n=GQ.i 0 0:=by
 obtain⟨o,P,C⟩:=kI n X n;obtain⟨j,G,B⟩:=UR (n:=n) (ech n X n).q (by rw[C.r.inv.ql];exact h);have D:∀c∈j::(ech n X n).q,c<n:=fun c hc=>by
  rcases List.mem_cons.1 hc with rfl|hc
  .exact G
  .exact C.r.inv.qc c hc
 refine⟨fun c=>bU (unit c) (det P) (j::(ech n X n).q),⟨j,G,?_⟩,fun i hi=> ?_⟩
 .show unit j j*det P (ech n X n).q-bU (unit j) (fun l=>det P (j::l)) (ech n X n).q≠_;rw[lW (ech n X n).q _ (fun c hc=>by show(if c=j then _ else _)=_;rw[if_neg (fun e=>B (by rw[<-e];exact hc))]),GQ.eu];show(if j=j then _ else _)*_≠_;rw[if_pos rfl,GQ.jH];exact C.r.inv.ne
 .show gP (fun c=>X i c*bU (unit c) (det P) (j::(ech n X n).q)) n=_;rw[<-IQ (j::(ech n X n).q) (det P) D];show det (X i::P) (j::(ech n X n).q)=_;rcases C.cov i hi with F|⟨t,F,H,I⟩
  .exact qD _ _ _ F
  .rw[<-I,<-C.r.inv.sy t F H];exact lW _ _ (fun c hc=>C.r.inv.z t c F H (D c hc))
namespace GQ
def OO (x:GQ):GQ:=⟨x.re,-x.im⟩
def KN(x):(OO x).re=x.re:=rfl
def DD(x):(OO x).im= -x.im:=rfl
end GQ
def qf (n:Nat) (X:Nat->Nat->GQ) (v:Nat->GQ):GQ:=gP (fun i=>GQ.OO (v i)*gP (fun c=>X i c*v c) n) n
theorem Em{n X v}(h:∀i,i<n->gP (fun c=>X i c*v c) n=GQ.i 0 0):qf n X v=GQ.i 0 0:=by
 unfold qf;rw[iQ (g:=fun _=>GQ.i 0 0) n (fun i hi=>by rw[h i hi,GQ.bI]),lX]
theorem zY(n X Y v):qf n (fun i j=>X i j+Y i j) v=qf n X v+qf n Y v:=by
 unfold qf;rw[<-kS];refine iQ n fun i _=> ?_;rw[<-GQ.oG,<-kS];congr 1;refine iQ n fun c _=> ?_;ext<;>simp only[GQ.bQ,GQ.bN,GQ.aZ,GQ.aX]<;>grind
def jo (i j:Nat) (y:GQ):Nat->Nat->GQ:=fun p q=>if p=i/\q=j then y else GQ.i 0 0
theorem BS{n i j}(hi:i<n)(l:j<n)(y v):qf n (jo i j y) v=GQ.OO (v i)*(y*v j):=by
 unfold qf;rw[qi (c:=i) n hi (fun p _ hp=>by
  rw[iQ (g:=fun _=>GQ.i 0 0) n (fun c _=>by show(if p=i/\c=j then y else GQ.i 0 0)*_=_;rw[if_neg (fun h=>hp h.1),GQ.eH]),lX,GQ.bI])]
 rw[qi (c:=j) n l (fun c _ hc=>by show(if i=i/\c=j then y else GQ.i 0 0)*_=_;rw[if_neg (fun h=>hc h.2),GQ.eH])];show _*((if i=i/\j=j then y else GQ.i 0 0)*v j)=_;rw[if_pos ⟨rfl,rfl⟩]

def F4 (x:GQ):Rat:=x.re*x.re+x.im*x.im
def xh(x:Rat):0<=x*x:=by
 rcases Rat.le_total (a:=0) (b:=x) with h|h
 .exact Rat.mul_nonneg h h
 .have:=Rat.mul_nonneg (a:= -x) (b:= -x) ak ak;grind
theorem xW(x):0<=F4 x:=by
 unfold F4;have j:=xh x.re;have l:=xh x.im;grind
theorem wR{x}(h:F4 x=0):x=GQ.i 0 0:=by
 unfold F4 at h;have C:=xh x.re;have B:=xh x.im;have l:x.re*x.re=0:=ak;have j:x.im*x.im=0:=ak;ext<;>simp only[GQ.dE,GQ.dB]
 .rcases Rat.mul_eq_zero.1 l with h|h<;>simpa using h
 .rcases Rat.mul_eq_zero.1 j with h|h<;>simpa using h
structure Br where
 p:Nat
 q:Nat
 nt:Bool
 y:GQ
def stm (X:Nat->Nat->GQ) (b:Br):Nat->Nat->GQ:=
 if b.nt then fun p q=>X p q+jo b.p b.p b.y p q
 else fun p q=>X p q+jo b.p b.p b.y p q+jo b.q b.q b.y p q+jo b.p b.q (-b.y) p q+jo b.q b.p (-b.y) p q
def eU (X:Nat->Nat->GQ) (bs:List Br):Nat->Nat->GQ:=bs.foldl stm X
def Br.w (b:Br) (v:Nat->GQ):Rat:=if b.nt then F4 (v b.p) else F4 (v b.p-v b.q)
theorem TV{n X}{b:Br}(v)(hp:b.p<n)(hq:b.nt=false->b.q<n):(qf n (stm X b) v).im=(qf n X v).im+b.y.im*b.w v:=by
 unfold stm Br.w;cases hb:b.nt
 .simp only[Bool.false_eq_true,if_false];rw[zY n (fun p q=>X p q+jo b.p b.p b.y p q+jo b.q b.q b.y p q+jo b.p b.q (-b.y) p q) (jo b.q b.p (-b.y)),zY n (fun p q=>X p q+jo b.p b.p b.y p q+jo b.q b.q b.y p q) (jo b.p b.q (-b.y)),zY n (fun p q=>X p q+jo b.p b.p b.y p q) (jo b.q b.q b.y),zY n X (jo b.p b.p b.y),BS hp hp,BS (hq hb) (hq hb),BS hp (hq hb),BS (hq hb) hp];unfold F4;simp only[GQ.bN,GQ.aX,GQ.aZ,GQ.KN,GQ.DD,GQ.ky,GQ.ku,GQ.dI,GQ.dJ];grind
 .simp only[if_true];rw[zY n X (jo b.p b.p b.y),BS hp hp];unfold F4;simp only[GQ.bN,GQ.aX,GQ.aZ,GQ.KN,GQ.DD];grind
theorem Br.N8(b:Br)(v):0<=b.w v:=by
 unfold Br.w;split
 .exact xW _
 .exact xW _
def yG{n}(v):∀(bs:List Br) (X:Nat->Nat->GQ),(∀b∈bs,b.p<n/\(b.nt=false->b.q<n)/\b.y.im<0)->(qf n (eU X bs) v).im<=(qf n X v).im/\((qf n (eU X bs) v).im=(qf n X v).im->∀b∈bs,b.w v=0)
 |[],X,_=>⟨Rat.le_refl,fun _ b hb=>by simp at hb⟩
 |b::bs,X,h=>by
  obtain⟨D,l,G⟩:=h b List.mem_cons_self;obtain⟨i1,Q⟩:=yG v bs (stm X b) (fun c hc=>h c (List.mem_cons_of_mem _ hc));have e:=TV (X:=X) v D l;have Y:=b.N8 v;have j:b.y.im*b.w v<=0:=by
   have:=Rat.mul_nonneg (a:= -b.y.im) (b:=b.w v) ak Y;grind
  show(qf n (eU (stm X b) bs) v).im<=_/\_;refine⟨ak,fun C c hc=> ?_⟩;have H:(qf n (eU (stm X b) bs) v).im=(qf n X v).im:=C;have B:b.y.im*b.w v=0:=ak;have F:(qf n (eU (stm X b) bs) v).im=(qf n (stm X b) v).im:=ak;rcases List.mem_cons.1 hc with rfl|hc
  .rcases Rat.mul_eq_zero.1 B with h|h
   .grind
   .exact h
  .exact Q F c hc
inductive Joined (bs:List Br):Nat->Prop
 |neutral (b:Br) (h:b∈bs) (hn:b.nt=true):Joined bs b.p
 |fro (b:Br) (h:b∈bs) (hn:b.nt=false) (hq:Joined bs b.q):Joined bs b.p
 |fwd (b:Br) (h:b∈bs) (hn:b.nt=false) (hp:Joined bs b.p):Joined bs b.q
theorem sQ{bs:List Br}{v}(Y:∀b∈bs,b.w v=0){p}(h:Joined bs p):v p=GQ.i 0 0:=by
 induction h with
 |neutral b h hn=>
  have:=Y b h;unfold Br.w at this;rw[hn] at this;exact wR this
 |fro b h hn hq ih=>
  have:=Y b h;unfold Br.w at this;rw[hn] at this;have:=GQ.lT (wR this);rw[this];exact ih
 |fwd b h hn hp ih=>
  have:=Y b h;unfold Br.w at this;rw[hn] at this;have:=GQ.lT (wR this);rw[<-this];exact ih
def zmx:Nat->Nat->GQ:=fun _ _=>GQ.i 0 0
def Kc(n v):qf n zmx v=GQ.i 0 0:=Em fun i _=>by
 rw[iQ (f:=fun c=>zmx i c*v c) (g:=fun _=>GQ.i 0 0) n (fun c _=>GQ.eH _),lX]
def E9{n}{bs:List Br}(h:∀b∈bs,b.p<n/\(b.nt=false->b.q<n)/\b.y.im<0)(B:∀p,p<n->Joined bs p):(ech n (eU zmx bs) n).r=n:=by
 have G:=yP n (eU zmx bs) n;rcases Nat.lt_or_ge (ech n (eU zmx bs) n).r n with j|l
 .exfalso;obtain⟨v,⟨c,hc,hv⟩,D⟩:=Me j;have F:=Em (n:=n) (X:=eU zmx bs) (v:=v) D;obtain⟨_,C⟩:=yG (n:=n) v bs zmx h;have Y:=C (by rw[F,Kc]);exact hv (sQ Y (B c hc))
 .omega
def pw (w:Nat->Nat):List Nat->Nat
 |[]=>1
 |c::cs=>w c*pw w cs
def H8{x w}:∀(M:Nat) (cs:List Nat) (D:List Nat->GQ),(∀c∈cs,Wh (x c) (w c))->(∀l,l.Sublist cs->l.length+1=cs.length->Wh (D l) (M*pw w l))->Wh (bU x D cs) (cs.length*(M*pw w cs))
 |M,[],D,_,_=>by
  show Wh (GQ.i 0 0) _;exact gL _
 |M,c::cs,D,hx,hD=>by
  show Wh (x c*D cs-bU x (fun l=>D (c::l)) cs) _;have F:=(hx c List.mem_cons_self).mul (hD cs (List.sublist_cons_self c cs) rfl);have B:=H8 (M*w c) cs (fun l=>D (c::l)) (fun d hd=>hx d (List.mem_cons_of_mem _ hd)) (fun l Z T=>by
   have:=hD (c::l) (Z.cons_cons c) (by simp only[List.length_cons];omega);rw[Nat.mul_assoc];exact this)
  refine(F.sub B).mono ?_;show w c*(M*pw w cs)+cs.length*(M*w c*pw w cs)<=(cs.length+1)*(M*(w c*pw w cs));have C:w c*(M*pw w cs)=M*(w c*pw w cs):=by ac_rfl
  have j:M*w c*pw w cs=M*(w c*pw w cs):=by ac_rfl
  rw[C,j,Nat.add_mul,Nat.one_mul];omega
def Kq{w}:∀(R:List (Nat->GQ)) (cs:List Nat),R.length=cs.length->(∀r∈R,∀c∈cs,Wh (r c) (w c))->Wh (det R cs) (fct cs.length*pw w cs)
 |[],cs,h,_=>by
  obtain rfl:cs=[]:=List.eq_nil_of_length_eq_zero h.symm;exact uJ
 |v::R,cs,h,hr=>by
  have Z:R.length+1=cs.length:=by simpa using h
  show Wh (bU v (det R) cs) _;have:=H8 (x:=v) (w:=w) (fct (cs.length-1)) cs (det R) (hr v List.mem_cons_self) (fun l B T=>by
   have e:l.length=cs.length-1:=aa;rw[<-e];exact Kq R l aa (fun r N c hc=>hr r (List.mem_cons_of_mem _ N) c (B.subset hc)))
  refine this.mono ?_;have e:fct cs.length=cs.length*fct (cs.length-1):=by
   rw[<-Z];rfl
  rw[e,Nat.mul_assoc];exact Nat.le_refl _
def Wh.add{x y B C}(J:Wh x B)(R:Wh y C):Wh (x+y) (B+C):=by
 have h:=J.sub R.neg;have e:x- -y=x+y:=by
  ext<;>simp only[GQ.bQ,GQ.bN,GQ.dI,GQ.dJ,GQ.ky,GQ.ku]<;>grind
 rwa[e] at h
def tX(X Y i j):∀s,oN X Y i j s=gP (fun l=>X i l*Y l j) s
 |0=>rfl
 |s+1=>by
  show oN X Y i j s+_=gP _ s+_;rw[tX X Y i j s]
structure Psv (n:Nat) (bs:List Br):Prop where
 ok:∀b∈bs,b.p<n/\(b.nt=false->b.q<n)/\b.y.im<0
 jn:∀p,p<n->Joined bs p
section
variable {n:Nat} {bs:List Br}
def Psv.full(h:Psv n bs):(ech n (eU zmx bs) n).r=n:=E9 h.ok h.jn
def Psv.zero(h:Psv n bs){d:Nat->GQ}(j:∀i,i<n->gP (fun c=>eU zmx bs i c*d c) n=GQ.i 0 0){c:Nat}(hc:c<n):d c=GQ.i 0 0:=by
 have l:=Em (n:=n) (X:=eU zmx bs) (v:=d) j;obtain⟨_,B⟩:=yG (n:=n) d bs zmx h.ok;have Y:=B (by rw[l,Kc]);exact sQ Y (h.jn c hc)
def Psv.unique(h:Psv n bs){x y:Nat->GQ}(e:∀i,i<n->gP (fun c=>eU zmx bs i c*x c) n=gP (fun c=>eU zmx bs i c*y c) n){c:Nat}(hc:c<n):x c=y c:=by
 refine GQ.lT (h.zero (d:=fun c=>x c-y c) (fun i hi=> ?_) hc);have j:(fun c=>eU zmx bs i c*(x c-y c))=fun c=>eU zmx bs i c*x c+GQ.i (-1) 0*(eU zmx bs i c*y c):=funext fun c=>by
  ext<;>simp only[GQ.bQ,GQ.bN,GQ.dI,GQ.dJ,GQ.aZ,GQ.aX,GQ.dE,GQ.dB]<;>grind
 rw[j,kS,Gy,e i hi];generalize gP (fun c=>eU zmx bs i c*y c) n=z;ext<;>simp only[GQ.bQ,GQ.bN,GQ.aZ,GQ.aX,GQ.dE,GQ.dB]<;>grind
theorem RH{X x f}(l:f<n)(J:∀i,i<n->gP (fun c=>X i c*x c) n=unit f i):qf n X x=GQ.OO (x f):=by
 unfold qf;rw[qi (c:=f) n l (fun i hi j=>by
  rw[J i hi];show _*(if i=f then _ else _)=_;rw[if_neg j,GQ.bI]),J f l]
 show _*(if f=f then _ else _)=_;rw[if_pos rfl,GQ.nY]
def Psv.drive(h:Psv n bs){x:Nat->GQ}{f:Nat}(C:f<n)(J:∀i,i<n->gP (fun c=>eU zmx bs i c*x c) n=unit f i):0<(x f).im:=by
 have hq:=RH C J;obtain⟨B,j⟩:=yG (n:=n) x bs zmx h.ok;rw[Kc,hq] at B j;simp only[GQ.DD,GQ.dB] at B j;have F: -(x f).im<=0:=by simpa using B
 rcases(by grind:0<(x f).im\/-(x f).im=0) with l|l
 .exact l
 .exfalso;have Y:=j Aby;have D:∀c,c<n->x c=GQ.i 0 0:=fun c hc=>sQ Y (h.jn c hc);have:=J f C;rw[iQ (g:=fun _=>GQ.i 0 0) n (fun c hc=>by rw[D c hc,GQ.bI]),lX] at this;have e:unit f f=GQ.i 1 0:=if_pos rfl;rw[e] at this;have:=congrArg GQ.re this;simp only[GQ.dE] at this;exact absurd this aj
end
def KV{z}(h:0<z.im):z≠GQ.i 0 0:=by
 intro e;rw[e] at h;simp only[GQ.dB] at h;exact absurd h aj
theorem QY{z}(h:z≠GQ.i 0 0):0<z.nrm:=by
 have j:=GQ.Ay h;have l:0<=z.nrm:=by
  unfold GQ.nrm;have:=xh z.re;have:=xh z.im;grind
 grind
def col (v:Nat->GQ):Nat->Nat->GQ:=fun i _=>v i
def EZ (v u:Nat->GQ):Nat->Nat->GQ:=fun i j=>if j=0 then v i else u i
section
variable {n:Nat} {bs:List Br}
def zV{m X Y}(h:(ech m X m).r=m):(ech m (side m X Y) m).r=m:=by rw[(JS m (Nat.le_refl m)).1];exact h
def Psv.Ea(h:Psv n bs){v i}(hi:i<n):gP (fun c=>eU zmx bs i c*sol n (eU zmx bs) (col v) c 0) n=v i:=by
 rw[<-tX (eU zmx bs) (sol n (eU zmx bs) (col v)) i 0 n];exact xm (zV h.full) hi 0
def Psv.Mc(h:Psv n bs){v u i}(hi:i<n):sol n (eU zmx bs) (col v) i 0=sol n (eU zmx bs) (EZ v u) i 0/\sol n (eU zmx bs) (col u) i 0=sol n (eU zmx bs) (EZ v u) i 1:=by
 constructor
 .refine h.unique (x:=fun c=>sol n (eU zmx bs) (col v) c 0) (y:=fun c=>sol n (eU zmx bs) (EZ v u) c 0) (fun p hp=> ?_) hi;rw[h.Ea hp,<-tX (eU zmx bs) (sol n (eU zmx bs) (EZ v u)) p 0 n,xm (zV h.full) hp 0];exact(if_pos rfl).symm
 .refine h.unique (x:=fun c=>sol n (eU zmx bs) (col u) c 0) (y:=fun c=>sol n (eU zmx bs) (EZ v u) c 1) (fun p hp=> ?_) hi;rw[h.Ea hp,<-tX (eU zmx bs) (sol n (eU zmx bs) (EZ v u)) p 1 n,xm (zV h.full) hp 1];exact(if_neg aa).symm
end
structure Bu where
 y:GQ
 al:Nat->GQ
 u:Nat->GQ
def nM (r0:Nat->Nat->GQ):List Bu->Nat->Nat->GQ
 |[],i=>r0 i
 |b::bs,i=>fun c=>nM r0 bs i c+b.y*(b.al i*b.u c)
inductive NdR
 |nd (i:Nat)
 |co (u:Nat->GQ)
def NdR.row (r0:Nat->Nat->GQ) (bs:List Bu):NdR->Nat->GQ
 | .nd i=>nM r0 bs i
 | .co u=>u
def nT(v):∀(cs:List Nat) (D E:List Nat->GQ),bU v (fun l=>D l+E l) cs=bU v D cs+bU v E cs
 |[],_,_=>(GQ.add_zero' _).symm
 |c::cs,D,E=>by
  show v c*(D cs+E cs)-bU v (fun l=>D (c::l)+E (c::l)) cs=(v c*D cs-bU v (fun l=>D (c::l)) cs)+(v c*E cs-bU v (fun l=>E (c::l)) cs);rw[nT v cs (fun l=>D (c::l)) (fun l=>E (c::l))];generalize bU v (fun l=>D (c::l)) cs=a;generalize bU v (fun l=>E (c::l)) cs=b;ext<;>simp only[GQ.bQ,GQ.bN,GQ.dI,GQ.dJ,GQ.aZ,GQ.aX]<;>grind
def part (r0:Nat->Nat->GQ) (bs:List Bu) (b:Bu):List NdR->List Nat->GQ
 |[],_=>GQ.i 0 0
 | .nd i::L,cs=>bU (nM r0 bs i) (part r0 bs b L) cs+b.al i*det (b.u::L.map (NdR.row r0 bs)) cs
 | .co u::L,cs=>bU u (part r0 bs b L) cs
def xz(r0)(bs:List Bu)(b:Bu):∀(L:List NdR) (cs:List Nat),bU b.u (part r0 bs b L) cs=GQ.i 0 0
 |[],cs=>mq b.u cs
 | .nd i::L,cs=>by
  show bU b.u (fun l=>bU (nM r0 bs i) (part r0 bs b L) l+b.al i*det (b.u::L.map (NdR.row r0 bs)) l) cs=_;rw[nT b.u cs (fun l=>bU (nM r0 bs i) (part r0 bs b L) l) (fun l=>b.al i*det (b.u::L.map (NdR.row r0 bs)) l)];have j:=qA b.u (nM r0 bs i) cs (part r0 bs b L);have B:bU (nM r0 bs i) (bU b.u (part r0 bs b L)) cs=GQ.i 0 0:=by
   exact Abn
  rw[B,GQ.add_zero'] at j;have D:bU b.u (fun l=>bU (nM r0 bs i) (part r0 bs b L) l) cs=GQ.i 0 0:=j;rw[D,jM];have C:bU b.u (fun l=>det (b.u::L.map (NdR.row r0 bs)) l) cs=GQ.i 0 0:=qD b.u (b.u::L.map (NdR.row r0 bs)) cs List.mem_cons_self;rw[C,GQ.bI,GQ.add_zero']
 | .co u::L,cs=>by
  show bU b.u (fun l=>bU u (part r0 bs b L) l) cs=_;have j:=qA b.u u cs (part r0 bs b L);have B:bU u (bU b.u (part r0 bs b L)) cs=GQ.i 0 0:=by
   exact Abn
  rw[B,GQ.add_zero'] at j;exact j
def Ae(r0)(bs:List Bu)(b:Bu):∀(L:List NdR) (cs:List Nat),det (L.map (NdR.row r0 (b::bs))) cs=det (L.map (NdR.row r0 bs)) cs+b.y*part r0 bs b L cs
 |[],cs=>by
  show GQ.i 1 0=GQ.i 1 0+b.y*GQ.i 0 0;rw[GQ.bI,GQ.add_zero']
 | .nd i::L,cs=>by
  show bU (fun c=>nM r0 bs i c+b.y*(b.al i*b.u c)) (det (L.map (NdR.row r0 (b::bs)))) cs=bU (nM r0 bs i) (det (L.map (NdR.row r0 bs))) cs+b.y*(bU (nM r0 bs i) (part r0 bs b L) cs+b.al i*bU b.u (det (L.map (NdR.row r0 bs))) cs);have e:det (L.map (NdR.row r0 (b::bs)))=fun l=>det (L.map (NdR.row r0 bs)) l+b.y*part r0 bs b L l:=funext fun l=>Ae r0 bs b L l;have j:(fun c=>nM r0 bs i c+b.y*(b.al i*b.u c))=fun c=>nM r0 bs i c+(b.y*b.al i)*b.u c:=funext fun c=>by rw[GQ.bW]
  rw[e,j,CB (nM r0 bs i) (fun c=>(b.y*b.al i)*b.u c),qW (b.y*b.al i) cs,nT (nM r0 bs i) cs,nT b.u cs,jM b.y cs (part r0 bs b L),jM b.y cs (part r0 bs b L),xz r0 bs b L cs,GQ.bI,GQ.add_zero'];generalize bU (nM r0 bs i) (det (L.map (NdR.row r0 bs))) cs=a;generalize bU (nM r0 bs i) (part r0 bs b L) cs=c;generalize bU b.u (det (L.map (NdR.row r0 bs))) cs=d;generalize b.y=y;generalize b.al i=t;ext<;>simp only[GQ.bQ,GQ.bN,GQ.aZ,GQ.aX]<;>grind
 | .co u::L,cs=>by
  show bU u (det (L.map (NdR.row r0 (b::bs)))) cs=bU u (det (L.map (NdR.row r0 bs))) cs+b.y*bU u (part r0 bs b L) cs;have e:det (L.map (NdR.row r0 (b::bs)))=fun l=>det (L.map (NdR.row r0 bs)) l+b.y*part r0 bs b L l:=funext fun l=>Ae r0 bs b L l;rw[e,nT u cs,jM b.y cs (part r0 bs b L)]
def gX {α:Type} (f:α->GQ):List α->GQ
 |[]=>GQ.i 0 0
 |a::l=>gX f l+f a
def qG{α β:Type}(f:β->GQ)(g:α->β):∀l:List α,gX f (l.map g)=gX (fun a=>f (g a)) l
 |[]=>rfl
 |a::l=>by
  show gX f (l.map g)+_=_;rw[qG f g l];rfl
def xO{α:Type}(v)(F:α->List Nat->GQ)(cs):∀l:List α,bU v (fun x=>gX (fun a=>F a x) l) cs=gX (fun a=>bU v (F a) cs) l
 |[]=>mq v cs
 |a::l=>by
  show bU v (fun x=>gX (fun a=>F a x) l+F a x) cs=gX _ l+_;rw[nT v cs (fun x=>gX (fun a=>F a x) l) (F a),xO v F cs l]
def sI (b:Bu):List NdR->List (GQ×List NdR)
 |[]=>[]
 | .nd i::L=>(b.al i,.co b.u::L)::(sI b L).map fun x=>(x.1,.nd i::x.2)
 | .co u::L=>(sI b L).map fun x=>(x.1,.co u::x.2)
def zF(r0)(bs:List Bu)(b:Bu):∀(L:List NdR) (cs:List Nat),part r0 bs b L cs=gX (fun x:GQ×List NdR=>x.1*det (x.2.map (NdR.row r0 bs)) cs) (sI b L)
 |[],_=>rfl
 | .nd i::L,cs=>by
  show bU (nM r0 bs i) (part r0 bs b L) cs+b.al i*det (b.u::L.map (NdR.row r0 bs)) cs=gX _ ((sI b L).map fun x=>(x.1,.nd i::x.2))+b.al i*det (b.u::L.map (NdR.row r0 bs)) cs;have e:part r0 bs b L=fun l=>gX (fun x:GQ×List NdR=>x.1*det (x.2.map (NdR.row r0 bs)) l) (sI b L):=funext fun l=>zF r0 bs b L l;rw[qG,e,xO (nM r0 bs i) (fun(x:GQ×List NdR) l=>x.1*det (x.2.map (NdR.row r0 bs)) l) cs (sI b L)];congr 2;funext x;exact jM x.1 cs _
 | .co u::L,cs=>by
  show bU u (part r0 bs b L) cs=gX _ ((sI b L).map fun x=>(x.1,.co u::x.2));have e:part r0 bs b L=fun l=>gX (fun x:GQ×List NdR=>x.1*det (x.2.map (NdR.row r0 bs)) l) (sI b L):=funext fun l=>zF r0 bs b L l;rw[qG,e,xO u (fun(x:GQ×List NdR) l=>x.1*det (x.2.map (NdR.row r0 bs)) l) cs (sI b L)];congr 1;funext x;exact jM x.1 cs _
def Cok (w:Nat->Nat) (cs:List Nat):NdR->Prop
 | .nd _=>True
 | .co u=>∀c∈cs,Wh (u c) (w c)
def EJ{b:Bu}{w cs}(j:∀c∈cs,Wh (b.u c) (w c))(ha:∀i,Wh (b.al i) 1):∀(L:List NdR),(∀d∈L,Cok w cs d)->(sI b L).length<=L.length/\∀x∈sI b L,Wh x.1 1/\x.2.length=L.length/\∀d∈x.2,Cok w cs d
 |[],_=>⟨Nat.le_refl _,by simp[sI]⟩
 | .nd i::L,h=>by
  obtain⟨D,C⟩:=EJ j ha L (fun d hd=>h d (List.mem_cons_of_mem _ hd));refine⟨by simp only[sI,List.length_cons,List.length_map];omega,fun x J=> ?_⟩;rcases List.mem_cons.1 (show x∈(b.al i,NdR.co b.u::L)::(sI b L).map (fun x=>(x.1,NdR.nd i::x.2)) from J) with rfl|J
  .refine⟨ha i,rfl,fun d hd=> ?_⟩;rcases List.mem_cons.1 hd with rfl|hd
   .exact j
   .exact h d (List.mem_cons_of_mem _ hd)
  .obtain⟨y,R,rfl⟩:=List.mem_map.1 J;obtain⟨M,l,B⟩:=C y R;refine⟨M,by simp only[List.length_cons,l],fun d hd=> ?_⟩;rcases List.mem_cons.1 hd with rfl|hd
   .trivial
   .exact B d hd
 | .co u::L,h=>by
  obtain⟨D,C⟩:=EJ j ha L (fun d hd=>h d (List.mem_cons_of_mem _ hd));refine⟨by simp only[sI,List.length_cons,List.length_map];omega,fun x J=> ?_⟩;obtain⟨y,R,rfl⟩:=List.mem_map.1 (show x∈(sI b L).map (fun x=>(x.1,NdR.co u::x.2)) from J);obtain⟨M,l,B⟩:=C y R;refine⟨M,by simp only[List.length_cons,l],fun d hd=> ?_⟩;rcases List.mem_cons.1 hd with rfl|hd
  .exact h _ List.mem_cons_self
  .exact B d hd
def Kj{α:Type}{f:α->GQ}{Q C}:∀l:List α,(∀a∈l,Wh (Q*f a) C)->Wh (Q*gX f l) (l.length*C)
 |[],_=>by
  show Wh (Q*GQ.i 0 0) _;rw[GQ.bI];exact gL _
 |a::l,h=>by
  show Wh (Q*(gX f l+f a)) _;rw[GQ.oG];refine((Kj l (fun x J=>h x (List.mem_cons_of_mem _ J))).add (h a List.mem_cons_self)).mono ?_;rw[List.length_cons,Nat.add_mul];omega
structure Zu (b:Bu) (Z K:Nat):Prop where
 wh:∃(zn:GQ) (zd:Nat),zn≠GQ.i 0 0/\Wh zn Z/\b.y*zn=GQ.i zd 0/\zd<=K
 al:∀i,Wh (b.al i) 1
def cz (f:Bu->Nat) (K m B0:Nat):List Bu->Nat
 |[]=>fct m*B0
 |b::bs=>(f b+m*K)*cz f K m B0 bs
def xD{r0 w}{f:Bu->Nat}{K}:∀(bs:List Bu),(∀b∈bs,Zu b (f b) K)->∃Q,Q≠GQ.i 0 0/\∀(B0:Nat) (cs:List Nat),pw w cs<=B0->(∀b∈bs,∀c∈cs,Wh (b.u c) (w c))->(∀i,∀c∈cs,Wh (r0 i c) (w c))->∀(L:List NdR),L.length=cs.length->(∀d∈L,Cok w cs d)->Wh (Q*det (L.map (NdR.row r0 bs)) cs) (cz f K cs.length B0 bs)
 |[],_=>⟨GQ.i 1 0,aj,fun B0 cs O I P L H hc=>by
  rw[GQ.jH];refine(Kq (w:=w) (L.map (NdR.row r0 [])) cs (by simpa using H) (fun r N c F=> ?_)).mono (Nat.mul_le_mul (Nat.le_refl _) O);obtain⟨d,hd,rfl⟩:=List.mem_map.1 N;cases d with
  |nd i=>exact P i c F
  |co u=>exact hc _ hd c F⟩
 |b::bs,h=>by
  obtain⟨Q,q0,T⟩:=xD bs (fun c hc=>h c (List.mem_cons_of_mem _ hc));obtain⟨⟨j,W,z0,z1,U,G⟩,ha⟩:=h b List.mem_cons_self;refine⟨j*Q,GQ.iK z0 q0,fun B0 cs O I P L H hc=> ?_⟩;have l:=T B0 cs O (fun c hc=>I c (List.mem_cons_of_mem _ hc)) P;obtain⟨l1,l2⟩:=EJ (I b List.mem_cons_self) ha L hc;have hp:Wh (Q*part r0 bs b L cs) (cs.length*cz f K cs.length B0 bs):=by
   rw[zF];refine(Kj (C:=cz f K cs.length B0 bs) (sI b L) (fun x J=> ?_)).mono (Nat.mul_le_mul aa (Nat.le_refl _));obtain⟨M,R,S⟩:=l2 x J;have Y:=M.mul (l x.2 (R.trans H) S);have e:Q*(x.1*det (x.2.map (NdR.row r0 bs)) cs)=x.1*(Q*det (x.2.map (NdR.row r0 bs)) cs):=by
    rw[<-GQ.bW,GQ.dW Q,GQ.bW]
   rw[e];exact Y.mono aa
  rw[Ae];have e:j*Q*(det (L.map (NdR.row r0 bs)) cs+b.y*part r0 bs b L cs)=j*(Q*det (L.map (NdR.row r0 bs)) cs)+b.y*j*(Q*part r0 bs b L cs):=by
   generalize det (L.map (NdR.row r0 bs)) cs=x;generalize part r0 bs b L cs=y;generalize b.y=t;ext<;>simp only[GQ.bQ,GQ.bN,GQ.aZ,GQ.aX]<;>grind
  rw[e,U];have V:=(nO (D:=(W:Int)) (B:=K) (by simpa using G)).mul hp;refine((z1.mul (l L H hc)).add V).mono ?_;show f b*cz f K cs.length B0 bs+K*(cs.length*cz f K cs.length B0 bs)<=(f b+cs.length*K)*cz f K cs.length B0 bs;rw[Nat.add_mul,<-Nat.mul_assoc,Nat.mul_comm K];exact Nat.le_refl _
def FC{a b}(h:a<=b):fct a<=fct b:=by
 induction b with
 |zero=>
  obtain rfl:a=0:=aa;exact Nat.le_refl _
 |succ b ih=>
  by_cases e:a=b+1
  .subst e;exact Nat.le_refl _
  .refine Nat.le_trans (ih aa) ?_;show fct b<=(b+1)*fct b;exact Nat.le_mul_of_pos_left _ aa
def EP{f:Bu->Nat}{K B0 k m}(h:k<=m):∀bs:List Bu,cz f K k B0 bs<=cz f K m B0 bs
 |[]=>Nat.mul_le_mul (FC h) (Nat.le_refl _)
 |b::bs=>Nat.mul_le_mul (Nat.add_le_add_left (Nat.mul_le_mul h (Nat.le_refl _)) _) (EP h bs)
structure rC (Z0:Nat->Nat->GQ) (m W:Nat) (Q:GQ) (BD:Nat):Prop where
 q0:Q≠GQ.i 0 0
 min:∀(P:List (Nat->GQ)) (j:Nat) (cs:List Nat),(∀p∈P,∃i,i<m/\p=Z0 i)->(∀c∈cs,c<m)->(P.length=cs.length->P.length<=m->Wh (Q*det P cs) BD)/\(P.length=cs.length+1->P.length<=m->j<W->Wh (Q*det P (j::cs)) BD)
def GG{m Z0}:∀(P:List (Nat->GQ)),(∀p∈P,∃i,i<m/\p=Z0 i)->∃L:List Nat,L.length=P.length/\P=L.map Z0
 |[],_=>⟨[],rfl,rfl⟩
 |p::P,h=>by
  obtain⟨L,l,j⟩:=GG P (fun q hq=>h q (List.mem_cons_of_mem _ hq));obtain⟨i,_,rfl⟩:=h p List.mem_cons_self;exact⟨i::L,by simp[l],by rw[j];rfl⟩
def LQ{w m}(Y:∀c,c<m->w c=1):∀(cs:List Nat),(∀c∈cs,c<m)->pw w cs=1
 |[],_=>rfl
 |c::cs,h=>by
  show w c*pw w cs=1;rw[LQ Y cs (fun d hd=>h d (List.mem_cons_of_mem _ hd)),Y c (h c List.mem_cons_self)]
def rC.of{r0:Nat->Nat->GQ}{w:Nat->Nat}{f:Bu->Nat}{K m W B0:Nat}{bs:List Bu}{Z0:Nat->Nat->GQ}(V:∀b∈bs,Zu b (f b) K)(Y:∀c,c<m->w c=1)(I:∀c,c<W->w c<=B0)(S:1<=B0)(J:∀b∈bs,∀c,c<W->Wh (b.u c) (w c))(N:∀i c,c<W->Wh (r0 i c) (w c))(F:m<=W)(R:∀i,i<m->Z0 i=nM r0 bs i):
  ∃Q,rC Z0 m W Q (cz f K m B0 bs):=by
 obtain⟨Q,q0,T⟩:=xD (r0:=r0) (w:=w) bs V;refine⟨Q,q0,fun P j cs U hc=> ?_⟩;have D:∀p∈P,∃i,i<m/\p=nM r0 bs i:=fun p hp=>by
  obtain⟨i,hi,e⟩:=U p hp;exact⟨i,hi,e.trans (R i hi)⟩
 obtain⟨L,hL,C⟩:=GG P D;have e:P=(L.map NdR.nd).map (NdR.row r0 bs):=by
  rw[C,List.map_map];rfl
 have l:∀cs,∀d∈L.map NdR.nd,Cok w cs d:=fun cs d hd=>by
  obtain⟨i,_,rfl⟩:=List.mem_map.1 hd;trivial
 have H:=LQ Y cs hc;constructor
 .intro Z O;have:=T B0 cs (by rw[H];exact S) (fun b hb c G=>J b hb c (by have:=hc c G;omega)) (fun i c G=>N i c (by have:=hc c G;omega)) (L.map NdR.nd) (by rw[List.length_map];omega) (l cs);rw[<-e] at this;exact this.mono (EP aa bs)
 .intro Z O M;have B:∀c∈j::cs,c<W:=fun c G=>by
   rcases List.mem_cons.1 G with rfl|G
   .exact M
   .have:=hc c G;omega
  have:=T B0 (j::cs) (by show w j*pw w cs<=B0;rw[H,Nat.mul_one];exact I j M) (fun b hb c G=>J b hb c (B c G)) (fun i c G=>N i c (B c G)) (L.map NdR.nd) (by rw[List.length_map,List.length_cons];omega) (l _);rw[<-e] at this;exact this.mono (EP AbC bs)
section
variable {m W BD N Ns:Nat} {Z0:Nat->Nat->GQ} {Q:GQ}
def rC.Qf(h:rC Z0 m W Q BD){x A D}(C:Wh (Q*A) BD)(l:Wh (Q*D) BD)(B:D≠GQ.i 0 0)(J:A=x*D)(j:BD*BD<2^N):Bd x N:=by
 refine vw C l (GQ.iK h.q0 B) ?_ j j;rw[J];ext<;>simp only[GQ.aZ,GQ.aX]<;>grind
def Inv.bdM{c}{s:Ec}{o P}(h:Inv m Z0 c s o P)(l:rC Z0 m W Q BD)(H:BD*BD<2^N)(hc:c<=m){i j}(D:s.r<=i)(B:i<m)(F:j<W):Bd (s.X i j) N:=by
 have C:∀d∈s.q,d<m:=fun d hd=>by have:=h.qc d hd;omega
 have M:=(l.min (Z0 (o i)::P) j s.q (fun p hp=>by
  rcases List.mem_cons.1 hp with rfl|hp
  .exact⟨o i,h.om i B,rfl⟩
  .exact h.pm p hp) C).2 (by rw[List.length_cons,h.pl,h.ql]) (by rw[List.length_cons,h.pl];omega) F
 have G:=(l.min P j s.q h.pm C).1 (by rw[h.pl,h.ql]) (by rw[h.pl];omega);exact l.Qf M G h.ne ((h.sy i D B).entry (fun d hd=>h.z i d D B (h.qc d hd)) j) H
def Inv.Wi{c k i}{s:Ec}{o P}(h:Inv m Z0 c s o P)(H:rC Z0 m W Q BD)(M:BD*BD<2^N)(hc:c<m)(j:c<W)(G:s.r<=i)(B:i<m)(F:s.r<=k)(D:k<m)(I:s.X k c≠GQ.i 0 0):Bd (s.X i c/s.X k c) N:=by
 have C:∀d∈s.q,d<m:=fun d hd=>by have:=h.qc d hd;omega
 have l:∀t,s.r<=t->t<m->Wh (Q*det (Z0 (o t)::P) (c::s.q)) BD:=fun t O K=>(H.min (Z0 (o t)::P) c s.q (fun p hp=>by
  rcases List.mem_cons.1 hp with rfl|hp
  .exact⟨o t,h.om t K,rfl⟩
  .exact h.pm p hp) C).2 (by rw[List.length_cons,h.pl,h.ql]) (by rw[List.length_cons,h.pl];omega) j
 have L:=(h.sy i G B).entry (fun d hd=>h.z i d G B (h.qc d hd)) c;have J:=(h.sy k F D).entry (fun d hd=>h.z k d F D (h.qc d hd)) c;refine H.Qf (l i G B) (l k F D) (by rw[J];exact GQ.iK I h.ne) ?_ M;rw[L,J,<-GQ.bW,GQ.gu I]
def VA(l:rC Z0 m (m+1) Q BD)(C:BD*BD<2^N):Room N m m 1 Z0:=by
 intro c hc L;obtain⟨o,P,B⟩:=nN m Z0 c;exact⟨fun i j K H D=>B.bdM l C aa K H D,fun i k M F G I J=>B.Wi l C hc aa M F G I J⟩
theorem Ma(D:rC Z0 m W Q BD)(H:BD*BD<2^N):∀c,c<=m->∀i j,i<m->j<W->Bd ((ech m Z0 c).X i j) N
 |0,_,i,j,hi,hj=>by
  obtain⟨o,P,F⟩:=nN m Z0 0;exact F.bdM D H aa (Nat.zero_le _) hi hj
 |c+1,hc,i,j,hi,hj=>by
  by_cases l:(ech m Z0 (c+1)).r<=i
  .obtain⟨o,P,F⟩:=nN m Z0 (c+1);exact F.bdM D H hc l hi hj
  have B:=Ma D H c aa;have e:ech m Z0 (c+1)=jL m c (ech m Z0 c):=rfl;rw[e] at l⊢;cases G:fp (ech m Z0 c).X c (m-(ech m Z0 c).r) (ech m Z0 c).r with
  |none=>rw[eF G];exact B i j hi hj
  |some k=>
   rw[dG G] at l⊢;obtain⟨I,J,K,L⟩:=iD G;have C:¬(ech m Z0 c).r+1<=i:=l;show Bd (clr (fun i=>(ech m Z0 c).X (swp k (ech m Z0 c).r i)) (ech m Z0 c).r c i j) N;unfold clr;rw[if_neg aa];exact B _ j (kU aa aa hi) hj
def uS{o P}(h:Ku m Z0 m (ech m Z0 m) (mF m Z0 m) o P)(I:(ech m Z0 m).r=m)(H:rC Z0 m W Q BD):
  ∃M,M≠GQ.i 0 0/\Wh M BD/\∀l j,l<m->j<W->Wh (M*(mF m Z0 m).X l j) BD:=by
 have N:P.length=m:=h.r.inv.pl.trans I;have hq:(ech m Z0 m).q.length=m:=h.r.inv.ql.trans I;have C:∀d∈(ech m Z0 m).q,d<m:=fun d hd=>h.r.inv.qc d hd;refine⟨Q*det P (ech m Z0 m).q,GQ.iK H.q0 h.r.inv.ne,(H.min P 0 _ h.r.inv.pm C).1 aa aa,fun l j B L=> ?_⟩;have F:((ech m Z0 m).q.eraseIdx (m-1-l)).length=m-1:=by
  rw[List.length_eraseIdx,if_pos aa];omega
 have G:∀d∈(ech m Z0 m).q.eraseIdx (m-1-l),d<m:=fun d hd=>C d (List.mem_of_mem_eraseIdx hd);have K:=(H.min P j _ h.r.inv.pm G).2 aa aa L;have J:=(h.r.sp l aa).entry (k:=m-1-l) (q:=(ech m Z0 m).q) aa (fun n d D=>by
  rw[h.r.un l aa n d D,I];have:n<(ech m Z0 m).q.length:=(List.getElem?_eq_some_iff.1 D).1;by_cases e:n=m-1-l
  .rw[if_pos e,if_pos aa]
  .rw[if_neg e,if_neg aa]) j
 have e:Q*det P (ech m Z0 m).q*(mF m Z0 m).X l j=Q*det P (j::(ech m Z0 m).q.eraseIdx (m-1-l))\/Q*det P (ech m Z0 m).q*(mF m Z0 m).X l j= -(Q*det P (j::(ech m Z0 m).q.eraseIdx (m-1-l))):=by
  rw[GQ.bW,GQ.dW (det P _)];rcases J with J|J
  .left;rw[J]
  .right;rw[J]
   ext<;>simp only[GQ.aZ,GQ.aX,GQ.ky,GQ.ku]<;>grind
 rcases e with e|e
 .rw[e];exact K
 .rw[e];exact K.neg
theorem MF{i}(U:(ech m Z0 m).r=m)(hi:i<m)(I:rC Z0 m W Q BD):∃D,D≠GQ.i 0 0/\Wh D BD/\∀l,l<W->Wh (D*(ech m Z0 m).X i l) BD:=by
 have H:=yu (X:=Z0) (m:=m) aa (show i<=m by omega);have G:=yu (X:=Z0) (m:=m) aa (show i+1<=m by omega);obtain⟨o,P,h⟩:=nN m Z0 i;have K:ech m Z0 (i+1)=jL m i (ech m Z0 i):=rfl;cases J:fp (ech m Z0 i).X i (m-(ech m Z0 i).r) (ech m Z0 i).r with
 |none=>rw[K,eF J] at G;omega
 |some k=>
  obtain⟨M,S,R,O⟩:=iD J;have F:(ech m Z0 m).X i=(ech m Z0 i).X k:=by
   rw[(FV m Z0 (i+1) m aa i aa).1,K,dG J];funext j;show clr (fun t=>(ech m Z0 i).X (swp k (ech m Z0 i).r t)) (ech m Z0 i).r i i j=_;unfold clr;rw[if_neg aa];show(ech m Z0 i).X (swp k (ech m Z0 i).r i) j=_;rw[H,nJ]
  have T:P.length=i:=h.pl.trans H;have hq:(ech m Z0 i).q.length=i:=h.ql.trans H;have C:∀d∈(ech m Z0 i).q,d<m:=fun d hd=>by have:=h.qc d hd;omega
  refine⟨Q*det P (ech m Z0 i).q,GQ.iK I.q0 h.ne,(I.min P 0 _ h.pm C).1 aa aa,fun l B=> ?_⟩;have N:=(I.min (Z0 (o k)::P) l _ (fun p hp=>by
   rcases List.mem_cons.1 hp with rfl|hp
   .exact⟨o k,h.om k aa,rfl⟩
   .exact h.pm p hp) C).2 AbC AbC B
  have L:=(h.sy k M aa).entry (fun d hd'=>h.z k d M aa (h.qc d hd')) l;rw[L] at N;rw[F,GQ.bW,GQ.dW (det P _)];exact N
end
section
variable {m BD N Ns:Nat} {Z0:Nat->Nat->GQ} {Q:GQ}
def Lp{W}(I:(ech m Z0 m).r=m)(C:rC Z0 m W Q BD)(B:BD*BD<2^N){l j}(Z:l<m)(G:j<W):Bd ((mF m Z0 m).X l j) N:=by
 obtain⟨o,P,h⟩:=kI m Z0 m;obtain⟨M,D,H,F⟩:=uS h I C;exact vw (F l j Z G) H D (GQ.dW _ _) B B
def FT(G:(ech m Z0 m).r=m)(H:rC Z0 m (m+1) Q BD)(J:(BD*BD+m*(BD*BD))*(BD*BD)<2^Ns){k s}(L:k<m)(K:s<=k):
  Bd (bps (ech m Z0 m).X (iW (ech m Z0 m).X m k) m (m-1-k) 0 s) Ns:=by
 obtain⟨o,P,h⟩:=kI m Z0 m;rw[H6,AR (x':=fun t=>(mF m Z0 m).X (m-1-k+1+t) m) s (fun t I=>yS h G 0 k aa _ aa aa)];obtain⟨M,Y,C,F⟩:=uS h G H;obtain⟨D,l,B,j⟩:=MF (i:=m-1-k) G aa H;refine QN l Y B C (j _ aa) (fun t I=>j _ aa) (fun t I=>F _ _ aa aa) (Nat.lt_of_le_of_lt (Nat.mul_le_mul ?_ (Nat.le_refl _)) J) (Nat.lt_of_le_of_lt (Nat.mul_le_mul ?_ (Nat.le_refl _)) J)
 .have:=Nat.mul_le_mul (show s<=m by omega) (Nat.le_refl (BD*BD));omega
 .omega
def Ub(G:(ech m Z0 m).r=m)(F:rC Z0 m (m+1) Q BD)(J:BD*BD<2^N)(C:(BD*BD+m*(BD*BD))*(BD*BD)<2^Ns)(c1:2*max Ns (N+N+1)+65<=12800)(c3:Ns+N+1<=12800):
  Ky N Ns Ns N m 1 (ech m Z0 m).X:=by
 refine⟨fun i l hi Z=>Ma F J m (Nat.le_refl m) i l hi aa,fun k j s D H B=> ?_,fun k j D H=> ?_,fun k i j D K I H=> ?_,c1,aa,c3,aa,aa⟩
 .obtain rfl:j=0:=aa;exact FT G F C D aa
 .obtain rfl:j=0:=aa;exact FT G F C D (Nat.le_refl k)
 .obtain rfl:j=0:=aa;obtain⟨o,P,h⟩:=kI m Z0 m;rw[yS h G 0 k D i K I];exact Lp G F J I aa
end
def zq (z:Imp) (n d:Int):GQ:=⟨((n*z.r:Int):Rat)/(d:Rat),((n*z.x:Int):Rat)/(d:Rat)⟩
structure Nb where
 a:Nat
 b:Nat
 y:GQ
 e:GQ
def Nb.at_ (b:Nb) (k:Nat) (U:Nat->GQ):GQ:=(if k=b.a then b.y*(U b.a-U b.b) else GQ.i 0 0)+(if k=b.b then b.y*(U b.b-U b.a) else GQ.i 0 0)
def Nb.src (b:Nb) (k:Nat):GQ:=if b.b=17/\k=b.a then b.y*b.e else GQ.i 0 0
def Nb.br (rw_:Nat->Nat) (b:Nb):Br:=⟨rw_ b.a,rw_ b.b,decide (b.b=17),b.y⟩
def oQ{α:Type}{f g:α->GQ}:∀l:List α,(∀a∈l,f a=g a)->gX f l=gX g l
 |[],_=>rfl
 |a::l,h=>by
  show gX f l+f a=gX g l+g a;rw[oQ l (fun x J=>h x (List.mem_cons_of_mem _ J)),h a List.mem_cons_self]
def GK{α:Type}(c)(f:α->GQ):∀l:List α,gX (fun a=>c*f a) l=c*gX f l
 |[]=>(GQ.bI _).symm
 |a::l=>by
  show gX (fun a=>c*f a) l+c*f a=c*(gX f l+f a);rw[GK c f l,GQ.oG]
def qK{n C j:Nat}(l:j<n)(y:GQ)(x:Nat->GQ)(i:Nat):gP (fun c=>jo C j y i c*x c) n=if i=C then y*x j else GQ.i 0 0:=by
 rw[qi (c:=j) n l (fun c _ hc=>by show(if i=C/\c=j then y else GQ.i 0 0)*_=_;rw[if_neg (fun h=>hc h.2),GQ.eH])];show(if i=C/\j=j then y else GQ.i 0 0)*x j=_;by_cases h:i=C
 .rw[if_pos ⟨h,rfl⟩,if_pos h]
 .rw[if_neg (fun e=>h e.1),if_neg h,GQ.eH]
def Br.part (b:Br) (i:Nat) (x:Nat->GQ):GQ:=
 if b.nt then (if i=b.p then b.y*x b.p else GQ.i 0 0) else (if i=b.p then b.y*(x b.p-x b.q) else GQ.i 0 0)+(if i=b.q then b.y*(x b.q-x b.p) else GQ.i 0 0)
theorem Sq{n X}{b:Br}(x)(hp:b.p<n)(hq:b.nt=false->b.q<n)(i):gP (fun c=>stm X b i c*x c) n=gP (fun c=>X i c*x c) n+b.part i x:=by
 unfold stm Br.part;cases hb:b.nt
 .simp only[Bool.false_eq_true,if_false];have hq:=hq hb;have e:(fun c=>(X i c+jo b.p b.p b.y i c+jo b.q b.q b.y i c+jo b.p b.q (-b.y) i c+jo b.q b.p (-b.y) i c)*x c)=fun c=>(((X i c*x c+jo b.p b.p b.y i c*x c)+jo b.q b.q b.y i c*x c)+jo b.p b.q (-b.y) i c*x c)+jo b.q b.p (-b.y) i c*x c:=funext fun c=>by
   ext<;>simp only[GQ.bQ,GQ.bN,GQ.aZ,GQ.aX]<;>grind
  rw[e,kS,kS,kS,kS,qK hp,qK hq,qK hq,qK hp];generalize gP (fun c=>X i c*x c) n=s;by_cases j:i=b.p<;>by_cases l:i=b.q<;>simp only[j,l,if_true,if_false]
  (all_goals (try subst j);(try subst l));all_goals (try split)<;>(ext<;>simp only[GQ.bQ,GQ.bN,GQ.aZ,GQ.aX,GQ.dI,GQ.dJ,GQ.ky,GQ.ku,GQ.dE,GQ.dB]<;>grind)
 .simp only[if_true];have e:(fun c=>(X i c+jo b.p b.p b.y i c)*x c)=fun c=>X i c*x c+jo b.p b.p b.y i c*x c:=funext fun c=>by
   ext<;>simp only[GQ.bQ,GQ.bN,GQ.aZ,GQ.aX]<;>grind
  rw[e,kS,qK hp]
def Hz{n}(x i):∀(bs:List Br) (X:Nat->Nat->GQ),(∀b∈bs,b.p<n/\(b.nt=false->b.q<n))->gP (fun c=>eU X bs i c*x c) n=gP (fun c=>X i c*x c) n+gX (fun b=>b.part i x) bs
 |[],X,_=>(GQ.add_zero' _).symm
 |b::bs,X,h=>by
  have hb:=h b List.mem_cons_self;show gP (fun c=>eU (stm X b) bs i c*x c) n=_+(gX _ bs+b.part i x);rw[Hz x i bs (stm X b) (fun c hc=>h c (List.mem_cons_of_mem _ hc)),Sq x hb.1 hb.2];generalize gP (fun c=>X i c*x c) n=s;generalize gX _ bs=t;generalize b.part i x=u;ext<;>simp only[GQ.bQ,GQ.bN]<;>grind
def P6(i:Nat)(x:Nat->GQ)(n:Nat):gP (fun c=>zmx i c*x c) n=GQ.i 0 0:=by
 rw[iQ (g:=fun _=>GQ.i 0 0) n (fun c _=>by show GQ.i 0 0*_=_;rw[GQ.eH]),lX]
structure Rwx (L:Nat->Bool) (rw_:Nat->Nat) (n:Nat):Prop where
 lt:∀k,L k=true->rw_ k<n
 inj:∀j k,L j=true->L k=true->rw_ j=rw_ k->j=k
 onto:∀i,i<n->∃k,L k=true/\rw_ k=i
structure VT (L:Nat->Bool) (us:List Nb):Prop where
 none:L 17=false
 ab:∀b∈us,L b.a=true/\(b.b=17\/L b.b=true)/\b.a≠b.b
inductive JoinN (us:List Nb):Nat->Prop
 |neutral (b:Nb) (h:b∈us) (hn:b.b=17):JoinN us b.a
 |fro (b:Nb) (h:b∈us) (hn:b.b≠17) (hq:JoinN us b.b):JoinN us b.a
 |fwd (b:Nb) (h:b∈us) (hn:b.b≠17) (hp:JoinN us b.a):JoinN us b.b
def JoinN.br{us}(rw_){k}(h:JoinN us k):Joined (us.map (Nb.br rw_)) (rw_ k):=by
 induction h with
 |neutral b h hn=>exact Joined.neutral (Nb.br rw_ b) (List.mem_map_of_mem h) (by simp[Nb.br,hn])
 |fro b h hn _ ih=>exact Joined.fro (Nb.br rw_ b) (List.mem_map_of_mem h) (by simp[Nb.br,hn]) ih
 |fwd b h hn _ ih=>exact Joined.fwd (Nb.br rw_ b) (List.mem_map_of_mem h) (by simp[Nb.br,hn]) ih
structure BV (L:Nat->Bool) (rw_:Nat->Nat) (n:Nat) (us:List Nb):Prop where
 r:Rwx L rw_ n
 u:VT L us
 im:∀b∈us,b.y.im<0
 jn:∀k,L k=true->JoinN us k
section
variable {L:Nat->Bool} {rw_:Nat->Nat} {n:Nat} {us:List Nb}
def BV.psv(h:BV L rw_ n us):Psv n (us.map (Nb.br rw_)):=by
 refine⟨fun b hb=> ?_,fun p hp=> ?_⟩
 .obtain⟨c,hc,rfl⟩:=List.mem_map.1 hb;obtain⟨B,l,C⟩:=h.u.ab c hc;refine⟨h.r.lt _ B,fun hn=> ?_,h.im c hc⟩;have:c.b≠17:=by simpa[Nb.br] using hn
  exact h.r.lt _ (l.resolve_left this)
 .obtain⟨k,j,rfl⟩:=h.r.onto p hp;exact(h.jn k j).br rw_
noncomputable def p8 (L:Nat->Bool) (rw_:Nat->Nat) (n:Nat) (us:List Nb) (v:Nat->GQ) (k:Nat):GQ:=if L k=true then sol n (eU zmx (us.map (Nb.br rw_))) (col v) (rw_ k) 0 else GQ.i 0 0
theorem oU{v k}(h:L k=false):p8 L rw_ n us v k=GQ.i 0 0:=by unfold p8;rw[h];rfl
theorem qU{v k}(h:L k=true):p8 L rw_ n us v k=sol n (eU zmx (us.map (Nb.br rw_))) (col v) (rw_ k) 0:=by unfold p8;rw[if_pos h]
def BV.kcl(h:BV L rw_ n us){v k}(l:L k=true):gX (fun b=>b.at_ k (p8 L rw_ n us v)) us=v (rw_ k):=by
 have F:=h.psv.Ea (v:=v) (h.r.lt k l);rw[Hz _ _ _ _ (fun b hb=>⟨(h.psv.ok b hb).1,(h.psv.ok b hb).2.1⟩),P6,qG] at F;have B:k≠17:=fun e=>by rw[e,h.u.none] at l;cases l
 rw[<-F,oQ (g:=fun a=>(Nb.br rw_ a).part (rw_ k) (fun c=>sol n (eU zmx (us.map (Nb.br rw_))) (col v) c 0)) us]
 .ext<;>simp only[GQ.bQ,GQ.bN,GQ.dE,GQ.dB]<;>grind
 .intro b hb;obtain⟨ha,D,H⟩:=h.u.ab b hb;show(if k=b.a then b.y*(p8 L rw_ n us v b.a-p8 L rw_ n us v b.b) else GQ.i 0 0)+(if k=b.b then b.y*(p8 L rw_ n us v b.b-p8 L rw_ n us v b.a) else GQ.i 0 0)=
   if decide (b.b=17)=true then (if rw_ k=rw_ b.a then b.y*sol n (eU zmx (us.map (Nb.br rw_))) (col v) (rw_ b.a) 0 else GQ.i 0 0)
   else (if rw_ k=rw_ b.a then b.y*(sol n (eU zmx (us.map (Nb.br rw_))) (col v) (rw_ b.a) 0-sol n (eU zmx (us.map (Nb.br rw_))) (col v) (rw_ b.b) 0) else GQ.i 0 0)+
    (if rw_ k=rw_ b.b then b.y*(sol n (eU zmx (us.map (Nb.br rw_))) (col v) (rw_ b.b) 0-sol n (eU zmx (us.map (Nb.br rw_))) (col v) (rw_ b.a) 0) else GQ.i 0 0)
  rw[qU ha];by_cases hn:b.b=17
  .rw[if_pos (show decide (b.b=17)=true by simp[hn]),if_neg (show ¬k=b.b by omega),GQ.add_zero',oU (k:=b.b) (by rw[hn];exact h.u.none)];by_cases j:k=b.a
   .rw[if_pos j,if_pos (by rw[j])];generalize sol n _ _ _ _=z;ext<;>simp only[GQ.dI,GQ.dJ,GQ.aZ,GQ.aX,GQ.dE,GQ.dB]<;>grind
   .rw[if_neg j,if_neg (fun e=>j (h.r.inj _ _ l ha e))]
  .have C:=D.resolve_left hn;rw[if_neg (show ¬decide (b.b=17)=true by simp[hn]),qU C];have G:(rw_ k=rw_ b.a)=(k=b.a):=propext ⟨fun e=>h.r.inj _ _ l ha e,fun e=>by rw[e]⟩;have J:(rw_ k=rw_ b.b)=(k=b.b):=propext ⟨fun e=>h.r.inj _ _ l C e,fun e=>by rw[e]⟩;simp only[G,J]
def BV.drive(h:BV L rw_ n us){f}(j:L f=true):0<(p8 L rw_ n us (unit (rw_ f)) f).im:=by
 rw[qU j];exact h.psv.drive (x:=fun c=>sol n (eU zmx (us.map (Nb.br rw_))) (col (unit (rw_ f))) c 0) (h.r.lt f j) (fun i hi=>h.psv.Ea (v:=unit (rw_ f)) hi)
def feed (rw_:Nat->Nat) (us:List Nb) (i:Nat):GQ:=gX (fun b=>if b.b=17/\i=rw_ b.a then b.y*b.e else GQ.i 0 0) us
theorem BV.SX(h:BV L rw_ n us){k}(j:L k=true):feed rw_ us (rw_ k)=gX (fun b=>b.src k) us:=by
 refine oQ us fun b hb=> ?_;have l:(rw_ k=rw_ b.a)=(k=b.a):=propext ⟨fun e=>h.r.inj _ _ j (h.u.ab b hb).1 e,fun e=>by rw[e]⟩;unfold Nb.src;simp only[l]
end
def Qy(g)(z:Imp)(n d w)(hc:bT w g)(G:0<=z.r/\z.r<=1000)(J:0<=z.x/\z.x<=1000)(hn:0<=n/\n<=16)(hd:1<=d/\d<=16):
  CV 156 #[.pointer (some ⟨g,0,none⟩),.agg #[.int .i64 z.r,.int .i64 z.x],.int .i64 n,.int .i64 d] w fun v w'=>GV w' v (zq z n d) 64:=by
 obtain⟨D,F,j⟩:=an2 w 54 #[.int .i64 z.r,.int .i64 z.x] 42 #[.bool false,.slice none 0 0,.bool false,.slice none 0 0,.bool false,.slice none 0 0];have O:=hc.ext D;have I:=F.cell;have b1:0<=n*z.r/\n*z.r<=16000:=⟨Int.mul_nonneg hn.1 G.1,by have:=Int.mul_le_mul hn.2 G.2 G.1 aa;omega⟩;have b2:0<=n*z.x/\n*z.x<=16000:=⟨Int.mul_nonneg hn.1 J.1,by have:=Int.mul_le_mul hn.2 J.2 J.1 aa;omega⟩;have HO:=aJ (fun w hc=>OT g (n*z.r) (n*z.x) d w hc aa aa aa aa aa aa aa);clear G J hn hd;obtain⟨b10,l⟩:=b1;obtain⟨C,B⟩:=b2;go_enter Tryz.func156,Tryz.ntmps156;(go_wp2_with fail);clear I F;refine(HO.o _ O).mono ?_;rintro e w3 ⟨v,rfl,hv,J⟩;replace D:=D.trans J;replace j:=j.ext J;clear J;obtain⟨P,R,WI,W,M,L,Z,Y,V,Q,U,S,rfl⟩:=hv.opn;have k6:=j.cell;have f6:=j.frozen;obtain⟨p1,p2,H⟩:=eX D aa j hv;have K:=aJ p1;have N:=aJ p2;have T:=aJ H;clear p1 p2 H D j hv;(go_wp2_with fail);exact dh rfl rfl rfl N.o ⟨_,rfl,T.o,K.o⟩
def uk(g)(z:Imp)(w)(hc:bT w g)(C:0<=z.r/\z.r<=1000)(J:0<=z.x/\z.x<=1000):
  CV 120 #[.pointer (some ⟨g,0,none⟩),.agg #[.int .i64 z.r,.int .i64 z.x]] w fun v w'=>GV w' v (zq z 1 1) 64:=by
 obtain⟨l,F,j⟩:=an2 w 54 #[.int .i64 z.r,.int .i64 z.x] 42 #[.bool false,.slice none 0 0,.bool false,.slice none 0 0,.bool false,.slice none 0 0];have O:=hc.ext l;have D:=F.cell;have W:=aJ (fun w hc=>Qy g z 1 1 w hc C J aa aa);clear C J;go_enter Tryz.func120,Tryz.ntmps120;(go_wp2_with fail);clear D F;refine(W.o _ O).mono ?_;rintro e Z ⟨v,rfl,hv,J⟩;replace l:=l.trans J;replace j:=j.ext J;clear J;obtain⟨L,Y,V,S,I,H,U,T,R,M,Q,N,rfl⟩:=hv.opn;have k6:=j.cell;have f6:=j.frozen;obtain⟨p1,p2,B⟩:=eX l aa j hv;have G:=aJ p1;have K:=aJ p2;have P:=aJ B;clear p1 p2 B l j hv;(go_wp2_with fail);exact dh rfl rfl rfl K.o ⟨_,rfl,P.o,G.o⟩
def OP{w:World}{g n j:Nat}{f:Nat->En}{x:Nat->GQ}{e:En}(hb:Blk w g 42 (aN n f).toArray)(J:∀i,i<j->GV w (f i).v (x i) 12800)(B:j<n)(O:GV w e.v (x j) 12800):
  Blk (puts w g (j*6) e.cells) g 42 (aN n (upd f j e)).toArray/\(∀i,i<j+1->GV (puts w g (j*6) e.cells) (upd f j e i).v (x i) 12800)/\Mod (fun k=>k=g) w (puts w g (j*6) e.cells):=by
 have l:Mod (fun k=>k=g) w (puts w g (j*6) e.cells):=Mod.only (fK _ _ _ _) rfl;have hS:Far (fun k=>k=g) w:=fun k C _=>by subst C;exact⟨_,_,hb,cu _ _⟩
 refine⟨?_,fun i hi=> ?_,l⟩
 .rw[<-mO e B];exact bY _ _ hb
 .by_cases h:i=j
  .subst h;rw[upd_same];exact O.mod l hS
  .rw[upd_ne h];exact(J i aa).mod l hS
theorem DY(gf m na:Nat)(w)(hc:bT w gf)(hm:m<=24)(Xp:na<=24):
  Calls Tryz.prog 157 #[.pointer (some ⟨gf,0,none⟩),.int .i64 (m:Int),.int .i64 (na:Int)] w fun e w'=>∃(G:Nat) (T:Nat->Rw),e=.returned (.slice (some ⟨G,0,none⟩) m m)/\DI w w' G m na m (fun _ _=>GQ.i 0 0) T:=by
 have HC:=aJ hc;clear hc;have WN:=DK m aa;have XQ:=Ba na aa;go_enter Tryz.func157,Tryz.ntmps157;(go_wp2_with fail);clear WN;go_loopw [14] (fun i wr=>∃(C:Nat) (T:Nat->Rw),C<=m/\i=.int .i64 C/\DI w wr w.heap.size m na C (fun _ _=>GQ.i 0 0) T) (fun i _=>m-(intOf i).toNat)
 case atStart=>exact⟨0,fun _=>BN,aa,rfl,Blk.new _ _ _,Nat.le_refl _,by intros;omega,by intros;omega,by intros;omega,Ext.new _ _⟩
 case round=>
  obtain⟨i,T,hi,rfl,hD⟩:=hrel;obtain⟨wv,WU⟩:∃wv,wv=wr:=⟨_,rfl⟩;subst WU;have HD:=aJ hD;clear hD;by_cases Wo:i<m
  .have hd:decide ((i:Int)<(m:Int))=true:=ae;have WI:=HD.o.o;have fr:=WI.frozen;have k1:wv.cell? ⟨w.heap.size,i,none⟩=some (T i).v:=by rw[WI.cell];exact iI Wo
   have WW:w.heap.size<wv.heap.size:=WI.lt;have F:Blk (wv.setCell ⟨w.heap.size,i,none⟩ (.slice (some ⟨wv.heap.size,0,none⟩) na na)) w.heap.size 174 (mxc m (upd T i ⟨some ⟨wv.heap.size,0,none⟩,wv.heap.size,0,na,na⟩)).toArray:=by
    rw[<-Fg];exact WI.mX _ _
   have k2:(wv.setCell ⟨w.heap.size,i,none⟩ (.slice (some ⟨wv.heap.size,0,none⟩) na na)).cell? ⟨w.heap.size,i,none⟩=some (.slice (some ⟨wv.heap.size,0,none⟩) na na):=by rw[F.cell,iI Wo,upd_same];rfl
   have WT:=F.alloc (.cells (aN na fun _=>zEn).toArray 42);have Wx:Blk ((wv.setCell ⟨w.heap.size,i,none⟩ (.slice (some ⟨wv.heap.size,0,none⟩) na na)).alloc (.cells (aN na fun _=>zEn).toArray 42)) wv.heap.size 42 (aN na fun _=>zEn).toArray:=Blk.new' _ _ Abj;have WR:Ext w ((wv.setCell ⟨w.heap.size,i,none⟩ (.slice (some ⟨wv.heap.size,0,none⟩) na na)).alloc (.cells (aN na fun _=>zEn).toArray 42)):=(HD.o.ext.setCell (Nat.le_refl _) _).alloc _;have Y:Mod (fun k=>k=w.heap.size\/k=wv.heap.size) wv ((wv.setCell ⟨w.heap.size,i,none⟩ (.slice (some ⟨wv.heap.size,0,none⟩) na na)).alloc (.cells (aN na fun _=>zEn).toArray 42)):=(Mod.only (Only.set _ _ _ _) (.inl rfl)).trans (Mod.of (Ext.new _ _));have WK:=aJ WT;have V:=aJ Wx;have W:=aJ WR;have WZ:=aJ WW;have WQ:=aJ Y;clear WI WT F Wx WR Y;(go_wp2_with fail);clear k1 k2 fr;generalize ((wv.setCell ⟨w.heap.size,i,none⟩ (.slice (some ⟨wv.heap.size,0,none⟩) na na)).alloc (.cells (aN na fun _=>zEn).toArray 42))=w3 at WK V W WQ⊢;generalize Xh:wv.heap.size=g at WK V WZ WQ WW⊢;have WE:=aJ Xh;clear Xh;clear WW;go_loopw [27] (fun Q wz=>∃(j:Nat) (f:Nat->En),j<=na/\Q=.int .i64 j/\Blk wz g 42 (aN na f).toArray/\(∀H,H<j->GV wz (f H).v (GQ.i 0 0) 12800)/\Mod (fun k=>k=g) w3 wz) (fun Q _=>na-(intOf Q).toNat)
   case atStart=>exact⟨0,fun _=>zEn,aa,rfl,V.o,by intros;omega,Mod.refl _ _⟩
   case round=>
    obtain⟨j,f,hj,rfl,hb,WY,Xi⟩:=hrel;have WP:=aJ hb;have WJ:=aJ WY;have WG:=aJ Xi;clear hb WY Xi;have WB:w.heap.size≠g:=by have:=WZ.o;omega
    have Wq:=WK.o.mod WG.o WB;have Xq:=aJ Wq;have P:=aJ (fw W.o WG.o (fun k hk=>by have:=WZ.o;omega));by_cases WC:j<na
    .have WO:decide ((j:Int)<(na:Int))=true:=ae;have k3:wr.cell? ⟨w.heap.size,i,none⟩=some (.slice (some ⟨g,0,none⟩) na na):=by rw[Wq.cell,iI Wo,upd_same];rfl
     have U:=Wq.lt;have lg:=WP.o.lt;clear Wq;have Y1:=aK.cell k3;(go_wp2_with fail);refine bz 7 [(true,0),(true,1),(true,2),(true,3),(true,4),(true,5),(false,6)] ah ah ?_;refine aS [0,1,2,3,4,5] [(false,6)] _ ah ?_;simp only[bO,aV,List.cons_append,List.nil_append];(repeat (go_big_quiet_step (fail)));refine wpQuiet_nil ?_;refine aR 6 [] ah ?_;intro K I;simp only[aV];(go_wp2_with fail);refine(dz gf 0 _ (HC.o.ext (P.o.trans ((Ext.refl _).drew))) aa aa).mono ?_;rintro e w4 ⟨u,rfl,hu,J⟩;have N:=((Ext.refl wr).drew).trans J;have WX:=aJ N;clear J;obtain⟨en,L⟩:=hu.en;subst L;have HU:=aJ (hu.up (show 64<=12800 by omega));clear hu;(go_wp2_with fail);refine I _ _ ⟨⟨w4,N⟩,rfl⟩ ?_;clear I K N Y1 k3;simp only[bP,List.drop_succ_cons,List.drop_zero];have hp:=OP (WP.o.ext WX.o) (x:=fun _=>GQ.i 0 0) (fun i hi=>(WJ.o i hi).ext WX.o) WC HU.o;obtain⟨d0,d1,d2,d3,d4,d5⟩:=dm.cells (WP.o.ext WX.o) WC rfl;have fr:=(WP.o.ext WX.o).frozen;have S:=(WP.o.ext WX.o).lt;have B:=aJ hp.1;have XN:=aJ hp.2.1;have R:=aJ hp.2.2;clear hp;unfold En.v gv;go_wp2_with fail
     go_roundw
     case rel=>exact⟨j+1,upd f j en,aa,au,B.o,XN.o,(WG.o.trans (Mod.of WX.o)).trans R.o⟩
     case measure=>simp[intOf];omega
    .obtain rfl:j=na:=aa;clear WC hj;go_wp2_with fail
     go_roundw
     case rel=>
      have D:∀C,C<i->(T C).b≠g:=fun C Wu=>by
       obtain⟨f',WF,_⟩:=(HD.o.row C Wu).2.1;have:=WF.lt;have:=WE.o;omega
      have M:Mod (fun k=>k=w.heap.size\/k=g) wv wr:=WQ.o.trans (WG.o.mono fun k hk=> .inr hk);have l:Far (fun k=>k=w.heap.size\/k=g) wv:=fun k hk Z=>by
       rcases hk with hk|hk
       .subst hk;refine⟨_,_,HD.o.o,?_⟩;unfold kz;simp only[List.all_eq_true];intro v hv;simp only[mxc,List.mem_map] at hv;obtain⟨C,_,rfl⟩:=hv;rfl
       .have:=WE.o;omega
      refine⟨i+1,upd T i ⟨some ⟨g,0,none⟩,g,0,j,j⟩,aa,au,Xq.o,Nat.le_refl _,fun C Wu=> ?_,fun C Wu=> ?_,fun C H Wu Wy O=> ?_,P.o⟩
      .exact AcQ
      .by_cases e:C=i
       .exact Aco
       .rw[upd_ne e];have h3:=HD.o.row C aa;refine⟨h3.1,h3.2.1.mod M l (fun hk=> ?_),h3.2.2⟩;rcases hk with hk|hk
        .obtain⟨f',WF,_⟩:=h3.2.1;have e1:Blk wv w.heap.size 42 (aN j f').toArray:=hk ▸ WF;have e2:=HD.o.o.symm.trans e1;simp at e2
        .exact D C aa hk
      .by_cases e:C=i
       .by_cases e':H=i
        .omega
        .subst e;rw[upd_same,upd_ne e'] at O;exact absurd O.symm (D H aa)
       .by_cases e':H=i
        .subst e';rw[upd_same,upd_ne e] at O;exact absurd O (D C aa)
        .rw[upd_ne e,upd_ne e'] at O;exact HD.o.inj C H aa aa O
     case measure=>simp[intOf];omega
  .obtain rfl:i=m:=aa;clear Wo hi;(go_wp2_with fail);go_ret;exact⟨_,T,rfl,HD.o⟩
inductive NF where
 |any
 |gv (q:GQ) (n:Nat)
 |box (t:TypeId) (cs:Array Value)
 |eq (u:Value)
 |pt
def NF.holds:NF->Nat->Nat->Value->World->Prop
 | .any,_,_,_,_=>True
 | .gv q n,_,_,v,w=>∃e:En,v=e.v/\GV w e.v q n
 | .box t cs,lo,hi,v,w=>v=.pointer (some ⟨lo,0,none⟩)/\lo<hi/\Blk w lo t cs
 | .eq u,_,_,v,_=>v=u
 | .pt,lo,hi,v,_=>v=.pointer (some ⟨lo,0,none⟩)/\lo<hi
def NF.GM(f:NF){lo hi v w w'}(h:f.holds lo hi v w)(x:Ext w w'):f.holds lo hi v w':=by
 cases f with
 |any=>trivial
 |gv q n=>obtain⟨e,j,l⟩:=h;exact⟨e,j,l.ext x⟩
 |box t cs=>exact⟨h.1,h.2.1,h.2.2.ext x⟩
 |eq u=>exact h
 |pt=>exact h
def NF.ng{q n lo hi v w}(h:NF.holds (.gv q n) lo hi v w):GV w v q n:=by
 obtain⟨e,j,l⟩:=h;rw[j];exact l
def zu:List (Nat×NF)->Nat->NF
 |[],_=> .any
 |p::r,i=>bif Nat.beq p.1 i then p.2 else zu r i
def ug:List (Nat×NF)->Nat->Bool
 |[],_=>false
 |p::r,i=>Nat.beq p.1 i||ug r i
def NFs (l:List (Nat×NF)):Nat->Nat->Nat->Value->World->Prop:=fun i lo hi v w=>(zu l i).holds lo hi v w
def jF(l):∀i lo hi v w w',NFs l i lo hi v w->Ext w w'->NFs l i lo hi v w':=fun _ _ _ _ _ _ h x=>NF.GM _ h x
def JL{w' v q n}(h:GV w' v q n):∃e:En,v=e.v/\GV w' e.v q n:=by
 obtain⟨e,rfl⟩:=h.en;exact⟨e,rfl,h⟩
def aT{P ops rest op a w Q}(L:op.guard=none)(F)(x y:Operand)(j:op.op=.store F x y)(b o cells)(J:a.eval x=.pointer (some ⟨b,o,none⟩))(R:a.eval y=.agg cells.toArray)(l:w.there b o cells.length)(hi:(P.info? F).map (·.size)=some cells.length)(B:∀v∈cells,v.oneCell'=true)(h:∀w',w'=puts w b o cells->wpList P ops Q rest (a.put op.dst undef) w'):wpList P ops Q (op::rest) a w:=by
 refine wpList_store_mid L F x y j b o cells.toArray J R Aby (by simpa using hi) (all_oneCell_toArray B) ?_;refine h _ ?_;rw[mE]
theorem dZ(e:En):∀v∈e.cells,v.oneCell'=true:=by
 intro v hv;unfold En.cells at hv;simp only[List.mem_cons,List.not_mem_nil,or_false] at hv;rcases hv with rfl|rfl|rfl|rfl|rfl|rfl<;>rfl
def bL:(Tryz.prog.info? 42).map (·.size)=some (6:Nat):=ah
def Blk.there{w g o n t cs}(h:Blk w g t cs)(hn:o+n<=cs.size):w.there g o n:=fun j l=>
 ⟨by rw[h.cell,Array.getElem?_eq_getElem (show o+j<cs.size by omega)];rfl,h.frozen _⟩
def wV{w0 w2 w':World}{g}(e:En)(J:Ext w0 w2)(B:w0.heap.size<=g)(hb:Blk w2 g 42 #[.bool false,.slice none 0 0,.bool false,.slice none 0 0,.bool false,.slice none 0 0])(Y:w'=puts w2 g 0 e.cells):
  Ext w0 w'/\Blk w' g 42 #[.bool e.s1,.slice e.A1 e.n1 e.c1,.bool e.s2,.slice e.A2 e.n2 e.c2,.bool e.s3,.slice e.A3 e.n3 e.c3]/\(∀v q n,GV w2 v q n->GV w' v q n)/\(∀g' t c,g'≠g->Blk w2 g' t c->Blk w' g' t c):=by
 have l:Mod (fun k=>k=g) w2 w':=by rw[Y];exact Mod.only (fK _ _ _ _) rfl
 have hn:kz #[.bool false,.slice none 0 0,.bool false,.slice none 0 0,.bool false,.slice none 0 0]=true:=rfl;have D:Far (fun k=>k=g) w2:=fun k F _=>by
  obtain rfl:k=g:=F;exact⟨_,_,hb,hn⟩
 have G:Ext w0 w':=by rw[Y];exact gz (B:Own w0 g) 0 e.cells J
 have C:Blk w' g 42 (fD #[.bool false,.slice none 0 0,.bool false,.slice none 0 0,.bool false,.slice none 0 0] 0 e.cells):=by rw[Y];exact bY 0 e.cells hb
 exact⟨G,C,fun v q n h=>h.mod l D,fun g' t c j h=>h.mod l j⟩
def kD{P:Program}{fn:Func}{R:Ending->World->Prop}{a:Act}{w:World}{t g:Nat}{F:TypeId}{cs:Array Value}{d:TypeDesc}(C:fn.results= #[.cell t F])(hd:a.defers=[])(hp:a.tmps[t]?.getD undef=.pointer (some ⟨g,0,none⟩))(hb:Blk w g F cs)(l:P.underlying F=some d)(j:(match d with| .struct _| .array _ _=>true|_=>false)=true)(hi:(P.info? F).map (·.size)=some cs.size)(B:R (.returned (.agg cs)) w):bodyPost P fn R .ret a w:=
 bodyPost_ret (results_cell_row C _ _ g F cs (0,0) _ (by simpa using hp) hb l j hi) hd B
def Ee{P:Program}{ops:Array Oper}{w0:World}{E:Nat->Bool}{Φ:Nat->Nat->Nat->Value->World->Prop}{Qt:Book->Act->Prop}{o:Oper}{l:List Oper}{k:Nat}{F:Book}{a:Act}{G:Value->World->Prop}{f:FuncId}{args:Array Value}{Q:En->Nat->Nat->Prop}(x:∀W,Kn ops w0 Φ k F W->Calls P f args W (fun e w'=>∃v,e=.returned v/\G v w'/\Ext W w'))(h:∀e lo hi,Q e lo hi)(t:(∀W,Kn ops w0 Φ k F W->Calls P f args W (fun e w'=>∃v,e=.returned v/\G v w'/\Ext W w'))->(∀e lo hi,Q e lo hi)->wpT P ops w0 E Φ Qt (o::l) k F a:=by
   intro x h;refine eQ (by rfl) (by rfl) (by rfl) ?_ ?_
   .intro W I;have y:=x W I;clear x h I;go_simp;exact⟨rfl,y.mono fun e w' ⟨v,O,hv,J⟩=>⟨v,O,J,JL hv⟩⟩
   .intro v lo hi B;obtain⟨W,j⟩:=B;obtain⟨e,rfl,-⟩:=j.get;clear j W x;(try simp only[Act.put,List.setIfInBounds_toArray,List.set_cons_succ,List.set_cons_zero]);exact h e lo hi):wpT P ops w0 E Φ Qt (o::l) k F a:=t x h
def tN{P:Program}{K:Nat}{Q:Exit->Act->World->Prop}{a:Act}{w:World}{l:List Oper}(n:Nat)(m:List (Nat×NF)){q:Prop}(h:q)(t:q->wpT P l.toArray w (ug m) (NFs m) (fun F a'=>∀w',dO w (NFs m) F w'->wpList P l.toArray Q (l.drop n) a' w') (l.take n) 0 Book.none a:=by
   intro h;simp only[List.take_succ_cons,List.take_zero,List.drop_succ_cons,List.drop_zero];exact h)(B:P.follows .mixedOrders=true:=by kernel_rfl)(j:Region.lexTailB .any l.toArray n=true:=by kernel_rfl):(Code.region K l.toArray true).wp P Q a w:=bR n (ug m) (NFs m) (jF _) B j (t h)
def dO.hV{w W:World}{Φ:Nat->Nat->Nat->Value->World->Prop}{F:Book}(h:dO w Φ F W)(i:Nat){v:Value}{lo hi n:Nat}{q:GQ}(l:F i=some (v,lo,hi):=by rfl)(j:Φ i lo hi v W=NF.holds (.gv q n) lo hi v W:=by rfl):Hid (GV W v q n):=aJ (NF.ng (j ▸ h.at_ i l))
structure Sto (g:Nat) (w w':World):Prop where
 os:w'.os=w.os
 tape:w'.tape=w.tape
 output:w'.output=w.output
 size:w'.heap.size=w.heap.size
 block:∀i,i≠g->w'.heap[i]? =w.heap[i]?
 far:∃t cs,Blk w g t cs/\kz cs=true
def Sto.ext{g w0 w w'}(h:Sto g w w')(J:Ext w0 w)(l:w0.heap.size<=g):Ext w0 w':=
 ⟨h.os.trans J.os,h.tape.trans J.tape,h.output.trans J.output,by rw[h.size];exact J.size,fun k j=>(h.block k aa).trans (J.block k j)⟩
def Sto.blk{g g' w w' t cs}(h:Sto g w w')(hb:Blk w g' t cs)(j:g'≠g):Blk w' g' t cs:=(h.block g' j).trans hb
def Sto.mod{g w w'}(h:Sto g w w'):Mod (fun k=>k=g) w w':=⟨h.os,h.tape,h.output,by rw[h.size];exact Nat.le_refl _,fun k _ j=>h.block k j⟩
def Sto.gv{g w w' v q n}(h:Sto g w w')(hv:GV w v q n):GV w' v q n:=by
 obtain⟨t,cs,hb,hn⟩:=h.far;exact hv.mod h.mod (fun k j _=>by
  obtain rfl:k=g:=j;exact⟨t,cs,hb,hn⟩)
section
variable {P:Program} {ops:Array Oper} {w0:World} {E:Nat->Bool} {Φ Pd Po:Nat->Nat->Nat->Value->World->Prop} {S:Nat->Option Nat}
structure Late (ops:Array Oper) (w0:World) (Φ Pd Po:Nat->Nat->Nat->Value->World->Prop) (S:Nat->Option Nat):Prop where
 ft:∀i lo hi v w w',Φ i lo hi v w->Ext w w'->Φ i lo hi v w'
 fs:∀i lo hi v g w w',Φ i lo hi v w->Sto g w w'->Φ i lo hi v w'
 pt:∀i lo hi v w w',Pd i lo hi v w->Ext w w'->Pd i lo hi v w'
 ps:∀i lo hi v g w w',Pd i lo hi v w->Sto g w w'->(g<lo\/hi<=g)->Pd i lo hi v w'
 qt:∀i lo hi v w w',Po i lo hi v w->Ext w w'->Po i lo hi v w'
 qs:∀i lo hi v g w w',Po i lo hi v w->Sto g w w'->(g<lo\/hi<=g)->Po i lo hi v w'
 sa:∀k j,S k=some j->anc ops ops.size k j=true
 si:∀k k' j,S k=some j->S k'=some j->k=k'
 sn:∀k j,S k=some j->S j=none
 fz:∀k j lo hi v w,S k=some j->Φ k lo hi v w
structure jO (w0:World) (Φ Pd Po:Nat->Nat->Nat->Value->World->Prop) (S:Nat->Option Nat) (F:Book) (w:World):Prop extends dO w0 Φ F w where
 pend:∀k j e,S k=some j->F j=some e->F k=Option.none->Pd j e.2.1 e.2.2 e.1 w
 post:∀k j e x,S k=some j->F j=some e->F k=some x->Po j e.2.1 e.2.2 e.1 w
 dep:∀k j,S k=some j->F j=Option.none->F k=Option.none
def KnL (ops:Array Oper) (w0:World) (Φ Pd:Nat->Nat->Nat->Value->World->Prop) (S:Nat->Option Nat) (k:Nat) (F:Book) (w:World):Prop:=
 Ext w0 w/\(∀i e,F i=some e->anc ops ops.size k i=true->Φ i e.2.1 e.2.2 e.1 w)/\∀j e,S k=some j->F j=some e->Pd j e.2.1 e.2.2 e.1 w
def Ia (Φ Pd Po:Nat->Nat->Nat->Value->World->Prop) (S:Nat->Option Nat) (k:Nat) (F:Book) (w:World) (v:Value) (w':World):Prop:=
 (S k=Option.none->Ext w w'/\Pd k w.heap.size w'.heap.size v w')/\(∀j e,S k=some j->F j=some e->Sto e.2.1 w w'/\Po j e.2.1 e.2.2 e.1 w')/\Φ k w.heap.size w'.heap.size v w'
def rq (P:Program) (Φ Pd Po:Nat->Nat->Nat->Value->World->Prop) (S:Nat->Option Nat) (k:Nat) (F:Book) (w:World):Result Next->Prop
 | .ok (.value v) w'=>Ia Φ Pd Po S k F w v w'
 | .ok .skip w'=>Ia Φ Pd Po S k F w undef w'
 | .ok (.enter f args) w1=>w1=w/\S k=Option.none/\Calls P f args w (fun e w'=>∃v,e=.returned v/\Ext w w'/\Pd k w.heap.size w'.heap.size v w'/\Φ k w.heap.size w'.heap.size v w')
 |_=>False
def IA (S:Nat->Option Nat) (k:Nat) (F:Book):Prop:=∀j,S k=some j->∃e,F j=some e/\e.2.1<e.2.2
def qJ (P:Program) (ops:Array Oper) (w0:World) (E:Nat->Bool) (Φ Pd Po:Nat->Nat->Nat->Value->World->Prop) (S:Nat->Option Nat) (k:Nat) (K:Book->Act->Prop) (F:Book) (a:Act):Prop:=
 match ops[k]? with
 |Option.none=>K F a
 |some o=>
  if Region.wanted o (yielded ops a.tmps) then
   if E k then
    IA S k F/\(∀w,KnL ops w0 Φ Pd S k F w->rq P Φ Pd Po S k F w ((execOp a.eval o).run P w))/\
    (∀v lo hi,(∃w,dO w0 Φ (F.set k (v,lo,hi)) w)->K (F.set k (v,lo,hi)) (a.put o.dst v))
   else gM o.op=true/\S k=Option.none/\∃v,(∀w,Ext w0 w->o.quietAt P a (fun w'=>w'=w) w v)/\K F (a.put o.dst v)
  else K F (a.put o.dst undef)
def uf (P:Program) (ops:Array Oper) (w0:World) (E:Nat->Bool) (Φ Pd Po:Nat->Nat->Nat->Value->World->Prop) (S:Nat->Option Nat) (Q:Book->Act->Prop):List Oper->Nat->Book->Act->Prop
 |[],_,F,a=>Q F a
 |_::rest,k,F,a=>qJ P ops w0 E Φ Pd Po S k (uf P ops w0 E Φ Pd Po S Q rest (k+1)) F a
theorem AJ{k}{K R:Book->Act->Prop}{F a}(C:∃w,dO w0 Φ F w)(h:∀Z a',(Z=F\/∃e,Z=F.set k e)->(∃w,dO w0 Φ Z w)->K Z a'->R Z a')(j:qJ P ops w0 E Φ Pd Po S k K F a):qJ P ops w0 E Φ Pd Po S k R F a:=by
 unfold qJ at*
 split
 .rename_i l;simp only[l] at j;exact h _ _ (.inl rfl) C j
 .rename_i o l
  simp only[l] at j;split
  .rename_i Y
   simp only[Y,if_true] at j;split
   .rename_i B
    simp only[B,if_true] at j;exact⟨j.1,j.2.1,fun v lo hi J=>h _ _ (.inr ⟨_,rfl⟩) J (j.2.2 v lo hi J)⟩
   .rename_i B
    simp only[B] at j;obtain⟨hp,hs,v,G,D⟩:=j;exact⟨hp,hs,v,G,h _ _ (.inl rfl) C D⟩
  .rename_i Y
   simp only[Y] at j;exact h _ _ (.inl rfl) C j
theorem MZ{k}{K R:Book->Act->Prop}{F a}(h:∀F a,K F a->R F a)(j:qJ P ops w0 E Φ Pd Po S k K F a):qJ P ops w0 E Φ Pd Po S k R F a:=by
 unfold qJ at*
 split
 .rename_i l;simp only[l] at j;exact h _ _ j
 .rename_i o l
  simp only[l] at j;split
  .rename_i Y
   simp only[Y,if_true] at j;split
   .rename_i B
    simp only[B,if_true] at j;exact⟨j.1,j.2.1,fun v lo hi J=>h _ _ (j.2.2 v lo hi J)⟩
   .rename_i B
    simp only[B] at j;obtain⟨hp,hs,v,D,C⟩:=j;exact⟨hp,hs,v,D,h _ _ C⟩
  .rename_i Y
   simp only[Y] at j;exact h _ _ j
def tQ (P:Program) (ops:Array Oper) (w0:World) (E:Nat->Bool) (Φ Pd Po:Nat->Nat->Nat->Value->World->Prop) (S:Nat->Option Nat) (n:Nat) (L:Array Bool->Book->Act->Prop):Nat->Array Bool->Book->Act->Prop
 |0,listed,F,a=>L listed F a
 |f+1,listed,F,a=>Region.ready .any ops listed≠[]/\∀i∈Region.ready .any ops listed,i<n/\qJ P ops w0 E Φ Pd Po S i (tQ P ops w0 E Φ Pd Po S n L f (listed.setIfInBounds i true)) F a
def jO.put{F w w' k v}(H:Late ops w0 Φ Pd Po S)(G:S k=Option.none)(hF:F k=Option.none)(h:jO w0 Φ Pd Po S F w)(J:Ext w w')(hp:Pd k w.heap.size w'.heap.size v w')(hv:Φ k w.heap.size w'.heap.size v w'):
  jO w0 Φ Pd Po S (F.set k (v,w.heap.size,w'.heap.size)) w':=by
 have C {B j:Nat} (hs:S B=some j):B≠k:=fun e=>by rw[e,G] at hs;cases hs
 refine⟨h.todO.put H.ft hF J hv,fun B j e hs O hn=> ?_,fun B j e x hs O hn=> ?_,fun B j hs l=> ?_⟩
 .rw[Book.dL _ _ (C hs)] at hn;by_cases l:j=k
  .subst l;rw[Book.set_self] at O;cases O;exact hp
  .rw[Book.dL _ _ l] at O;exact H.pt _ _ _ _ _ _ (h.pend B j e hs O hn) J
 .rw[Book.dL _ _ (C hs)] at hn;by_cases l:j=k
  .subst l;rw[h.dep B j hs hF] at hn;cases hn
  .rw[Book.dL _ _ l] at O;exact H.qt _ _ _ _ _ _ (h.post B j e x hs O hn) J
 .rw[Book.dL _ _ (C hs)];by_cases D:j=k
  .subst D;rw[Book.set_self] at l;cases l
  .rw[Book.dL _ _ D] at l;exact h.dep B j hs l
def jO.V3{F w w' k j}{e:Value×Nat×Nat}{v}(H:Late ops w0 Φ Pd Po S)(M:S k=some j)(P:F j=some e)(R:e.2.1<e.2.2)(hF:F k=Option.none)(h:jO w0 Φ Pd Po S F w)(J:Sto e.2.1 w w')(hp:Po j e.2.1 e.2.2 e.1 w')(hv:Φ k w.heap.size w'.heap.size v w'):
  jO w0 Φ Pd Po S (F.set k (v,w.heap.size,w'.heap.size)) w':=by
 have K {G C:Nat} (hs:S G=some C):C≠k:=fun e=>by have:=H.sn _ _ hs;rw[e,M] at this;cases this
 have out {C:Nat} {f:Value×Nat×Nat} (D:C≠j) (I:F C=some f):e.2.1<f.2.1\/f.2.2<=e.2.1:=by
  rcases h.disj C j f e D I P with T|T
  .exact .inr T
  .exact .inl (Nat.lt_of_lt_of_le R T)
 have U:=J.size;refine⟨⟨J.ext h.ext (h.low j e P),fun i f O=> ?_,fun i f O=> ?_,fun i f O=> ?_,fun i Q f V L O I=> ?_⟩,fun G C f hs O hn=> ?_,fun G C f x hs O hn=> ?_,fun G C hs B=> ?_⟩
 .by_cases hi:i=k
  .subst hi;rw[Book.set_self] at O;cases O;exact hv
  .rw[Book.dL _ _ hi] at O;exact H.fs _ _ _ _ _ _ _ (h.fact i f O) J
 .by_cases hi:i=k
  .subst hi;rw[Book.set_self] at O;cases O;exact Nat.le_refl _
  .rw[Book.dL _ _ hi] at O;rw[U];exact h.size i f O
 .by_cases hi:i=k
  .subst hi;rw[Book.set_self] at O;cases O;exact h.ext.size
  .rw[Book.dL _ _ hi] at O;exact h.low i f O
 .by_cases hi:i=k
  .subst hi;rw[Book.set_self] at O;cases O;rw[Book.dL _ _ (Ne.symm L)] at I;exact .inr (h.size Q V I)
  .rw[Book.dL _ _ hi] at O;by_cases B:Q=k
   .subst B;rw[Book.set_self] at I;cases I;exact .inl (h.size i f O)
   .rw[Book.dL _ _ B] at I;exact h.disj i Q f V L O I
 .have l:G≠k:=fun N=>by rw[N,Book.set_self] at hn;cases hn
  rw[Book.dL _ _ l] at hn;rw[Book.dL _ _ (K hs)] at O;have D:C≠j:=fun N=>l (H.si _ _ _ hs (by rw[N];exact M));exact H.ps _ _ _ _ _ _ _ (h.pend G C f hs O hn) J (out D O)
 .rw[Book.dL _ _ (K hs)] at O;by_cases l:G=k
  .subst l;rw[M] at hs;cases hs;rw[P] at O;cases O;exact hp
  .rw[Book.dL _ _ l] at hn;have D:C≠j:=fun N=>l (H.si _ _ _ hs (by rw[N];exact M));exact H.qs _ _ _ _ _ _ _ (h.post G C f x hs O hn) J (out D O)
 .rw[Book.dL _ _ (K hs)] at B;by_cases l:G=k
  .subst l;rw[M] at hs;cases hs;rw[P] at B;cases B
  .rw[Book.dL _ _ l];exact h.dep G C hs B
def jO.on{F w w' k v}(H:Late ops w0 Φ Pd Po S)(hF:F k=Option.none)(h:jO w0 Φ Pd Po S F w)(l:IA S k F)(O:Ia Φ Pd Po S k F w v w'):
  jO w0 Φ Pd Po S (F.set k (v,w.heap.size,w'.heap.size)) w':=by
 obtain⟨D,G,I⟩:=O;cases hs:S k with
 |none=>exact h.put H hs hF (D hs).1 (D hs).2 I
 |some j=>
  obtain⟨e,B,C⟩:=l j hs;exact h.V3 H hs B C hF (G j e hs B).1 (G j e hs B).2 I
def jO.kn{F w k}(h:jO w0 Φ Pd Po S F w)(hF:F k=Option.none):KnL ops w0 Φ Pd S k F w:=⟨h.ext,fun i e O _=>h.fact i e O,fun j e hs O=>h.pend k j e hs O hF⟩
theorem DF{k F a w}{K:Book->Act->Prop}{R:Act->World->Prop}{Q'}(H:Late ops w0 Φ Pd Po S)(hF:F k=Option.none)(Y:jO w0 Φ Pd Po S F w)(h:∀Z a' w',jO w0 Φ Pd Po S Z w'->(∀j,j≠k->F j=Option.none->Z j=Option.none)->K Z a'->R a' w')(D:qJ P ops w0 E Φ Pd Po S k K F a):wpOp P ops Q' k R a w:=by
 unfold qJ at D;unfold wpOp;split
 .rename_i M;simp only[M] at D;exact AbB
 .rename_i o M
  simp only[M] at D;split
  .rename_i l
   simp only[l,if_true] at D;refine .inl ?_;by_cases T:E k=true
   .simp only[T,if_true] at D;obtain⟨Q,N,G⟩:=D;have C:=N w (Y.kn hF);unfold Oper.wp;generalize (execOp a.eval o).run P w=r at*
    cases r with
    |ok nx w'=>
     cases nx<;>simp only[Oper.upon]
     case value v=>
      have I:=Y.on H hF Q C;exact h _ _ _ I (fun j L hn=>by rw[Book.dL _ _ L];exact hn) (G v _ _ ⟨w',I.todO⟩)
     case skip=>
      have I:=Y.on H hF Q C;exact h _ _ _ I (fun j L hn=>by rw[Book.dL _ _ L];exact hn) (G undef _ _ ⟨w',I.todO⟩)
     case enter f args=>
      simp only[rq] at C;obtain⟨rfl,hs,hc⟩:=C;refine hc.mono fun e w'' ⟨v,O,J,hp,hv⟩=> ?_;subst O;have I:=Y.put H hs hF J hp hv;exact h _ _ _ I (fun j L hn=>by rw[Book.dL _ _ L];exact hn) (G v _ _ ⟨w'',I.todO⟩)
     all_goals simp only[rq] at C
    |halt x w'=>simp only[rq] at C
   .simp only[T] at D;obtain⟨_,_,v,N,G⟩:=D;have C:=N w Y.ext;unfold Oper.quietAt at C;unfold Oper.wp;generalize (execOp a.eval o).run P w=r at*
    cases r with
    |ok nx w'=>
     cases nx<;>simp only[Oper.quietUpon] at C<;>simp only[Oper.upon]
     case value u=>obtain⟨rfl,rfl⟩:=C;exact h F _ _ Y (fun _ _ h=>h) G
     case skip=>obtain⟨rfl,rfl⟩:=C;exact h F _ _ Y (fun _ _ h=>h) G
     case enter f args=>
      obtain⟨rfl,hc⟩:=C;exact hc.mono fun e w'' ⟨O,B⟩=>by subst O;subst B;exact h F _ _ Y (fun _ _ h=>h) G
    |halt x w'=>simp only[Oper.quietUpon] at C
  .rename_i l
   simp only[l] at D;exact AbB
def KnL.kZ(H:Late ops w0 Φ Pd Po S){F w k i}{e:Value×Nat×Nat}(hF:F i=Option.none)(l:anc ops ops.size k i=false):KnL ops w0 Φ Pd S k (F.set i e) w↔KnL ops w0 Φ Pd S k F w:=by
 have D {j:Nat} (hs:S k=some j):j≠i:=fun G=>by have:=H.sa _ _ hs;rw[G,l] at this;cases this
 constructor
 .exact fun h=>⟨h.1,fun x f J ha=>h.2.1 x f (Book.zf hF x f J) ha,fun j f hs C=>h.2.2 j f hs (by rw[Book.dL _ _ (D hs)];exact C)⟩
 .refine fun h=>⟨h.1,fun x f J ha=> ?_,fun j f hs C=>h.2.2 j f hs (by rw[Book.dL _ _ (D hs)] at C;exact C)⟩;by_cases B:x=i
  .subst B;rw[l] at ha;cases ha
  .rw[Book.dL _ _ B] at J;exact h.2.1 x f J ha
def IA.kZ(H:Late ops w0 Φ Pd Po S){F k i}{e:Value×Nat×Nat}(l:anc ops ops.size k i=false):IA S k (F.set i e)↔IA S k F:=by
 have D {j:Nat} (hs:S k=some j):j≠i:=fun G=>by have:=H.sa _ _ hs;rw[G,l] at this;cases this
 constructor<;>intro h j hs<;>obtain⟨f,C,B⟩:=h j hs
 .rw[Book.dL _ _ (D hs)] at C;exact⟨f,C,B⟩
 .exact⟨f,by rw[Book.dL _ _ (D hs)];exact C,B⟩
def rq.kZ(H:Late ops w0 Φ Pd Po S){F w k i}{e:Value×Nat×Nat}{r:Result Next}(l:anc ops ops.size k i=false):rq P Φ Pd Po S k (F.set i e) w r↔rq P Φ Pd Po S k F w r:=by
 have D {j:Nat} (hs:S k=some j):j≠i:=fun C=>by have:=H.sa _ _ hs;rw[C,l] at this;cases this
 cases r with
 |ok nx w'=>
  cases nx<;>simp only[rq,Ia]
  all_goals
   constructor<;>rintro⟨G,I,J⟩<;>refine⟨G,fun j f hs B=>I j f hs ?_,J⟩
   .rw[Book.dL _ _ (D hs)];exact B
   .rw[Book.dL _ _ (D hs)] at B;exact B
 |halt x w'=>simp only[rq]
def CW{F:Book}{i}{a:Act}{o}(H:Late ops w0 Φ Pd Po S)(hF:F i=Option.none)(B:∃w,dO w0 Φ F w)(C:∀w,KnL ops w0 Φ Pd S i F w->rq P Φ Pd Po S i F w ((execOp a.eval o).run P w)):∃v lo hi,∃w,dO w0 Φ (F.set i (v,lo,hi)) w:=by
 obtain⟨w,Y⟩:=B;cases hs:S i with
 |some j=>exact⟨undef,w.heap.size,w.heap.size,w,Y.put H.ft hF (Ext.refl w) (H.fz _ _ _ _ _ _ hs)⟩
 |none=>
  have l:=C w ⟨Y.ext,fun x e O _=>Y.fact x e O,fun j e h=>by rw[hs] at h;cases h⟩;generalize (execOp a.eval o).run P w=r at*
  cases r with
  |ok nx w'=>
   cases nx
   case value v=>
    simp only[rq,Ia] at l;exact⟨v,_,_,w',Y.put H.ft hF (l.1 hs).1 l.2.2⟩
   case skip=>
    simp only[rq,Ia] at l;exact⟨undef,_,_,w',Y.put H.ft hF (l.1 hs).1 l.2.2⟩
   case enter f args=>
    simp only[rq] at l;obtain⟨_,_,hc⟩:=l;obtain⟨e,w',D,⟨v,_,J,hp,hv⟩,_⟩:=hc [];exact⟨v,_,_,w',Y.put H.ft hF J hv⟩
   all_goals simp only[rq] at l
  |halt x w'=>simp only[rq] at l
theorem Mx{i j l V}{K:Book->Act->Prop}{F a}(H:Late ops w0 Φ Pd Po S)(hi:ops[i]? =some l)(hj:ops[j]? =some V)(L:i≠j)(Z:l.apart ops V=true)(Wq:∀cs b,l.op≠ .select cs b)(Wo:∀cs b,V.op≠ .select cs b)(R:F i=Option.none)(T:F j=Option.none)(M:anc ops ops.size i j=false)(a2:anc ops ops.size j i=false)(hr:∃w,dO w0 Φ F w)(h:qJ P ops w0 E Φ Pd Po S i (qJ P ops w0 E Φ Pd Po S j K) F a):
  qJ P ops w0 E Φ Pd Po S j (qJ P ops w0 E Φ Pd Po S i K) F a:=by
 obtain⟨p1,p2,p3⟩:=Oper.apart_spec Z;have x1:∀(a:Act) v,execOp (a.put l.dst v).eval V=execOp a.eval V:=fun a v=>execOp_put V Wo a l.dst v p1;have x2:∀(a:Act) v,execOp (a.put V.dst v).eval l=execOp a.eval l:=fun a v=>execOp_put l Wq a V.dst v p3;have y1:∀(a:Act) v,Region.wanted V (yielded ops (a.put l.dst v).tmps)=Region.wanted V (yielded ops a.tmps):=fun a v=>wanted_put V a l.dst v p1;have y2:∀(a:Act) v,Region.wanted l (yielded ops (a.put V.dst v).tmps)=Region.wanted l (yielded ops a.tmps):=fun a v=>wanted_put l a V.dst v p3;have z:∀(a:Act) v u,(a.put V.dst u).put l.dst v=(a.put l.dst v).put V.dst u:=fun a v u=>(Act.put_comm a v u p2).symm;have q1:∀(a:Act) v w u,V.quietAt P (a.put l.dst v) (fun w'=>w'=w) w u↔V.quietAt P a (fun w'=>w'=w) w u:=fun a v w u=>by unfold Oper.quietAt;rw[x1]
 have q2:∀(a:Act) v w u,l.quietAt P (a.put V.dst v) (fun w'=>w'=w) w u↔l.quietAt P a (fun w'=>w'=w) w u:=fun a v w u=>by unfold Oper.quietAt;rw[x2]
 unfold qJ at h⊢;simp only[hi,hj] at h⊢;simp only[y1,x1,q1] at h;simp only[y2,x2,q2,z];by_cases wi:Region.wanted l (yielded ops a.tmps)=true
 .simp only[wi,if_true] at h⊢;by_cases Ei:E i=true
  .simp only[Ei,if_true] at h⊢;obtain⟨h0,h1,h2⟩:=h;obtain⟨v0,Q,U,Wz⟩:=CW H R hr h1;by_cases wj:Region.wanted V (yielded ops a.tmps)=true
   .simp only[wj,if_true] at h2⊢;by_cases D:E j=true
    .simp only[D,if_true] at h2⊢;refine⟨(IA.kZ H a2).1 (h2 v0 Q U Wz).1,fun w Y=>(rq.kZ H a2).1 ((h2 v0 Q U Wz).2.1 w ((KnL.kZ H R a2).2 Y)),fun u lo hi C=>⟨(IA.kZ H M).2 h0,fun w Y=>(rq.kZ H M).2 (h1 w ((KnL.kZ H T M).1 Y)),fun v N Wu B=> ?_⟩⟩;obtain⟨w,Y⟩:=B;have Wp:dO w0 Φ (F.set i (v,N,Wu)) w:=Y.sub (Book.K7 (Book.zf T));rw[Book.Hf _ (Ne.symm L)] at Y⊢;exact(h2 v N Wu ⟨w,Wp⟩).2.2 u lo hi ⟨w,Y⟩
    .simp only[D] at h2⊢;obtain⟨hp,G,u,hu,_⟩:=h2 v0 Q U Wz;refine⟨hp,G,u,hu,h0,h1,fun v lo hi B=> ?_⟩;obtain⟨_,_,u',J,I⟩:=h2 v lo hi B;obtain⟨w,Y⟩:=hr;rw[ww hp (hu w Y.ext) (J w Y.ext)];exact I
   .simp only[wj] at h2⊢;exact⟨h0,h1,fun v lo hi B=>h2 v lo hi B⟩
  .simp only[Ei] at h⊢;obtain⟨hp,G,v,hv,h2⟩:=h;by_cases wj:Region.wanted V (yielded ops a.tmps)=true
   .simp only[wj,if_true] at h2⊢;by_cases D:E j=true
    .simp only[D,if_true] at h2⊢;exact⟨h2.1,h2.2.1,fun u lo hi C=>⟨hp,G,v,hv,h2.2.2 u lo hi C⟩⟩
    .simp only[D] at h2⊢;obtain⟨O,W,u,hu,I⟩:=h2;exact⟨O,W,u,hu,hp,G,v,hv,I⟩
   .simp only[wj] at h2⊢;exact⟨hp,G,v,hv,h2⟩
 .simp only[wi] at h⊢;by_cases wj:Region.wanted V (yielded ops a.tmps)=true
  .simp only[wj,if_true] at h⊢;by_cases D:E j=true
   .simp only[D,if_true] at h⊢;exact⟨h.1,h.2.1,fun u lo hi C=>h.2.2 u lo hi C⟩
   .simp only[D] at h⊢;obtain⟨O,W,u,hu,I⟩:=h;exact⟨O,W,u,hu,I⟩
  .simp only[wj] at h⊢;exact h
def rO{n g}{L:Array Bool->Book->Act->Prop}{Q'}(H:Late ops w0 Φ Pd Po S)(J:∀B F a w,jO w0 Φ Pd Po S F w->L B F a->wpAny P .any ops Q' g B a w):
  ∀(f:Nat) (B:Array Bool) (F:Book) (a:Act) (w:World),jO w0 Φ Pd Po S F w->(∀j,B.getD j true=false->F j=Option.none)->tQ P ops w0 E Φ Pd Po S n L f B F a->wpAny P .any ops Q' (f+g) B a w
 |0,B,F,a,w,hw,_,h=>by rw[Nat.zero_add];exact J _ _ _ _ hw h
 |f+1,B,F,a,w,hw,hF,h=>by
  rw[show f+1+g=(f+g)+1 by omega];refine⟨fun K=>absurd K h.1,fun i hi=> ?_⟩;have T:=(mem_ready.1 hi).1;refine DF H (hF i T) hw (fun Z a' w' M G I=>rO H J f _ Z a' w' M (fun j l=> ?_) I) (h.2 i hi).2;by_cases D:j=i
  .exact Aa7
  .rw[getD_set_ne true (Ne.symm D)] at l;exact G j D (hF j l)
theorem Cc{n i l}{L:Array Bool->Book->Act->Prop}(HL:Late ops w0 Φ Pd Po S)(hi:ops[i]? =some l)(C:∀(j:Nat) (o:Oper) cs b,ops[j]? =some o->o.op≠ .select cs b)(hs:Region.sinkB .any ops n=true)(hc:Region.chainB .any ops n=true)(hn:n<ops.size)(M:i<n)(W:∀B F a,L B F a->∀j∈Region.ready .any ops B,n<=j):
  ∀(f:Nat) (B:Array Bool) (F:Book) (a:Act),HeadInv .any ops n B->(∀j,B.getD j true=false->F j=Option.none)->(∃w,dO w0 Φ F w)->
   (∀j V,ops[j]? =some V->j≠i->B.getD j true=false->(∀e∈V.after,Region.binds .any e=true->e.on≠i)->l.apart ops V=true)->
   i∈Region.ready .any ops B->qJ P ops w0 E Φ Pd Po S i (tQ P ops w0 E Φ Pd Po S n L f (B.setIfInBounds i true)) F a->tQ P ops w0 E Φ Pd Po S n L (f+1) B F a:=by
 intro f
 induction f with
 |zero=>
  intro B F a inv hF Wz _ hr H;have T:=(mem_ready.1 hr).1;refine⟨fun h=>Ado,fun j hj=> ?_⟩;have U:j<n:=by
   exact AaH
  refine⟨U,?_⟩;by_cases D:j=i
  .subst D;exact H
  .exfalso;have R:∀Z a',tQ P ops w0 E Φ Pd Po S n L 0 (B.setIfInBounds i true) Z a'->False:=fun Z a' h=>by
    have:=W _ _ _ h j (ready_mono hj D);omega
   unfold qJ at H;simp only[hi] at H;split at H
   .split at H
    .obtain⟨v,lo,Wu,WK⟩:=CW HL (hF i T) Wz H.2.1;exact R _ _ (H.2.2 v lo Wu WK)
    .obtain⟨_,_,v,_,h2⟩:=H;exact R _ _ h2
   .exact R _ _ H
 |succ f ih=>
  intro B F a inv hF Wz Y hr H;have T:=(mem_ready.1 hr).1;refine⟨fun h=>Ado,fun j hj=> ?_⟩;have U:j<n:=by
   exact AaH
  refine⟨U,?_⟩;by_cases D:j=i
  .subst D;exact H
  .obtain⟨Q,V,Wt,K⟩:=mem_ready.1 hj;have Wx:∀e∈V.after,Region.binds .any e=true->e.on≠i:=fun e O hb Wq=>by
    exact Ac8
   have H1:=MZ (fun Z a' h=>(h.2 j (ready_mono hj D)).2) H;have H2:=Mx HL hi Wt (Ne.symm D) (Y j V Wt D Q Wx) (fun cs b=>C i l cs b hi) (fun cs b=>C j V cs b Wt) (hF i T) (hF j Q) (tJ inv hr Q) (tJ inv hj T) Wz H1;have G:∀k ok,ops[k]? =some ok->k≠i->(B.setIfInBounds j true).getD k true=false->
     (∀e∈ok.after,Region.binds .any e=true->e.on≠i)->l.apart ops ok=true:=fun k ok hk Wy Wv Wp=>by
    exact AcM
   refine AJ Wz (fun Z a' Ww N h3=>ih (B.setIfInBounds j true) Z a' (inv.set hj U) (fun x J=> ?_) N G (ready_mono hr (Ne.symm D)) ?_) H2
   .exact AbV
   .rw[Array.setIfInBounds_comm _ _ D];exact h3
def yf{n g}{L:Book->Act->Prop}(H:Late ops w0 Φ Pd Po S)(C:Region.noSelect ops=true)(hs:Region.sinkB .any ops n=true)(hc:Region.chainB .any ops n=true)(hn:n<ops.size):
  ∀(l:List Oper) (k:Nat) (B:Array Bool) (F:Book) (a:Act),(∀j,j<l.length->l[j]? =ops[k+j]?)->k+l.length=n->HeadInv .any ops n B->(∀j,B.getD j true=false->F j=Option.none)->(∃w,dO w0 Φ F w)->
  Region.lexHead .any ops g l.length k B=true->uf P ops w0 E Φ Pd Po S L l k F a->
  tQ P ops w0 E Φ Pd Po S n (fun D Z a'=>Region.seqB .any ops g n D=true/\L Z a') l.length B F a
 |[],k,B,F,a,_,hk,_,_,_,hB,h=>by
  exact Acr
 |o::l,k,B,F,a,hl,hk,inv,hF,hr0,hB,h=>by
  have R:ops[k]? =some o:=by simpa using(hl 0 ag).symm
  simp only[List.length_cons,Region.lexHead,Bool.and_eq_true] at hB;obtain⟨⟨W,U⟩,K⟩:=hB;have Y:k<n:=by simp only[List.length_cons] at hk;omega
  have N:k∈Region.ready .any ops B:=by simpa using W
  have T:=(mem_ready.1 N).1;refine Cc H R (Region.noSelect_spec C) hs hc hn Y (fun D Z a' V=>seqB_ready V.1) l.length B F a inv hF hr0 (Region.free_spec R U) N ?_;refine AJ hr0 (fun Z a' O Q I=>yf H C hs hc hn l (k+1) _ Z a' (fun j hj=>by have:=hl (j+1) ae;simpa[Nat.add_assoc,Nat.add_comm 1 j] using this) (by simp only[List.length_cons] at hk;omega) (inv.set N Y) (fun x J=> ?_) Q K I) h;have G:x≠k:=by
   exact Aa9
  rw[getD_set_ne true (Ne.symm G)] at J;rcases O with rfl|⟨e,rfl⟩
  .exact hF x J
  .rw[Book.dL _ _ G];exact hF x J
end
def zZ{P:Program}{K Q a w}{l:List Oper}(n E Φ Pd Po)(S:Nat->Option Nat)(H:Late l.toArray w Φ Pd Po S)(W:P.follows .mixedOrders=true)(U:Region.lexTailB .any l.toArray n=true)(h:uf P l.toArray w E Φ Pd Po S (fun F a'=>∀w',jO w Φ Pd Po S F w'->wpList P l.toArray Q (l.drop n) a' w') (l.take n) 0 Book.none a):(Code.region K l.toArray true).wp P Q a w:=by
 simp only[Region.lexTailB,Bool.and_eq_true,decide_eq_true_eq] at U;obtain⟨⟨⟨⟨C,hn⟩,hs⟩,hc⟩,L⟩:=U;have WL:n<l.length:=by simpa using hn
 have J:(l.take n).length=n:=ae;have D:(l.drop n).length=l.toArray.size-n:=ag;have I:HeadInv .any l.toArray n (Array.replicate l.toArray.size false):=
  ⟨ag,fun j V _ Z=>AaS,fun t _ ht=>getD_in (by simpa using ht) (getD_replicate_false _ _)⟩
 have Y:dO w Φ Book.none {w with drawn:=w.drawn+1}:=⟨(Ext.refl w).drew,fun _ _ h=>Acl,fun _ _ h=>Acl,fun _ _ h=>Acl,fun _ _ _ _ _ h=>Acl⟩;have N:jO w Φ Pd Po S Book.none {w with drawn:=w.drawn+1}:=⟨Y,fun _ _ _ _ h=>Acl,fun _ _ _ _ _ h=>Acl,fun _ _ _ _=>rfl⟩;have H1:=yf (P:=P) (E:=E) (g:=l.toArray.size-n) H C hs hc hn (l.take n) 0 _ Book.none a (fun j R=>by
  have O:j<n:=by rw[J] at R;exact R
  simp[O]) (by simpa using J) I (fun _ _=>rfl) ⟨_,Y⟩ (by rw[J];exact L) h
 refine wp_region_any W ?_;have G:=rO (P:=P) (n:=n) (g:=l.toArray.size-n) (Q':=Q) H (fun B F a' w' M T=>by
  have:=wpAny_of_seq (P:=P) (ops:=l.toArray) (md:=.any) (Q':=Q) (l.drop n) n B a' w' (fun j=>ag) (by rw[D];exact T.1) (T.2 w' M);rwa[D] at this) _ _ _ _ _ N (fun _ _=>rfl) H1
 rw[J] at G;have e:n+(l.toArray.size-n)=l.toArray.size:=by simp at hn⊢;omega
 rw[e] at G;exact G
section
variable {P:Program} {ops:Array Oper} {w0:World} {E:Nat->Bool} {Φ Pd Po:Nat->Nat->Nat->Value->World->Prop} {S:Nat->Option Nat} {Q:Book->Act->Prop}
theorem F6(m){l k F a}(B:∀j,j<m->l[j]? =ops[k+j]?)(O:(List.range m).all (fun j=>(!E (k+j)&&(S (k+j)).isNone)&&((ops[k+j]?).map fun o=>gM o.op).getD false)=true)(h:wpQuiet P ops (fun w'=>∃x:aK w0,w'=x.val) (fun a'=>uf P ops w0 E Φ Pd Po S Q (l.drop m) (k+m) F a') (l.take m) a):uf P ops w0 E Φ Pd Po S Q l k F a:=by
 induction m generalizing l k a with
 |zero=>simpa[wpQuiet] using h
 |succ m ih=>
  cases l with
  |nil=>simp[wpQuiet] at h;simpa[uf] using h
  |cons o r=>
   have M:ops[k]? =some o:=by simpa using(B 0 aa).symm
   have K:=List.all_eq_true.1 O;have H:=K 0 ag;simp only[Nat.add_zero,M,Option.map_some,Option.getD_some,Bool.and_eq_true,Bool.not_eq_true',Option.isNone_iff_eq_none] at H;have G:(List.range m).all (fun j=>(!E (k+1+j)&&(S (k+1+j)).isNone)&&((ops[k+1+j]?).map fun o=>gM o.op).getD false)=true:=by
    exact Abg
   have D:=fun a'=>ih (l:=r) (k:=k+1) (a:=a') (fun j U=>by have:=B (j+1) aa;simpa[Nat.add_assoc,Nat.add_comm 1 j] using this) G;simp only[List.take_succ_cons,List.drop_succ_cons,wpQuiet] at h;have I:k+(m+1)=k+1+m:=aa;rw[I] at h;unfold uf qJ;simp only[M];by_cases Y:Region.wanted o (yielded ops a.tmps)=true
   .simp only[Y,if_true] at h⊢;simp only[H.1.1,Bool.false_eq_true,if_false];obtain⟨v,T,N⟩:=h;refine⟨H.2,H.1.2,v,fun w J=> ?_,D _ N⟩;have L:=T w ⟨⟨w,J⟩,rfl⟩;unfold Oper.quietAt at*
    generalize R:(execOp a.eval o).run P w=C at*
    cases C with
    |ok nx w'=>
     cases nx<;>simp only[Oper.quietUpon] at L⊢
     case value u=>exact L
     case skip=>exact L
     case enter f args=>exact(jN H.2 R).elim
    |halt x w'=>simp only[Oper.quietUpon] at L
   .simp only[Y] at h⊢;exact D _ h
def rD(m){l k F a}(B:l.take m=(ops.toList.drop k).take m)(G:(List.range m).all (fun j=>(!E (k+j)&&(S (k+j)).isNone)&&((ops[k+j]?).map fun o=>gM o.op).getD false)=true)(h:wpQuiet P ops (fun w'=>∃x:aK w0,w'=x.val) (fun a'=>uf P ops w0 E Φ Pd Po S Q (l.drop m) (k+m) F a') (l.take m) a):uf P ops w0 E Φ Pd Po S Q l k F a:=
 F6 m (fun j D=>by
  have C:(l.take m)[j]? =((ops.toList.drop k).take m)[j]? :=by rw[B]
  rw[List.getElem?_take_of_lt D,List.getElem?_take_of_lt D,List.getElem?_drop] at C;simpa using C) G h
theorem mP{l o k F a}(G:ops[k]? =some o)(Y:Region.wanted o (yielded ops a.tmps)=true)(H:E k=true)(hS:S k=Option.none)(J:∀w,Ext w0 w->(∀i e,F i=some e->anc ops ops.size k i=true->Φ i e.2.1 e.2.2 e.1 w)->mr P (fun lo hi v w'=>Pd k lo hi v w'/\Φ k lo hi v w') w ((execOp a.eval o).run P w))(D:∀v lo hi,(∃w,dO w0 Φ (F.set k (v,lo,hi)) w)->uf P ops w0 E Φ Pd Po S Q l (k+1) (F.set k (v,lo,hi)) (a.put o.dst v)):uf P ops w0 E Φ Pd Po S Q (o::l) k F a:=by
 unfold uf qJ;simp only[G,Y,H,if_true];refine⟨fun j C=>(by rw[hS] at C;cases C),fun w I=> ?_,D⟩;have B:=J w I.1 I.2.1;generalize (execOp a.eval o).run P w=r at*
 cases r with
 |ok nx w'=>
  cases nx<;>simp only[mr,rq,Ia] at B⊢
  case value v=>exact⟨fun _=>⟨B.1,B.2.1⟩,fun j e C=>(by rw[hS] at C;cases C),B.2.2⟩
  case enter f args=>exact⟨B.1,hS,B.2⟩
 |halt x w'=>simp only[mr] at B
theorem H9{l o k j F a}{e:Value×Nat×Nat}(G:ops[k]? =some o)(Y:Region.wanted o (yielded ops a.tmps)=true)(J:E k=true)(hS:S k=some j)(hF:F j=some e)(C:e.2.1<e.2.2)(hd:o.dst=none)(L:∀lo hi v w',Φ k lo hi v w')(M:∀w,Pd j e.2.1 e.2.2 e.1 w->∃w',(execOp a.eval o).run P w=.ok .skip w'/\Sto e.2.1 w w'/\Po j e.2.1 e.2.2 e.1 w')(D:∀x,uf P ops w0 E Φ Pd Po S Q l (k+1) (F.set k x) a):uf P ops w0 E Φ Pd Po S Q (o::l) k F a:=by
 unfold uf qJ;simp only[G,Y,J,if_true];refine⟨fun H B=>(by rw[hS] at B;cases B;exact⟨e,hF,C⟩),fun w I=> ?_,fun v lo hi _=>(by rw[hd];exact D (v,lo,hi))⟩;obtain⟨w',K,hs,hp⟩:=M w (I.2.2 j e hS hF);rw[K];simp only[rq,Ia];exact⟨fun h=>(by rw[hS] at h;cases h),fun H N B O=>(by rw[hS] at B;cases B;rw[hF] at O;cases O;exact⟨hs,hp⟩),L _ _ _ _⟩
def Pz{k F a}(h:Q F a):uf P ops w0 E Φ Pd Po S Q [] k F a:=h
end
def PdG (al:List Nat):Nat->Nat->Nat->Value->World->Prop:=fun i lo hi _ w=>al.contains i=true->lo<hi/\Blk w lo 42 #[.bool false,.slice none 0 0,.bool false,.slice none 0 0,.bool false,.slice none 0 0]
def PoG (cs:Nat->En):Nat->Nat->Nat->Value->World->Prop:=fun i lo hi _ w=>lo<hi/\Blk w lo 42 #[.bool (cs i).s1,.slice (cs i).A1 (cs i).n1 (cs i).c1,.bool (cs i).s2,.slice (cs i).A2 (cs i).n2 (cs i).c2,.bool (cs i).s3,.slice (cs i).A3 (cs i).n3 (cs i).c3]
def SG:List (Nat×Nat)->Nat->Option Nat
 |[],_=>Option.none
 |p::r,k=>if p.1=k then some p.2 else SG r k
theorem DC:∀{l:List (Nat×Nat)} {k j:Nat},SG l k=some j->(k,j)∈l
 |[],_,_,h=>by cases h
 |p::r,k,j,h=>by
  unfold SG at h;split at h
  .rename_i e
   cases h
   subst e;exact List.mem_cons_self
  .exact List.mem_cons_of_mem _ (DC h)
def LX:List (Nat×NF)->Bool
 |[]=>true
 |p::r=>(match p.2 with| .box _ _=>false|_=>true)&&LX r
theorem zt:∀{l:List (Nat×NF)},LX l=true->∀i,(match zu l i with| .box _ _=>false|_=>true)=true
 |[],_,_=>rfl
 |p::r,h,i=>by
  unfold LX at h;rw[Bool.and_eq_true] at h;unfold zu;cases Nat.beq p.1 i with
  |true=>exact h.1
  |false=>exact zt h.2 i
def Vv (ops:Array Oper) (nf:List (Nat×NF)) (l:List (Nat×Nat)):Bool:=
 l.all fun p=>anc ops ops.size p.1 p.2&&l.all (fun q=>(p.1==q.1)|| !(p.2==q.2))&&l.all (fun q=> !(p.2==q.1))&& !(ug nf p.1)
theorem BP:∀{l:List (Nat×NF)} {i:Nat},ug l i=false->zu l i=.any
 |[],_,_=>rfl
 |p::r,i,h=>by
  unfold ug at h;rw[Bool.or_eq_false_iff] at h;unfold zu;rw[h.1];exact BP h.2
theorem Late.of{ops w0}(nf l al cs)(I:LX nf=true)(G:Vv ops nf l=true):Late ops w0 (NFs nf) (PdG al) (PoG cs) (SG l):=by
 have Z:∀k j,SG l k=some j->(anc ops ops.size k j=true/\(∀q∈l,k=q.1\/j≠q.2))/\(∀q∈l,j≠q.1)/\ug nf k=false:=fun k j hs=>by
  have:=List.all_eq_true.1 G _ (DC hs);simp only[Bool.and_eq_true,List.all_eq_true,Bool.or_eq_true,beq_iff_eq,Bool.not_eq_true',beq_eq_false_iff_ne] at this;exact⟨⟨this.1.1.1,this.1.1.2⟩,this.1.2,this.2⟩
 refine⟨fun i lo hi v w w' h x=>NF.GM _ h x,fun i lo hi v g w w' h x=> ?_,fun i lo hi v w w' h x hc=>⟨(h hc).1,(h hc).2.ext x⟩,fun i lo hi v g w w' h x C hc=>⟨(h hc).1,x.blk (h hc).2 (show lo≠g by have:=(h hc).1;omega)⟩,fun i lo hi v w w' h x=>⟨h.1,h.2.ext x⟩,fun i lo hi v g w w' h x C=>⟨h.1,x.blk h.2 (show lo≠g by have:=h.1;omega)⟩,fun k j hs=>(Z k j hs).1.1,fun k J j hs B=> ?_,fun k j hs=> ?_,fun k j lo hi v w hs=> ?_⟩
 .have hb:=zt I i;unfold NFs at h⊢;cases hn:zu nf i with
  |any=>trivial
  |gv q n=>rw[hn] at h;obtain⟨e,D,H⟩:=h;exact⟨e,D,x.gv H⟩
  |box t cs=>rw[hn] at hb;cases hb
  |eq u=>rw[hn] at h;exact h
  |pt=>rw[hn] at h;exact h
 .rcases(Z k j hs).1.2 _ (DC B) with e|e
  .exact e
  .exact absurd rfl e
 .cases F:SG l j with
  |none=>rfl
  |some m=>exact absurd rfl ((Z k j hs).2.1 _ (DC F))
 .unfold NFs;rw[BP (Z k j hs).2.2];trivial
def zO(g):∀(B:List Value) (i:Nat) (w:World) (k:Nat),k≠g->(puts w g i B).heap[k]? =w.heap[k]?
 |[],_,_,_,_=>rfl
 |v::r,i,w,k,hne=>(zO g r (i+1) (w.setCell ⟨g,i,none⟩ v) k hne).trans (Below.heap_setCell w ⟨g,i,none⟩ v k (fun e=>hne (by rw[e])))
def CP(g):∀(B:List Value) (i:Nat) (w:World),(puts w g i B).heap.size=w.heap.size
 |[],_,_=>rfl
 |v::r,i,w=>(CP g r (i+1) (w.setCell ⟨g,i,none⟩ v)).trans Abj
theorem Uh{ev:Operand->Value}{o:Oper}{x y:Operand}{g w}(e:En)(B:o.op=.store 42 x y)(J:ev x=.pointer (some ⟨g,0,none⟩))(R:ev y=e.v)(hb:Blk w g 42 #[.bool false,.slice none 0 0,.bool false,.slice none 0 0,.bool false,.slice none 0 0]):∃w',(execOp ev o).run Tryz.prog w=.ok .skip w'/\Sto g w w'/\Blk w' g 42 #[.bool e.s1,.slice e.A1 e.n1 e.c1,.bool e.s2,.slice e.A2 e.n2 e.c2,.bool e.s3,.slice e.A3 e.n3 e.c3]:=by
 have D:=run_storeAt_mid (P:=Tryz.prog) w g 0 42 e.cells.toArray (hb.there (o:=0) (n:=6) ag) bL (all_oneCell_toArray (dZ e));have N:(Instr.storeAt 42 (.pointer (some ⟨g,0,none⟩)) e.v).run Tryz.prog w=.ok () (w.setCells g 0 e.cells):=D;refine⟨w.setCells g 0 e.cells,?_,?_,?_⟩
 .unfold execOp;simp only[B,J,R];simp only[Sem.run_bind,Sem.run_pure,N,Result.andThen_ok]
 .rw[mE];have j:=fK w g 0 e.cells;have hn:kz #[.bool false,.slice none 0 0,.bool false,.slice none 0 0,.bool false,.slice none 0 0]=true:=rfl;exact⟨j.os,j.tape,j.output,CP g _ _ _,fun i l=>zO g _ _ _ i l,⟨_,_,hb,hn⟩⟩
 .rw[mE];have C:Blk (puts w g 0 e.cells) g 42 (fD #[.bool false,.slice none 0 0,.bool false,.slice none 0 0,.bool false,.slice none 0 0] 0 e.cells):=bY 0 e.cells hb;exact C
def NJ{ev:Operand->Value}{o}{x y:Operand}{j lo hi v w cs}(B:o.op=.store 42 x y)(J:ev x=.pointer (some ⟨lo,0,none⟩))(R:ev y=(cs j).v)(l:lo<hi/\Blk w lo 42 #[.bool false,.slice none 0 0,.bool false,.slice none 0 0,.bool false,.slice none 0 0]):∃w',(execOp ev o).run Tryz.prog w=.ok .skip w'/\Sto lo w w'/\PoG cs j lo hi v w':=by
 obtain⟨w',C,D,F⟩:=Uh (cs j) B J R l.2;exact⟨w',C,D,l.1,F⟩
section
variable {W W':World} {G m n:Nat} {P:Nat->Prop} {R:Nat->Rw} {X:Nat->Nat->GQ}
def MxI.hd(h:MxI W G m n P R X){i}(hi:i<m)(hn:0<n):W.cell? ⟨G,i,none⟩=some (.slice (some ⟨(R i).b,0,none⟩) n n):=by
 rw[h.o.cell,iI hi,h.v hi hn]
def MxI.rb(h:MxI W G m n P R X){i}(hi:i<m)(hn:0<n):(R i).b<W.heap.size:=by
 obtain⟨f,hb,_⟩:=(h.row i hi hn).2;exact hb.lt
def MxI.put(h:MxI W G m n P R X){i j}(hi:i<m)(D:j<n){e:En}{q}(O:GV W e.v q 12800):
  MxI (puts W (R i).b (j*6) e.cells) G m n P R (upd X i (upd (X i) j q))/\Mod (fun k=>k=(R i).b) W (puts W (R i).b (j*6) e.cells)/\Far (fun k=>k=(R i).b) W/\W.there (R i).b (j*6) 6:=by
 have hn:0<n:=aa;obtain⟨f,hb,J⟩:=(h.row i hi hn).2;have hp:=dm.put hb J D O;have B:=(h.row i hi hn).2.far;refine⟨h.Rm hp.2 B (fun e=> ?_) (fun k C l _ e=>l (h.inj k i C hi hn e)) (fun _=>hp.1),hp.2,B,hb.there (by simp[aW];omega)⟩;exact h.o.fO hb aj e
end
structure BrV where
 a:Nat
 b:Nat
 z0:En
 z1:En
 e:En
def BrV.z (b:BrV) (sq:Nat):En:=if sq=0 then b.z0 else b.z1
def BrV.cs (b:BrV):List Value:=[.int .i64 (b.a:Int),.int .i64 (b.b:Int),.bool b.z0.s1,.slice b.z0.A1 b.z0.n1 b.z0.c1,.bool b.z0.s2,.slice b.z0.A2 b.z0.n2 b.z0.c2,.bool b.z0.s3,.slice b.z0.A3 b.z0.n3 b.z0.c3,.bool b.z1.s1,.slice b.z1.A1 b.z1.n1 b.z1.c1,.bool b.z1.s2,.slice b.z1.A2 b.z1.n2 b.z1.c2,.bool b.z1.s3,.slice b.z1.A3 b.z1.n3 b.z1.c3,.bool b.e.s1,.slice b.e.A1 b.e.n1 b.e.c1,.bool b.e.s2,.slice b.e.A2 b.e.n2 b.e.c2,.bool b.e.s3,.slice b.e.A3 b.e.n3 b.e.c3]
theorem BrV.zat(b:BrV){sq}(h:sq<=1){t v}(hv:(b.z sq).cells[t]? =some v):b.cs[2+sq*6+t]? =some v:=by
 have j:t<6:=(List.getElem?_eq_some_iff.1 hv).1;have l:sq=0\/sq=1:=aa;rcases l with rfl|rfl
 .unfold BrV.z at hv;rw[if_pos rfl] at hv
  match t,j with
  |0,_=>exact hv
  |1,_=>exact hv
  |2,_=>exact hv
  |3,_=>exact hv
  |4,_=>exact hv
  |5,_=>exact hv
 .unfold BrV.z at hv;rw[if_neg aa] at hv
  match t,j with
  |0,_=>exact hv
  |1,_=>exact hv
  |2,_=>exact hv
  |3,_=>exact hv
  |4,_=>exact hv
  |5,_=>exact hv
structure StI (w W:World) (gf Ga Gb n:Nat) (Pa Pb:Nat->Prop) (Ra Rb:Nat->Rw) (X Y:Nat->Nat->GQ) (gy q1 q2:Nat) (ey:En) (y:GQ) (Ny:Nat) (em:GQ) (Ne:Nat) (rwf:Nat->Nat) (bv:BrV):Prop where
 a:MxI W Ga n n Pa Ra X
 b:MxI W Gb n 1 Pb Rb Y
 c:bT W gf
 y:GV W ey.v y Ny
 by_:Blk W gy 42 #[.bool ey.s1,.slice ey.A1 ey.n1 ey.c1,.bool ey.s2,.slice ey.A2 ey.n2 ey.c2,.bool ey.s3,.slice ey.A3 ey.n3 ey.c3]
 r1:eZ W q1 222 18 (fun k=> .int .i64 (rwf k:Int))
 r2:Blk W q2 167 bv.cs.toArray
 em:GV W bv.e.v em Ne
 mod:Mod (fun k=>Pa k\/Pb k) w W
 hp:∀k,Pa k\/Pb k->k≠gf/\k≠Ga/\k≠Gb
 dj:∀k,Pa k->¬Pb k
 la:∀i,i<n->(Ra i).b<w.heap.size
 lb:∀i,i<n->(Rb i).b<w.heap.size
 lg:w.heap.size<=gy/\w.heap.size<=q1/\w.heap.size<=q2
section
variable {w W W':World} {gf Ga Gb n:Nat} {Pa Pb:Nat->Prop} {Ra Rb:Nat->Rw} {X Y:Nat->Nat->GQ} {gy q1 q2:Nat} {ey:En} {y:GQ} {Ny:Nat} {em:GQ} {Ne:Nat} {rwf:Nat->Nat} {b:BrV}
def StI.ext(h:StI w W gf Ga Gb n Pa Pb Ra Rb X Y gy q1 q2 ey y Ny em Ne rwf b)(x:Ext W W'):StI w W' gf Ga Gb n Pa Pb Ra Rb X Y gy q1 q2 ey y Ny em Ne rwf b:=
 ⟨h.a.ext x,h.b.ext x,h.c.ext x,h.y.ext x,h.by_.ext x,h.r1.ext x,h.r2.ext x,h.em.ext x,h.mod.trans (Mod.of x),h.hp,h.dj,h.la,h.lb,h.lg⟩
def StI.QX(h:StI w W gf Ga Gb n Pa Pb Ra Rb X Y gy q1 q2 ey y Ny em Ne rwf b){i j}(hi:i<n)(F:j<n){e:En}{q}(O:GV W e.v q 12800):
  StI w (puts W (Ra i).b (j*6) e.cells) gf Ga Gb n Pa Pb Ra Rb (upd X i (upd (X i) j q)) Y gy q1 q2 ey y Ny em Ne rwf b/\W.there (Ra i).b (j*6) 6:=by
 obtain⟨J,l,G,I⟩:=h.a.put hi F O;have B:=h.a.mem i hi aa;have Z:=h.la i hi;have H:=h.lg;have C (k:Nat) (K:w.heap.size<=k):¬(fun k=>k=(Ra i).b) k:=fun e=>by have e:k=(Ra i).b:=e;omega
 have D:=h.hp _ (Or.inl B);refine⟨⟨J,h.b.mod l G (fun e=>D.2.2 e.symm) (fun j F _ e=>h.dj _ B (by have e:(Rb j).b=(Ra i).b:=e;rw[<-e];exact h.b.mem j F aa)),Blk.mod h.c l (fun e=>D.1 e.symm),h.y.mod l G,h.by_.mod l (C _ H.1),h.r1.mod l (C _ H.2.1),h.r2.mod l (C _ H.2.2),h.em.mod l G,h.mod.trans (l.mono (fun k e=>by rw[show k=(Ra i).b from e];exact Or.inl B)),h.hp,h.dj,h.la,h.lb,h.lg⟩,I⟩
def StI.Wd(h:StI w W gf Ga Gb n Pa Pb Ra Rb X Y gy q1 q2 ey y Ny em Ne rwf b){i}(hi:i<n){e:En}{q}(O:GV W e.v q 12800):
  StI w (puts W (Rb i).b 0 e.cells) gf Ga Gb n Pa Pb Ra Rb X (upd Y i (upd (Y i) 0 q)) gy q1 q2 ey y Ny em Ne rwf b/\W.there (Rb i).b 0 6:=by
 obtain⟨I,l,F,H⟩:=h.b.put hi (show 0<1 by omega) O;rw[Nat.zero_mul] at I l H;have C:=h.b.mem i hi aa;have Z:=h.lb i hi;have G:=h.lg;have B (k:Nat) (K:w.heap.size<=k):¬(fun k=>k=(Rb i).b) k:=fun e=>by have e:k=(Rb i).b:=e;omega
 have D:=h.hp _ (Or.inr C);refine⟨⟨h.a.mod l F (fun e=>D.2.1 e.symm) (fun j J _ e=>h.dj _ (h.a.mem j J aa) (by have e:(Ra j).b=(Rb i).b:=e;rw[e];exact C)),I,Blk.mod h.c l (fun e=>D.1 e.symm),h.y.mod l F,h.by_.mod l (B _ G.1),h.r1.mod l (B _ G.2.1),h.r2.mod l (B _ G.2.2),h.em.mod l F,h.mod.trans (l.mono (fun k e=>by rw[show k=(Rb i).b from e];exact Or.inr C)),h.hp,h.dj,h.la,h.lb,h.lg⟩,H⟩
def MxI.en(h:MxI W Ga n n Pa Ra X){i j}(hi:i<n)(B:j<n):∃e:En,GV W e.v (X i j) 12800/\∀t u,e.cells[t]? =some u->W.cell? ⟨(Ra i).b,j*6+t,none⟩=some u:=by
 obtain⟨f,hb,J⟩:=(h.row i hi aa).2;refine⟨f j,J j B,fun t u l=> ?_⟩;have C:t<6:=(List.getElem?_eq_some_iff.1 l).1;rw[hb.cell,List.getElem?_toArray,dM C B];exact l
def MxI.en1(h:MxI W Gb n 1 Pb Rb Y){i}(hi:i<n):∃e:En,GV W e.v (Y i 0) 12800/\∀t u,e.cells[t]? =some u->W.cell? ⟨(Rb i).b,t,none⟩=some u:=by
 obtain⟨f,hb,J⟩:=(h.row i hi aa).2;exact AaU
end
theorem Ur{n}(X){i k}(y):∀p q,p<n->q<n->upd X i (upd (X i) i (X i i+y)) p q=stm X ⟨i,k,true,y⟩ p q:=by
 intro p q _ _;show _=X p q+jo i i y p q;unfold jo;by_cases hp:p=i
 .subst hp;rw[upd_same];by_cases hq:q=p
  .subst hq;rw[upd_same,if_pos ⟨rfl,rfl⟩]
  .rw[upd_ne hq,if_neg (fun e=>hq e.2),GQ.add_zero']
 .rw[upd_ne hp,if_neg (fun e=>hp e.1),GQ.add_zero']
theorem Sm{n}(X){i j}(L:i≠j)(y):∀p q,p<n->q<n->
  (fun X=>upd X j (upd (X j) i (X j i-y))) ((fun X=>upd X i (upd (X i) j (X i j-y))) ((fun X=>upd X j (upd (X j) j (X j j+y))) (upd X i (upd (X i) i (X i i+y))))) p q=stm X ⟨i,j,false,y⟩ p q:=by
 intro p q _ _;show _=X p q+jo i i y p q+jo j j y p q+jo i j (-y) p q+jo j i (-y) p q;unfold jo upd;by_cases p1:p=i<;>by_cases p2:p=j<;>by_cases r1:q=i<;>by_cases r2:q=j<;>simp only[p1,p2,r1,r2,L,Ne.symm L,if_true,if_false,and_self,and_true,true_and,and_false,false_and]
 (all_goals (try omega));all_goals (ext<;>simp only[GQ.bQ,GQ.bN,GQ.dI,GQ.dJ,GQ.ky,GQ.ku,GQ.dE,GQ.dB]<;>grind)
def Sd(gx gf Ga Gb n sq Na Ny Nz Nb Ne:Nat)(Pa Pb:Nat->Prop)(Ra Rb:Nat->Rw)(X Y:Nat->Nat->GQ)(rwf:Nat->Nat)(b:BrV)(z em:GQ)(w:World)(hc:bT w gf)(ha:MxI w Ga n n Pa Ra X)(hb:MxI w Gb n 1 Pb Rb Y)(hP:∀k,Pa k\/Pb k->k≠gf/\k≠Ga/\k≠Gb)(hd:∀k,Pa k->¬Pb k)(Xw:sq<=1)(hz:GV w (b.z sq).v z Nz)(WC:z≠GQ.i 0 0)(O:GV w b.e.v em Ne)(WI:b.a<17)(Q:rwf b.a<n)(WA:b.b=17\/b.b<17/\rwf b.b<n/\rwf b.a≠rwf b.b)(by_:Bd (GQ.i 1 0/z) Ny)(bx:∀i j,i<n->j<n->Bd (X i j) Na)(bb:∀i,i<n->Bd (Y i 0) Nb)(n1:64+Nz+1<=12800)(n2:Nz+Nz+1<=12800)(n3:2*max Na Ny+65<=12800)(n4:2*max Ny Ne+1<=12800)(n5:2*max Nb (Ny+Ne+1)+65<=12800):
  Calls Tryz.prog 158 #[.pointer (some ⟨gx,0,none⟩),.pointer (some ⟨gf,0,none⟩),.slice (some ⟨Ga,0,none⟩) n n,.slice (some ⟨Gb,0,none⟩) n n,.agg (ofC 18 (fun k=> .int .i64 (rwf k:Int))),.agg #[.int .i64 (b.a:Int),.int .i64 (b.b:Int),.bool b.z0.s1,.slice b.z0.A1 b.z0.n1 b.z0.c1,.bool b.z0.s2,.slice b.z0.A2 b.z0.n2 b.z0.c2,.bool b.z0.s3,.slice b.z0.A3 b.z0.n3 b.z0.c3,.bool b.z1.s1,.slice b.z1.A1 b.z1.n1 b.z1.c1,.bool b.z1.s2,.slice b.z1.A2 b.z1.n2 b.z1.c2,.bool b.z1.s3,.slice b.z1.A3 b.z1.n3 b.z1.c3,.bool b.e.s1,.slice b.e.A1 b.e.n1 b.e.c1,.bool b.e.s2,.slice b.e.A2 b.e.n2 b.e.c2,.bool b.e.s3,.slice b.e.A3 b.e.n3 b.e.c3],.int .i64 (sq:Int)] w fun e w'=>e=.returned (.tuple #[])/\
   MxI w' Ga n n Pa Ra (stm X ⟨rwf b.a,rwf b.b,decide (b.b=17),GQ.i 1 0/z⟩)/\MxI w' Gb n 1 Pb Rb (fun i j=>if b.b=17/\i=rwf b.a then Y i j+GQ.i 1 0/z*em else Y i j)/\Mod (fun k=>Pa k\/Pb k) w w':=by
 have Wz:0<n:=aa;have x2:Ext w ((w.alloc (.cells (ofC 18 (fun k=> .int .i64 (rwf k:Int))) 222)).alloc (.cells #[.int .i64 (b.a:Int),.int .i64 (b.b:Int),.bool b.z0.s1,.slice b.z0.A1 b.z0.n1 b.z0.c1,.bool b.z0.s2,.slice b.z0.A2 b.z0.n2 b.z0.c2,.bool b.z0.s3,.slice b.z0.A3 b.z0.n3 b.z0.c3,.bool b.z1.s1,.slice b.z1.A1 b.z1.n1 b.z1.c1,.bool b.z1.s2,.slice b.z1.A2 b.z1.n2 b.z1.c2,.bool b.z1.s3,.slice b.z1.A3 b.z1.n3 b.z1.c3,.bool b.e.s1,.slice b.e.A1 b.e.n1 b.e.c1,.bool b.e.s2,.slice b.e.A2 b.e.n2 b.e.c2,.bool b.e.s3,.slice b.e.A3 b.e.n3 b.e.c3] 167)):=(Ext.new _ _).alloc _;have b1:eZ ((w.alloc (.cells (ofC 18 (fun k=> .int .i64 (rwf k:Int))) 222)).alloc (.cells #[.int .i64 (b.a:Int),.int .i64 (b.b:Int),.bool b.z0.s1,.slice b.z0.A1 b.z0.n1 b.z0.c1,.bool b.z0.s2,.slice b.z0.A2 b.z0.n2 b.z0.c2,.bool b.z0.s3,.slice b.z0.A3 b.z0.n3 b.z0.c3,.bool b.z1.s1,.slice b.z1.A1 b.z1.n1 b.z1.c1,.bool b.z1.s2,.slice b.z1.A2 b.z1.n2 b.z1.c2,.bool b.z1.s3,.slice b.z1.A3 b.z1.n3 b.z1.c3,.bool b.e.s1,.slice b.e.A1 b.e.n1 b.e.c1,.bool b.e.s2,.slice b.e.A2 b.e.n2 b.e.c2,.bool b.e.s3,.slice b.e.A3 b.e.n3 b.e.c3] 167)) w.heap.size 222 18 (fun k=> .int .i64 (rwf k:Int)):=(Blk.new _ _ _).alloc _;have b2:Blk ((w.alloc (.cells (ofC 18 (fun k=> .int .i64 (rwf k:Int))) 222)).alloc (.cells #[.int .i64 (b.a:Int),.int .i64 (b.b:Int),.bool b.z0.s1,.slice b.z0.A1 b.z0.n1 b.z0.c1,.bool b.z0.s2,.slice b.z0.A2 b.z0.n2 b.z0.c2,.bool b.z0.s3,.slice b.z0.A3 b.z0.n3 b.z0.c3,.bool b.z1.s1,.slice b.z1.A1 b.z1.n1 b.z1.c1,.bool b.z1.s2,.slice b.z1.A2 b.z1.n2 b.z1.c2,.bool b.z1.s3,.slice b.z1.A3 b.z1.n3 b.z1.c3,.bool b.e.s1,.slice b.e.A1 b.e.n1 b.e.c1,.bool b.e.s2,.slice b.e.A2 b.e.n2 b.e.c2,.bool b.e.s3,.slice b.e.A3 b.e.n3 b.e.c3] 167)) (w.heap.size+1) 167 b.cs.toArray:=Blk.new' _ _ ag;have HX:=aJ x2;have WE:=aJ b1;have WF:=aJ b2;have HA:=aJ (ha.ext x2);have HB:=aJ (hb.ext x2);have HC:=aJ (hc.ext x2);have L:=aJ (hz.ext x2);have Ww:=aJ (O.ext x2);have U:Hid (∀k,Pa k\/Pb k->k≠gf/\k≠Ga/\k≠Gb):=aJ hP;have HD:=aJ hd;have WH:=aJ WC;have WN:=aJ by_;have WB:=aJ bx;have WM:=aJ bb;have Ws:=aJ WA;have XR:=aJ Xw;have WY:Hid (∀i,i<n->(Ra i).b<w.heap.size):=aJ fun i hi=>ha.rb hi Wz;have Wx:Hid (∀i,i<n->(Rb i).b<w.heap.size):=aJ fun i hi=>hb.rb hi aa;clear x2 b1 b2 ha hb hc hz O hP hd WC by_ bx bb WA;go_enter Tryz.func158,Tryz.ntmps158;(go_wp2_with fail);have T:Hid (∀t v,(b.z sq).cells[t]? =some v->((w.alloc (.cells (ofC 18 (fun k=> .int .i64 (rwf k:Int))) 222)).alloc (.cells #[.int .i64 (b.a:Int),.int .i64 (b.b:Int),.bool b.z0.s1,.slice b.z0.A1 b.z0.n1 b.z0.c1,.bool b.z0.s2,.slice b.z0.A2 b.z0.n2 b.z0.c2,.bool b.z0.s3,.slice b.z0.A3 b.z0.n3 b.z0.c3,.bool b.z1.s1,.slice b.z1.A1 b.z1.n1 b.z1.c1,.bool b.z1.s2,.slice b.z1.A2 b.z1.n2 b.z1.c2,.bool b.z1.s3,.slice b.z1.A3 b.z1.n3 b.z1.c3,.bool b.e.s1,.slice b.e.A1 b.e.n1 b.e.c1,.bool b.e.s2,.slice b.e.A2 b.e.n2 b.e.c2,.bool b.e.s3,.slice b.e.A3 b.e.n3 b.e.c3] 167)).cell? ⟨w.heap.size+1,2+sq*6+t,none⟩=some v):=aJ fun t v hv=>(WF.cell _).trans (by
  have:=b.zat XR.o hv;simpa using this)
 generalize ((w.alloc (.cells (ofC 18 (fun k=> .int .i64 (rwf k:Int))) 222)).alloc (.cells #[.int .i64 (b.a:Int),.int .i64 (b.b:Int),.bool b.z0.s1,.slice b.z0.A1 b.z0.n1 b.z0.c1,.bool b.z0.s2,.slice b.z0.A2 b.z0.n2 b.z0.c2,.bool b.z0.s3,.slice b.z0.A3 b.z0.n3 b.z0.c3,.bool b.z1.s1,.slice b.z1.A1 b.z1.n1 b.z1.c1,.bool b.z1.s2,.slice b.z1.A2 b.z1.n2 b.z1.c2,.bool b.z1.s3,.slice b.z1.A3 b.z1.n3 b.z1.c3,.bool b.e.s1,.slice b.e.A1 b.e.n1 b.e.c1,.bool b.e.s2,.slice b.e.A2 b.e.n2 b.e.c2,.bool b.e.s3,.slice b.e.A3 b.e.n3 b.e.c3] 167))=w5 at HX WE WF HA HB HC L Ww T⊢;generalize Xi:w.heap.size+1=q2 at WF T⊢;generalize G:w.heap.size=q1 at WE⊢;have WQ:Hid (w.heap.size<=q1/\w.heap.size<=q2):=aJ ⟨aa,aa⟩;clear G Xi;generalize b.z sq=zE at L T;have Wy:w.heap.size<=w5.heap.size:=HX.size;have W:=aK.cell (show w5.cell? ⟨q2,2+sq*6,none⟩=some (.bool zE.s1) from T.o 0 _ rfl);have E1:=aK.cell (T.o 1 _ rfl);have E2:=aK.cell (T.o 2 _ rfl);have E3:=aK.cell (T.o 3 _ rfl);have E4:=aK.cell (T.o 4 _ rfl);have E5:=aK.cell (T.o 5 _ rfl);refine tN 9 [(2,.gv (GQ.i 1 0) (64)),(7,.gv ((GQ.i 1 0)/z) (Ny)),(8,.box 42 #[.bool false,.slice none 0 0,.bool false,.slice none 0 0,.bool false,.slice none 0 0])] ?_;refine Qs ?_;refine Ee (fun R I=>dz gf 1 _ (HC.ext I.1) aa aa) ?_;intro WR Xm Zk;refine Qs ?_;refine Ee (fun R I=>ze gf WR.v zE.v (GQ.i 1 0) z (64) (Nz) _ (HC.ext I.1) (NF.ng (I.f 2 (WR.v,Xm,Zk))) (L.ext I.1) WH.o (Ny) aa aa WN.o aa) ?_;intro K YH Yv;refine Eb ?_;intro WU XB Xe;refine bE ?_;intro w6 I;have F:=I.ext;have Wp:=I.hV 2;have P:=I.hV 7;have S:=I.hB 8;have Wv:=aJ (I.lw 8);clear I Xe W E1 E2 E3 E4 E5;have N:=aJ (S.there (o:=0) (n:=6) ag);refine aT rfl 42 (.tmp 14) (.tmp 24) rfl WU 0 K.cells rf rf N.o bL (dZ K) ?_;intro w7 l;refine Qp ?_;obtain⟨F,WL,M,WZ⟩:=wV K F Wv.o S.o l;clear l N;replace Wp:=aJ (M _ _ _ Wp.o);replace P:=aJ (M _ _ _ P.o);replace S:=aJ WL;clear WL M WZ;replace HA:=HA.aA F;replace HB:=HB.aA F;replace HC:=HC.aA F;replace WE:=WE.aA F;replace WF:=WF.aA F;replace Ww:=Ww.aA F;replace L:=L.aA F;replace HX:=HX.aC F;clear F;have WP:Hid (w.heap.size<=w5.heap.size):=aJ Wy;clear Wy;have Wu:Hid (StI w w7 gf Ga Gb n Pa Pb Ra Rb (X) (Y) WU q1 q2 K (GQ.i 1 0/z) Ny em Ne rwf b):=aJ ⟨HA.o,HB.o,HC.o,P.o,S.o,WE.o,WF.o,Ww.o,Mod.of HX.o,U.o,HD.o,WY.o,Wx.o,Nat.le_trans WP.o Wv.o,WQ.o⟩;clear HA HB HC WE WF Ww U HD WY Wx WQ P S L Wp T Wv WP HX;have kq:w7.cell? ⟨q2,0,none⟩=some (.int .i64 (b.a:Int)):=(Blk.cell Wu.r2 0).trans rfl;have kr:=Wu.r1.cell (k:=b.a) aa;(go_wp2_with fail);clear kq kr;obtain⟨eA,M,C⟩:=Wu.a.en Q Q;have H:=M.to (show Bd (X (rwf b.a) (rwf b.a)) Na by exact WB.o _ _ Q Q);have W9:=aJ H;clear H M;have K0:=aK.cell (show _=some (Value.bool eA.s1) from C 0 _ rfl);rw[Nat.add_zero] at K0;have K1:=aK.cell (C 1 _ rfl);have V:=aK.cell (C 2 _ rfl);have K3:=aK.cell (C 3 _ rfl);have K4:=aK.cell (C 4 _ rfl);have K5:=aK.cell (C 5 _ rfl);have KH:=aK.cell (Wu.a.hd Q Wz);have KY:=aK.blk Wu.by_;clear C;refine tN 16 [(14,.gv (X (rwf b.a) (rwf b.a)+GQ.i 1 0/z) (Na+Ny+65))] ?_;refine Qs ?_;refine Ee (fun R I=>yO gf eA.v K.v (X (rwf b.a) (rwf b.a)) (GQ.i 1 0/z) Na Ny _ (Wu.c.ext I.1) (W9.ext I.1) (Wu.y.ext I.1) aa) ?_;intro eN Wt Xh;refine Qs ?_;refine bE ?_;intro w8 I;have F:=I.ext;have J:=aJ (NF.ng (I.at_ 14 (e:=(eN.v,Wt,Xh)) rf));have D:=(Wu.ext F).QX Q Q (J.up (show Na+Ny+65<=12800 by omega));clear I F K0 K1 V K3 K4 K5 KH KY W9 J;have N:=aJ D.2;replace Wu:=aJ D.1;clear D;refine aT rfl 42 (.tmp 44) (.tmp 43) rfl (Ra ((rwf b.a))).b (((rwf b.a))*6) eN.cells rf rf N.o bL (dZ eN) ?_;intro w9 l;refine Qp ?_;replace Wu:Hid (StI w w9 gf Ga Gb n Pa Pb Ra Rb (upd X (rwf b.a) (upd (X (rwf b.a)) (rwf b.a) (X (rwf b.a) (rwf b.a)+GQ.i 1 0/z))) (Y) WU q1 q2 K (GQ.i 1 0/z) Ny em Ne rwf b):=aJ AbG;clear l N;rcases Ws.o with B|⟨Wo,hr,Wq⟩
 .have Xb:((b.b:Int)==17)=true:=by simp[B]
  have HH:=aJ B;clear B;have kq:w9.cell? ⟨q2,1,none⟩=some (.int .i64 (b.b:Int)):=(Blk.cell Wu.r2 1).trans rfl;(go_wp2_with fail);clear kq Xb;obtain⟨eA,M,C⟩:=Wu.b.en1 Q;have H:=M.to (WM.o _ Q);have W9:=aJ H;clear H M;have K0:=aK.cell (C 0 _ rfl);have K1:=aK.cell (C 1 _ rfl);have V:=aK.cell (C 2 _ rfl);have K3:=aK.cell (C 3 _ rfl);have K4:=aK.cell (C 4 _ rfl);have K5:=aK.cell (C 5 _ rfl);have KH:=aK.cell (Wu.b.hd Q aa);have KY:=aK.blk Wu.by_;clear C;have Z:∀t v,b.e.cells[t]? =some v->w9.cell? ⟨q2,14+t,none⟩=some v:=fun t v hv=>(Blk.cell Wu.r2 (14+t)).trans (by have ht:t<6:=(List.getElem?_eq_some_iff.1 hv).1;match t,ht with|0,_=>exact hv|1,_=>exact hv|2,_=>exact hv|3,_=>exact hv|4,_=>exact hv|5,_=>exact hv);have J0:=aK.cell (Z 0 _ rfl);have J1:=aK.cell (Z 1 _ rfl);have J2:=aK.cell (Z 2 _ rfl);have J3:=aK.cell (Z 3 _ rfl);have J4:=aK.cell (Z 4 _ rfl);have J5:=aK.cell (Z 5 _ rfl);clear Z;refine tN 18 [(15,.gv (GQ.i 1 0/z*em) (Ny+Ne+1)),(16,.gv (Y (rwf b.a) 0+GQ.i 1 0/z*em) (Nb+(Ny+Ne+1)+65))] ?_;refine Qs ?_;refine Ee (fun R I=>Km gf K.v b.e.v (GQ.i 1 0/z) em Ny Ne _ (Wu.c.ext I.1) (Wu.y.ext I.1) (Wu.em.ext I.1) aa) ?_;intro eM Wt Xh;refine Ee (fun R I=>yO gf eA.v eM.v (Y (rwf b.a) 0) (GQ.i 1 0/z*em) Nb (Ny+Ne+1) _ (Wu.c.ext I.1) (W9.ext I.1) (NF.ng (I.f 15 (eM.v,Wt,Xh))) aa) ?_;intro eN WK WO;refine Qs ?_;refine bE ?_;intro Xt I;have F:=I.ext;have J:=aJ (NF.ng (I.at_ 16 (e:=(eN.v,WK,WO)) rf));have D:=(Wu.ext F).Wd Q (J.up (show Nb+(Ny+Ne+1)+65<=12800 by omega));clear I F K0 K1 V K3 K4 K5 J0 J1 J2 J3 J4 J5 KH KY W9 J;have N:=aJ D.2;replace Wu:=aJ D.1;clear D;refine aT rfl 42 (.tmp 65) (.tmp 64) rfl (Rb (rwf b.a)).b 0 eN.cells rf rf N.o bL (dZ eN) ?_;intro Xo l;refine Qp ?_;replace Wu:=aJ (show StI w Xo gf Ga Gb n Pa Pb Ra Rb (upd X (rwf b.a) (upd (X (rwf b.a)) (rwf b.a) (X (rwf b.a) (rwf b.a)+GQ.i 1 0/z))) (upd Y (rwf b.a) (upd (Y (rwf b.a)) 0 (Y (rwf b.a) 0+GQ.i 1 0/z*em))) WU q1 q2 K (GQ.i 1 0/z) Ny em Ne rwf b from by rw[l];exact Wu.o);clear l N;(go_wp2_with fail);refine bodyPost_ret (v:=.tuple #[]) (results_none rfl _ _ _) rfl ⟨rfl,?_,?_,Wu.mod⟩
  .rw[show decide (b.b=17)=true from decide_eq_true HH.o];exact Wu.a.congr (fun i j hi hj=>Ur (n:=n) X _ i j hi hj)
  .refine Wu.b.congr (fun i j hi hj=> ?_);obtain rfl:j=0:=aa;by_cases WJ:i=rwf b.a
   .subst WJ;rw[upd_same,upd_same,if_pos ⟨HH.o,rfl⟩]
   .rw[upd_ne WJ,if_neg (fun e=>WJ e.2)]
 .have Xb:((b.b:Int)==17)=false:=ae;have Xc:=aJ Wo;clear Wo;have kq:w9.cell? ⟨q2,1,none⟩=some (.int .i64 (b.b:Int)):=(Blk.cell Wu.r2 1).trans rfl;have kr:=Wu.r1.cell (k:=b.b) (Nat.lt_of_lt_of_le Xc.o aa);have Ya:b.b<18:=Nat.lt_of_lt_of_le Xc.o aa;(go_wp2_with fail);clear kq Xb kr Ya;have WG:=aJ Wq;clear Wq;obtain⟨eA,M,C⟩:=Wu.a.en hr hr;have H:=M.to (show Bd ((upd X (rwf b.a) (upd (X (rwf b.a)) (rwf b.a) (X (rwf b.a) (rwf b.a)+GQ.i 1 0/z))) (rwf b.b) (rwf b.b)) Na by rw[upd_ne (WG.o.symm)];exact WB.o _ _ hr hr);have W9:=aJ H;clear H M;have K0:=aK.cell (show _=some (Value.bool eA.s1) from C 0 _ rfl);rw[Nat.add_zero] at K0;have K1:=aK.cell (C 1 _ rfl);have V:=aK.cell (C 2 _ rfl);have K3:=aK.cell (C 3 _ rfl);have K4:=aK.cell (C 4 _ rfl);have K5:=aK.cell (C 5 _ rfl);have KH:=aK.cell (Wu.a.hd hr Wz);have KY:=aK.blk Wu.by_;clear C;refine tN 16 [(14,.gv ((upd X (rwf b.a) (upd (X (rwf b.a)) (rwf b.a) (X (rwf b.a) (rwf b.a)+GQ.i 1 0/z))) (rwf b.b) (rwf b.b)+GQ.i 1 0/z) (Na+Ny+65))] ?_;refine Qs ?_;refine Ee (fun R I=>yO gf eA.v K.v ((upd X (rwf b.a) (upd (X (rwf b.a)) (rwf b.a) (X (rwf b.a) (rwf b.a)+GQ.i 1 0/z))) (rwf b.b) (rwf b.b)) (GQ.i 1 0/z) Na Ny _ (Wu.c.ext I.1) (W9.ext I.1) (Wu.y.ext I.1) aa) ?_;intro eN Wt Xh;refine Qs ?_;refine bE ?_;intro Xt I;have F:=I.ext;have J:=aJ (NF.ng (I.at_ 14 (e:=(eN.v,Wt,Xh)) rf));have D:=(Wu.ext F).QX hr hr (J.up (show Na+Ny+65<=12800 by omega));clear I F K0 K1 V K3 K4 K5 KH KY W9 J;have N:=aJ D.2;replace Wu:=aJ D.1;clear D;refine aT rfl 42 (.tmp 85) (.tmp 84) rfl (Ra ((rwf b.b))).b (((rwf b.b))*6) eN.cells rf rf N.o bL (dZ eN) ?_;intro Xo l;refine Qp ?_;replace Wu:Hid (StI w Xo gf Ga Gb n Pa Pb Ra Rb (upd (upd X (rwf b.a) (upd (X (rwf b.a)) (rwf b.a) (X (rwf b.a) (rwf b.a)+GQ.i 1 0/z))) (rwf b.b) (upd ((upd X (rwf b.a) (upd (X (rwf b.a)) (rwf b.a) (X (rwf b.a) (rwf b.a)+GQ.i 1 0/z))) (rwf b.b)) (rwf b.b) ((upd X (rwf b.a) (upd (X (rwf b.a)) (rwf b.a) (X (rwf b.a) (rwf b.a)+GQ.i 1 0/z))) (rwf b.b) (rwf b.b)+GQ.i 1 0/z))) (Y) WU q1 q2 K (GQ.i 1 0/z) Ny em Ne rwf b):=aJ AbG;clear l N;(go_wp2_with fail);obtain⟨eA,M,C⟩:=Wu.a.en Q hr;have H:=M.to (show Bd ((upd (upd X (rwf b.a) (upd (X (rwf b.a)) (rwf b.a) (X (rwf b.a) (rwf b.a)+GQ.i 1 0/z))) (rwf b.b) (upd ((upd X (rwf b.a) (upd (X (rwf b.a)) (rwf b.a) (X (rwf b.a) (rwf b.a)+GQ.i 1 0/z))) (rwf b.b)) (rwf b.b) ((upd X (rwf b.a) (upd (X (rwf b.a)) (rwf b.a) (X (rwf b.a) (rwf b.a)+GQ.i 1 0/z))) (rwf b.b) (rwf b.b)+GQ.i 1 0/z))) (rwf b.a) (rwf b.b)) Na by rw[upd_ne WG.o,upd_same,upd_ne (WG.o.symm)];exact WB.o _ _ Q hr);have W9:=aJ H;clear H M;have K0:=aK.cell (show _=some (Value.bool eA.s1) from C 0 _ rfl);rw[Nat.add_zero] at K0;have K1:=aK.cell (C 1 _ rfl);have V:=aK.cell (C 2 _ rfl);have K3:=aK.cell (C 3 _ rfl);have K4:=aK.cell (C 4 _ rfl);have K5:=aK.cell (C 5 _ rfl);have KH:=aK.cell (Wu.a.hd Q Wz);have KY:=aK.blk Wu.by_;clear C;refine tN 16 [(14,.gv ((upd (upd X (rwf b.a) (upd (X (rwf b.a)) (rwf b.a) (X (rwf b.a) (rwf b.a)+GQ.i 1 0/z))) (rwf b.b) (upd ((upd X (rwf b.a) (upd (X (rwf b.a)) (rwf b.a) (X (rwf b.a) (rwf b.a)+GQ.i 1 0/z))) (rwf b.b)) (rwf b.b) ((upd X (rwf b.a) (upd (X (rwf b.a)) (rwf b.a) (X (rwf b.a) (rwf b.a)+GQ.i 1 0/z))) (rwf b.b) (rwf b.b)+GQ.i 1 0/z))) (rwf b.a) (rwf b.b)-GQ.i 1 0/z) (Na+Ny+65))] ?_;refine Qs ?_;refine Ee (fun R I=>vF gf eA.v K.v ((upd (upd X (rwf b.a) (upd (X (rwf b.a)) (rwf b.a) (X (rwf b.a) (rwf b.a)+GQ.i 1 0/z))) (rwf b.b) (upd ((upd X (rwf b.a) (upd (X (rwf b.a)) (rwf b.a) (X (rwf b.a) (rwf b.a)+GQ.i 1 0/z))) (rwf b.b)) (rwf b.b) ((upd X (rwf b.a) (upd (X (rwf b.a)) (rwf b.a) (X (rwf b.a) (rwf b.a)+GQ.i 1 0/z))) (rwf b.b) (rwf b.b)+GQ.i 1 0/z))) (rwf b.a) (rwf b.b)) (GQ.i 1 0/z) Na Ny _ (Wu.c.ext I.1) (W9.ext I.1) (Wu.y.ext I.1) aa) ?_;intro eN Wt Xh;refine Qs ?_;refine bE ?_;intro Yw I;have F:=I.ext;have J:=aJ (NF.ng (I.at_ 14 (e:=(eN.v,Wt,Xh)) rf));have D:=(Wu.ext F).QX Q hr (J.up (show Na+Ny+65<=12800 by omega));clear I F K0 K1 V K3 K4 K5 KH KY W9 J;have N:=aJ D.2;replace Wu:=aJ D.1;clear D;refine aT rfl 42 (.tmp 101) (.tmp 100) rfl (Ra ((rwf b.a))).b (((rwf b.b))*6) eN.cells rf rf N.o bL (dZ eN) ?_;intro ac l;refine Qp ?_;replace Wu:Hid (StI w ac gf Ga Gb n Pa Pb Ra Rb (upd (upd (upd X (rwf b.a) (upd (X (rwf b.a)) (rwf b.a) (X (rwf b.a) (rwf b.a)+GQ.i 1 0/z))) (rwf b.b) (upd ((upd X (rwf b.a) (upd (X (rwf b.a)) (rwf b.a) (X (rwf b.a) (rwf b.a)+GQ.i 1 0/z))) (rwf b.b)) (rwf b.b) ((upd X (rwf b.a) (upd (X (rwf b.a)) (rwf b.a) (X (rwf b.a) (rwf b.a)+GQ.i 1 0/z))) (rwf b.b) (rwf b.b)+GQ.i 1 0/z))) (rwf b.a) (upd ((upd (upd X (rwf b.a) (upd (X (rwf b.a)) (rwf b.a) (X (rwf b.a) (rwf b.a)+GQ.i 1 0/z))) (rwf b.b) (upd ((upd X (rwf b.a) (upd (X (rwf b.a)) (rwf b.a) (X (rwf b.a) (rwf b.a)+GQ.i 1 0/z))) (rwf b.b)) (rwf b.b) ((upd X (rwf b.a) (upd (X (rwf b.a)) (rwf b.a) (X (rwf b.a) (rwf b.a)+GQ.i 1 0/z))) (rwf b.b) (rwf b.b)+GQ.i 1 0/z))) (rwf b.a)) (rwf b.b) ((upd (upd X (rwf b.a) (upd (X (rwf b.a)) (rwf b.a) (X (rwf b.a) (rwf b.a)+GQ.i 1 0/z))) (rwf b.b) (upd ((upd X (rwf b.a) (upd (X (rwf b.a)) (rwf b.a) (X (rwf b.a) (rwf b.a)+GQ.i 1 0/z))) (rwf b.b)) (rwf b.b) ((upd X (rwf b.a) (upd (X (rwf b.a)) (rwf b.a) (X (rwf b.a) (rwf b.a)+GQ.i 1 0/z))) (rwf b.b) (rwf b.b)+GQ.i 1 0/z))) (rwf b.a) (rwf b.b)-GQ.i 1 0/z))) (Y) WU q1 q2 K (GQ.i 1 0/z) Ny em Ne rwf b):=aJ AbG;clear l N;(go_wp2_with fail);obtain⟨eA,M,C⟩:=Wu.a.en hr Q;have H:=M.to (show Bd ((upd (upd (upd X (rwf b.a) (upd (X (rwf b.a)) (rwf b.a) (X (rwf b.a) (rwf b.a)+GQ.i 1 0/z))) (rwf b.b) (upd ((upd X (rwf b.a) (upd (X (rwf b.a)) (rwf b.a) (X (rwf b.a) (rwf b.a)+GQ.i 1 0/z))) (rwf b.b)) (rwf b.b) ((upd X (rwf b.a) (upd (X (rwf b.a)) (rwf b.a) (X (rwf b.a) (rwf b.a)+GQ.i 1 0/z))) (rwf b.b) (rwf b.b)+GQ.i 1 0/z))) (rwf b.a) (upd ((upd (upd X (rwf b.a) (upd (X (rwf b.a)) (rwf b.a) (X (rwf b.a) (rwf b.a)+GQ.i 1 0/z))) (rwf b.b) (upd ((upd X (rwf b.a) (upd (X (rwf b.a)) (rwf b.a) (X (rwf b.a) (rwf b.a)+GQ.i 1 0/z))) (rwf b.b)) (rwf b.b) ((upd X (rwf b.a) (upd (X (rwf b.a)) (rwf b.a) (X (rwf b.a) (rwf b.a)+GQ.i 1 0/z))) (rwf b.b) (rwf b.b)+GQ.i 1 0/z))) (rwf b.a)) (rwf b.b) ((upd (upd X (rwf b.a) (upd (X (rwf b.a)) (rwf b.a) (X (rwf b.a) (rwf b.a)+GQ.i 1 0/z))) (rwf b.b) (upd ((upd X (rwf b.a) (upd (X (rwf b.a)) (rwf b.a) (X (rwf b.a) (rwf b.a)+GQ.i 1 0/z))) (rwf b.b)) (rwf b.b) ((upd X (rwf b.a) (upd (X (rwf b.a)) (rwf b.a) (X (rwf b.a) (rwf b.a)+GQ.i 1 0/z))) (rwf b.b) (rwf b.b)+GQ.i 1 0/z))) (rwf b.a) (rwf b.b)-GQ.i 1 0/z))) (rwf b.b) (rwf b.a)) Na by rw[upd_ne (WG.o.symm),upd_same,upd_ne WG.o,upd_ne (WG.o.symm)];exact WB.o _ _ hr Q);have W9:=aJ H;clear H M;have K0:=aK.cell (show _=some (Value.bool eA.s1) from C 0 _ rfl);rw[Nat.add_zero] at K0;have K1:=aK.cell (C 1 _ rfl);have V:=aK.cell (C 2 _ rfl);have K3:=aK.cell (C 3 _ rfl);have K4:=aK.cell (C 4 _ rfl);have K5:=aK.cell (C 5 _ rfl);have KH:=aK.cell (Wu.a.hd hr Wz);have KY:=aK.blk Wu.by_;clear C;refine tN 16 [(14,.gv ((upd (upd (upd X (rwf b.a) (upd (X (rwf b.a)) (rwf b.a) (X (rwf b.a) (rwf b.a)+GQ.i 1 0/z))) (rwf b.b) (upd ((upd X (rwf b.a) (upd (X (rwf b.a)) (rwf b.a) (X (rwf b.a) (rwf b.a)+GQ.i 1 0/z))) (rwf b.b)) (rwf b.b) ((upd X (rwf b.a) (upd (X (rwf b.a)) (rwf b.a) (X (rwf b.a) (rwf b.a)+GQ.i 1 0/z))) (rwf b.b) (rwf b.b)+GQ.i 1 0/z))) (rwf b.a) (upd ((upd (upd X (rwf b.a) (upd (X (rwf b.a)) (rwf b.a) (X (rwf b.a) (rwf b.a)+GQ.i 1 0/z))) (rwf b.b) (upd ((upd X (rwf b.a) (upd (X (rwf b.a)) (rwf b.a) (X (rwf b.a) (rwf b.a)+GQ.i 1 0/z))) (rwf b.b)) (rwf b.b) ((upd X (rwf b.a) (upd (X (rwf b.a)) (rwf b.a) (X (rwf b.a) (rwf b.a)+GQ.i 1 0/z))) (rwf b.b) (rwf b.b)+GQ.i 1 0/z))) (rwf b.a)) (rwf b.b) ((upd (upd X (rwf b.a) (upd (X (rwf b.a)) (rwf b.a) (X (rwf b.a) (rwf b.a)+GQ.i 1 0/z))) (rwf b.b) (upd ((upd X (rwf b.a) (upd (X (rwf b.a)) (rwf b.a) (X (rwf b.a) (rwf b.a)+GQ.i 1 0/z))) (rwf b.b)) (rwf b.b) ((upd X (rwf b.a) (upd (X (rwf b.a)) (rwf b.a) (X (rwf b.a) (rwf b.a)+GQ.i 1 0/z))) (rwf b.b) (rwf b.b)+GQ.i 1 0/z))) (rwf b.a) (rwf b.b)-GQ.i 1 0/z))) (rwf b.b) (rwf b.a)-GQ.i 1 0/z) (Na+Ny+65))] ?_;refine Qs ?_;refine Ee (fun R I=>vF gf eA.v K.v ((upd (upd (upd X (rwf b.a) (upd (X (rwf b.a)) (rwf b.a) (X (rwf b.a) (rwf b.a)+GQ.i 1 0/z))) (rwf b.b) (upd ((upd X (rwf b.a) (upd (X (rwf b.a)) (rwf b.a) (X (rwf b.a) (rwf b.a)+GQ.i 1 0/z))) (rwf b.b)) (rwf b.b) ((upd X (rwf b.a) (upd (X (rwf b.a)) (rwf b.a) (X (rwf b.a) (rwf b.a)+GQ.i 1 0/z))) (rwf b.b) (rwf b.b)+GQ.i 1 0/z))) (rwf b.a) (upd ((upd (upd X (rwf b.a) (upd (X (rwf b.a)) (rwf b.a) (X (rwf b.a) (rwf b.a)+GQ.i 1 0/z))) (rwf b.b) (upd ((upd X (rwf b.a) (upd (X (rwf b.a)) (rwf b.a) (X (rwf b.a) (rwf b.a)+GQ.i 1 0/z))) (rwf b.b)) (rwf b.b) ((upd X (rwf b.a) (upd (X (rwf b.a)) (rwf b.a) (X (rwf b.a) (rwf b.a)+GQ.i 1 0/z))) (rwf b.b) (rwf b.b)+GQ.i 1 0/z))) (rwf b.a)) (rwf b.b) ((upd (upd X (rwf b.a) (upd (X (rwf b.a)) (rwf b.a) (X (rwf b.a) (rwf b.a)+GQ.i 1 0/z))) (rwf b.b) (upd ((upd X (rwf b.a) (upd (X (rwf b.a)) (rwf b.a) (X (rwf b.a) (rwf b.a)+GQ.i 1 0/z))) (rwf b.b)) (rwf b.b) ((upd X (rwf b.a) (upd (X (rwf b.a)) (rwf b.a) (X (rwf b.a) (rwf b.a)+GQ.i 1 0/z))) (rwf b.b) (rwf b.b)+GQ.i 1 0/z))) (rwf b.a) (rwf b.b)-GQ.i 1 0/z))) (rwf b.b) (rwf b.a)) (GQ.i 1 0/z) Na Ny _ (Wu.c.ext I.1) (W9.ext I.1) (Wu.y.ext I.1) aa) ?_;intro eN Wt Xh;refine Qs ?_;refine bE ?_;intro af I;have F:=I.ext;have J:=aJ (NF.ng (I.at_ 14 (e:=(eN.v,Wt,Xh)) rf));have D:=(Wu.ext F).QX hr Q (J.up (show Na+Ny+65<=12800 by omega));clear I F K0 K1 V K3 K4 K5 KH KY W9 J;have N:=aJ D.2;replace Wu:=aJ D.1;clear D;refine aT rfl 42 (.tmp 117) (.tmp 116) rfl (Ra ((rwf b.b))).b (((rwf b.a))*6) eN.cells rf rf N.o bL (dZ eN) ?_;intro ad l;refine Qp ?_;replace Wu:Hid (StI w ad gf Ga Gb n Pa Pb Ra Rb (upd (upd (upd (upd X (rwf b.a) (upd (X (rwf b.a)) (rwf b.a) (X (rwf b.a) (rwf b.a)+GQ.i 1 0/z))) (rwf b.b) (upd ((upd X (rwf b.a) (upd (X (rwf b.a)) (rwf b.a) (X (rwf b.a) (rwf b.a)+GQ.i 1 0/z))) (rwf b.b)) (rwf b.b) ((upd X (rwf b.a) (upd (X (rwf b.a)) (rwf b.a) (X (rwf b.a) (rwf b.a)+GQ.i 1 0/z))) (rwf b.b) (rwf b.b)+GQ.i 1 0/z))) (rwf b.a) (upd ((upd (upd X (rwf b.a) (upd (X (rwf b.a)) (rwf b.a) (X (rwf b.a) (rwf b.a)+GQ.i 1 0/z))) (rwf b.b) (upd ((upd X (rwf b.a) (upd (X (rwf b.a)) (rwf b.a) (X (rwf b.a) (rwf b.a)+GQ.i 1 0/z))) (rwf b.b)) (rwf b.b) ((upd X (rwf b.a) (upd (X (rwf b.a)) (rwf b.a) (X (rwf b.a) (rwf b.a)+GQ.i 1 0/z))) (rwf b.b) (rwf b.b)+GQ.i 1 0/z))) (rwf b.a)) (rwf b.b) ((upd (upd X (rwf b.a) (upd (X (rwf b.a)) (rwf b.a) (X (rwf b.a) (rwf b.a)+GQ.i 1 0/z))) (rwf b.b) (upd ((upd X (rwf b.a) (upd (X (rwf b.a)) (rwf b.a) (X (rwf b.a) (rwf b.a)+GQ.i 1 0/z))) (rwf b.b)) (rwf b.b) ((upd X (rwf b.a) (upd (X (rwf b.a)) (rwf b.a) (X (rwf b.a) (rwf b.a)+GQ.i 1 0/z))) (rwf b.b) (rwf b.b)+GQ.i 1 0/z))) (rwf b.a) (rwf b.b)-GQ.i 1 0/z))) (rwf b.b) (upd ((upd (upd (upd X (rwf b.a) (upd (X (rwf b.a)) (rwf b.a) (X (rwf b.a) (rwf b.a)+GQ.i 1 0/z))) (rwf b.b) (upd ((upd X (rwf b.a) (upd (X (rwf b.a)) (rwf b.a) (X (rwf b.a) (rwf b.a)+GQ.i 1 0/z))) (rwf b.b)) (rwf b.b) ((upd X (rwf b.a) (upd (X (rwf b.a)) (rwf b.a) (X (rwf b.a) (rwf b.a)+GQ.i 1 0/z))) (rwf b.b) (rwf b.b)+GQ.i 1 0/z))) (rwf b.a) (upd ((upd (upd X (rwf b.a) (upd (X (rwf b.a)) (rwf b.a) (X (rwf b.a) (rwf b.a)+GQ.i 1 0/z))) (rwf b.b) (upd ((upd X (rwf b.a) (upd (X (rwf b.a)) (rwf b.a) (X (rwf b.a) (rwf b.a)+GQ.i 1 0/z))) (rwf b.b)) (rwf b.b) ((upd X (rwf b.a) (upd (X (rwf b.a)) (rwf b.a) (X (rwf b.a) (rwf b.a)+GQ.i 1 0/z))) (rwf b.b) (rwf b.b)+GQ.i 1 0/z))) (rwf b.a)) (rwf b.b) ((upd (upd X (rwf b.a) (upd (X (rwf b.a)) (rwf b.a) (X (rwf b.a) (rwf b.a)+GQ.i 1 0/z))) (rwf b.b) (upd ((upd X (rwf b.a) (upd (X (rwf b.a)) (rwf b.a) (X (rwf b.a) (rwf b.a)+GQ.i 1 0/z))) (rwf b.b)) (rwf b.b) ((upd X (rwf b.a) (upd (X (rwf b.a)) (rwf b.a) (X (rwf b.a) (rwf b.a)+GQ.i 1 0/z))) (rwf b.b) (rwf b.b)+GQ.i 1 0/z))) (rwf b.a) (rwf b.b)-GQ.i 1 0/z))) (rwf b.b)) (rwf b.a) ((upd (upd (upd X (rwf b.a) (upd (X (rwf b.a)) (rwf b.a) (X (rwf b.a) (rwf b.a)+GQ.i 1 0/z))) (rwf b.b) (upd ((upd X (rwf b.a) (upd (X (rwf b.a)) (rwf b.a) (X (rwf b.a) (rwf b.a)+GQ.i 1 0/z))) (rwf b.b)) (rwf b.b) ((upd X (rwf b.a) (upd (X (rwf b.a)) (rwf b.a) (X (rwf b.a) (rwf b.a)+GQ.i 1 0/z))) (rwf b.b) (rwf b.b)+GQ.i 1 0/z))) (rwf b.a) (upd ((upd (upd X (rwf b.a) (upd (X (rwf b.a)) (rwf b.a) (X (rwf b.a) (rwf b.a)+GQ.i 1 0/z))) (rwf b.b) (upd ((upd X (rwf b.a) (upd (X (rwf b.a)) (rwf b.a) (X (rwf b.a) (rwf b.a)+GQ.i 1 0/z))) (rwf b.b)) (rwf b.b) ((upd X (rwf b.a) (upd (X (rwf b.a)) (rwf b.a) (X (rwf b.a) (rwf b.a)+GQ.i 1 0/z))) (rwf b.b) (rwf b.b)+GQ.i 1 0/z))) (rwf b.a)) (rwf b.b) ((upd (upd X (rwf b.a) (upd (X (rwf b.a)) (rwf b.a) (X (rwf b.a) (rwf b.a)+GQ.i 1 0/z))) (rwf b.b) (upd ((upd X (rwf b.a) (upd (X (rwf b.a)) (rwf b.a) (X (rwf b.a) (rwf b.a)+GQ.i 1 0/z))) (rwf b.b)) (rwf b.b) ((upd X (rwf b.a) (upd (X (rwf b.a)) (rwf b.a) (X (rwf b.a) (rwf b.a)+GQ.i 1 0/z))) (rwf b.b) (rwf b.b)+GQ.i 1 0/z))) (rwf b.a) (rwf b.b)-GQ.i 1 0/z))) (rwf b.b) (rwf b.a)-GQ.i 1 0/z))) (Y) WU q1 q2 K (GQ.i 1 0/z) Ny em Ne rwf b):=aJ AbG;clear l N;(go_wp2_with fail);refine bodyPost_end (results_none rfl _ _ _) rfl ⟨rfl,?_,?_,Wu.mod⟩
  .rw[show decide (b.b=17)=false from decide_eq_false (by have:=Xc.o;omega)];exact Wu.a.congr (fun i j hi hj=>Sm (n:=n) X WG.o _ i j hi hj)
  .refine Wu.b.congr (fun i j hi hj=> ?_);rw[if_neg (fun e=>by have:=Xc.o;omega)]
end Go.Proofs.YtbfnfkppkmpieaaGreat
