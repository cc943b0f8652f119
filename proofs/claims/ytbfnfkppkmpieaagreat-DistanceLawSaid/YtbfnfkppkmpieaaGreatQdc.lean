import Derived.Test.YtbfnfkppkmpieaaGreatQdb
set_option linter.unusedVariables false
set_option linter.unusedSimpArgs false
set_option maxHeartbeats 25600000
set_option maxRecDepth 200000
set_option linter.defProp false
namespace Go.Proofs.YtbfnfkppkmpieaaGreat
open Go.RowKit
open Go.Proofs.Tryz
open Option renaming some->γ,none->δ
open Bool renaming true->ε,false->ζ
open Inhabited renaming default->η
def bps (Z Q:Nat->Nat->GQ) (m i j:Nat):Nat->GQ
 |0=>Z i (m+j)
 |s+1=>bps Z Q m i j s-Z i (i+1+s)*Q (i+1+s) j
def iY (Z:Nat->Nat->GQ) (m:Nat):Nat->Nat->Nat->GQ
 |0=>fun _ _=>GQ.i 0 0
 |k+1=>upd (iY Z m k) (m-1-k) (fun j=>bps Z (iY Z m k) m (m-1-k) j k/Z (m-1-k) (m-1-k))
def Cb(Z){m k i}(j:k<m)(hi:m-k<=i):iY Z m (k+1) i=iY Z m k i:=by
 show upd _ _ _ i=_;rw[upd_ne aa]
structure BI (w W:World) (gf Ga Gb G m nb:Nat) (PA PB:Nat->Prop) (Z:Nat->Nat->GQ) (k:Nat) (RX:Nat->Rw):Prop where
 calm:jm W gf
 a:∃R,MxI W Ga m m PA R Z
 b:∃R Y,MxI W Gb m nb PB R Y/\∀i j,i<m-k->Y i j=Z i (m+j)
 x:Blk W G 174 (mxc m RX).toArray
 gx:w.heap.size<=G
 row:∀i,m-k<=i->i<m->(RX i).A=γ ⟨(RX i).b,0,δ⟩/\(RX i).n=nb/\(RX i).c=nb/\w.heap.size<=(RX i).b/\dD W (RX i).b nb (iY Z m k i)
 mod:Mod PB w W
theorem PG(gf G I nb l C Nx Ny B R T v D H q w)(hc:jm w gf)(hq:GV w v q B)(M:0<nb->R=γ ⟨G,0,δ⟩/\dD w G nb D)(L:0<nb->T=γ ⟨I,0,δ⟩/\dD w I nb H)(J:0<nb->G≠I)(Xa:nb<=1000)(K:∀j,j<nb->Bd (D j) Nx)(N:∀j,j<nb->Bd (H j) Ny)(hN:2*max Nx (B+Ny+1)+65<=12800)(P:2*max B Ny+1<=12800):
  Calls prog 212 #[.pointer (γ ⟨gf,0,δ⟩),.slice R nb l,.slice T nb C,v] w.drew fun e w'=>e=.returned (.tuple #[])/\(0<nb->dD w' G nb (fun j=>D j-q*H j))/\Mod (fun g=>0<nb/\g=G) w w':=by
 have hd:Ext w w.drew:=(Ext.refl _).drew;by_cases h:0<nb
 .obtain⟨Z,r1⟩:=M h;obtain⟨S,r2⟩:=L h;refine(ym gf G I 0 0 nb nb nb l nb C Nx Ny B R T v D H q w.drew (hc.ext hd) (r1.ext hd) (r2.ext hd) (J h) (fun _=>by simpa using Z) (fun _=>by simpa using S) (κ _) aa aa aa aa (hq.ext hd) (fun j F=>by simpa using K j F) (fun j F=>by simpa using N j F) hN P).mono ?_;rintro e w' ⟨U,V,Y⟩;refine⟨U,fun _=>V.congr fun j F=> ?_,(aeI hd).trans (Y.mono fun g Q=>⟨h,Q⟩)⟩;unfold vB;rw[ι aa];simp
 .obtain rfl:nb=0:=aa;refine(yF gf l 0 C R T v q B w.drew (hq.ext hd)).mono ?_;rintro e w' ⟨U,W⟩;exact⟨U,fun O=>absurd O aa,(aeI hd).trans (aeI W)⟩
def EF(m Z):∀c,(ech m Z c).r<=c
 |0=>κ _
 |c+1=>by
  have B:=EF m Z c;show(jN m c (ech m Z c)).r<=c+1;cases j:fp (ech m Z c).X c (m-(ech m Z c).r) (ech m Z c).r with
  |none=>rw[eX j];omega
  |some k=>rw[dN j];show(ech m Z c).r+1<=c+1;omega
theorem Bc(m Z):∀c,(ech m Z c).r=c->∀i,i<c->(ech m Z c).X i i≠GQ.i 0 0
 |0,_,i,hi=>aa
 |c+1,h,i,hi=>by
  have D:=EF m Z c;have e:ech m Z (c+1)=jN m c (ech m Z c):=rfl;rw[e] at h⊢;cases j:fp (ech m Z c).X c (m-(ech m Z c).r) (ech m Z c).r with
  |none=>rw[eX j] at h;omega
  |some k=>
   rw[dN j] at h⊢;have C:(ech m Z c).r=c:=by have G:(ech m Z c).r+1=c+1:=h;omega
   have B:=Bc m Z c C;obtain⟨F,I,H,J⟩:=ic j;show clr (fun i=>(ech m Z c).X (swp k (ech m Z c).r i)) (ech m Z c).r c i i≠_;rw[C] at F⊢;unfold clr;rw[θ aa];show(ech m Z c).X (swp k c i) i≠_;by_cases l:i=c
   .subst l;rw[ng];exact H
   .rw[vK aa l];exact B i aa
theorem Io{na X Y i j}(h:j<na):side na X Y i j=X i j:=by unfold side;rw[ι h]
theorem O7{na X Y i j}:side na X Y i (na+j)=Y i j:=by unfold side;rw[θ aa,show na+j-na=j by omega]
structure Out (W:World) (G m n:Nat) (RX:Nat->Rw) (X:Nat->Nat->GQ):Prop where
 x:Blk W G 174 (mxc m RX).toArray
 row:∀i,i<m->(RX i).A=γ ⟨(RX i).b,0,δ⟩/\(RX i).n=n/\(RX i).c=n/\dD W (RX i).b n (X i)
def Out.ext{W W' G m n RX X}(h:Out W G m n RX X)(x:Ext W W'):Out W' G m n RX X:=
 ⟨h.x.ext x,fun i hi=>⟨(h.row i hi).1,(h.row i hi).2.1,(h.row i hi).2.2.1,(h.row i hi).2.2.2.ext x⟩⟩
structure Kr (N Ns Nd Nx m nb:Nat) (Z:Nat->Nat->GQ):Prop where
 a:∀i l,i<m->l<m->Bd (Z i l) N
 s:∀k j s,k<m->j<nb->s<k->Bd (bps Z (iY Z m k) m (m-1-k) j s) Ns
 d:∀k j,k<m->j<nb->Bd (bps Z (iY Z m k) m (m-1-k) j k) Nd
 x:∀k i j,k<=m->m-k<=i->i<m->j<nb->Bd (iY Z m k i j) Nx
 c1:2*max Ns (N+Nx+1)+65<=12800
 c2:2*max N Nx+1<=12800
 c3:Nd+N+1<=12800
 c4:N+N+1<=12800
 c5:Nx<=12800
def RV{N Ns Nd Nx m nb k i j Z}(h:Kr N Ns Nd Nx m nb Z)(hi:i=m-1-k)(C:k<m)(B:j<nb):Bd (bps Z (iY Z m k) m i j k/Z i i) Nx:=by
 have H:=h.x (k+1) (m-1-k) j aa aa aa B;have l:iY Z m (k+1) (m-1-k) j=bps Z (iY Z m k) m (m-1-k) j k/Z (m-1-k) (m-1-k):=by
  show(upd (iY Z m k) (m-1-k) (fun j=>bps Z (iY Z m k) m (m-1-k) j k/Z (m-1-k) (m-1-k))) (m-1-k) j=_;rw[upd_same]
 rw[l] at H;rwa[<-hi] at H
theorem Td(gf Ga Gb m cA cB nb N Ns Nd Nx PA PB Z w)(h:EI w gf Ga Gb m m nb PA PB Z)(hd:∀g,PA g->PB g->False)(Xd:∀g,PA g->g<w.heap.size)(Q:∀g,PB g->g<w.heap.size)(hm:m<=24)(Xa:nb<=24)(hz:∀i,i<m->Z i i≠GQ.i 0 0)(hR:Kr N Ns Nd Nx m nb Z):
  Calls prog 193 #[.pointer (γ ⟨gf,0,δ⟩),.slice (γ ⟨Ga,0,δ⟩) m cA,.slice (γ ⟨Gb,0,δ⟩) m cB] w fun e w'=>∃(G:Nat) (RX:Nat->Rw),e=.returned (.slice (γ ⟨G,0,δ⟩) m m)/\BI w w' gf Ga Gb G m nb PA PB Z m RX:=by
 have HH:=aJ h;have HD:=aJ hd;have XA:=aJ Xd;have WZ:=aJ Q;have HZ:=aJ hz;have I:=aJ hR;clear h hd Xd Q hz hR;have Xt:=DW m aa;have WP:=Aj nb aa;have W9:(0:Int)<=(m:Int):=aa;have Xx:Hid (Ga<w.heap.size/\Gb<w.heap.size):=aJ (by
  obtain⟨_,⟨_,a⟩,⟨_,b⟩⟩:=HH.o;exact⟨a.o.lt,b.o.lt⟩)
 go_enter func193,ntmps193;(go_wp2_with fail);clear Xt;go_loopw [8] (fun i wr=>∃(k:Nat) (RX:Nat->Rw),k<=m/\i=.int .i64 ((m:Int)-1-(k:Int))/\BI w wr gf Ga Gb w.heap.size m nb PA PB Z k RX) (fun i _=>(intOf i+1).toNat)
 case atStart=>
  obtain⟨hc,⟨R,ha⟩,⟨R2,hb⟩⟩:=HH.o;have hx:=Ext.new w (.cells (mxc m fun _=>zP).toArray 174);exact⟨0,fun _=>zP,aa,au,⟨hc.ext hx,⟨R,ha.ext hx⟩,⟨R2,_,hb.ext hx,fun _ _ _=>rfl⟩,Blk.new _ _ _,κ _,fun i h1 h2=>absurd h1 aa,aeI hx⟩⟩
 case round=>
  obtain⟨k,RX,hk,rfl,O⟩:=hrel;have HB:=aJ O;clear O HH;by_cases Wj:k<m
  .obtain⟨i,hi⟩:∃i,i=m-1-k:=⟨_,rfl⟩;have Xz:(m:Int)-1-(k:Int)=(i:Int):=aa;have B:i<m:=aa;rw[Xz];have HI:=aJ hi;clear hi Xz;have d1:decide ((i:Int)≥0)=ε:=ag;(go_wp2_with fail);obtain⟨YI,⟨R,hA⟩,⟨R2,Y,XR,l⟩,hx,X9,Wn,U⟩:=HB.o;have HC:=aJ YI;have HA:=aJ hA;have F:=aJ XR;have HY:=aJ l;have Xy:=aJ hx;have XB:=aJ Wn;have Ya:=aJ U;clear YI hA XR l hx X9 Wn U HB;have Xu:Far (fun g=>0<nb/\g=(R2 i).b) wr:=by
    rintro g ⟨hn,rfl⟩ _;obtain⟨ff,Xj,_⟩:=(F.o.row i B hn).2;exact⟨_,_,Xj,dm _ _⟩
   have XH:=aJ Xu;clear Xu;have V:Hid (m-k=i+1):=aJ (by have:=HI.o;omega);go_loopw [9] (fun i9 w2=>∃s j:Nat,s<=k/\j=i+1+s/\i9=.int .i64 j/\(0<nb->dD w2 (R2 i).b nb (fun j=>bps Z (iY Z m k) m i j s))/\Mod (fun g=>0<nb/\g=(R2 i).b) wr w2) (fun i9 _=>m-(intOf i9).toNat)
   case atStart=>exact⟨0,i+1,aa,aa,au,fun hn=>(F.o.row i B hn).2.congr fun j hj=>HY.o i j (by have:=HI.o;omega),Mod.refl _ _⟩
   case round=>
    obtain⟨s,j,hs,hj,rfl,Xi,WI⟩:=hrel;have Xv:=aJ Xi;have Wy:=aJ WI;have HJ:=aJ hj;clear Xi WI hj;rename World=>w2;have WL:=aJ (HA.o.mod Wy.o XH.o (by rintro⟨hn,e⟩;exact F.o.ne B hn HA.o.o e.symm) (by rintro L Wu _ ⟨hn,e⟩;exact HD.o _ (HA.o.mem L Wu aa) (e ▸ F.o.mem i B hn)));have WS:=aJ (Blk.mod HC.o Wy.o (by
     rintro⟨hn,e⟩;exact jm.ne HC.o (F.o.row i B hn).2 e))
    have W:=aJ (Xy.o.mod Wy.o (by rintro⟨hn,e⟩;exact F.o.ne B hn Xy.o e.symm));have Xl:=aJ (F.o.o.mod Wy.o (by rintro⟨hn,e⟩;exact F.o.ne B hn F.o.o e.symm));by_cases XN:s<k
    .have WT:j<m:=by have:=HI.o;have:=HJ.o;omega
     have Wm:i<j:=by have:=HJ.o;omega
     have dj:decide ((j:Int)<(m:Int))=ε:=ae;have di:decide ((i:Int)<(m:Int))=ε:=ae;obtain⟨Xq,f,hf,hv⟩:=WL.o.row i B aa;have C:=WL.o.cell B;rw[Xq] at C;obtain⟨a0,a1,a2,a3,a4,a5⟩:=dD.cells hf WT rfl;have XT:=aJ ((hv j WT).to (I.o.a i j B WT));clear Xq hf hv;(go_wp2_with fail);refine(xg _ _ _ _ XT.o (by have:=I.o.c2;omega)).mono ?_;rintro e w3 ⟨rfl,Wl⟩;by_cases h0:Z i j=GQ.i 0 0
     .rw[pq h0];have YG:Hid (∀L,bps Z (iY Z m k) m i L (s+1)=bps Z (iY Z m k) m i L s):=aJ fun L=>by
       show _-Z i (i+1+s)*_=_;rw[<-HJ.o,h0,GQ.eO,GQ.eQ]
      have Wv:=aJ Wl;clear h0 C a0 a1 a2 a3 a4 a5 Wl;go_wp2_with fail
      go_roundw
      case rel=>exact⟨s+1,j+1,aa,by have:=HJ.o;omega,au,fun hn=>((Xv.o hn).ext Wv.o).congr fun L _=>(YG.o L).symm,Wy.o.trans (aeI Wv.o)⟩
      case measure=>simp[intOf];omega
     .rw[Γ h0];obtain⟨xa,xn,xc,xb,xr⟩:=XB.o j (by have:=V.o;omega) WT;have Xw:0<nb->(RX j).A=γ ⟨(RX j).b,0,δ⟩/\dD w3 (RX j).b nb (iY Z m k j):=fun hn=>⟨xa,(xr.mod Wy.o XH.o (by rintro⟨Wq,e⟩;have h1:=WZ.o _ (F.o.mem i B Wq);omega)).ext Wl⟩;have K1:=aK.cell (Wl.cell_ C);have K2:=aK.cell (show w3.cell? ⟨Gb,i,δ⟩=γ (.slice (R2 i).A nb nb) from Wl.cell_ (by rw[Xl.o.cell,iE B,F.o.v0 B]));have K3:=aK.cell (show w3.cell? ⟨w.heap.size,j,δ⟩=γ (.slice (γ ⟨(RX j).b,0,δ⟩) nb nb) from Wl.cell_ (by rw[W.o.cell,iE WT];unfold Rw.v;rw[xa,xn,xc]));have A0:=aK.cell (Wl.cell_ a0);have A1:=aK.cell (Wl.cell_ a1);have A2:=aK.cell (Wl.cell_ a2);have A3:=aK.cell (Wl.cell_ a3);have A4:=aK.cell (Wl.cell_ a4);have A5:=aK.cell (Wl.cell_ a5);have HS:=aJ (PG gf (R2 i).b (RX j).b nb nb nb Ns Nx N (R2 i).A (γ ⟨(RX j).b,0,δ⟩) _ (fun j=>bps Z (iY Z m k) m i j s) (iY Z m k j) (Z i j) w3 (WS.o.ext Wl) (XT.o.ext Wl) (fun hn=>⟨(F.o.row i B hn).1,(Xv.o hn).ext Wl⟩) (fun hn=>⟨rfl,(Xw hn).2⟩) (fun hn e=>by have h1:=WZ.o _ (F.o.mem i B hn);omega) aa (fun L Wu=>by have:=I.o.s k L s Wj Wu XN;rwa[<-HI.o] at this) (fun L Wu=>I.o.x k j L hk (by have:=V.o;omega) WT Wu) I.o.c1 I.o.c2);have Wv:=aJ Wl;clear Xw C a0 a1 a2 a3 a4 a5 Wl xa xn xc xb xr;(go_wp2_with fail);refine bQ 16 [(ε,0),(ε,1),(ε,2),(ε,3),(ε,4),(ε,5),(ε,6),(ε,7),(ε,8),(ε,9),(ε,10),(ε,11),(ε,12),(ε,13),(ε,14),(ε,15)] ah ah ?_;refine aV [0,1,2,3,4,5,6,7,8,9,10,11,12,13,14,15] [] _ ah ?_;simp only[cZ,aZ,ξ,ο];(repeat (go_big_quiet_step (fail)));refine τ ?_;clear K1 K2 K3 A0 A1 A2 A3 A4 A5;simp only[bT,ρ,χ];(go_wp2_with fail);refine HS.o.mono ?_;rintro e w5 ⟨rfl,XV,WU⟩;have Xg:=aJ XV;have X4:=aJ ((Wy.o.trans (aeI Wv.o)).trans WU);clear XV WU;go_wp2_with fail
      go_roundw
      case rel=>
       refine⟨s+1,j+1,aa,by have:=HJ.o;omega,au,fun hn=>(Xg.o hn).congr fun L _=> ?_,X4.o⟩;show _=bps Z (iY Z m k) m i L s-Z i (i+1+s)*iY Z m k (i+1+s) L;rw[<-HJ.o]
      case measure=>simp[intOf];omega
    .obtain rfl:k=s:=aa;obtain rfl:m=j:=by have:=HI.o;have:=HJ.o;omega
     have dj:decide ((m:Int)<(m:Int))=ζ:=ag;have di:decide ((i:Int)<(m:Int))=ε:=ae;have Xk:=Ext.new w2 (.cells (aM nb fun _=>zEn).toArray 42);have WH:=W.o.ext Xk;have fr:=WH.frozen;have C:(w2.alloc (.cells (aM nb fun _=>zEn).toArray 42)).cell? ⟨w.heap.size,i,δ⟩=γ (RX i).v:=by rw[WH.cell];exact iE B
     have kb:w2.cell? ⟨Gb,i,δ⟩=γ (.slice (R2 i).A nb nb):=by rw[Xl.o.cell,iE B,F.o.v0 B]
     have WQ:Blk ((w2.alloc (.cells (aM nb fun _=>zEn).toArray 42)).setCell ⟨w.heap.size,i,δ⟩ (.slice (γ ⟨w2.heap.size,0,δ⟩) nb nb)) w.heap.size 174 (mxc m (upd RX i ⟨γ ⟨w2.heap.size,0,δ⟩,w2.heap.size,0,nb,nb⟩)).toArray:=by
      rw[<-El];exact WH.qg _ _
     have k2:((w2.alloc (.cells (aM nb fun _=>zEn).toArray 42)).setCell ⟨w.heap.size,i,δ⟩ (.slice (γ ⟨w2.heap.size,0,δ⟩) nb nb)).cell? ⟨w.heap.size,i,δ⟩=γ (.slice (γ ⟨w2.heap.size,0,δ⟩) nb nb):=by rw[WQ.cell,iE B,upd_same];rfl
     have WW:w.heap.size<w2.heap.size:=W.o.lt;have Wo:Blk ((w2.alloc (.cells (aM nb fun _=>zEn).toArray 42)).setCell ⟨w.heap.size,i,δ⟩ (.slice (γ ⟨w2.heap.size,0,δ⟩) nb nb)) w2.heap.size 42 (aM nb fun _=>zEn).toArray:=(Blk.new _ _ _).far (by show w2.heap.size≠w.heap.size;omega) _;have XO:Mod (fun g=>g=w.heap.size) w2 ((w2.alloc (.cells (aM nb fun _=>zEn).toArray 42)).setCell ⟨w.heap.size,i,δ⟩ (.slice (γ ⟨w2.heap.size,0,δ⟩) nb nb)):=(aeI Xk).trans (Mod.only (Only.set _ _ _ _) rfl);have Xr:Far (fun g=>g=w.heap.size) w2:=fun g hg _=>by subst hg;exact⟨_,_,W.o,jV _ _⟩
     have WV:=aJ WQ;have Ww:=aJ Wo;have WC:=aJ XO;have XZ:=aJ Xr;have WR:=aJ WW;clear WQ Wo XO Xr WW Xk WH;(go_wp2_with fail);clear C k2 fr kb;generalize XF:World.setCell _ _ _=w4 at WV Ww WC⊢;clear XF;generalize Xc:w2.heap.size=g at*
     have WB:=aJ Xc;clear Xc;have XI:=aJ (Blk.mod WS.o WC.o (by exact fun e=>WS.o.eF W.o aj e));have X5:=aJ (WL.o.mod WC.o XZ.o (by have:=Xx.o.1;exact fun e=>aa) (fun L Wu _=>WL.o.ne Wu aa W.o));have XY:=aJ (Xl.o.mod WC.o (by have:=Xx.o.2;exact fun e=>aa));have X3:Hid (0<nb->dD w4 (R2 i).b nb (fun j=>bps Z (iY Z m k) m i j k)):=aJ fun hn=>(Xv.o hn).mod WC.o XZ.o (by
      obtain⟨cs,Wz⟩:=(Xv.o hn).blk;exact fun e=>Wz.eF W.o aj e)
     have Xf:Hid (w.heap.size<g/\Ga<g/\Gb<g/\gf<g/\(0<nb->(R2 i).b<g)/\∀D,D<m->(R D).b<g):=aJ (by
      have h1:=WB.o;have h2:=WR.o;have h3:=Xx.o;refine⟨h2,aa,aa,by have:=Blk.lt WS.o;omega,fun hn=> ?_,fun D Wp=> ?_⟩
      .obtain⟨cs,Wz⟩:=(Xv.o hn).blk;have:=Wz.lt;omega
      .obtain⟨cs,Wz⟩:=(WL.o.row D Wp aa).2.blk;have:=Wz.lt;omega)
     clear WL WS Xl;go_loopw [69] (fun XJ wz=>∃(L:Nat) (f:Nat->En),L<=nb/\XJ=.int .i64 L/\Blk wz g 42 (aM nb f).toArray/\(∀j,j<L->GV wz (f j).v (bps Z (iY Z m k) m i j k/Z i i) 12800)/\Mod (fun g'=>g'=g) w4 wz) (fun XJ _=>nb-(intOf XJ).toNat)
     case atStart=>exact⟨0,_,aa,rfl,Ww.o,fun j hj=>aa,Mod.refl _ _⟩
     case round=>
      clear dj;obtain⟨L,f,Wu,rfl,hb,WN,Xe⟩:=hrel;have WK:=aJ hb;have WJ:=aJ WN;have WG:=aJ Xe;clear hb WN Xe;rename World=>wz;have XP:Far (fun g'=>g'=g) w4:=fun g' hg _=>by subst hg;exact⟨_,_,Ww.o,dm _ _⟩
      have XU:=aJ XP;clear XP;have Xm:=aJ (WV.o.mod WG.o (by have:=Xf.o.1;exact fun e=>aa));have XK:=aJ (Blk.mod XI.o WG.o (by have:=Xf.o.2.2.2.1;exact fun e=>aa));have XL:=aJ (X5.o.mod WG.o XU.o (by have:=Xf.o.2.1;exact fun e=>aa) (fun D Wp _=>by have:=Xf.o.2.2.2.2.2 D Wp;exact fun e=>aa));have XQ:=aJ (XY.o.mod WG.o (by have:=Xf.o.2.2.1;exact fun e=>aa));have XD:Hid (0<nb->dD wz (R2 i).b nb (fun j=>bps Z (iY Z m k) m i j k)):=aJ fun hn=>(X3.o hn).mod WG.o XU.o (by have:=Xf.o.2.2.2.2.1 hn;exact fun e=>aa);by_cases Wx:L<nb
      .have dj:decide ((L:Int)<(nb:Int))=ε:=ae;have WE:0<nb:=aa;have X6:=(F.o.row i B WE).1;have K1:=aK.cell (show wz.cell? ⟨w.heap.size,i,δ⟩=γ (.slice (γ ⟨g,0,δ⟩) nb nb) by rw[Xm.o.cell,iE B,upd_same];rfl);have K2:=aK.cell (show wz.cell? ⟨Gb,i,δ⟩=γ (.slice (γ ⟨(R2 i).b,0,δ⟩) nb nb) by rw[XQ.o.cell,iE B,F.o.v B WE]);obtain⟨Xq,P,XM,Xo⟩:=XL.o.row i B aa;have K3:=aK.cell (show wz.cell? ⟨Ga,i,δ⟩=γ (.slice (γ ⟨(R i).b,0,δ⟩) m m) by rw[XL.o.cell B,Xq]);obtain⟨fb,XW,WF⟩:=XD.o WE;obtain⟨a0,a1,a2,a3,a4,a5⟩:=dD.cells XM B rfl;obtain⟨b0,b1,b2,b3,b4,b5⟩:=dD.cells XW Wx rfl;have A0:=aK.cell a0;have A1:=aK.cell a1;have A2:=aK.cell a2;have A3:=aK.cell a3;have A4:=aK.cell a4;have A5:=aK.cell a5;have B0:=aK.cell b0;have B1:=aK.cell b1;have B2:=aK.cell b2;have B3:=aK.cell b3;have B4:=aK.cell b4;have B5:=aK.cell b5;have Xn:=aJ ((Xo i B).to (I.o.a i i B B));have Xp:=aJ ((WF L Wx).to (by have:=I.o.d k L Wj Wx;rwa[<-HI.o] at this));clear Xq XM Xo XW WF a0 a1 a2 a3 a4 a5 b0 b1 b2 b3 b4 b5 X6;(go_wp2_with fail);refine bQ 21 [(ε,0),(ε,1),(ε,2),(ε,3),(ε,4),(ε,5),(ε,6),(ε,7),(ε,8),(ε,9),(ε,10),(ε,11),(ε,12),(ε,13),(ε,14),(ε,15),(ε,16),(ε,17),(ε,18),(ε,19),(ζ,20)] ah ah ?_;refine aV [0,1,2,3,4,5,6,7,8,9,10,11,12,13,14,15,16,17,18,19] [(ζ,20)] _ ah ?_;simp only[cZ,aZ,ξ,ο];(repeat (go_big_quiet_step (fail)));refine τ ?_;refine aT 20 [] ah ?_;intro K J;simp only[aZ];(go_wp2_with fail);have WO:Ext wz wz.drew:=(Ext.refl _).drew;refine(Uw gf _ _ (bps Z (iY Z m k) m i L k) (Z i i) Nd N _ (Blk.ext XK.o WO) (Xp.o.ext WO) (Xn.o.ext WO) (HZ.o i B) Nx I.o.c3 I.o.c4 (RV I.o HI.o Wj Wx) I.o.c5).mono ?_;rintro e w5 ⟨v5,rfl,Xh,S⟩;obtain⟨u1,D1,p1,q1,u2,D2,p2,q2,u3,D3,p3,q3,rfl⟩:=Xh.opn;have WM:=aJ S.qm;have XE:=aJ Xh;clear S Xh WO;go_wp2;refine J _ _ ⟨⟨w5,WM.o⟩,rfl⟩ ?_;clear J K K1 K2 K3 A0 A1 A2 A3 A4 A5 B0 B1 B2 B3 B4 B5;simp only[bT,ρ,χ];have Wt:=WK.aA WM.o;obtain⟨a0,a1,a2,a3,a4,a5⟩:=dD.cells Wt.o Wx rfl;have fr:=Wt.o.frozen;have WU:Mod (fun g'=>g'=g) w5 (puts w5 g (L*6) [.bool u1,.slice D1 p1 q1,.bool u2,.slice D2 p2 q2,.bool u3,.slice D3 p3 q3]):=Mod.only (fD _ _ _ _) rfl;have XG:Far (fun g'=>g'=g) w5:=fun g' hg _=>by subst hg;exact⟨_,_,Wt.o,dm _ _⟩
       have WA:=bR (L*6) [.bool u1,.slice D1 p1 q1,.bool u2,.slice D2 p2 q2,.bool u3,.slice D3 p3 q3] Wt.o;have XC:=mF (f:=f) ⟨u1,D1,p1,q1,u2,D2,p2,q2,u3,D3,p3,q3⟩ Wx;rw[show fI (aM nb f).toArray (L*6) [.bool u1,.slice D1 p1 q1,.bool u2,.slice D2 p2 q2,.bool u3,.slice D3 p3 q3]=_ from XC] at WA;have Ws:=aJ WA;have Xb:=aJ ((WG.o.trans (aeI WM.o)).trans WU);have X8:Hid (∀j,j<L+1->GV (puts w5 g (L*6) [.bool u1,.slice D1 p1 q1,.bool u2,.slice D2 p2 q2,.bool u3,.slice D3 p3 q3]) (upd f L ⟨u1,D1,p1,q1,u2,D2,p2,q2,u3,D3,p3,q3⟩ j).v (bps Z (iY Z m k) m i j k/Z i i) 12800):=aJ fun j hj=>by
        by_cases e:j=L
        .subst e;rw[upd_same];exact((XE.o.up I.o.c5).mod WU XG)
        .rw[upd_ne e];exact((WJ.o j aa).ext WM.o).mod WU XG
       clear WU XG WA XC;go_wp2_with fail
       go_roundw
       case rel=>exact⟨L+1,_,aa,au,Ws.o,X8.o,Xb.o⟩
       case measure=>simp[intOf];omega
      .obtain rfl:nb=L:=aa;have dj:decide ((nb:Int)<(nb:Int))=ζ:=ag;have e0:=Blk.cell XK.o;(go_wp2_with fail);have hS:Far (fun g'=>(0<nb/\g'=(R2 i).b)\/g'=w.heap.size\/g'=g) wr:=by
        rintro g' (h|rfl|rfl) XX
        .exact XH.o g' h XX
        .exact⟨_,_,Xy.o,jV _ _⟩
        .have h1:=WB.o;have h2:=Wy.o.size;omega
       have hM:Mod (fun g'=>(0<nb/\g'=(R2 i).b)\/g'=w.heap.size\/g'=g) wr wz:=((Wy.o.mono fun g' h=> .inl h).trans (WC.o.mono fun g' h=> .inr (.inl h))).trans (WG.o.mono fun g' h=> .inr (.inr h));have Yb:=Xf.o.1;have Q:∀j,j<m->0<nb->(R2 j).b<w.heap.size:=fun j hj hn=>WZ.o _ (F.o.mem j hj hn);have X7:(i:Int)-1=(m:Int)-1-((k+1:Nat):Int):=by have:=HI.o;omega
       refine⟨⟨k+1,upd RX i ⟨γ ⟨g,0,δ⟩,g,0,nb,nb⟩,aa,by rw[X7],?_⟩,by simp[intOf]⟩;refine⟨XK.o,⟨R,XL.o⟩,⟨R2,upd Y i (fun j=>bps Z (iY Z m k) m i j k),?_,fun D j Wp=> ?_⟩,Xm.o,κ _,fun D h1 h2=> ?_,?_⟩
       .refine F.o.SB hM hS ?_ ?_ (fun hn=>XD.o hn)
        .rintro(⟨hn,e⟩|e|e)
         .exact F.o.ne B hn F.o.o e.symm
         .have:=Xx.o.2;omega
         .have:=Xf.o.2.2.1;omega
        .rintro j hj M hn (⟨_,e⟩|e|e)
         .exact M (F.o.inj j i hj B hn e)
         .have:=Q j hj hn;omega
         .have:=Q j hj hn;omega
       .have:=HI.o;rw[upd_ne aa];exact HY.o D j aa
       .have hI:=HI.o;by_cases e:D=i
        .subst e;rw[upd_same];refine⟨rfl,rfl,rfl,by show w.heap.size<=g;omega,f,WK.o,fun j hj=> ?_⟩;have hb:=WJ.o j hj;have e2:iY Z m (k+1) D j=bps Z (iY Z m k) m D j k/Z D D:=by
          show upd (iY Z m k) (m-1-k) (fun j=>bps Z (iY Z m k) m (m-1-k) j k/Z (m-1-k) (m-1-k)) D j=_;rw[<-hI,upd_same]
         rw[e2];exact hb
        .rw[upd_ne e];obtain⟨h3,h4,H,h6,h7⟩:=XB.o D aa h2;refine⟨h3,h4,H,h6,?_⟩;rw[Cb Z Wj aa];refine h7.mod hM hS ?_;obtain⟨cs,Wz⟩:=h7.blk;rintro(⟨hn,T⟩|T|T)
         .have:=Q i B hn;omega
         .exact Wz.eF Xy.o aj T
         .have h8:=Wz.lt;have h9:=WB.o;have WY:=Wy.o.size;omega
       .have hm:=Ya.o;exact⟨hM.os.trans hm.os,hM.tape.trans hm.tape,hM.output.trans hm.output,nk hm.size hM.size,fun k' WX hn=>(hM.block k' (π WX hm.size) (by
         rintro(⟨Wq,T⟩|T|T)
         .exact hn (T ▸ F.o.mem i B Wq)
         .omega
         .omega)).trans (hm.block k' WX hn)⟩
  .obtain rfl:k=m:=aa;have Xz:(k:Int)-1-(k:Int)= -1:=aa;rw[Xz];(go_wp2_with fail);go_ret;exact⟨_,RX,rfl,HB.o⟩
theorem Ti{A A2 B O B2 O2 m c c2 nb N Ns Nd Nx R R2}{E E2:Nat->Nat->En}{X Y w}{vb vb2:Nat->Nat->Bool}(h:Mem w A B O m R E)(h2:Mem w A2 B2 O2 m R2 E2)(WF:∀i j,i<m->j<(R i).n->VB w (E i j).v (vb i j))(T:∀i j,i<m->j<(R2 i).n->VB w (E2 i j).v (vb2 i j))(hM:IsM m R vb)(Xd:IsM m R2 vb2)(hn:∀i,i<m->(R i).n=m)(Xh:∀i,i<m->(R2 i).n=nb)(Xa:nb<=24)(hv:∀i j,i<m->j<m->GV w (E i j).v (X i j) 12800)(Xv:∀i j,i<m->j<nb->GV w (E2 i j).v (Y i j) 12800)(hN:4*N+67<=12800)(M:Room N m m nb (side m X Y))(WI:(ech m (side m X Y) m).r=m->Kr N Ns Nd Nx m nb (ech m (side m X Y) m).X):
  Calls prog 159 #[.slice A m c,.slice A2 m c2] w fun e w'=>((ech m (side m X Y) m).r<m/\e=.returned (.tuple #[.slice δ 0 0,.int .i64 45])\/(ech m (side m X Y) m).r=m/\∃G RX,e=.returned (.tuple #[.slice (γ ⟨G,0,δ⟩) m m,.int .i64 0])/\Out w' G m nb RX (iY (ech m (side m X Y) m).X m m))/\Ext w w':=by
 have hm:=hM.1;have Xw:=Bc m (side m X Y) m;have Wp:=EF m (side m X Y) m;have HM:=aJ h;have Wq:=aJ h2;have HV:=aJ hv;have V:=aJ Xv;have HN:=aJ hn;have Wx:=aJ Xh;have I:=aJ M;have L:=aJ WI;have WB:=aJ Xw;have WJ:=aJ (fun(w':World) (x:Ext w w')=>Bp (c:=c) (h.ext x) (fun i j hi hj=>(WF i j hi hj).ext x) ε ⟨fun _=>hM,fun _=>rfl⟩);have WK:=aJ (fun(w':World) (x:Ext w w')=>Bp (c:=c2) (h2.ext x) (fun i j hi hj=>(T i j hi hj).ext x) ε ⟨fun _=>Xd,fun _=>rfl⟩);have WH:=aJ (fun(w':World) (x:Ext w w')=>qy (c:=c) (h.ext x));have D:wd m R=m:=by
  unfold wd;by_cases e:m=0
  .rw[ι e];exact e.symm
  .rw[θ e];exact hn 0 aa
 rw[D] at WH;clear h h2 hv Xv hn Xh M WI WF T hM Xd D Xw;have WN:((m:Int) !=(m:Int))=ζ:=ag;go_enter func159,ntmps159;(go_wp2_with fail);refine(WJ.o _ (Ext.refl _)).mono ?_;rintro e w1 ⟨rfl,H⟩;have WW:=aJ H;clear H;(go_wp2_with fail);refine(WK.o _ WW.o).mono ?_;rintro e w2 ⟨rfl,P⟩;have WS:=WW.aC P;clear P WW;(go_wp2_with fail);refine(WH.o _ WS.o).mono ?_;rintro e w3 ⟨rfl,Wl⟩;have Ws:=(WS.o.trans Wl).alloc (.cells #[.int .i64 0] 250);have Wu:=Nt w3;clear WS Wl;(go_wp2_with fail);generalize (w3.alloc (.cells #[.int .i64 0] 250))=w4 at Wu Ws⊢;generalize w3.heap.size=gf at Wu⊢;have XI:=aJ Wu;have WT:=aJ Ws;clear Wu Ws;refine(Tq (HM.o.ext WT.o) HN.o (fun i j hi hj=>(HV.o i j hi hj).ext WT.o) hm hm).mono ?_;rintro e wa ⟨Ga,Ra,rfl,Wv⟩;have Wt:=WT.aC Wv.ext;have C:=aJ Wv;clear Wv;(go_wp2_with fail);refine(Tq (Wq.o.ext Wt.o) Wx.o (fun i j hi hj=>(V.o i j hi hj).ext Wt.o) hm Xa).mono ?_;rintro e wb ⟨Gb,Rb,rfl,Wy⟩;have WP:=Wt.aC Wy.ext;have l:=aJ Wy;clear Wy;have ZI:∀i,i<m->(Ra i).b<wa.heap.size:=fun i hi=>by
  obtain⟨cs,Wz⟩:=(C.o.row i hi).2.1.blk;exact Wz.lt
 have Wm:∀i,i<m->wa.heap.size<=(Rb i).b/\(Rb i).b<wb.heap.size:=fun i hi=>by
  obtain⟨cs,Wz⟩:=(l.o.row i hi).2.1.blk;exact⟨(l.o.row i hi).2.2,Wz.lt⟩
 have WE:w4.heap.size<=wa.heap.size:=C.o.ext.size;have Wj:wa.heap.size<=wb.heap.size:=l.o.ext.size;have WL:=aJ (EI.mk (gf:=gf) (Ga:=Ga) (Gb:=Gb) (m:=m) (na:=m) (nb:=nb) (PA:=fun g=>∃i,i<m/\g=(Ra i).b) (PB:=fun g=>∃i,i<m/\g=(Rb i).b) (Z:=side m X Y) (W:=wb) ((XI.o.ext C.o.ext).ext l.o.ext) ⟨Ra,(C.o.mx l.o.ext).congr fun i j hi hj=>(Io hj).symm⟩ ⟨Rb,(l.o.mx (Ext.refl _)).congr fun i j hi hj=>(O7).symm⟩);have Q:Ga≠Gb:=by have h1:=C.o.o.lt;have h2:=l.o.gx;omega
 have WC:=aJ Q;clear Q;have XA:=aJ ZI;have WZ:=aJ Wm;clear ZI Wm;have YG:=aJ (And.intro WE Wj);clear WE Wj;(go_wp2_with fail);refine(Ih gf Ga Gb m m m m nb N _ _ (fun g=>w4.heap.size<=g) (side m X Y) wb WL.o WC.o ?_ ⟨C.o.gx,nk YG.o.1 l.o.gx,?_,?_⟩ (fun h=>h) hm hm Xa hN I.o ?_).mono ?_
 .exact Abl
 .rintro g ⟨i,hi,rfl⟩;exact(C.o.row i hi).2.2
 .rintro g ⟨i,hi,rfl⟩;exact nk YG.o.1 (WZ.o i hi).1
 .intro w' x;exact LW ((C.o.mx l.o.ext).ext x) (fun h=>h) m aa
 rintro e w5 ⟨rfl,S,Ww⟩;have Wo:=aJ S;have WG:=aJ (WT.o.trans (Ww.Ua (C.o.ext.trans l.o.ext) (κ _)));have Xe:=aJ Ww.size;have e0:=S.calm.cell;clear Ww;generalize hs:ech m (side m X Y) m=s at L WB Wo Wp⊢;have HS:=aJ hs;clear hs;by_cases hr:s.r<m
 .have dr:decide ((s.r:Int)<(m:Int))=ε:=ae;have J:=aJ hr;clear hr;(go_wp2_with fail);refine vR rfl rfl ⟨.inl ⟨?_,rfl⟩,WG.o⟩;rw[HS.o];exact J.o
 .have dr:decide ((s.r:Int)<(m:Int))=ζ:=ae;have WO:¬((s.r:Int)<(m:Int)):=aa;have J:Hid (s.r=m):=aJ aa;clear hr Wp;(go_wp2_with fail);refine(Td gf Ga Gb m m m nb N Ns Nd Nx _ _ s.X _ Wo.o ?_ ?_ ?_ hm Xa (WB.o J.o) (L.o J.o)).mono ?_
  .exact Abl
  .rintro g ⟨i,hi,rfl⟩;have h1:=XA.o i hi;have h2:=YG.o;have h3:=Xe.o;omega
  .rintro g ⟨i,hi,rfl⟩;have h1:=(WZ.o i hi).2;have h3:=Xe.o;omega
  rintro e w6 ⟨G,RX,rfl,K⟩;have e1:=K.calm.cell;have U:=K.mod;have WA:Ext w w6:=by
   have F:=WG.o;exact⟨U.os.trans F.os,U.tape.trans F.tape,U.output.trans F.output,nk F.size U.size,fun k' WX=>(U.block k' (π WX F.size) (by
    rintro⟨i,hi,e⟩;have h1:=(WZ.o i hi).1;have h2:=YG.o;have h3:=WT.o.size;omega)).trans (F.block k' WX)⟩
  have WM:=aJ WA;have Wn:=aJ K;clear WA K U;(go_wp2_with fail);refine vR rfl rfl ⟨.inr ⟨?_,G,RX,rfl,?_⟩,WM.o⟩
  .rw[HS.o];exact J.o
  .rw[HS.o];exact⟨Wn.o.x,fun i hi=>⟨(Wn.o.row i aa hi).1,(Wn.o.row i aa hi).2.1,(Wn.o.row i aa hi).2.2.1,(Wn.o.row i aa hi).2.2.2.2⟩⟩
structure Imp where
 r:Int
 x:Int
 deriving DecidableEq,Inhabited
structure sj where
 name:ByteArray
 z1:Imp
 z0:Imp
 deriving DecidableEq,Inhabited
structure BV where
 name:ByteArray
 emf:Int
 z1:Imp
 z0:Imp
 deriving DecidableEq,Inhabited
structure CL where
 bus:Int
 pos:Int
 deriving DecidableEq,Inhabited
structure gJ where
 name:ByteArray
 kind:Int
 obj:Int
 en:Int
 z:Imp
 links:List CL
 closed:Bool
 ct:Int
 vt:Int
 sat:Int
 travel:Int
 deriving DecidableEq,Inhabited
structure StD where
 name:ByteArray
 buses:List ByteArray
 lines:List sj
 srcs:List BV
 bays:List gJ
 deriving DecidableEq,Inhabited
structure dZ where
 kind:Int
 line:Bool
 obj:Int
 num:Int
 den:Int
 r:Int
 deriving DecidableEq,Inhabited
structure dA where
 closed:List Bool
 links:List (List Int)
 deriving DecidableEq,Inhabited
def dJ (E:Nat->Int):Nat->Int
 |0=>0
 |n+1=>if dJ E n=0 then E n else dJ E n
def dh{E}:∀{n},(∀i,i<n->E i=0)->dJ E n=0
 |0,_=>rfl
 |n+1,h=>by
  show(if dJ E n=0 then E n else dJ E n)=0;rw[dh (fun i hi=>h i aa),ι rfl];exact h n aa
def nW{E}:∀{n},dJ E n=0->∀i,i<n->E i=0
 |0,_,i,hi=>absurd hi aa
 |n+1,h,i,hi=>by
  have G:(if dJ E n=0 then E n else dJ E n)=0:=h;by_cases e:dJ E n=0
  .rw[ι e] at G;by_cases K:i=n
   .rw[K];exact G
   .exact nW e i aa
  .rw[θ e] at G;exact absurd G e
def Cq{E k}(l:∀i,i<k->E i=0)(j:E k≠0):∀{n},k<n->dJ E n=E k
 |0,h=>absurd h aa
 |n+1,h=>by
  show(if dJ E n=0 then E n else dJ E n)=E k;by_cases M:k=n
  .rw[dh (fun i hi=>l i aa),ι rfl,M]
  .rw[Cq l j (n:=n) aa,θ j]
def dI (c:Nat):Bool:=(decide (65<=c)&&decide (c<=90))||(decide (97<=c)&&decide (c<=122))
def eG (c:Nat):Bool:=(decide (48<=c)&&decide (c<=57))||decide (c=95)
def vC (s:ByteArray) (i:Nat):Nat:=(s.data.getD i 0).toNat
def iA (s:ByteArray) (i:Nat):Bool:=dI (vC s i)||(decide (0<i)&&eG (vC s i))
def fT (s:ByteArray):Bool:=decide (0<s.size)&&decide (s.size<=12)&&(List.range s.size).all (iA s)
def Ch{s}(l:0<s.size)(j:s.size<=12)(h:∀i,i<s.size->iA s i=ε):fT s=ε:=by
 simp only[fT,l,j,acx,abQ,wo,aaz];exact h
def dG{s i}(hi:i<s.size)(h:iA s i=ζ):fT s=ζ:=by
 cases j:fT s with
 |false=>rfl
 |true=>
  simp only[fT,υ,wo,aaz] at j;rw[j.2 i hi] at h;cases h
def yo{s}(h:s.size=0\/12<s.size):fT s=ζ:=by
 cases j:fT s with
 |false=>rfl
 |true=>
  simp only[fT,υ,Θ] at j;omega
def btw (n lo hi:Int):Bool:=decide (lo<=n)&&decide (n<=hi)
def fe{n lo hi}:btw n lo hi=ε↔lo<=n/\n<=hi:=by simp[btw]
def okZ (z:Imp):Bool:=btw z.r 0 1000&&btw z.x 1 1000
def pU{z:Imp}:okZ z=ε↔(0<=z.r/\z.r<=1000)/\1<=z.x/\z.x<=1000:=by simp[okZ,btw]
def nms (s:StD) (b l g q:Nat):List ByteArray:=
 s.buses.take b++(s.lines.take l).map sj.name++(s.srcs.take g).map BV.name++(s.bays.take q).map gJ.name
def uD (s:ByteArray):List ByteArray->Bool
 |[]=>ζ
 |x::l=>decide (x=s)||uD s l
def dU (l:List ByteArray) (s:ByteArray):Int:=if fT s=ε then (if uD s l=ε then 8 else 0) else 7
def uR (s:StD) (i:Nat):Int:=dU (nms s i 0 0 0) (s.buses.getD i η)
def lu (s:StD) (i:Nat):Int:=
 let x:=s.lines.getD i η
 let e:=dU (nms s s.buses.length i 0 0) x.name
 if e=0 then (if (okZ x.z1&&okZ x.z0)=ε then 0 else 2) else e
def jE (x:BV):Bool:=btw x.emf 1 1000000&&okZ x.z1&&okZ x.z0
def tQ (s:StD) (i:Nat):Int:=
 let x:=s.srcs.getD i η
 let e:=dU (nms s s.buses.length s.lines.length i 0) x.name
 if e=0 then (if jE x=ε then 0 else 2) else e
def jc (nl ns:Nat) (x:gJ):Int:=
 if x.kind=1 then (if btw x.obj 0 ((nl:Int)-1)=ε then 0 else 9)
 else if x.kind=2 then (if btw x.obj 0 ((ns:Int)-1)=ε then 0 else 9)
 else if x.kind=3 then (if x.obj=0 then 0 else 9)
 else 10
def bZ (x:gJ):Bool:=
 (if x.kind=3 then okZ x.z&&decide (x.vt=0) else decide (x.z=⟨0,0⟩)&&btw x.vt 1 10000)&&
 (btw x.en 0 (if x.kind=1 then 1 else 0)&&btw x.ct 1 100&&btw x.sat 0 16383&&btw x.travel 1 6)
def lC (x y:gJ):Bool:=decide (x.kind=y.kind)&&decide (x.obj=y.obj)&&decide (x.en=y.en)
def mV (l:List gJ) (x:gJ):Bool:=decide (x.kind≠3)&&l.any (lC x)
def gT (nb:Nat) (x:gJ) (i:Nat):Int:=
  let l:=x.links.getD i η
  if btw l.bus 0 ((nb:Int)-1)=ε then
    (if l.pos≠1/\(l.pos≠0\/x.kind=3) then 16
     else if 0<i/\(x.links.getD (i-1) η).bus=l.bus then 12 else 0)
  else 9
def gL (nb:Nat) (x:gJ):Int:=
 if x.links.length<1\/2<x.links.length\/(x.kind=3/\x.links.length≠2) then 3 else dJ (gT nb x) x.links.length
def su (s:StD) (i:Nat):Int:=
 let x:=s.bays.getD i η
 if jc s.lines.length s.srcs.length x=0 then
  (if bZ x=ε then (if mV (s.bays.take i) x=ε then 12 else gL s.buses.length x) else 2)
 else jc s.lines.length s.srcs.length x
def uZ (s:StD) (i:Nat):Int:=
 let e:=dU (nms s s.buses.length s.lines.length s.srcs.length i) (s.bays.getD i η).name
 if e=0 then su s i else e
def rZ (s:StD):Bool:=
 decide (1<=s.buses.length)&&decide (s.buses.length<=4)&&decide (s.lines.length<=6)&&decide (s.srcs.length<=4)&&decide (s.bays.length<=16)
def chk (s:StD):Int:=
 if fT s.name=ε then
  if rZ s=ε then
   if dJ (uR s) s.buses.length=0 then
    if dJ (lu s) s.lines.length=0 then
     if dJ (tQ s) s.srcs.length=0 then dJ (uZ s) s.bays.length
     else dJ (tQ s) s.srcs.length
    else dJ (lu s) s.lines.length
   else dJ (uR s) s.buses.length
  else 3
 else 7
def iF (nb nl:Nat) (f:dZ):Int:=
 if f=⟨0,ζ,0,0,0,0⟩ then 0
 else if btw f.kind 1 10=ε then
  if btw f.obj 0 ((if f.line=ε then (nl:Int) else (nb:Int))-1)=ε then
   if f.line=ε/\(f.den<2\/16<f.den\/f.num<1\/f.den-1<f.num) then 2
   else if f.line=ζ/\(f.num≠0\/f.den≠0) then 2
   else if btw f.r 0 1000=ε then 0 else 2
  else 9
 else 10
def FB (s:StD) (f:dZ):Int:=if chk s=0 then iF s.buses.length s.lines.length f else chk s
structure iT (s:StD):Prop where
 nb:1<=s.buses.length/\s.buses.length<=4
 nl:s.lines.length<=6
 ns:s.srcs.length<=4
 nq:s.bays.length<=16
 line:∀i,i<s.lines.length->okZ (s.lines.getD i η).z1=ε/\okZ (s.lines.getD i η).z0=ε
 src:∀i,i<s.srcs.length->jE (s.srcs.getD i η)=ε
 obj:∀i,i<s.bays.length->jc s.lines.length s.srcs.length (s.bays.getD i η)=0
 rng:∀i,i<s.bays.length->bZ (s.bays.getD i η)=ε
 conf:∀i,i<s.bays.length->mV (s.bays.take i) (s.bays.getD i η)=ζ
 links:∀i,i<s.bays.length->gL s.buses.length (s.bays.getD i η)=0
theorem xh{s}(h:chk s=0):iT s:=by
 unfold chk at h;split at h
 .split at h
  .rename_i hc
   split at h
   .rename_i D
    split at h
    .rename_i l
     split at h
     .rename_i B
      simp only[rZ,υ,Θ] at hc;have b (i:Nat) (hi:i<s.bays.length):su s i=0:=by
       have hb:=nW h i hi;unfold uZ at hb;simp only[] at hb;split at hb
       .exact hb
       .exact absurd hb Abe
      refine⟨⟨aa,aa⟩,aa,aa,aa,?_,?_,?_,?_,?_,?_⟩
      .intro i hi;have hb:=nW l i hi;unfold lu at hb;simp only[] at hb;split at hb
       .split at hb
        .rename_i C
         simpa only[υ] using C
        .exact absurd hb aj
       .exact absurd hb Abe
      .intro i hi;have hb:=nW B i hi;unfold tQ at hb;simp only[] at hb;split at hb
       .split at hb
        .assumption
        .exact absurd hb aj
       .exact absurd hb Abe
      all_goals
       intro i hi;have hb:=b i hi;unfold su at hb;simp only[] at hb;split at hb
       .split at hb
        .split at hb
         .exact absurd hb aj
         .first
          |assumption
          |(rename_i j;exact acH.mpr j)
        .exact absurd hb aj
       .exact absurd hb Abe
     .exact absurd h Abe
    .exact absurd h Abe
   .exact absurd h Abe
  .exact absurd h aj
 .exact absurd h aj
def kG (s:StD) (i:Nat) (x:Int):Bool:=decide (x=1)||(decide ((s.bays.getD i η).kind≠3)&&(decide (x=0)||decide (x=2)))
def jb (s:StD) (p:dA):Int:=
 if p.closed.length=s.bays.length/\p.links.length=s.bays.length then
  if (List.range s.bays.length).all (fun i=>decide ((p.links.getD i []).length=(s.bays.getD i η).links.length))=ε then
   if (List.range s.bays.length).all (fun i=>(p.links.getD i []).all (kG s i))=ε then 0 else 16
  else 3
 else 3
def resolve (c:Int) (p:dA):dA:=⟨p.closed,p.links.map (List.map (fun x=>if x=2 then c else x))⟩
def normal (s:StD):dA:=⟨s.bays.map gJ.closed,s.bays.map (fun b=>b.links.map CL.pos)⟩
def joins (s:StD) (p:dA) (i:Nat):Bool:=
 decide ((s.bays.getD i η).kind≠3)&&decide ((s.bays.getD i η).links.length=2)&&
 decide ((p.links.getD i []).getD 0 0=1)&&decide ((p.links.getD i []).getD 1 0=1)
def merge (x y:Int) (g:List Int):List Int:=g.map (fun v=>if v=x\/v=y then min x y else v)
def fQ (s:StD) (i k:Nat):Nat:=(((s.bays.getD i η).links.getD k η).bus).toNat
def pV (s:StD) (p:dA) (i:Nat) (g:List Int):List Int:=
 if joins s p i=ε then merge (g.getD (fQ s i 0) 0) (g.getD (fQ s i 1) 0) g else g
def je (s:StD) (p:dA):Nat->List Int
 |0=>(List.range s.buses.length).map (fun k:Nat=>(k:Int))
 |n+1=>pV s p n (je s p n)
def groups (s:StD) (p:dA):List Int:=je s p s.bays.length
def vO (s:StD) (p:dA) (bus:Nat):Int×Int:=(1,(groups s p).getD bus 0)
def qV (s:StD) (p:dA) (i:Nat):Int×Int:=
 if (p.links.getD i []).getD 0 0=1 then vO s p (fQ s i 0)
 else if 1<(s.bays.getD i η).links.length/\(p.links.getD i []).getD 1 0=1 then vO s p (fQ s i 1)
 else (0,0)
def sides (s:StD) (p:dA) (i:Nat):(Int×Int)×(Int×Int):=
 if (s.bays.getD i η).kind=3 then (vO s p (fQ s i 0),vO s p (fQ s i 1))
 else (qV s p i,((if (s.bays.getD i η).kind=1 then 2 else 3),(s.bays.getD i η).obj))
def Mm{x y}(g):g.map (fun v=>if v=max x y then min x y else v)=merge x y g:=by
 refine acs fun v _=> ?_;by_cases h:v=max x y
 .rw[ι h,ι aa]
 .rw[θ h];by_cases j:v=x\/v=y
  .rw[ι j];omega
  .rw[θ j]
def vS{x y}(g):(merge x y g).length=g.length:=by simp[merge]
theorem jO(s p):∀n,(je s p n).length=s.buses.length
 |0=>by simp[je]
 |n+1=>by
  show(pV s p n (je s p n)).length=_;unfold pV;split
  .rw[vS];exact jO s p n
  .exact jO s p n
def Mh (g:List Int):Prop:=∀k,k<g.length->0<=g.getD k 0/\g.getD k 0<=(k:Int)/\g.getD (g.getD k 0).toNat 0=g.getD k 0
def xH{x y}(g k)(j:k<g.length):(merge x y g).getD k 0=if g.getD k 0=x\/g.getD k 0=y then min x y else g.getD k 0:=by
 simp[merge,φ,I5,ν j]
def Mh.merge{g:List Int}(h:Mh g){a b:Nat}(ha:a<g.length)(hb:b<g.length):Mh (merge (g.getD a 0) (g.getD b 0) g):=by
 intro k j;rw[vS] at j;have⟨k0,C,F⟩:=h k j;have⟨J,K,G⟩:=h a ha;have⟨I,H,B⟩:=h b hb;rw[xH g k j];by_cases e:g.getD k 0=g.getD a 0\/g.getD k 0=g.getD b 0
 .rw[ι e];refine⟨aa,aa,?_⟩;have D:g.getD (min (g.getD a 0) (g.getD b 0)).toNat 0=min (g.getD a 0) (g.getD b 0):=by
   by_cases l:g.getD a 0<=g.getD b 0
   .rw[show min (g.getD a 0) (g.getD b 0)=g.getD a 0 by omega];exact G
   .rw[show min (g.getD a 0) (g.getD b 0)=g.getD b 0 by omega];exact B
  rw[xH g _ aa,D,ι aa]
 .rw[θ e];refine⟨k0,C,?_⟩;rw[xH g _ aa,F,θ e]
theorem JY{s}(p)(Z:∀i,i<s.bays.length->joins s p i=ε->fQ s i 0<s.buses.length/\fQ s i 1<s.buses.length):∀n,n<=s.bays.length->Mh (je s p n)
 |0,_=>by
  intro k D;have l:k<s.buses.length:=by rw[<-jO s p 0];exact D
  have e:∀j,j<s.buses.length->(je s p 0).getD j 0=(j:Int):=by
   intro j C;simp[je,φ,I5,aaD C]
  rw[e k l];refine⟨aa,aa,?_⟩;rw[I6];exact e k l
 |n+1,hn=>by
  have B:=JY p Z n aa;show Mh (pV s p n (je s p n));unfold pV;by_cases C:joins s p n=ε
  .rw[ι C];obtain⟨G,F⟩:=Z n aa C;exact B.merge (by rw[jO];exact G) (by rw[jO];exact F)
  .rw[θ C];exact B
theorem iT.link{s}(h:iT s){i}(hi:i<s.bays.length):
  (1<=(s.bays.getD i η).links.length/\(s.bays.getD i η).links.length<=2)/\((s.bays.getD i η).kind=3->(s.bays.getD i η).links.length=2)/\
  ∀k,k<(s.bays.getD i η).links.length->gT s.buses.length (s.bays.getD i η) k=0:=by
 have Z:=h.links i hi;unfold gL at Z;split at Z
 .exact absurd Z aj
 .rename_i hn
  refine⟨⟨aa,aa⟩,fun j=> ?_,nW Z⟩;by_cases e:(s.bays.getD i η).links.length=2
  .exact e
  .exact absurd (Or.inr (Or.inr ⟨j,e⟩)) hn
theorem iT.bus{s}(h:iT s){i k}(hi:i<s.bays.length)(j:k<(s.bays.getD i η).links.length):
  ((s.bays.getD i η).links.getD k η).bus=(fQ s i k:Nat)/\fQ s i k<s.buses.length:=by
 have Z:=(h.link hi).2.2 k j;unfold gT at Z;simp only[] at Z;split at Z
 .rename_i hb
  rw[fe] at hb;unfold fQ;omega
 .exact absurd Z aj
def iT.groups{s:StD}(h:iT s)(p:dA):Mh (groups s p):=by
 refine JY p (fun i hi j=> ?_) _ (κ _);have V:(s.bays.getD i η).links.length=2:=by
  simp only[joins,υ,Θ] at j;exact j.1.1.2
 exact⟨(h.bus hi aa).2,(h.bus hi aa).2⟩
def j5(s p):(groups s p).length=s.buses.length:=jO s p _
structure BrD where
 a:Nat
 b:Nat
 z0:Imp
 z1:Imp
 n:Int
 d:Int
 emf:Int
 deriving DecidableEq,Inhabited
def lV (s:StD) (p:dA) (i:Nat):Bool:=p.closed.getD i ζ&&decide ((sides s p i).1.1=1)
def iw (s:StD) (p:dA) (i:Nat):Nat:=13+(sides s p i).1.2.toNat
def mE (s:StD) (p:dA) (l e i:Nat):Bool:=
 lV s p i&&decide ((s.bays.getD i η).kind=1)&&decide ((s.bays.getD i η).obj=(l:Int))&&decide ((s.bays.getD i η).en=(e:Int))
def vD (s:StD) (p:dA) (l e:Nat):Nat->Nat
 |0=>2*l+e
 |n+1=>if mE s p l e n=ε then iw s p n else vD s p l e n
def dY (s:StD) (p:dA) (l e:Nat):Nat:=vD s p l e s.bays.length
def fV (s:StD) (p:dA) (i:Nat):Option BrD:=
 let x:=s.bays.getD i η
 if lV s p i=ε then
  if x.kind=2 then
   let g:=s.srcs.getD x.obj.toNat η
   γ ⟨iw s p i,17,g.z0,g.z1,1,1,g.emf⟩
  else if x.kind=3/\(sides s p i).1≠(sides s p i).2 then
   γ ⟨iw s p i,13+(sides s p i).2.2.toNat,x.z,x.z,1,1,0⟩
  else δ
 else δ
def fM (s:StD) (p:dA):Nat->List BrD
 |0=>[]
 |n+1=>fM s p n++(fV s p n).toList
def iB (f:dZ) (l:Nat):Bool:=f.line&&decide (f.obj=(l:Int))
def half (s:StD) (p:dA) (f:dZ) (l e:Nat):BrD:=
 let x:=s.lines.getD l η
 if iB f l=ε then ⟨dY s p l e,12,x.z0,x.z1,(if e=0 then f.num else f.den-f.num),f.den,0⟩
 else ⟨dY s p l e,dY s p l (1-e),x.z0,x.z1,1,1,0⟩
def jg (s:StD) (p:dA) (f:dZ) (l:Nat):List BrD:=
 if iB f l=ε then [half s p f l 0,half s p f l 1] else [half s p f l 0]
def eU (s:StD) (p:dA) (f:dZ):Nat->List BrD
 |0=>[]
 |n+1=>eU s p f n++jg s p f n
def bI (s:StD) (p:dA) (f:dZ):List BrD:=fM s p s.bays.length++eU s p f s.lines.length
def way (s:StD) (p:dA) (f:dZ) (i:Nat):Option BrD:=
 if (s.bays.getD i η).kind=1 then γ (half s p f (s.bays.getD i η).obj.toNat (s.bays.getD i η).en.toNat)
 else fV s p i
def dK (s:StD) (p:dA) (f:dZ):Nat:=
 if f.line=ε then 12 else if f.kind=0 then 17 else 13+((groups s p).getD f.obj.toNat 0).toNat
def qD (L:Nat->Bool) (b:BrD):Nat->Bool:=
 fun n=>L n||((decide (b.b=17)||L b.a||L b.b)&&decide (n≠17)&&(decide (n=b.a)||decide (n=b.b)))
structure xG (bs:List BrD) (L:Nat->Bool):Prop where
 closed:∀b∈bs,(b.b=17\/L b.a=ε\/L b.b=ε)->(b.a≠17->L b.a=ε)/\(b.b≠17->L b.b=ε)
 none:L 17=ζ
def agn{bs L}(D:L 17=ζ)(h:∀b∈bs,∀n,qD L b n=L n):xG bs L:=by
 refine⟨fun b hb Z=> ?_,D⟩;have ha:=h b hb b.a;have hc:=h b hb b.b;simp only[qD] at ha hc;have l:(decide (b.b=17)||L b.a||L b.b)=ε:=by
  rcases Z with h|h|h<;>simp[h]
 constructor
 .intro hn;cases j:L b.a with
  |true=>rfl
  |false=>rw[l,j] at ha;simp[hn] at ha
 .intro hn;cases j:L b.b with
  |true=>rfl
  |false=>rw[l,j] at hc;simp[hn] at hc
def bM (w:World) (g:Nat):Prop:=Blk w g 109 #[.int .i64 0]
def bM.ext{w w' g}(h:bM w g)(x:Ext w w'):bM w' g:=Blk.ext h x
def qP(g v q n w)(hc:bM w g)(F:GV w v q n):
  CV 172 #[.pointer (γ ⟨g,0,δ⟩),v,.int .i64 0] w fun v w'=>GV w' v q n:=by
 obtain⟨G,D,H,B,R,L,O,Q,S,Z,K,U,rfl⟩:=F.opn;obtain⟨Y,T,j⟩:=an2 w 42 #[.bool G,.slice D H B,.bool R,.slice L O Q,.bool S,.slice Z K U] 42 #[.bool ζ,.slice δ 0 0,.bool ζ,.slice δ 0 0,.bool ζ,.slice δ 0 0];have P:=Blk.cell hc;have l:=Blk.frozen hc;have J:Ext w (w.setCell ⟨g,0,δ⟩ (.int .i64 0)):=(Ext.refl w).stay hc rfl;have I:=hc.ext J;have C:=Blk.cell I;have N:g<w.heap.size:=Blk.lt hc;have M:=aJ (F.ext J);clear F Y T j;go_enter func172,ntmps172;(go_wp2_with fail);exact dE rfl rfl rfl (aeE _ _ Aa9) ⟨_,rfl,M.ext ((Ext.new _ _).alloc _),J.trans ((Ext.new _ _).alloc _)⟩
def IP(g v0 v1 q0 q1 n0 n1 w)(hc:bM w g)(F:GV w v0 q0 n0)(l:GV w v1 q1 n1)(hn:2*max n0 n1+65<=12800):
  CV 134 #[.pointer (γ ⟨g,0,δ⟩),v0,v1,.func (Fn.func 194) #[] #[]] w fun v w'=>GV w' v (q0+q1) (n0+n1+65):=by
 obtain⟨G,D,H,B,R,L,O,Q,S,Z,Wm,U,rfl⟩:=F.opn;obtain⟨M,Wp,K,V,Wq,Wl,Wt,P,Wn,Ws,Wo,W,rfl⟩:=l.opn;have HX:=aJ F;have HY:=aJ l;clear F l;obtain⟨Y,T,C,j⟩:=an3 w 42 #[.bool G,.slice D H B,.bool R,.slice L O Q,.bool S,.slice Z Wm U] 42 #[.bool M,.slice Wp K V,.bool Wq,.slice Wl Wt P,.bool Wn,.slice Ws Wo W] 42 #[.bool ζ,.slice δ 0 0,.bool ζ,.slice δ 0 0,.bool ζ,.slice δ 0 0];have I:=hc.ext Y;have k0:=Blk.cell I;have k4:=T.cell;have k5:=C.cell;have Wj:g<w.heap.size:=Blk.lt hc;go_enter ac1,acG;(go_wp2_with fail);refine(Rx _ q0 n0 _ q1 n1 _ (HX.ext Y) (HY.ext Y) hn).mono ?_;exact AbC
def JR(g v0 v1 q0 q1 n0 n1 w)(hc:bM w g)(F:GV w v0 q0 n0)(l:GV w v1 q1 n1)(hn:2*max n0 n1+65<=12800):
  CV 134 #[.pointer (γ ⟨g,0,δ⟩),v0,v1,.func (Fn.func 135) #[] #[]] w fun v w'=>GV w' v (q0-q1) (n0+n1+65):=by
 obtain⟨G,D,H,B,R,L,O,Q,S,Z,Wm,U,rfl⟩:=F.opn;obtain⟨M,Wp,K,V,Wq,Wl,Wt,P,Wn,Ws,Wo,W,rfl⟩:=l.opn;have HX:=aJ F;have HY:=aJ l;clear F l;obtain⟨Y,T,C,j⟩:=an3 w 42 #[.bool G,.slice D H B,.bool R,.slice L O Q,.bool S,.slice Z Wm U] 42 #[.bool M,.slice Wp K V,.bool Wq,.slice Wl Wt P,.bool Wn,.slice Ws Wo W] 42 #[.bool ζ,.slice δ 0 0,.bool ζ,.slice δ 0 0,.bool ζ,.slice δ 0 0];have I:=hc.ext Y;have k0:=Blk.cell I;have k4:=T.cell;have k5:=C.cell;have Wj:g<w.heap.size:=Blk.lt hc;go_enter ac1,acG;(go_wp2_with fail);refine(Lp _ q0 n0 _ q1 n1 _ (HX.ext Y) (HY.ext Y) hn).mono ?_;exact AbC
def Ig(g v0 v1 q0 q1 n0 n1 w)(hc:bM w g)(F:GV w v0 q0 n0)(l:GV w v1 q1 n1)(hn:2*max n0 n1+1<=12800):
  CV 134 #[.pointer (γ ⟨g,0,δ⟩),v0,v1,.func (Fn.func 164) #[] #[]] w fun v w'=>GV w' v (q0*q1) (n0+n1+1):=by
 obtain⟨G,D,H,B,R,L,O,Q,S,Z,Wm,U,rfl⟩:=F.opn;obtain⟨M,Wp,K,V,Wq,Wl,Wt,P,Wn,Ws,Wo,W,rfl⟩:=l.opn;have HX:=aJ F;have HY:=aJ l;clear F l;obtain⟨Y,T,C,j⟩:=an3 w 42 #[.bool G,.slice D H B,.bool R,.slice L O Q,.bool S,.slice Z Wm U] 42 #[.bool M,.slice Wp K V,.bool Wq,.slice Wl Wt P,.bool Wn,.slice Ws Wo W] 42 #[.bool ζ,.slice δ 0 0,.bool ζ,.slice δ 0 0,.bool ζ,.slice δ 0 0];have I:=hc.ext Y;have k0:=Blk.cell I;have k4:=T.cell;have k5:=C.cell;have Wj:g<w.heap.size:=Blk.lt hc;go_enter ac1,acG;(go_wp2_with fail);refine(Ps _ q0 n0 _ q1 n1 _ (HX.ext Y) (HY.ext Y) hn).mono ?_;exact AbC
def IB(g v0 v1 q0 q1 n0 n1 w)(hc:bM w g)(F:GV w v0 q0 n0)(l:GV w v1 q1 n1)(h0:q1≠GQ.i 0 0)(nr)(hn:n0+n1+1<=12800)(Xh:n1+n1+1<=12800)(hb:Bd (q0/q1) nr)(hr:nr<=12800):
  CV 134 #[.pointer (γ ⟨g,0,δ⟩),v0,v1,.func (Fn.func 137) #[] #[]] w fun v w'=>GV w' v (q0/q1) (nr):=by
 obtain⟨G,D,H,B,R,L,O,Q,S,Z,Wm,U,rfl⟩:=F.opn;obtain⟨M,Wp,K,V,Wq,Wl,Wt,P,Wn,Ws,Wo,W,rfl⟩:=l.opn;have HX:=aJ F;have HY:=aJ l;clear F l;have H0:=aJ h0;clear h0;obtain⟨Y,T,C,j⟩:=an3 w 42 #[.bool G,.slice D H B,.bool R,.slice L O Q,.bool S,.slice Z Wm U] 42 #[.bool M,.slice Wp K V,.bool Wq,.slice Wl Wt P,.bool Wn,.slice Ws Wo W] 42 #[.bool ζ,.slice δ 0 0,.bool ζ,.slice δ 0 0,.bool ζ,.slice δ 0 0];have I:=hc.ext Y;have k0:=Blk.cell I;have k4:=T.cell;have k5:=C.cell;have Wj:g<w.heap.size:=Blk.lt hc;go_enter ac1,acG;(go_wp2_with fail);refine(Qm _ q0 n0 _ q1 n1 _ (HX.ext Y) (HY.ext Y) H0 nr hn Xh hb hr).mono ?_;exact AbC
def lW(g v0 v1 q0 q1 n0 n1 w)(hc:bM w g)(F:GV w v0 q0 n0)(l:GV w v1 q1 n1)(hn:2*max n0 n1+65<=12800):
  CV 161 #[.pointer (γ ⟨g,0,δ⟩),v0,v1] w fun v w'=>GV w' v (q0+q1) (n0+n1+65):=by
 obtain⟨G,D,H,B,R,L,O,Q,S,Z,J,U,rfl⟩:=F.opn;obtain⟨M,Wp,K,V,Wq,N,Wt,P,Wn,Ws,Wo,W,rfl⟩:=l.opn;have HX:=aJ F;have HY:=aJ l;clear F l;obtain⟨Y,T,C,j⟩:=an3 w 42 #[.bool G,.slice D H B,.bool R,.slice L O Q,.bool S,.slice Z J U] 42 #[.bool M,.slice Wp K V,.bool Wq,.slice N Wt P,.bool Wn,.slice Ws Wo W] 42 #[.bool ζ,.slice δ 0 0,.bool ζ,.slice δ 0 0,.bool ζ,.slice δ 0 0];have I:=hc.ext Y;have k4:=T.cell;have k5:=C.cell;go_enter func161,ntmps161;(go_wp2_with fail);clear k4 k5 T C;refine(IP g _ _ q0 q1 n0 n1 _ I (HX.ext Y) (HY.ext Y) hn).mono ?_;exact Acl
def ui(g v0 v1 q0 q1 n0 n1 w)(hc:bM w g)(F:GV w v0 q0 n0)(l:GV w v1 q1 n1)(hn:2*max n0 n1+65<=12800):
  CV 89 #[.pointer (γ ⟨g,0,δ⟩),v0,v1] w fun v w'=>GV w' v (q0-q1) (n0+n1+65):=by
 obtain⟨G,D,H,B,R,L,O,Q,S,Z,J,U,rfl⟩:=F.opn;obtain⟨M,Wp,K,V,Wq,N,Wt,P,Wn,Ws,Wo,W,rfl⟩:=l.opn;have HX:=aJ F;have HY:=aJ l;clear F l;obtain⟨Y,T,C,j⟩:=an3 w 42 #[.bool G,.slice D H B,.bool R,.slice L O Q,.bool S,.slice Z J U] 42 #[.bool M,.slice Wp K V,.bool Wq,.slice N Wt P,.bool Wn,.slice Ws Wo W] 42 #[.bool ζ,.slice δ 0 0,.bool ζ,.slice δ 0 0,.bool ζ,.slice δ 0 0];have I:=hc.ext Y;have k4:=T.cell;have k5:=C.cell;go_enter func89,ntmps89;(go_wp2_with fail);clear k4 k5 T C;refine(JR g _ _ q0 q1 n0 n1 _ I (HX.ext Y) (HY.ext Y) hn).mono ?_;exact Acl
def uq(g v0 v1 q0 q1 n0 n1 w)(hc:bM w g)(F:GV w v0 q0 n0)(l:GV w v1 q1 n1)(hn:2*max n0 n1+1<=12800):
  CV 127 #[.pointer (γ ⟨g,0,δ⟩),v0,v1] w fun v w'=>GV w' v (q0*q1) (n0+n1+1):=by
 obtain⟨G,D,H,B,R,L,O,Q,S,Z,J,U,rfl⟩:=F.opn;obtain⟨M,Wp,K,V,Wq,N,Wt,P,Wn,Ws,Wo,W,rfl⟩:=l.opn;have HX:=aJ F;have HY:=aJ l;clear F l;obtain⟨Y,T,C,j⟩:=an3 w 42 #[.bool G,.slice D H B,.bool R,.slice L O Q,.bool S,.slice Z J U] 42 #[.bool M,.slice Wp K V,.bool Wq,.slice N Wt P,.bool Wn,.slice Ws Wo W] 42 #[.bool ζ,.slice δ 0 0,.bool ζ,.slice δ 0 0,.bool ζ,.slice δ 0 0];have I:=hc.ext Y;have k4:=T.cell;have k5:=C.cell;go_enter func127,ntmps127;(go_wp2_with fail);clear k4 k5 T C;refine(Ig g _ _ q0 q1 n0 n1 _ I (HX.ext Y) (HY.ext Y) hn).mono ?_;exact Acl
def lY(g v0 v1 q0 q1 n0 n1 w)(hc:bM w g)(F:GV w v0 q0 n0)(l:GV w v1 q1 n1)(h0:q1≠GQ.i 0 0)(J)(hn:n0+n1+1<=12800)(Xh:n1+n1+1<=12800)(hb:Bd (q0/q1) J)(hr:J<=12800):
  CV 91 #[.pointer (γ ⟨g,0,δ⟩),v0,v1] w fun v w'=>GV w' v (q0/q1) (J):=by
 obtain⟨G,D,H,B,R,L,O,Q,S,Z,Wm,U,rfl⟩:=F.opn;obtain⟨M,Wp,K,V,Wq,Wl,Wt,P,Wn,Ws,Wo,W,rfl⟩:=l.opn;have HX:=aJ F;have HY:=aJ l;clear F l;obtain⟨Y,T,C,j⟩:=an3 w 42 #[.bool G,.slice D H B,.bool R,.slice L O Q,.bool S,.slice Z Wm U] 42 #[.bool M,.slice Wp K V,.bool Wq,.slice Wl Wt P,.bool Wn,.slice Ws Wo W] 42 #[.bool ζ,.slice δ 0 0,.bool ζ,.slice δ 0 0,.bool ζ,.slice δ 0 0];have I:=hc.ext Y;have k4:=T.cell;have k5:=C.cell;go_enter func91,ntmps91;(go_wp2_with fail);clear k4 k5 T C;refine(IB g _ _ q0 q1 n0 n1 _ I (HX.ext Y) (HY.ext Y) h0 J hn Xh hb hr).mono ?_;rintro e w3 ⟨v,rfl,hv,N⟩;replace Y:=Y.trans N;replace j:=j.ext N;clear N;exact Aad
def Px(g re im den w)(hc:bM w g)(l0: -9223372036854775808<=re)(u0:re<=9223372036854775807)(l1: -9223372036854775808<=im)(u1:im<=9223372036854775807)(l2: -9223372036854775808<=den)(u2:den<=9223372036854775807)(hd:den≠0):
  CV 133 #[.pointer (γ ⟨g,0,δ⟩),.int .i64 re,.int .i64 im,.int .i64 den] w fun v w'=>GV w' v ⟨(re:Rat)/(den:Rat),(im:Rat)/(den:Rat)⟩ 64:=by
 obtain⟨Y,j⟩:=an1 w 42 #[.bool ζ,.slice δ 0 0,.bool ζ,.slice δ 0 0,.bool ζ,.slice δ 0 0];have I:=hc.ext Y;have HO:=aJ (fun w=>NW re im den w l0 u0 l1 u1 l2 u2 hd);clear l0 u0 l1 u1 l2 u2 hd;go_enter func133,ntmps133;(go_wp2_with fail);refine(HO.o _).mono ?_;rintro e w2 ⟨v,rfl,⟨u,rfl,N⟩,l⟩;replace Y:=Y.trans l;replace j:=j.ext l;replace I:=I.ext l;have XW:=l.size;clear l;obtain⟨P,Q,D,C,G,F,B,L,K,R,O,H,rfl⟩:=N.opn;obtain⟨J,M⟩:=an1 w2 42 #[.bool P,.slice Q D C,.bool G,.slice F B L,.bool K,.slice R O H];have HU:=aJ (N.ext J);clear N;replace Y:=Y.trans J;replace j:=j.ext J;replace I:=I.ext J;have k7:=M.cell;(go_wp2_with fail);refine(qP g _ _ _ _ I HU.o).mono ?_;rintro e w3 ⟨v,rfl,hv,l⟩;replace Y:=Y.trans l;replace j:=j.ext l;clear l;obtain⟨WH,WB,WG,Z,WC,V,WA,WI,T,WF,U,WE,rfl⟩:=hv.opn;have k6:=j.cell;have f6:=j.frozen;obtain⟨p1,p2,S⟩:=eH Y aa j hv;have P1:=aJ p1;have P2:=aJ p2;have W:=aJ S;clear p1 p2 S Y j hv;(go_wp2_with fail);exact dE rfl rfl rfl P2.o ⟨_,rfl,W.o,P1.o⟩
def bO(g m w)(hc:bM w g)(l0: -9223372036854775808<=m)(u0:m<=9223372036854775807):
  CV 88 #[.pointer (γ ⟨g,0,δ⟩),.int .i64 m] w fun v w'=>GV w' v (GQ.i m 0) 64:=by
 obtain⟨Y,j⟩:=an1 w 42 #[.bool ζ,.slice δ 0 0,.bool ζ,.slice δ 0 0,.bool ζ,.slice δ 0 0];have I:=hc.ext Y;have D:(⟨(m:Rat)/((1:Int):Rat),((0:Int):Rat)/((1:Int):Rat)⟩:GQ)=GQ.i m 0:=by ext<;>simp only[GQ.bU,GQ.bS]<;>grind
 have C:=aJ (fun w hc=>Px g m 0 1 w hc l0 u0 aa aa aa aa aa);rw[D] at C;clear l0 u0;go_enter func88,ntmps88;(go_wp2_with fail);refine(C.o _ I).mono ?_;rintro e V ⟨v,rfl,hv,l⟩;replace Y:=Y.trans l;replace j:=j.ext l;clear l;obtain⟨T,O,S,K,P,H,L,U,F,R,G,Q,rfl⟩:=hv.opn;have W:=j.cell;have Z:=j.frozen;obtain⟨p1,p2,B⟩:=eH Y aa j hv;have M:=aJ p1;have N:=aJ p2;have J:=aJ B;clear p1 p2 B Y j hv;(go_wp2_with fail);exact dE rfl rfl rfl N.o ⟨_,rfl,J.o,M.o⟩
def ofC (n:Nat) (C:Nat->Value):Array Value:=((List.range n).map C).toArray
def FI(n C):(ofC n C).size=n:=by simp[ofC]
def Ba{n k C}(h:k<n):(ofC n C)[k]? =γ (C k):=by
 simp[ofC,I5,aaD h]
def Dw{n k C}(h:n<=k):(ofC n C)[k]? =δ:=by
 rw[aax];rw[FI];exact h
theorem L6{n C D}(h:∀k,k<n->C k=D k):ofC n C=ofC n D:=by
 unfold ofC;rw[acs (fun k j=>h k (aaz.1 j))]
def QJ{a b:Array Value}(h:∀k:Nat,a[k]? =b[k]?):a=b:=Array.ext_getElem? h
def Kv{n k C}(v)(h:k<n):(ofC n C).setIfInBounds k v=ofC n (upd C k v):=by
 refine QJ fun i=> ?_;rw[Array.getElem?_setIfInBounds];by_cases hi:i<n
 .rw[Ba hi];by_cases e:k=i
  .subst e;rw[ι rfl,ι (by rw[FI];exact h),Ba h,upd_same]
  .rw[θ e,Ba hi,upd_ne (fun h=>e h.symm)]
 .rw[Dw aa,θ aa,Dw aa]
def D6 (C:Nat->Value) (k:Nat):List Value->Nat->Value
 |[]=>C
 |v::vs=>D6 (upd C k v) (k+1) vs
def DX:∀(B:List Value) {C:Nat->Value} {k i:Nat},(i<k\/k+B.length<=i)->D6 C k B i=C i
 |[],_,_,_,_=>rfl
 |v::B,C,k,i,h=>by
  show D6 (upd C k v) (k+1) B i=C i;rw[nC] at h;rw[DX B aa,upd_ne aa]
def KO:∀(B:List Value) {C:Nat->Value} {k j:Nat} {v:Value},B[j]? =γ v->D6 C k B (k+j)=v
 |[],_,_,_,_,h=>by simp at h
 |u::B,C,k,0,v,h=>by
  show D6 (upd C k u) (k+1) B (k+0)=v;simp only[ac8,aaC] at h;rw[DX B aa,Nq,upd_same,h]
 |u::B,C,k,j+1,v,h=>by
  show D6 (upd C k u) (k+1) B (k+(j+1))=v;rw[List.getElem?_cons_succ] at h;rw[show k+(j+1)=k+1+j by omega];exact KO B h
def CJ:∀(B:List Value) {n k:Nat} {C:Nat->Value},k+B.length<=n->fI (ofC n C) k B=ofC n (D6 C k B)
 |[],_,_,_,_=>rfl
 |v::B,n,k,C,h=>by
  rw[nC] at h;show fI ((ofC n C).setIfInBounds k v) (k+1) B=_;rw[Kv v aa];exact CJ B aa
def fA (w:World) (g:Nat) (t:TypeId) (n:Nat) (C:Nat->Value):Prop:=Blk w g t (ofC n C)
section
variable {w w':World} {g n:Nat} {t:TypeId} {C D:Nat->Value}
def fA.blk(h:fA w g t n C):Blk w g t (ofC n C):=h
def fA.lt(h:fA w g t n C):g<w.heap.size:=Blk.lt h
def fA.ext(h:fA w g t n C)(x:Ext w w'):fA w' g t n C:=Blk.ext h x
def fA.mod{S}(h:fA w g t n C)(m:Mod S w w')(j:¬S g):fA w' g t n C:=Blk.mod h m j
theorem fA.congr(h:fA w g t n C)(e:∀k,k<n->C k=D k):fA w g t n D:=by unfold fA;rw[<-L6 e];exact h
def fA.cell(h:fA w g t n C){k}(j:k<n):w.cell? ⟨g,k,δ⟩=γ (C k):=(Blk.cell h k).trans (Ba j)
def fA.cell_(h:fA w g t n C){k v}(j:k<n)(hv:C k=v):w.cell? ⟨g,k,δ⟩=γ v:=(h.cell j).trans (by rw[hv])
def fA.frozen(h:fA w g t n C)(k):w.frozen? ⟨g,k,δ⟩=ζ:=Blk.frozen h k
def fA.set(h:fA w g t n C){k}(v)(j:k<n):fA (w.setCell ⟨g,k,δ⟩ v) g t n (upd C k v):=by
 have:=Blk.qg h k v;rw[Kv v j] at this;exact this
def fA.puts(h:fA w g t n C){k:Nat}(B:List Value)(j:k+B.length<=n):fA (puts w g k B) g t n (D6 C k B):=by
 have:=bR k B h;rw[CJ B j] at this;exact this
def Mod.set{S}(w g k v)(j:S g):Mod S w (w.setCell ⟨g,k,δ⟩ v):=Mod.only (Only.set w g k v) j
def Mod.puts{S:Nat->Prop}(w:World)(g k:Nat)(B:List Value)(j:S g):Mod S w (puts w g k B):=Mod.only (fD w g k B) j
end
def fA.rangeAt{w g n o t C}(h:fA w g t n C){B}(hn:o+B.length<=n)(hv:∀j v,B[j]? =γ v->C (o+j)=v):w.rangeAt g o B:=fun j v l=>by
 have:=(μ.1 l).1;exact h.cell_ aa (hv j v l)
def fA.there{w g n o m t C}(h:fA w g t n C)(hn:o+m<=n):w.there g o m:=fun j l=>
 ⟨by rw[h.cell (k:=o+j) aa];rfl,h.frozen _⟩
def jq(g):∀(B:List Value) (o:Nat) (w:World),w.setCells g o B=puts w g o B
 |[],_,_=>rfl
 |v::B,o,w=>by
  show(w.setCell ⟨g,o,δ⟩ v).setCells g (o+1) B=_;rw[jq g B (o+1)];rfl
def fC{S w0 w w'}(h:Ext w0 w)(m:Mod S w w')(hs:∀k,S k->w0.heap.size<=k):Ext w0 w':=
 ⟨m.os.trans h.os,m.tape.trans h.tape,m.output.trans h.output,nk h.size m.size,fun k j=>(m.block k (π j h.size) (fun e=>by have:=hs k e;omega)).trans (h.block k j)⟩
def mr (v:Value):Bool:=match v with| .int .u32 _=>ζ|_=>ε
def gu (S:Nat->Prop) (w:World):Prop:=∀g,S g->g<w.heap.size->∃(t:TypeId) (cs:Array Value),Blk w g t cs/\∀(j:Nat) (v:Value),cs[j]? =γ v->mr v=ε
def ae6{S w g n t C}(h:fA w g t n C)(K:∀k,k<n->mr (C k)=ε)(hS:∀k,S k->k=g):gu S w:=by
 intro k B _;obtain rfl:=hS k B;refine⟨t,_,h.blk,fun j v l=> ?_⟩;by_cases hn:j<n
 .rw[Ba hn] at l;injection l with l;rw[<-l];exact K j hn
 .rw[Dw aa] at l;cases l
section
variable {S:Nat->Prop} {w w':World}
def RM.fo{A n c l}(h:RM w A n c l)(m:Mod S w w')(hS:gu S w):RM w' A n c l:=by
 refine⟨⟨h.rd.1,fun hn=> ?_⟩,h.dg,h.nc,h.cm⟩;obtain⟨b,o,rfl,B,hc⟩:=h.rd.plain hn;obtain⟨R,x,e,_,H,_,_⟩:=h.at_ hn;have C:¬S b:=by
  intro hs;obtain⟨t,cs,hb,D⟩:=hS b hs B;have:=hc 0 _ (ry H);rw[hb.cell] at this;have:=D _ _ this;cases this
 exact AaV
def RI.fo{v z}(h:RI w v z)(m:Mod S w w')(hS:gu S w):RI w' v z:=by
 obtain⟨A,n,c,e,h⟩:=h;exact⟨A,n,c,e,h.fo m hS⟩
def GV.fo{v q n}(h:GV w v q n)(m:Mod S w w')(hS:gu S w):GV w' v q n:=by
 obtain⟨a,b,d,⟨s1,A1,n1,c1,s2,A2,n2,c2,s3,A3,n3,c3,e,l,j,B⟩,I,Z⟩:=h;exact⟨a,b,d,⟨s1,A1,n1,c1,s2,A2,n2,c2,s3,A3,n3,c3,e,l.fo m hS,j.fo m hS,B.fo m hS⟩,I,Z⟩
end
def F9(a f):∀b,aM a f++aM b (fun _=>zEn)=aM (a+b) (fun i=>if i<a then f i else zEn)
 |0=>by
  show aM a f++[]=_;rw[aaj];exact zI fun i hi=>by rw[ι hi]
 |b+1=>by
  rw[iG,<-Ha,F9 a f b,show a+(b+1)=(a+b)+1 by omega,iG,θ aa]
def af8(w g cs):Mod (fun k=>k=g) w (w.setRow g cs):=Mod.only (Only.setRow w g cs) rfl
def I9{w g t old cs}(h:Blk w g t old):Blk (w.setRow g cs) g t cs:=aeq w g old cs t (0,0) h
theorem JL{P w ops rest o a Q}(D:o.guard=δ)(s x:Operand)(t)(l:o.op=.call {callee:=.builtin .append,args:= #[s,x],argTypes:= #[t,t]}){B j K w'}(hs:a.eval s=B)(F:a.eval x=j)(C:(Builtin.append_ #[t,t] o.type #[B,j]).run P w=.ok K w')(h:wpList P ops Q rest (a.put o.dst K) w'):wpList P ops Q (o::rest) a w:=by
 refine adG D fun _ J=> ?_;unfold Oper.wp execOp;simp only[l,Go.resolve,invoke,builtin,aaG,aa4,aaB,List.map_toArray,acE,List.map_nil,hs,F,C];exact J _ _ h
def afs(x y):x/y=GQ.i 1 0/y*x:=by
 ext<;>simp only[GQ.Af,GQ.vg,GQ.aR,GQ.aQ,GQ.bU,GQ.bS]<;>grind
def agf(a b c:GQ):a*(b/c)=a/c*b:=by
 rw[afs b,afs a,<-GQ.cK,GQ.dX a,GQ.cK]
def afQ{x}(h:x≠GQ.i 0 0):x/x=GQ.i 1 0:=by
 have:=GQ.Ki (x:=GQ.i 1 0) h;rw[GQ.jJ] at this;exact this
def agx: -(GQ.i 0 0)=GQ.i 0 0:=by(ext<;>simp only[GQ.bf,GQ.aY,GQ.bX,GQ.cu,GQ.aR,GQ.aQ,GQ.ky,GQ.kE,GQ.bU,GQ.bS]<;>grind)
def agp(x:GQ): - -x=x:=by(ext<;>simp only[GQ.bf,GQ.aY,GQ.bX,GQ.cu,GQ.aR,GQ.aQ,GQ.ky,GQ.kE,GQ.bU,GQ.bS]<;>grind)
def ae3{x y}(h:x-y=GQ.i 0 0):x=y:=by
 have a:=congrArg GQ.re h;have b:=congrArg GQ.im h;simp only[GQ.bX,GQ.cu,GQ.bU,GQ.bS] at a b;ext<;>grind
def Spn (v:Nat->GQ) (P:List (Nat->GQ)):Prop:=∀cs,det (v::P) cs=GQ.i 0 0
def Spn.more{v b P}(h:Spn v P):Spn v (b::P):=by
 intro cs;rw[vT];have:det (v::P)=fun _=>GQ.i 0 0:=funext h;show-cO b (det (v::P)) cs=_;rw[this,lN,agx]
def afA{y a P}(h:Says y a P):Spn y (a::P):=fun cs=>by
 rw[h.more cs,qB a (a::P) cs (q9)]
def Spn.Vw{x y P}(B:Spn x P)(j:Spn y P)(f):Spn (fun c=>x c-f*y c) P:=fun cs=>by
 have l:det ((fun c=>x c-f*y c)::P) cs=det (x::P) cs-f*det (y::P) cs:=wU x y f cs (det P);rw[l,B cs,j cs,GQ.bL,GQ.eQ]
def Spn.OC{x P}(l:Spn x P)(f):Spn (fun c=>x c/f) P:=fun cs=>by
 have e:(fun c=>x c/f)=fun c=>GQ.i 1 0/f*x c:=funext fun c=>afs _ _;rw[e];have j:det ((fun c=>GQ.i 1 0/f*x c)::P) cs=GQ.i 1 0/f*det (x::P) cs:=rD _ _ _;rw[j,l cs,GQ.bL]
def Cz{v}:∀(cs:List Nat) (k:Nat) (D:List Nat->GQ),k<cs.length->(∀t d,cs[t]? =γ d->v d=if t=k then GQ.i 1 0 else GQ.i 0 0)->cO v D cs=D (cs.eraseIdx k)\/cO v D cs= -D (cs.eraseIdx k)
 |[],k,D,hk,_=>by simp at hk
 |c::cs,0,D,_,h=>by
  left
  show v c*D cs-cO v (fun l=>D (c::l)) cs=D cs;rw[h 0 c rfl,ι rfl,GQ.jJ,lM cs _ (fun d hd=>by
   obtain⟨t,j⟩:=abM hd;rw[h (t+1) d j,θ aa]),GQ.eQ]
 |c::cs,k+1,D,hk,h=>by
  have hv:v c=GQ.i 0 0:=by rw[h 0 c rfl,θ aa]
  have B:=Cz (v:=v) cs k (fun l=>D (c::l)) (by simpa using hk) (fun t d j=>by
   rw[h (t+1) d j];by_cases e:t=k
   .rw[ι aa,ι e]
   .rw[θ aa,θ e])
  have e:cO v D (c::cs)= -cO v (fun l=>D (c::l)) cs:=by
   show v c*D cs-cO v (fun l=>D (c::l)) cs=_;rw[hv,GQ.eO,GQ.ME]
  rw[e];rcases B with B|B
  .right;rw[B];rfl
  .left;rw[B,agp];rfl
def Spn.entry{v P q k}(h:Spn v P)(B:k<q.length)(hq:∀t d,q[t]? =γ d->v d=if t=k then GQ.i 1 0 else GQ.i 0 0)(j):
  v j*det P q=det P (j::q.eraseIdx k)\/v j*det P q= -det P (j::q.eraseIdx k):=by
 have e:v j*det P q=cO v (fun l=>det P (j::l)) q:=ae3 (h (j::q));rw[e];exact Cz q k _ B hq
def Wh.neg{x B}(h:Wh x B):Wh (-x) B:=by
 obtain⟨a,b,rfl,j⟩:=h;exact⟨-a,-b,by(ext<;>simp only[GQ.bf,GQ.aY,GQ.bX,GQ.cu,GQ.aR,GQ.aQ,GQ.ky,GQ.kE,GQ.bU,GQ.bS]<;>grind),aa⟩
def red (Y:Nat->Nat->GQ) (r c:Nat):Nat->Nat->GQ:=fun i j=>if i=r then Y r j/Y r c else Y i j-Y i c*(Y r j/Y r c)
structure Rc where
 r:Nat
 X:Nat->Nat->GQ
 d:GQ
def AC (m c:Nat) (s:Rc):Rc:=
 match fp s.X c (m-s.r) s.r with
 |none=>s
 |some k=>⟨s.r+1,red (fun i=>s.X (swp k s.r i)) s.r c,(if k=s.r then s.d else s.d*GQ.i (-1) 0)*s.X k c⟩
def mJ (m:Nat) (X:Nat->Nat->GQ):Nat->Rc
 |0=>⟨0,X,GQ.i 1 0⟩
 |c+1=>AC m c (mJ m X c)
theorem IU{m c}{s:Rc}(h:fp s.X c (m-s.r) s.r=δ):AC m c s=s:=by unfold AC;rw[h]
theorem Iy{m c k}{s:Rc}(h:fp s.X c (m-s.r) s.r=γ k):AC m c s=⟨s.r+1,red (fun i=>s.X (swp k s.r i)) s.r c,(if k=s.r then s.d else s.d*GQ.i (-1) 0)*s.X k c⟩:=by unfold AC;rw[h]
def zf(m Z):∀c,(ech m Z c).r<=c
 |0=>κ _
 |c+1=>by
  have B:=zf m Z c;show(jN m c (ech m Z c)).r<=c+1;cases j:fp (ech m Z c).X c (m-(ech m Z c).r) (ech m Z c).r with
  |none=>rw[eX j];omega
  |some k=>rw[dN j];show(ech m Z c).r+1<=c+1;omega
def yu{X Y}:∀{k:Nat},(∀i,i<k->X i i=Y i i)->qE X k=qE Y k
 |0,_=>rfl
 |k+1,h=>by
  show qE X k*X k k=qE Y k*Y k k;rw[yu (fun i hi=>h i aa),h k aa]
structure RInv (m:Nat) (X0:Nat->Nat->GQ) (c:Nat) (s:Ec) (t:Rc) (o:Nat->Nat) (P:List (Nat->GQ)):Prop where
 inv:Inv m X0 c s o P
 re:t.r=s.r
 lo:∀i,s.r<=i->i<m->t.X i=s.X i
 sp:∀i,i<s.r->Spn (t.X i) P
 un:∀i,i<s.r->∀k d,s.q[k]? =γ d->t.X i d=if k+i+1=s.r then GQ.i 1 0 else GQ.i 0 0
 dd:t.d=if s.odd then-det P s.q else det P s.q
 pp:s.r=c->qE s.X c=det P s.q
def afu(m l):RInv m l 0 (ech m l 0) (mJ m l 0) (fun i=>i) []:=
 ⟨afj m l,rfl,fun _ _ _=>rfl,fun i hi=>absurd hi (ack i),fun i hi=>absurd hi (ack i),rfl,fun _=>rfl⟩
theorem RInv.step{m c l}{s:Ec}{t:Rc}{o P}(h:RInv m l c s t o P)(WP:s.r<=c):(fp s.X c (m-s.r) s.r=δ/\RInv m l (c+1) (jN m c s) (AC m c t) o P)\/∃k,fp s.X c (m-s.r) s.r=γ k/\RInv m l (c+1) (jN m c s) (AC m c t) (fun i=>o (swp k s.r i)) (l (o k)::P):=by
 have WJ:=h.inv.rm;cases O:fp s.X c (m-s.r) s.r with
 |none=>
  have J:fp t.X c (m-t.r) t.r=δ:=by
   rw[h.re];refine zl fun i N M=> ?_;rw[h.lo i N aa];exact oN O i N M
  have V:Inv m l (c+1) s o P:=⟨h.inv.rm,h.inv.pl,h.inv.ql,h.inv.ne,fun d hd=>ab9 (h.inv.qc d hd),h.inv.pm,h.inv.om,h.inv.sy,fun i j N M Z=>by
   by_cases e:j=c
   .subst e;exact oN O i N aa
   .exact h.inv.z i j N M aa⟩
  rw[eX O,IU J];exact .inl ⟨rfl,V,h.re,h.lo,h.sp,h.un,h.dd,fun e=>aa⟩
 |some k=>
  obtain⟨C,k2,R,k4⟩:=ic O;have S:k<m:=aa;have I:∀i,s.r<=i->i<m->t.X i=s.X i:=h.lo;have J:fp t.X c (m-t.r) t.r=γ k:=by
   rw[h.re];refine zh C aa (fun i N M=> ?_) ?_
   .rw[I i N aa];exact k4 i N M
   .rw[I k C S];exact R
  have F:=(h.inv.sy k C aa).entry (fun d hd=>h.inv.z k d C aa (h.inv.qc d hd)) c;have G:Spn (s.X k) (l (o k)::P):=afA (h.inv.sy k C aa);have K:∀d∈s.q,s.X k d=GQ.i 0 0:=fun d hd=>h.inv.z k d C S (h.inv.qc d hd);have B:swp k s.r s.r=k:=ng _ _;have H:∀i,i<s.r->swp k s.r i=i:=fun i hi=>vK aa aa;have D:∀i,s.r<i->i<m->s.r<=swp k s.r i/\swp k s.r i<m:=fun i N M=>⟨by unfold swp;split<;>(try split)<;>omega,kV S aa M⟩;have V:Inv m l (c+1) (jN m c s) (fun i=>o (swp k s.r i)) (l (o k)::P):=by
   rw[dN O];refine⟨by show s.r+1<=m;omega,by simp[h.inv.pl],by simp[h.inv.ql],?_,?_,?_,?_,?_,?_⟩
   .show det (l (o k)::P) (c::s.q)≠_;rw[F];exact GQ.ik R h.inv.ne
   .intro d hd;rcases ψ.1 hd with rfl|hd
    .omega
    .exact ab9 (h.inv.qc d hd)
   .intro p hp;rcases ψ.1 hp with rfl|hp
    .exact⟨o k,h.inv.om k aa,rfl⟩
    .exact h.inv.pm p hp
   .intro i hi;exact h.inv.om _ (kV aa aa hi)
   .intro i N M;have L:s.r<i:=N;have e:(clr (fun i=>s.X (swp k s.r i)) s.r c) i=fun j=>s.X (swp k s.r i) j-(s.X (swp k s.r i) c/s.X k c)*s.X k j:=by
     funext j;unfold clr;rw[ι L];simp only[B]
    show Says ((clr (fun i=>s.X (swp k s.r i)) s.r c) i) _ _;rw[e];exact Says.step (h.inv.sy _ (D i L M).1 (D i L M).2) (h.inv.sy k C aa) _
   .intro i j N M Z;have L:s.r<i:=N;show(clr (fun i=>s.X (swp k s.r i)) s.r c) i j=_;unfold clr;rw[ι L];simp only[B];by_cases e:j=c
    .subst e;rw[aeQ R,GQ.qz]
    .rw[h.inv.z _ j (D i L M).1 (D i L M).2 aa,h.inv.z k j C aa aa,GQ.bL,GQ.eQ]
  rw[Iy J];refine .inr ⟨k,rfl,V,?_,?_,?_,?_,?_,?_⟩
  .rw[dN O];show t.r+1=s.r+1;rw[h.re]
  .rw[dN O];intro i N M;have L:s.r<i:=N;funext j;show red (fun i=>t.X (swp k t.r i)) t.r c i j=clr (fun i=>s.X (swp k s.r i)) s.r c i j;rw[h.re];unfold red clr;rw[θ aa,ι L];simp only[B];rw[I _ (D i L M).1 (D i L M).2,I k C S,agf]
  .rw[dN O];intro i hi;have U:i<s.r+1:=hi;show Spn (red (fun i=>t.X (swp k t.r i)) t.r c i) _;rw[h.re];by_cases e:i=s.r
   .subst e;have Q:red (fun i=>t.X (swp k s.r i)) s.r c s.r=fun j=>s.X k j/s.X k c:=by
     funext j;unfold red;rw[ι rfl];simp only[B];rw[I k C S]
    rw[Q];exact G.OC _
   .have Q:red (fun i=>t.X (swp k s.r i)) s.r c i=fun j=>t.X i j-t.X i c*(s.X k j/s.X k c):=by
     funext j;unfold red;rw[θ e];simp only[B];rw[I k C S,H i aa]
    rw[Q];exact(h.sp i aa).more.Vw (G.OC _) _
  .rw[dN O];intro i hi n d hd;have U:i<s.r+1:=hi;show red (fun i=>t.X (swp k t.r i)) t.r c i d=if n+i+1=s.r+1 then _ else _;rw[h.re];by_cases e:i=s.r
   .subst e;have Q:red (fun i=>t.X (swp k s.r i)) s.r c s.r d=s.X k d/s.X k c:=by
     unfold red;rw[ι rfl];simp only[B];rw[I k C S]
    rw[Q]
    match n,hd with
    |0,hd=>
     obtain rfl:c=d:=by simpa using hd
     rw[ι aa,afQ R]
    |n+1,hd=>
     have hd':s.q[n]? =γ d:=by simpa using hd
     rw[θ aa,K d (xx hd'),afh]
   .have Q:red (fun i=>t.X (swp k s.r i)) s.r c i d=t.X i d-t.X i c*(s.X k d/s.X k c):=by
     unfold red;rw[θ e];simp only[B];rw[I k C S,H i aa]
    rw[Q]
    match n,hd with
    |0,hd=>
     obtain rfl:c=d:=by simpa using hd
     rw[θ aa,afQ R,GQ.qo,GQ.qz]
    |n+1,hd=>
     have hd':s.q[n]? =γ d:=by simpa using hd
     rw[K d (xx hd'),afh,GQ.bL,GQ.eQ,h.un i aa n d hd'];by_cases Y:n+i+1=s.r
     .rw[ι Y,ι aa]
     .rw[θ Y,θ aa]
  .rw[dN O];show(if k=t.r then t.d else t.d*GQ.i (-1) 0)*t.X k c=if (s.odd^^decide (k≠s.r)) then-det (l (o k)::P) (c::s.q) else det (l (o k)::P) (c::s.q);rw[F,I k C S,h.re,h.dd];generalize s.X k c=x;generalize det P s.q=y;by_cases e:k=s.r
   .have W:(s.odd^^decide (k≠s.r))=s.odd:=by simp[e]
    rw[ι e,W];cases s.odd
    .show y*x=x*y;exact GQ.dX _ _
    .show-y*x= -(x*y)
     (ext<;>simp only[GQ.bf,GQ.aY,GQ.bX,GQ.cu,GQ.aR,GQ.aQ,GQ.ky,GQ.kE,GQ.bU,GQ.bS]<;>grind)
   .have W:(s.odd^^decide (k≠s.r))= !s.odd:=by simp[e]
    rw[θ e,W];cases s.odd
    .show y*GQ.i (-1) 0*x= -(x*y)
     (ext<;>simp only[GQ.bf,GQ.aY,GQ.bX,GQ.cu,GQ.aR,GQ.aQ,GQ.ky,GQ.kE,GQ.bU,GQ.bS]<;>grind)
    .show-y*GQ.i (-1) 0*x=x*y
     (ext<;>simp only[GQ.bf,GQ.aY,GQ.bX,GQ.cu,GQ.aR,GQ.aQ,GQ.ky,GQ.kE,GQ.bU,GQ.bS]<;>grind)
  .rw[dN O];intro e;have T:s.r=c:=by have:s.r+1=c+1:=e;omega
   show qE (clr (fun i=>s.X (swp k s.r i)) s.r c) c*clr (fun i=>s.X (swp k s.r i)) s.r c c c=det (l (o k)::P) (c::s.q);rw[F,<-h.pp T];have a1:clr (fun i=>s.X (swp k s.r i)) s.r c c c=s.X k c:=by
    unfold clr;rw[θ aa];simp only[];rw[<-T,B]
   have a2:qE (clr (fun i=>s.X (swp k s.r i)) s.r c) c=qE s.X c:=yu fun i hi=>by
    unfold clr;rw[θ aa];simp only[];rw[H i aa]
   rw[a1,a2,GQ.dX]
def Out.mem{W G m n RX X}(h:Out W G m n RX X)(H:m<=1000)(hn:n<=1000):∃(R:Nat->Rw) (E:Nat->Nat->En),Mem W (γ ⟨G,0,δ⟩) G 0 m R E/\(∀i,i<m->(R i).n=n)/\∀i j,i<m->j<n->GV W (E i j).v (X i j) 12800:=by
 have hc:∀i,∃f:Nat->En,i<m->Blk W (RX i).b 42 (aM n f).toArray/\∀j,j<n->GV W (f j).v (X i j) 12800:=fun i=>by
  by_cases hi:i<m
  .obtain⟨f,F,C⟩:=(h.row i hi).2.2.2;exact⟨f,fun _=>⟨F,C⟩⟩
  .exact⟨fun _=>zEn,fun h=>absurd h hi⟩
 obtain⟨E,Y⟩:=Classical.axiomOfChoice hc;refine⟨fun i=>⟨(RX i).A,(RX i).b,0,(RX i).n,(RX i).c⟩,E,⟨fun _=>rfl,fun i hi=> ?_,fun i hi _=>(h.row i hi).1,fun i j hi B t u N=> ?_,aa,fun i hi=> ?_⟩,fun i hi=>(h.row i hi).2.1,fun i j hi B=>(Y i hi).2 j B⟩
 .rw[h.x.cell,aaw,iE hi];rfl
 .have l:j<n:=by have:=(h.row i hi).2.1;have M:j<(RX i).n:=B;omega
  have D:t<6:=(μ.1 N).1;show W.cell? ⟨(RX i).b,0+(j*6+t),δ⟩=γ u;rw[aaw,(Y i hi).1.cell,Ξ,dO D l];exact N
 .have:=(h.row i hi).2.1;show(RX i).n<=_;omega
def Dn{a b n}(ha:a.natAbs<2^n)(hb:b.natAbs<2^n)(hn:1<=n):Bd (GQ.i a b) n:=by
 refine⟨a,b,1,Qk a b,ha,hb,?_⟩;have:2^1<=2^n:=BB aa hn;show(1:Int).natAbs<2^n;simp;omega
def mx2 (a b c d:GQ):Nat->Nat->GQ:=fun i j=>if i=0 then (if j=0 then a else b) else (if j=0 then c else d)
def kA:Nat->Nat->GQ:=mx2 (GQ.i 0 0) (GQ.i 1 0) (GQ.i 1 0) (GQ.i 0 0)
def kB:Nat->Nat->GQ:=mx2 (GQ.i 5 0) (GQ.i 5 0) (GQ.i 7 0) (GQ.i 7 0)
def kp(k)(j:k<=2):Bd (qE (ech 2 kA 2).X k) 64:=by
 match k,j with
 |0,_=>rw[show qE (ech 2 kA 2).X 0=GQ.i 1 0 by decide+kernel];exact Dn aj aj aj
 |1,_=>rw[show qE (ech 2 kA 2).X 1=GQ.i 1 0 by decide+kernel];exact Dn aj aj aj
 |2,_=>rw[show qE (ech 2 kA 2).X 2=GQ.i 1 0 by decide+kernel];exact Dn aj aj aj
def kd(i)(hi:i<2):Bd ((ech 2 kA 2).X i i) 64:=by
 match i,hi with
 |0,_=>rw[show(ech 2 kA 2).X 0 0=GQ.i 1 0 by decide+kernel];exact Dn aj aj aj
 |1,_=>rw[show(ech 2 kA 2).X 1 1=GQ.i 1 0 by decide+kernel];exact Dn aj aj aj
def nZ (X Y:Nat->Nat->GQ) (i j:Nat):Nat->GQ
 |0=>GQ.i 0 0
 |s+1=>nZ X Y i j s+X i s*Y s j
def D2 (X:Nat->Nat->GQ):GQ:=X 0 0*X 1 1-X 0 1*X 1 0
def D3 (X:Nat->Nat->GQ):GQ:=X 0 0*(X 1 1*X 2 2-X 1 2*X 2 1)-X 0 1*(X 1 0*X 2 2-X 1 2*X 2 0)+X 0 2*(X 1 0*X 2 1-X 1 1*X 2 0)
def d3 (a b c d e f g h i:GQ):GQ:=a*(e*i-f*h)-b*(d*i-f*g)+c*(d*h-e*g)
theorem Ky(m X):∀c,(ech m X c).r=c->∀i j,i<m->j<i->j<c->(ech m X c).X i j=GQ.i 0 0
 |0,_,i,j,_,_,h=>aa
 |c+1,h,i,j,hi,hji,hjc=>by
  have I:=EF m X c;by_cases l:c+1<=i
  .obtain⟨o,P,C⟩:=nM m X (c+1);exact C.z i j aa hi hjc
  have e:ech m X (c+1)=jN m c (ech m X c):=rfl;rw[e] at h⊢;cases B:fp (ech m X c).X c (m-(ech m X c).r) (ech m X c).r with
  |none=>rw[eX B] at h;omega
  |some k=>
   rw[dN B] at h⊢;have F:(ech m X c).r=c:=by have G:(ech m X c).r+1=c+1:=h;omega
   obtain⟨H,J,L,K⟩:=ic B;show clr (fun i=>(ech m X c).X (swp k (ech m X c).r i)) (ech m X c).r c i j=_;rw[F] at H⊢;unfold clr;rw[θ aa];show(ech m X c).X (swp k c i) j=_;by_cases D:i=c
   .subst D;rw[ng];obtain⟨o,P,C⟩:=nM m X i;exact C.z k j aa aa aa
   .rw[vK aa D];exact Ky m X c F i j hi hji aa
def F3:Nat->Nat:=fun k=>if k=0 then 402 else if k=1 then 1607 else 3617
theorem Hf(m X c):∀d,c<=d->∀i,i<(ech m X c).r->(ech m X d).X i=(ech m X c).X i/\(ech m X c).r<=(ech m X d).r
 |0,hd,i,hi=>by rw[show c=0 by omega] at hi⊢;exact⟨rfl,κ _⟩
 |d+1,hd,i,hi=>by
  by_cases e:c=d+1
  .rw[e];exact⟨rfl,κ _⟩
  .obtain⟨D,B⟩:=Hf m X c d aa i hi;have F:ech m X (d+1)=jN m d (ech m X d):=rfl;rw[F,<-D];cases l:fp (ech m X d).X d (m-(ech m X d).r) (ech m X d).r with
   |none=>rw[eX l];exact⟨rfl,B⟩
   |some k=>
    obtain⟨C,G,H,I⟩:=ic l;rw[dN l];refine⟨?_,by show(ech m X c).r<=(ech m X d).r+1;omega⟩;funext j;show clr (fun i=>(ech m X d).X (swp k (ech m X d).r i)) (ech m X d).r d i j=_;unfold clr;rw[θ aa];show(ech m X d).X (swp k (ech m X d).r i) j=_;rw[vK aa aa]
def Og(m X c):∀e,(ech m X (c+e)).r<=(ech m X c).r+e
 |0=>κ _
 |e+1=>by
  have B:=Og m X c e;show(jN m (c+e) (ech m X (c+e))).r<=_;cases j:fp (ech m X (c+e)).X (c+e) (m-(ech m X (c+e)).r) (ech m X (c+e)).r with
  |none=>rw[eX j];omega
  |some k=>rw[dN j];show(ech m X (c+e)).r+1<=_;omega
def yg{m X}(h:¬(ech m X m).r<m){k}(l:k<=m):(ech m X k).r=k:=by
 have B:=zf m X k;have j:=Og m X k (m-k);rw[show k+(m-k)=m by omega] at j;omega
def PS{A B c n k}(h:∀i,k<=i->i<k+n->A i c=B i c):fp A c n k=fp B c n k:=by
 cases D:fp B c n k with
 |none=>exact zl fun i j l=>by rw[h i j l];exact oN D i j l
 |some p=>
  obtain⟨C,F,G,H⟩:=ic D;exact zh C F (fun i j l=>by rw[h i j aa];exact H i j l) (by rw[h p C F];exact G)
theorem CO{m n A B}(h:∀i j,i<m->j<n->A i j=B i j):∀c,c<=n->(ech m A c).r=(ech m B c).r/\(ech m A c).odd=(ech m B c).odd/\∀i j,i<m->j<n->(ech m A c).X i j=(ech m B c).X i j
 |0,_=>⟨rfl,rfl,h⟩
 |c+1,hc=>by
  obtain⟨D,I,l⟩:=CO h c aa;have L:ech m A (c+1)=jN m c (ech m A c):=rfl;have J:ech m B (c+1)=jN m c (ech m B c):=rfl;obtain⟨o,P,K⟩:=nM m B c;have M:=K.rm;have G:fp (ech m A c).X c (m-(ech m A c).r) (ech m A c).r=fp (ech m B c).X c (m-(ech m B c).r) (ech m B c).r:=by
   rw[D];exact PS fun i _ hi=>l i c aa aa
  rw[L,J];cases F:fp (ech m B c).X c (m-(ech m B c).r) (ech m B c).r with
  |none=>rw[eX (G.trans F),eX F];exact⟨D,I,l⟩
  |some k=>
   obtain⟨C,O,N,Q⟩:=ic F;rw[dN (G.trans F),dN F];refine⟨by show _+1=_+1;rw[D],by show(_^^_)=(_^^_);rw[D,I],fun i j hi H=> ?_⟩;show clr (fun i=>(ech m A c).X (swp k (ech m A c).r i)) (ech m A c).r c i j=clr (fun i=>(ech m B c).X (swp k (ech m B c).r i)) (ech m B c).r c i j;rw[D];have hs:∀i,i<m->swp k (ech m B c).r i<m:=fun i hi=>kV aa aa hi;unfold clr;by_cases e:(ech m B c).r<i
   .rw[ι e,ι e];simp only[];rw[l _ j (hs i hi) H,l _ c (hs i hi) aa,l _ c (hs _ aa) aa,l _ j (hs _ aa) H]
   .rw[θ e,θ e];exact l _ j (hs i hi) H
def Jw{m X Y}:∀c,c<=m->(ech m (side m X Y) c).r=(ech m X c).r/\(ech m (side m X Y) c).odd=(ech m X c).odd/\∀i j,i<m->j<m->(ech m (side m X Y) c).X i j=(ech m X c).X i j:=
 CO fun i j _ l=>Io l
structure Kg (m:Nat) (X0:Nat->Nat->GQ) (c:Nat) (s:Ec) (t:Rc) (o:Nat->Nat) (P:List (Nat->GQ)):Prop where
 r:RInv m X0 c s t o P
 cov:∀p,p<m->X0 p∈P\/∃i,s.r<=i/\i<m/\o i=p
 sp:∀i,i<s.r->Spn (s.X i) P
 qd:s.r=c->∀k,k<c->s.q[k]? =γ (c-1-k)
theorem kH(m l):∀c,∃o P,Kg m l c (ech m l c) (mJ m l c) o P
 |0=>⟨_,_,afu m l,fun p hp=> .inr ⟨p,Ex _,hp,rfl⟩,fun i hi=>absurd hi (ack i),fun _ k K=>absurd K (ack k)⟩
 |c+1=>by
  obtain⟨o,P,h⟩:=kH m l c;have I:=zf m l c;have G:ech m l (c+1)=jN m c (ech m l c):=rfl;rcases h.r.step I with ⟨D,H⟩|⟨k,D,H⟩
  .refine⟨o,P,H,?_,?_,?_⟩
   .rw[G,eX D];exact h.cov
   .rw[G,eX D];exact h.sp
   .rw[G,eX D];intro e;omega
  .obtain⟨C,S,R,T⟩:=ic D;have O:=h.r.inv.rm;refine⟨_,_,H,?_,?_,?_⟩
   .rw[G,dN D];intro p hp;rcases h.cov p hp with hc|⟨i,Q,N,J⟩
    .exact .inl (ib _ hc)
    .by_cases e:i=k
     .subst e;subst J;exact .inl q9
     .right
      refine⟨swp k (ech m l c).r i,?_,kV aa aa N,by simp only[Dq];exact J⟩;show(ech m l c).r+1<=_;by_cases B:i=(ech m l c).r
      .rw[B,ng];omega
      .rw[vK e B];omega
   .rw[G,dN D];intro i hi;have M:i<(ech m l c).r+1:=hi;by_cases e:i=(ech m l c).r
    .have B:clr (fun i=>(ech m l c).X (swp k (ech m l c).r i)) (ech m l c).r c i=(ech m l c).X k:=by
      funext j;unfold clr;rw[θ aa];simp only[];rw[e,ng]
     show Spn (clr (fun i=>(ech m l c).X (swp k (ech m l c).r i)) (ech m l c).r c i) _;rw[B];exact afA (h.r.inv.sy k C aa)
    .have B:clr (fun i=>(ech m l c).X (swp k (ech m l c).r i)) (ech m l c).r c i=(ech m l c).X i:=by
      funext j;unfold clr;rw[θ aa];simp only[];rw[vK aa e]
     show Spn (clr (fun i=>(ech m l c).X (swp k (ech m l c).r i)) (ech m l c).r c i) _;rw[B];exact(h.sp i aa).more
   .rw[G,dN D];intro e F L;have B:(ech m l c).r=c:=by have:(ech m l c).r+1=c+1:=e;omega
    show(c::(ech m l c).q)[F]? =_
    match F with
    |0=>rw[show c+1-1-0=c by omega];rfl
    |F+1=>
     have:=h.qd B F aa;rw[show c+1-1-(F+1)=c-1-F by omega];exact this
def Spn.zero{v P q}(h:Spn v P)(C:det P q≠GQ.i 0 0)(D:∀c∈q,v c=GQ.i 0 0)(j):v j=GQ.i 0 0:=by
 have e:v j*det P q=cO v (fun l=>det P (j::l)) q:=ae3 (h (j::q));rw[lM q _ D] at e;rcases adY (v j=GQ.i 0 0) with B|B
 .exact B
 .exact absurd e (GQ.ik B C)
def rest (v:Nat->GQ) (T:Nat->Nat->GQ):Nat->Nat->GQ
 |0=>v
 |s+1=>fun c=>rest v T s c-v s*T s c
def Fa{v T P}(hv:Spn v P):∀s,(∀l,l<s->Spn (T l) P)->Spn (rest v T s) P
 |0,_=>hv
 |s+1,h=>(Fa hv s (fun l Z=>h l aa)).Vw (h s aa) (v s)
def Ls{v T m c}(j:∀l,l<m->T l c=if l=c then GQ.i 1 0 else GQ.i 0 0):∀s,s<=m->rest v T s c=if c<s then GQ.i 0 0 else v c
 |0,_=>by rw[θ aa];rfl
 |s+1,hs=>by
  show rest v T s c-v s*T s c=_;rw[Ls j s aa,j s aa];by_cases e:s=c
  .subst e;rw[θ aa,ι rfl,ι aa,GQ.qo,GQ.qz]
  .rw[θ e,GQ.bL,GQ.eQ];by_cases h:c<s
   .rw[ι h,ι aa]
   .rw[θ h,θ aa]
def Hg{v T c}:∀s,rest v T s c=v c-nZ (fun _ l=>v l) (fun l _=>T l c) 0 0 s
 |0=>by show v c=v c-GQ.i 0 0;rw[GQ.eQ]
 |s+1=>by
  show rest v T s c-v s*T s c=v c-(nZ (fun _ l=>v l) (fun l _=>T l c) 0 0 s+v s*T s c);rw[Hg s];generalize nZ (fun _ l=>v l) (fun l _=>T l c) 0 0 s=y;ext<;>simp only[GQ.bX,GQ.cu,GQ.bf,GQ.aY]<;>grind
def vF{X Y X' Y' i j D L}:∀s,(∀l,l<s->X i l=X' D l/\Y l j=Y' l L)->nZ X Y i j s=nZ X' Y' D L s
 |0,_=>rfl
 |s+1,h=>by
  show nZ X Y i j s+X i s*Y s j=nZ X' Y' D L s+X' D s*Y' s L;rw[vF s (fun l Z=>h l aa),(h s aa).1,(h s aa).2]
section
variable {m nb:Nat} {Z0:Nat->Nat->GQ}
def GN{v o P}(h:Kg m Z0 m (ech m Z0 m) (mJ m Z0 m) o P)(C:(ech m Z0 m).r=m)(hv:Spn v P)(j):v j=nZ (fun _ l=>v l) (mJ m Z0 m).X 0 j m:=by
 have F:∀c,c<m->∀l,l<m->(mJ m Z0 m).X l c=if l=c then GQ.i 1 0 else GQ.i 0 0:=fun c hc l Z=>by
  have hq:=h.qd C (m-1-c) aa;rw[show m-1-(m-1-c)=c by omega] at hq;rw[h.r.un l aa _ _ hq,C];by_cases e:l=c
  .rw[ι e,ι aa]
  .rw[θ e,θ aa]
 have D:=Spn.zero (Fa (T:=(mJ m Z0 m).X) hv m fun l Z=>h.r.sp l aa) h.r.inv.ne (fun c hc=>by
  have B:=h.r.inv.qc c hc;rw[Ls (F c B) m (κ _),ι B]) j
 rw[Hg] at D;have:=ae3 D;rw[this];exact vF m fun l _=>⟨rfl,rfl⟩
def yP{o P}(h:Kg m Z0 m (ech m Z0 m) (mJ m Z0 m) o P)(G:(ech m Z0 m).r=m)(j):∀k,k<=m->∀i,m-k<=i->i<m->iY (ech m Z0 m).X m k i j=(mJ m Z0 m).X i (m+j)
 |0,_,i,h1,h2=>aa
 |k+1,hk,i,h1,h2=>by
  have B:=yP h G j k aa;by_cases e:i=m-1-k
  .have hs:∀s,s<=k->bps (ech m Z0 m).X (iY (ech m Z0 m).X m k) m i j s=(ech m Z0 m).X i (m+j)-nZ (fun _ l=>(ech m Z0 m).X i (i+1+l)) (fun l _=>(mJ m Z0 m).X (i+1+l) (m+j)) 0 0 s:=by
    intro s
    induction s with
    |zero=>intro _;show(ech m Z0 m).X i (m+j)=_-GQ.i 0 0;rw[GQ.eQ]
    |succ s ihs=>
     intro hs;show bps _ _ m i j s-(ech m Z0 m).X i (i+1+s)*iY (ech m Z0 m).X m k (i+1+s) j=(ech m Z0 m).X i (m+j)-(nZ _ _ 0 0 s+(ech m Z0 m).X i (i+1+s)*(mJ m Z0 m).X (i+1+s) (m+j));rw[ihs aa,B (i+1+s) aa aa];generalize nZ _ _ 0 0 s=y;ext<;>simp only[GQ.bX,GQ.cu,GQ.bf,GQ.aY]<;>grind
   have D:=GN h G (h.sp i aa) (m+j);have C:∀t,i+1+t<=m->nZ (fun _ l=>(ech m Z0 m).X i l) (mJ m Z0 m).X 0 (m+j) (i+1+t)=(ech m Z0 m).X i i*(mJ m Z0 m).X i (m+j)+nZ (fun _ l=>(ech m Z0 m).X i (i+1+l)) (fun l _=>(mJ m Z0 m).X (i+1+l) (m+j)) 0 0 t:=by
    have J:∀t,t<=i->nZ (fun _ l=>(ech m Z0 m).X i l) (mJ m Z0 m).X 0 (m+j) t=GQ.i 0 0:=by
     intro t
     induction t with
     |zero=>intro _;rfl
     |succ t iht=>
      intro K;show nZ _ _ 0 (m+j) t+(ech m Z0 m).X i t*_=_;rw[iht aa,Ky m Z0 m G i t h2 aa aa,GQ.eO,GQ.add_zero']
    intro t
    induction t with
    |zero=>
     intro _;show nZ _ _ 0 (m+j) i+(ech m Z0 m).X i i*_=_+GQ.i 0 0;rw[J i (κ _),GQ.qN]
    |succ t iht=>
     intro K;show nZ _ _ 0 (m+j) (i+1+t)+(ech m Z0 m).X i (i+1+t)*(mJ m Z0 m).X (i+1+t) (m+j)=_+(nZ _ _ 0 0 t+(ech m Z0 m).X i (i+1+t)*(mJ m Z0 m).X (i+1+t) (m+j));rw[iht aa,GQ.nU]
   have H:=C k aa;rw[show i+1+k=m by omega,<-D] at H;have F:=hs k (κ _);rw[H] at F;have hd:=Bc m Z0 m G i aa;have I:iY (ech m Z0 m).X m (k+1) i j=bps (ech m Z0 m).X (iY (ech m Z0 m).X m k) m i j k/(ech m Z0 m).X i i:=by
    show(upd (iY (ech m Z0 m).X m k) (m-1-k) (fun j=>bps (ech m Z0 m).X (iY (ech m Z0 m).X m k) m (m-1-k) j k/(ech m Z0 m).X (m-1-k) (m-1-k))) i j=_;rw[<-e,upd_same]
   rw[I,F];generalize nZ (fun _ l=>(ech m Z0 m).X i (i+1+l)) (fun l _=>(mJ m Z0 m).X (i+1+l) (m+j)) 0 0 k=y;generalize (mJ m Z0 m).X i (m+j)=x;have L:(ech m Z0 m).X i i*x+y-y=x*(ech m Z0 m).X i i:=by
    ext<;>simp only[GQ.bX,GQ.cu,GQ.bf,GQ.aY,GQ.aR,GQ.aQ]<;>grind
   rw[L,GQ.Ki hd]
  .rw[Cb (ech m Z0 m).X aa aa];exact B i aa h2
def age{v P}(h:v∈P):Spn v P:=fun cs=>qB v P cs h
end
def xO (j:GQ) (e x:Nat->GQ):Nat->GQ
 |0=>j
 |s+1=>xO j e x s-e s*x s
def Ld{j M F e x C l D}(w2:Wh M C)(B:Wh (j*F) l):∀s,(∀t,t<s->Wh (j*e t) l)->(∀t,t<s->Wh (M*x t) D)->Wh (j*M*xO F e x s) (l*C+s*(l*D))
 |0,_,_=>by
  have h:=B.mul w2;have e:j*M*xO F e x 0=j*F*M:=by
   show j*M*F=_;ext<;>simp only[GQ.aR,GQ.aQ]<;>grind
  rw[e];simpa using h
 |s+1,we,wx=>by
  have H:=Ld w2 B s (fun t I=>we t aa) (fun t I=>wx t aa);have G:=(we s aa).mul (wx s aa);have e:j*M*xO F e x (s+1)=j*M*xO F e x s-j*e s*(M*x s):=by
   show j*M*(xO F e x s-e s*x s)=_;ext<;>simp only[GQ.aR,GQ.aQ,GQ.bX,GQ.cu]<;>grind
  rw[e];refine(H.sub G).mono ?_;rw[aaa,aay];omega
def RO{j M H e x F C l D n s}(G:j≠GQ.i 0 0)(I:M≠GQ.i 0 0)(w1:Wh j F)(w2:Wh M C)(B:Wh (j*H) l)(K:∀t,t<s->Wh (j*e t) l)(J:∀t,t<s->Wh (M*x t) D)(n1:(l*C+s*(l*D))*(F*C)<2^n)(n2:F*C*(F*C)<2^n):Bd (xO H e x s) n:=
 ww (Ld w2 B s K J) (w1.mul w2) (GQ.ik G I) (GQ.dX _ _) n1 n2
def Fg(Z Q m i j):∀s,bps Z Q m i j s=xO (Z i (m+j)) (fun t=>Z i (i+1+t)) (fun t=>Q (i+1+t) j) s
 |0=>rfl
 |s+1=>by
  show bps Z Q m i j s-_=xO _ _ _ s-_;rw[Fg Z Q m i j s]
def Al{j e x x'}:∀s,(∀t,t<s->x t=x' t)->xO j e x s=xO j e x' s
 |0,_=>rfl
 |s+1,h=>by
  show xO j e x s-e s*x s=xO j e x' s-e s*x' s;rw[Al s (fun t l=>h t aa),h s aa]
section
variable {m nb:Nat} {X Y:Nat->Nat->GQ}
def sol (m:Nat) (X Y:Nat->Nat->GQ):Nat->Nat->GQ:=iY (ech m (side m X Y) m).X m m
def DZ(l:(ech m (side m X Y) m).r=m){i}(hi:i<m)(j):sol m X Y i j=(mJ m (side m X Y) m).X i (m+j):=by
 obtain⟨o,P,h⟩:=kH m (side m X Y) m;exact yP h l j m (κ m) i aa hi
def xX(C:(ech m (side m X Y) m).r=m){i}(hi:i<m)(j):nZ X (sol m X Y) i j m=Y i j:=by
 obtain⟨o,P,h⟩:=kH m (side m X Y) m;have B:side m X Y i∈P:=by
  rcases h.cov i hi with D|⟨t,D,F,_⟩
  .exact D
  .omega
 have:=GN h C (age B) (m+j);rw[O7] at this;rw[this];exact vF m fun l Z=>⟨(Io Z).symm,DZ C Z j⟩
end
def gN (f:Nat->GQ):Nat->GQ
 |0=>GQ.i 0 0
 |n+1=>gN f n+f n
def iN{f g}:∀n,(∀i,i<n->f i=g i)->gN f n=gN g n
 |0,_=>rfl
 |n+1,h=>by
  show gN f n+f n=gN g n+g n;rw[iN n (fun i hi=>h i aa),h n aa]
def lF:∀n,gN (fun _=>GQ.i 0 0) n=GQ.i 0 0
 |0=>rfl
 |n+1=>by
  show gN _ n+GQ.i 0 0=_;rw[lF n,GQ.add_zero']
def kN(f g):∀n,gN (fun i=>f i+g i) n=gN f n+gN g n
 |0=>(GQ.add_zero' _).symm
 |n+1=>by
  show gN _ n+(f n+g n)=gN f n+f n+(gN g n+g n);rw[kN f g n];generalize gN f n=a;generalize gN g n=b;ext<;>simp only[GQ.bf,GQ.aY]<;>grind
def EZ(a f):∀n,gN (fun i=>a*f i) n=a*gN f n
 |0=>(GQ.bL _).symm
 |n+1=>by
  show gN _ n+a*f n=a*(gN f n+f n);rw[EZ a f n,GQ.oO]
def qU{f c}:∀n,c<n->(∀i,i<n->i≠c->f i=GQ.i 0 0)->gN f n=f c
 |0,h,_=>aa
 |n+1,h,hz=>by
  show gN f n+f n=f c;by_cases e:c=n
  .subst e;rw[iN (g:=fun _=>GQ.i 0 0) c (fun i hi=>hz i aa aa),lF,GQ.qN,GQ.add_zero']
  .rw[qU n aa (fun i hi=>hz i aa),hz n aa (fun h=>e h.symm),GQ.add_zero']
def unit (c:Nat):Nat->GQ:=fun i=>if i=c then GQ.i 1 0 else GQ.i 0 0
def BK{v u}:∀(cs:List Nat) (D:List Nat->GQ),(∀c∈cs,v c=u c)->cO v D cs=cO u D cs
 |[],_,_=>rfl
 |c::cs,D,h=>by
  show v c*D cs-cO v (fun l=>D (c::l)) cs=u c*D cs-cO u (fun l=>D (c::l)) cs;rw[h c q9,BK cs _ (fun d hd=>h d (ib _ hd))]
def Cv(v u cs)(D:List Nat->GQ):cO (fun c=>v c+u c) D cs=cO v D cs+cO u D cs:=by
 have e:(fun c=>v c+u c)=fun c=>v c-GQ.i (-1) 0*u c:=funext fun c=>by
  ext<;>simp only[GQ.bf,GQ.aY,GQ.bX,GQ.cu,GQ.aR,GQ.aQ,GQ.bU,GQ.bS]<;>grind
 rw[e,wU];generalize cO v D cs=a;generalize cO u D cs=b;ext<;>simp only[GQ.bf,GQ.aY,GQ.bX,GQ.cu,GQ.aR,GQ.aQ,GQ.bU,GQ.bS]<;>grind
def Cm(F:Nat->Nat->GQ)(cs:List Nat)(D:List Nat->GQ):∀n,cO (fun c=>gN (fun i=>F i c) n) D cs=gN (fun i=>cO (F i) D cs) n
 |0=>lM cs D (fun c _=>rfl)
 |n+1=>by
  show cO (fun c=>gN (fun i=>F i c) n+F n c) D cs=gN _ n+_;rw[Cv (fun c=>gN (fun i=>F i c) n) (F n) cs D,Cm F cs D n]
def IX{v n}(cs)(D:List Nat->GQ)(h:∀c∈cs,c<n):cO v D cs=gN (fun c=>v c*cO (unit c) D cs) n:=by
 have e:cO v D cs=cO (fun c=>gN (fun i=>v i*unit i c) n) D cs:=BK cs D fun c hc=>by
  rw[qU (c:=c) n (h c hc) (fun i _ hi=>by
   show v i*(if c=i then _ else _)=_;rw[θ (fun e=>hi e.symm),GQ.bL])]
  show v c=v c*(if c=c then _ else _);rw[ι rfl,GQ.qo]
 rw[e,Cm (fun i c=>v i*unit i c) cs D n];exact iN n fun i _=>rD _ _ _
def all_in:∀(n:Nat) (q:List Nat),(∀j,j<n->j∈q)->n<=q.length
 |0,_,_=>Ex _
 |n+1,q,h=>by
  have l:=all_in n (q.erase n) (fun j B=>(List.mem_erase_of_ne aa).2 (h j aa));rw[List.length_erase_of_mem (h n aa)] at l;have:0<q.length:=List.length_pos_of_mem (h n aa);omega
def Uh{n}:∀(q:List Nat),q.length<n->∃j,j<n/\j∉q:=by
 intro q hq;rcases adY (∃j,j<n/\j∉q) with h|h
 .exact h
 .exfalso;have hs:∀j,j<n->j∈q:=fun j B=>by
   rcases adY (j∈q) with l|l
   .exact l
   .exact absurd ⟨j,B,l⟩ h
  have:=all_in n q hs;omega
def MM{n X}(h:(ech n X n).r<n):∃v:Nat->GQ,(∃c,c<n/\v c≠GQ.i 0 0)/\∀i,i<n->gN (fun c=>X i c*v c) n=GQ.i 0 0:=by
 obtain⟨o,P,C⟩:=kH n X n;obtain⟨j,H,B⟩:=Uh (n:=n) (ech n X n).q (by rw[C.r.inv.ql];exact h);have D:∀c∈j::(ech n X n).q,c<n:=fun c hc=>by
  rcases ψ.1 hc with rfl|hc
  .exact H
  .exact C.r.inv.qc c hc
 refine⟨fun c=>cO (unit c) (det P) (j::(ech n X n).q),⟨j,H,?_⟩,fun i hi=> ?_⟩
 .show unit j j*det P (ech n X n).q-cO (unit j) (fun l=>det P (j::l)) (ech n X n).q≠_;rw[lM (ech n X n).q _ (fun c hc=>by show(if c=j then _ else _)=_;rw[θ (fun e=>B (by rw[<-e];exact hc))]),GQ.eQ];show(if j=j then _ else _)*_≠_;rw[ι rfl,GQ.jJ];exact C.r.inv.ne
 .show gN (fun c=>X i c*cO (unit c) (det P) (j::(ech n X n).q)) n=_;rw[<-IX (j::(ech n X n).q) (det P) D];show det (X i::P) (j::(ech n X n).q)=_;rcases C.cov i hi with F|⟨t,F,G,I⟩
  .exact qB _ _ _ F
  .rw[<-I,<-C.r.inv.sy t F G];exact lM _ _ (fun c hc=>C.r.inv.z t c F G (D c hc))
namespace GQ
def Nh (x:GQ):GQ:=⟨x.re,-x.im⟩
def KS(x):(Nh x).re=x.re:=rfl
def Dx(x):(Nh x).im= -x.im:=rfl
end GQ
def qf (n:Nat) (X:Nat->Nat->GQ) (v:Nat->GQ):GQ:=gN (fun i=>GQ.Nh (v i)*gN (fun c=>X i c*v c) n) n
theorem D9{n X v}(h:∀i,i<n->gN (fun c=>X i c*v c) n=GQ.i 0 0):qf n X v=GQ.i 0 0:=by
 unfold qf;rw[iN (g:=fun _=>GQ.i 0 0) n (fun i hi=>by rw[h i hi,GQ.bL]),lF]
theorem zH(n X Y v):qf n (fun i j=>X i j+Y i j) v=qf n X v+qf n Y v:=by
 unfold qf;rw[<-kN];refine iN n fun i _=> ?_;rw[<-GQ.oO,<-kN];congr 1;refine iN n fun c _=> ?_;ext<;>simp only[GQ.bf,GQ.aY,GQ.aR,GQ.aQ]<;>grind
def jC (i j:Nat) (y:GQ):Nat->Nat->GQ:=fun p q=>if p=i/\q=j then y else GQ.i 0 0
theorem Au{n i j}(hi:i<n)(l:j<n)(y v):qf n (jC i j y) v=GQ.Nh (v i)*(y*v j):=by
 unfold qf;rw[qU (c:=i) n hi (fun p _ hp=>by
  rw[iN (g:=fun _=>GQ.i 0 0) n (fun c _=>by show(if p=i/\c=j then y else GQ.i 0 0)*_=_;rw[θ (fun h=>hp h.1),GQ.eO]),lF,GQ.bL])]
 rw[qU (c:=j) n l (fun c _ hc=>by show(if i=i/\c=j then y else GQ.i 0 0)*_=_;rw[θ (fun h=>hc h.2),GQ.eO])];show _*((if i=i/\j=j then y else GQ.i 0 0)*v j)=_;rw[ι ⟨rfl,rfl⟩]

def Hl (x:GQ):Rat:=x.re*x.re+x.im*x.im
def x9(x:Rat):0<=x*x:=by
 rcases adD (a:=0) (b:=x) with h|h
 .exact aaX h h
 .have:=aaX (a:= -x) (b:= -x) ak ak;grind
theorem yG(x):0<=Hl x:=by
 unfold Hl;have j:=x9 x.re;have l:=x9 x.im;grind
theorem xy{x}(h:Hl x=0):x=GQ.i 0 0:=by
 unfold Hl at h;have C:=x9 x.re;have B:=x9 x.im;have j:x.re*x.re=0:=ak;have l:x.im*x.im=0:=ak;ext<;>simp only[GQ.bU,GQ.bS]
 .rcases abp.1 j with h|h<;>simpa using h
 .rcases abp.1 l with h|h<;>simpa using h
structure Br where
 p:Nat
 q:Nat
 nt:Bool
 y:GQ
def stm (X:Nat->Nat->GQ) (b:Br):Nat->Nat->GQ:=
 if b.nt then fun p q=>X p q+jC b.p b.p b.y p q
 else fun p q=>X p q+jC b.p b.p b.y p q+jC b.q b.q b.y p q+jC b.p b.q (-b.y) p q+jC b.q b.p (-b.y) p q
def fq (X:Nat->Nat->GQ) (bs:List Br):Nat->Nat->GQ:=bs.foldl stm X
def Br.w (b:Br) (v:Nat->GQ):Rat:=if b.nt then Hl (v b.p) else Hl (v b.p-v b.q)
theorem U4{n X}{b:Br}(v)(hp:b.p<n)(hq:b.nt=ζ->b.q<n):(qf n (stm X b) v).im=(qf n X v).im+b.y.im*b.w v:=by
 unfold stm Br.w;cases hb:b.nt
 .simp only[Y0,abv];rw[zH n (fun p q=>X p q+jC b.p b.p b.y p q+jC b.q b.q b.y p q+jC b.p b.q (-b.y) p q) (jC b.q b.p (-b.y)),zH n (fun p q=>X p q+jC b.p b.p b.y p q+jC b.q b.q b.y p q) (jC b.p b.q (-b.y)),zH n (fun p q=>X p q+jC b.p b.p b.y p q) (jC b.q b.q b.y),zH n X (jC b.p b.p b.y),Au hp hp,Au (hq hb) (hq hb),Au hp (hq hb),Au (hq hb) hp];unfold Hl;simp only[GQ.aY,GQ.aQ,GQ.aR,GQ.KS,GQ.Dx,GQ.ky,GQ.kE,GQ.bX,GQ.cu];grind
 .simp only[Ad];rw[zH n X (jC b.p b.p b.y),Au hp hp];unfold Hl;simp only[GQ.aY,GQ.aQ,GQ.aR,GQ.KS,GQ.Dx];grind
theorem Br.O5(b:Br)(v):0<=b.w v:=by
 unfold Br.w;split
 .exact yG _
 .exact yG _
def zg{n}(v):∀(bs:List Br) (X:Nat->Nat->GQ),(∀b∈bs,b.p<n/\(b.nt=ζ->b.q<n)/\b.y.im<0)->(qf n (fq X bs) v).im<=(qf n X v).im/\((qf n (fq X bs) v).im=(qf n X v).im->∀b∈bs,b.w v=0)
 |[],X,_=>⟨Rat.le_refl,fun _ b hb=>by simp at hb⟩
 |b::bs,X,h=>by
  obtain⟨C,B,H⟩:=h b q9;obtain⟨i1,Y⟩:=zg v bs (stm X b) (fun c hc=>h c (ib _ hc));have e:=U4 (X:=X) v C B;have F:=b.O5 v;have j:b.y.im*b.w v<=0:=by
   have:=aaX (a:= -b.y.im) (b:=b.w v) ak F;grind
  show(qf n (fq (stm X b) bs) v).im<=_/\_;refine⟨ak,fun D c hc=> ?_⟩;have I:(qf n (fq (stm X b) bs) v).im=(qf n X v).im:=D;have G:b.y.im*b.w v=0:=ak;have l:(qf n (fq (stm X b) bs) v).im=(qf n (stm X b) v).im:=ak;rcases ψ.1 hc with rfl|hc
  .rcases abp.1 G with h|h
   .grind
   .exact h
  .exact Y l c hc
inductive Joined (bs:List Br):Nat->Prop
 |neutral (b:Br) (h:b∈bs) (hn:b.nt=ε):Joined bs b.p
 |fro (b:Br) (h:b∈bs) (hn:b.nt=ζ) (hq:Joined bs b.q):Joined bs b.p
 |fwd (b:Br) (h:b∈bs) (hn:b.nt=ζ) (hp:Joined bs b.p):Joined bs b.q
theorem tC{bs:List Br}{v}(j:∀b∈bs,b.w v=0){p}(h:Joined bs p):v p=GQ.i 0 0:=by
 induction h with
 |neutral b h hn=>
  have:=j b h;unfold Br.w at this;rw[hn] at this;exact xy this
 |fro b h hn hq ih=>
  have:=j b h;unfold Br.w at this;rw[hn] at this;have:=ae3 (xy this);rw[this];exact ih
 |fwd b h hn hp ih=>
  have:=j b h;unfold Br.w at this;rw[hn] at this;have:=ae3 (xy this);rw[<-this];exact ih
def zmx:Nat->Nat->GQ:=fun _ _=>GQ.i 0 0
def JI(n v):qf n zmx v=GQ.i 0 0:=D9 fun i _=>by
 rw[iN (f:=fun c=>zmx i c*v c) (g:=fun _=>GQ.i 0 0) n (fun c _=>GQ.eO _),lF]
def EA{n}{bs:List Br}(h:∀b∈bs,b.p<n/\(b.nt=ζ->b.q<n)/\b.y.im<0)(G:∀p,p<n->Joined bs p):(ech n (fq zmx bs) n).r=n:=by
 have H:=zf n (fq zmx bs) n;rcases aab (ech n (fq zmx bs) n).r n with j|l
 .exfalso;obtain⟨v,⟨c,hc,hv⟩,D⟩:=MM j;have C:=D9 (n:=n) (X:=fq zmx bs) (v:=v) D;obtain⟨_,B⟩:=zg (n:=n) v bs zmx h;have F:=B (by rw[C,JI]);exact hv (tC F (G c hc))
 .omega
def pw (w:Nat->Nat):List Nat->Nat
 |[]=>1
 |c::cs=>w c*pw w cs
def Fe{x w}:∀(M:Nat) (cs:List Nat) (D:List Nat->GQ),(∀c∈cs,Wh (x c) (w c))->(∀l,l.Sublist cs->l.length+1=cs.length->Wh (D l) (M*pw w l))->Wh (cO x D cs) (cs.length*(M*pw w cs))
 |M,[],D,_,_=>by
  show Wh (GQ.i 0 0) _;exact gG _
 |M,c::cs,D,hx,hD=>by
  show Wh (x c*D cs-cO x (fun l=>D (c::l)) cs) _;have C:=(hx c q9).mul (hD cs (List.sublist_cons_self c cs) rfl);have B:=Fe (M*w c) cs (fun l=>D (c::l)) (fun d hd=>hx d (ib _ hd)) (fun l Z V=>by
   have:=hD (c::l) (Z.cons_cons c) (by simp only[nC];omega);rw[ω];exact this)
  refine(C.sub B).mono ?_;show w c*(M*pw w cs)+cs.length*(M*w c*pw w cs)<=(cs.length+1)*(M*(w c*pw w cs));have j:w c*(M*pw w cs)=M*(w c*pw w cs):=by ac_rfl
  have F:M*w c*pw w cs=M*(w c*pw w cs):=by ac_rfl
  rw[j,F,aaa,aay];omega
def KG{w}:∀(R:List (Nat->GQ)) (cs:List Nat),R.length=cs.length->(∀r∈R,∀c∈cs,Wh (r c) (w c))->Wh (det R cs) (fct cs.length*pw w cs)
 |[],cs,h,_=>by
  obtain rfl:cs=[]:=NK h.symm;exact uQ
 |v::R,cs,h,hr=>by
  have Z:R.length+1=cs.length:=by simpa using h
  show Wh (cO v (det R) cs) _;have:=Fe (x:=v) (w:=w) (fct (cs.length-1)) cs (det R) (hr v q9) (fun l B V=>by
   have e:l.length=cs.length-1:=aa;rw[<-e];exact KG R l aa (fun r W c hc=>hr r (ib _ W) c (B.subset hc)))
  refine this.mono ?_;have e:fct cs.length=cs.length*fct (cs.length-1):=by
   rw[<-Z];rfl
  rw[e,ω];exact κ _
def Wh.add{x y B C}(l:Wh x B)(j:Wh y C):Wh (x+y) (B+C):=by
 have h:=l.sub j.neg;have e:x- -y=x+y:=by
  ext<;>simp only[GQ.bf,GQ.aY,GQ.bX,GQ.cu,GQ.ky,GQ.kE]<;>grind
 rwa[e] at h
def uf(X Y i j):∀s,nZ X Y i j s=gN (fun l=>X i l*Y l j) s
 |0=>rfl
 |s+1=>by
  show nZ X Y i j s+_=gN _ s+_;rw[uf X Y i j s]
structure Psv (n:Nat) (bs:List Br):Prop where
 ok:∀b∈bs,b.p<n/\(b.nt=ζ->b.q<n)/\b.y.im<0
 jn:∀p,p<n->Joined bs p
section
variable {n:Nat} {bs:List Br}
def Psv.full(h:Psv n bs):(ech n (fq zmx bs) n).r=n:=EA h.ok h.jn
def Psv.zero(h:Psv n bs){d:Nat->GQ}(l:∀i,i<n->gN (fun c=>fq zmx bs i c*d c) n=GQ.i 0 0){c:Nat}(hc:c<n):d c=GQ.i 0 0:=by
 have C:=D9 (n:=n) (X:=fq zmx bs) (v:=d) l;obtain⟨_,B⟩:=zg (n:=n) d bs zmx h.ok;have j:=B (by rw[C,JI]);exact tC j (h.jn c hc)
def Psv.unique(h:Psv n bs){x y:Nat->GQ}(e:∀i,i<n->gN (fun c=>fq zmx bs i c*x c) n=gN (fun c=>fq zmx bs i c*y c) n){c:Nat}(hc:c<n):x c=y c:=by
 refine ae3 (h.zero (d:=fun c=>x c-y c) (fun i hi=> ?_) hc);have j:(fun c=>fq zmx bs i c*(x c-y c))=fun c=>fq zmx bs i c*x c+GQ.i (-1) 0*(fq zmx bs i c*y c):=funext fun c=>by
  ext<;>simp only[GQ.bf,GQ.aY,GQ.bX,GQ.cu,GQ.aR,GQ.aQ,GQ.bU,GQ.bS]<;>grind
 rw[j,kN,EZ,e i hi];generalize gN (fun c=>fq zmx bs i c*y c) n=z;ext<;>simp only[GQ.bf,GQ.aY,GQ.aR,GQ.aQ,GQ.bU,GQ.bS]<;>grind
theorem QE{X x f}(l:f<n)(B:∀i,i<n->gN (fun c=>X i c*x c) n=unit f i):qf n X x=GQ.Nh (x f):=by
 unfold qf;rw[qU (c:=f) n l (fun i hi j=>by
  rw[B i hi];show _*(if i=f then _ else _)=_;rw[θ j,GQ.bL]),B f l]
 show _*(if f=f then _ else _)=_;rw[ι rfl,GQ.qo]
def Psv.drive(h:Psv n bs){x:Nat->GQ}{f:Nat}(C:f<n)(D:∀i,i<n->gN (fun c=>fq zmx bs i c*x c) n=unit f i):0<(x f).im:=by
 have hq:=QE C D;obtain⟨B,j⟩:=zg (n:=n) x bs zmx h.ok;rw[JI,hq] at B j;simp only[GQ.Dx,GQ.bS] at B j;have H: -(x f).im<=0:=by simpa using B
 rcases(by grind:0<(x f).im\/-(x f).im=0) with l|l
 .exact l
 .exfalso;have G:=j (by simpa using l);have F:∀c,c<n->x c=GQ.i 0 0:=fun c hc=>tC G (h.jn c hc);have:=D f C;rw[iN (g:=fun _=>GQ.i 0 0) n (fun c hc=>by rw[F c hc,GQ.bL]),lF] at this;have e:unit f f=GQ.i 1 0:=ι rfl;rw[e] at this;have:=congrArg GQ.re this;simp only[GQ.bU] at this;exact absurd this aj
end
def KD{z}(h:0<z.im):z≠GQ.i 0 0:=by
 intro e;rw[e] at h;simp only[GQ.bS] at h;exact absurd h aj
theorem Ri{z}(h:z≠GQ.i 0 0):0<z.nrm:=by
 have j:=GQ.Bi h;have l:0<=z.nrm:=by
  unfold GQ.nrm;have:=x9 z.re;have:=x9 z.im;grind
 grind
def col (v:Nat->GQ):Nat->Nat->GQ:=fun i _=>v i
def Ed (v u:Nat->GQ):Nat->Nat->GQ:=fun i j=>if j=0 then v i else u i
section
variable {n:Nat} {bs:List Br}
def zZ{m X Y}(h:(ech m X m).r=m):(ech m (side m X Y) m).r=m:=by rw[(Jw m (κ m)).1];exact h
def Psv.EH(h:Psv n bs){v i}(hi:i<n):gN (fun c=>fq zmx bs i c*sol n (fq zmx bs) (col v) c 0) n=v i:=by
 rw[<-uf (fq zmx bs) (sol n (fq zmx bs) (col v)) i 0 n];exact xX (zZ h.full) hi 0
def Psv.Lb(h:Psv n bs){v u i}(hi:i<n):sol n (fq zmx bs) (col v) i 0=sol n (fq zmx bs) (Ed v u) i 0/\sol n (fq zmx bs) (col u) i 0=sol n (fq zmx bs) (Ed v u) i 1:=by
 constructor
 .refine h.unique (x:=fun c=>sol n (fq zmx bs) (col v) c 0) (y:=fun c=>sol n (fq zmx bs) (Ed v u) c 0) (fun p hp=> ?_) hi;rw[h.EH hp,<-uf (fq zmx bs) (sol n (fq zmx bs) (Ed v u)) p 0 n,xX (zZ h.full) hp 0];exact(ι rfl).symm
 .refine h.unique (x:=fun c=>sol n (fq zmx bs) (col u) c 0) (y:=fun c=>sol n (fq zmx bs) (Ed v u) c 1) (fun p hp=> ?_) hi;rw[h.EH hp,<-uf (fq zmx bs) (sol n (fq zmx bs) (Ed v u)) p 1 n,xX (zZ h.full) hp 1];exact(θ aa).symm
end
structure Bu where
 y:GQ
 al:Nat->GQ
 u:Nat->GQ
def ny (r0:Nat->Nat->GQ):List Bu->Nat->Nat->GQ
 |[],i=>r0 i
 |b::bs,i=>fun c=>ny r0 bs i c+b.y*(b.al i*b.u c)
inductive NdR
 |nd (i:Nat)
 |co (u:Nat->GQ)
def NdR.row (r0:Nat->Nat->GQ) (bs:List Bu):NdR->Nat->GQ
 | .nd i=>ny r0 bs i
 | .co u=>u
def nO(v):∀(cs:List Nat) (D E:List Nat->GQ),cO v (fun l=>D l+E l) cs=cO v D cs+cO v E cs
 |[],_,_=>(GQ.add_zero' _).symm
 |c::cs,D,E=>by
  show v c*(D cs+E cs)-cO v (fun l=>D (c::l)+E (c::l)) cs=(v c*D cs-cO v (fun l=>D (c::l)) cs)+(v c*E cs-cO v (fun l=>E (c::l)) cs);rw[nO v cs (fun l=>D (c::l)) (fun l=>E (c::l))];generalize cO v (fun l=>D (c::l)) cs=a;generalize cO v (fun l=>E (c::l)) cs=b;ext<;>simp only[GQ.bf,GQ.aY,GQ.bX,GQ.cu,GQ.aR,GQ.aQ]<;>grind
def part (r0:Nat->Nat->GQ) (bs:List Bu) (b:Bu):List NdR->List Nat->GQ
 |[],_=>GQ.i 0 0
 | .nd i::L,cs=>cO (ny r0 bs i) (part r0 bs b L) cs+b.al i*det (b.u::L.map (NdR.row r0 bs)) cs
 | .co u::L,cs=>cO u (part r0 bs b L) cs
def xQ(r0)(bs:List Bu)(b:Bu):∀(L:List NdR) (cs:List Nat),cO b.u (part r0 bs b L) cs=GQ.i 0 0
 |[],cs=>lN b.u cs
 | .nd i::L,cs=>by
  show cO b.u (fun l=>cO (ny r0 bs i) (part r0 bs b L) l+b.al i*det (b.u::L.map (NdR.row r0 bs)) l) cs=_;rw[nO b.u cs (fun l=>cO (ny r0 bs i) (part r0 bs b L) l) (fun l=>b.al i*det (b.u::L.map (NdR.row r0 bs)) l)];have j:=qx b.u (ny r0 bs i) cs (part r0 bs b L);have B:cO (ny r0 bs i) (cO b.u (part r0 bs b L)) cs=GQ.i 0 0:=by
   exact Abc
  rw[B,GQ.add_zero'] at j;have C:cO b.u (fun l=>cO (ny r0 bs i) (part r0 bs b L) l) cs=GQ.i 0 0:=j;rw[C,jI];have D:cO b.u (fun l=>det (b.u::L.map (NdR.row r0 bs)) l) cs=GQ.i 0 0:=qB b.u (b.u::L.map (NdR.row r0 bs)) cs q9;rw[D,GQ.bL,GQ.add_zero']
 | .co u::L,cs=>by
  show cO b.u (fun l=>cO u (part r0 bs b L) l) cs=_;have j:=qx b.u u cs (part r0 bs b L);have B:cO u (cO b.u (part r0 bs b L)) cs=GQ.i 0 0:=by
   exact Abc
  rw[B,GQ.add_zero'] at j;exact j
def zz(r0)(bs:List Bu)(b:Bu):∀(L:List NdR) (cs:List Nat),det (L.map (NdR.row r0 (b::bs))) cs=det (L.map (NdR.row r0 bs)) cs+b.y*part r0 bs b L cs
 |[],cs=>by
  show GQ.i 1 0=GQ.i 1 0+b.y*GQ.i 0 0;rw[GQ.bL,GQ.add_zero']
 | .nd i::L,cs=>by
  show cO (fun c=>ny r0 bs i c+b.y*(b.al i*b.u c)) (det (L.map (NdR.row r0 (b::bs)))) cs=cO (ny r0 bs i) (det (L.map (NdR.row r0 bs))) cs+b.y*(cO (ny r0 bs i) (part r0 bs b L) cs+b.al i*cO b.u (det (L.map (NdR.row r0 bs))) cs);have e:det (L.map (NdR.row r0 (b::bs)))=fun l=>det (L.map (NdR.row r0 bs)) l+b.y*part r0 bs b L l:=funext fun l=>zz r0 bs b L l;have j:(fun c=>ny r0 bs i c+b.y*(b.al i*b.u c))=fun c=>ny r0 bs i c+(b.y*b.al i)*b.u c:=funext fun c=>by rw[GQ.cK]
  rw[e,j,Cv (ny r0 bs i) (fun c=>(b.y*b.al i)*b.u c),rD (b.y*b.al i) cs,nO (ny r0 bs i) cs,nO b.u cs,jI b.y cs (part r0 bs b L),jI b.y cs (part r0 bs b L),xQ r0 bs b L cs,GQ.bL,GQ.add_zero'];generalize cO (ny r0 bs i) (det (L.map (NdR.row r0 bs))) cs=a;generalize cO (ny r0 bs i) (part r0 bs b L) cs=c;generalize cO b.u (det (L.map (NdR.row r0 bs))) cs=d;generalize b.y=y;generalize b.al i=t;ext<;>simp only[GQ.bf,GQ.aY,GQ.aR,GQ.aQ]<;>grind
 | .co u::L,cs=>by
  show cO u (det (L.map (NdR.row r0 (b::bs)))) cs=cO u (det (L.map (NdR.row r0 bs))) cs+b.y*cO u (part r0 bs b L) cs;have e:det (L.map (NdR.row r0 (b::bs)))=fun l=>det (L.map (NdR.row r0 bs)) l+b.y*part r0 bs b L l:=funext fun l=>zz r0 bs b L l;rw[e,nO u cs,jI b.y cs (part r0 bs b L)]
def gm {α:Type} (f:α->GQ):List α->GQ
 |[]=>GQ.i 0 0
 |a::l=>gm f l+f a
def qW{α β:Type}(f:β->GQ)(g:α->β):∀l:List α,gm f (l.map g)=gm (fun a=>f (g a)) l
 |[]=>rfl
 |a::l=>by
  show gm f (l.map g)+_=_;rw[qW f g l];rfl
def xw{α:Type}(v)(F:α->List Nat->GQ)(cs):∀l:List α,cO v (fun x=>gm (fun a=>F a x) l) cs=gm (fun a=>cO v (F a) cs) l
 |[]=>lN v cs
 |a::l=>by
  show cO v (fun x=>gm (fun a=>F a x) l+F a x) cs=gm _ l+_;rw[nO v cs (fun x=>gm (fun a=>F a x) l) (F a),xw v F cs l]
def sS (b:Bu):List NdR->List (GQ×List NdR)
 |[]=>[]
 | .nd i::L=>(b.al i,.co b.u::L)::(sS b L).map fun x=>(x.1,.nd i::x.2)
 | .co u::L=>(sS b L).map fun x=>(x.1,.co u::x.2)
def zX(r0)(bs:List Bu)(b:Bu):∀(L:List NdR) (cs:List Nat),part r0 bs b L cs=gm (fun x:GQ×List NdR=>x.1*det (x.2.map (NdR.row r0 bs)) cs) (sS b L)
 |[],_=>rfl
 | .nd i::L,cs=>by
  show cO (ny r0 bs i) (part r0 bs b L) cs+b.al i*det (b.u::L.map (NdR.row r0 bs)) cs=gm _ ((sS b L).map fun x=>(x.1,.nd i::x.2))+b.al i*det (b.u::L.map (NdR.row r0 bs)) cs;have e:part r0 bs b L=fun l=>gm (fun x:GQ×List NdR=>x.1*det (x.2.map (NdR.row r0 bs)) l) (sS b L):=funext fun l=>zX r0 bs b L l;rw[qW,e,xw (ny r0 bs i) (fun(x:GQ×List NdR) l=>x.1*det (x.2.map (NdR.row r0 bs)) l) cs (sS b L)];congr 2;funext x;exact jI x.1 cs _
 | .co u::L,cs=>by
  show cO u (part r0 bs b L) cs=gm _ ((sS b L).map fun x=>(x.1,.co u::x.2));have e:part r0 bs b L=fun l=>gm (fun x:GQ×List NdR=>x.1*det (x.2.map (NdR.row r0 bs)) l) (sS b L):=funext fun l=>zX r0 bs b L l;rw[qW,e,xw u (fun(x:GQ×List NdR) l=>x.1*det (x.2.map (NdR.row r0 bs)) l) cs (sS b L)];congr 1;funext x;exact jI x.1 cs _
def Cok (w:Nat->Nat) (cs:List Nat):NdR->Prop
 | .nd _=>True
 | .co u=>∀c∈cs,Wh (u c) (w c)
def EL{b:Bu}{w cs}(N:∀c∈cs,Wh (b.u c) (w c))(ha:∀i,Wh (b.al i) 1):∀(L:List NdR),(∀d∈L,Cok w cs d)->(sS b L).length<=L.length/\∀x∈sS b L,Wh x.1 1/\x.2.length=L.length/\∀d∈x.2,Cok w cs d
 |[],_=>⟨κ _,by simp[sS]⟩
 | .nd i::L,h=>by
  obtain⟨G,l⟩:=EL N ha L (fun d hd=>h d (ib _ hd));refine⟨by simp only[sS,nC,aaM];omega,fun x j=> ?_⟩;rcases ψ.1 (show x∈(b.al i,NdR.co b.u::L)::(sS b L).map (fun x=>(x.1,NdR.nd i::x.2)) from j) with rfl|j
  .refine⟨ha i,rfl,fun d hd=> ?_⟩;rcases ψ.1 hd with rfl|hd
   .exact N
   .exact h d (ib _ hd)
  .obtain⟨y,C,rfl⟩:=aad.1 j;obtain⟨D,F,B⟩:=l y C;refine⟨D,by simp only[nC,F],fun d hd=> ?_⟩;rcases ψ.1 hd with rfl|hd
   .trivial
   .exact B d hd
 | .co u::L,h=>by
  obtain⟨G,l⟩:=EL N ha L (fun d hd=>h d (ib _ hd));refine⟨by simp only[sS,nC,aaM];omega,fun x j=> ?_⟩;obtain⟨y,C,rfl⟩:=aad.1 (show x∈(sS b L).map (fun x=>(x.1,NdR.co u::x.2)) from j);obtain⟨D,F,B⟩:=l y C;refine⟨D,by simp only[nC,F],fun d hd=> ?_⟩;rcases ψ.1 hd with rfl|hd
  .exact h _ q9
  .exact B d hd
def KJ{α:Type}{f:α->GQ}{Q C}:∀l:List α,(∀a∈l,Wh (Q*f a) C)->Wh (Q*gm f l) (l.length*C)
 |[],_=>by
  show Wh (Q*GQ.i 0 0) _;rw[GQ.bL];exact gG _
 |a::l,h=>by
  show Wh (Q*(gm f l+f a)) _;rw[GQ.oO];refine((KJ l (fun x j=>h x (ib _ j))).add (h a q9)).mono ?_;rw[nC,aaa];omega
structure Zu (b:Bu) (Z K:Nat):Prop where
 wh:∃(zn:GQ) (zd:Nat),zn≠GQ.i 0 0/\Wh zn Z/\b.y*zn=GQ.i zd 0/\zd<=K
 al:∀i,Wh (b.al i) 1
def cz (f:Bu->Nat) (K m B0:Nat):List Bu->Nat
 |[]=>fct m*B0
 |b::bs=>(f b+m*K)*cz f K m B0 bs
def xm{r0 w}{f:Bu->Nat}{K}:∀(bs:List Bu),(∀b∈bs,Zu b (f b) K)->∃Q,Q≠GQ.i 0 0/\∀(B0:Nat) (cs:List Nat),pw w cs<=B0->(∀b∈bs,∀c∈cs,Wh (b.u c) (w c))->(∀i,∀c∈cs,Wh (r0 i c) (w c))->∀(L:List NdR),L.length=cs.length->(∀d∈L,Cok w cs d)->Wh (Q*det (L.map (NdR.row r0 bs)) cs) (cz f K cs.length B0 bs)
 |[],_=>⟨GQ.i 1 0,aj,fun B0 cs O N H L G hc=>by
  rw[GQ.jJ];refine(KG (w:=w) (L.map (NdR.row r0 [])) cs (by simpa using G) (fun r W c F=> ?_)).mono (aac (κ _) O);obtain⟨d,hd,rfl⟩:=aad.1 W;cases d with
  |nd i=>exact H i c F
  |co u=>exact hc _ hd c F⟩
 |b::bs,h=>by
  obtain⟨Q,q0,J⟩:=xm bs (fun c hc=>h c (ib _ hc));obtain⟨⟨j,S,z0,z1,M,T⟩,ha⟩:=h b q9;refine⟨j*Q,GQ.ik z0 q0,fun B0 cs O N H L G hc=> ?_⟩;have l:=J B0 cs O (fun c hc=>N c (ib _ hc)) H;obtain⟨l1,l2⟩:=EL (N b q9) ha L hc;have hp:Wh (Q*part r0 bs b L cs) (cs.length*cz f K cs.length B0 bs):=by
   rw[zX];refine(KJ (C:=cz f K cs.length B0 bs) (sS b L) (fun x U=> ?_)).mono (aac aa (κ _));obtain⟨V,Y,R⟩:=l2 x U;have P:=V.mul (l x.2 (Y.trans G) R);have e:Q*(x.1*det (x.2.map (NdR.row r0 bs)) cs)=x.1*(Q*det (x.2.map (NdR.row r0 bs)) cs):=by
    rw[<-GQ.cK,GQ.dX Q,GQ.cK]
   rw[e];exact P.mono aa
  rw[zz];have e:j*Q*(det (L.map (NdR.row r0 bs)) cs+b.y*part r0 bs b L cs)=j*(Q*det (L.map (NdR.row r0 bs)) cs)+b.y*j*(Q*part r0 bs b L cs):=by
   generalize det (L.map (NdR.row r0 bs)) cs=x;generalize part r0 bs b L cs=y;generalize b.y=t;ext<;>simp only[GQ.bf,GQ.aY,GQ.aR,GQ.aQ]<;>grind
  rw[e,M];have I:=(nA (D:=(S:Int)) (B:=K) (by simpa using T)).mul hp;refine((z1.mul (l L G hc)).add I).mono ?_;show f b*cz f K cs.length B0 bs+K*(cs.length*cz f K cs.length B0 bs)<=(f b+cs.length*K)*cz f K cs.length B0 bs;rw[aaa,<-ω,qb K];exact κ _
def Gv{a b}(h:a<=b):fct a<=fct b:=by
 induction b with
 |zero=>
  obtain rfl:a=0:=aa;exact κ _
 |succ b ih=>
  by_cases e:a=b+1
  .subst e;exact κ _
  .refine nk (ih aa) ?_;show fct b<=(b+1)*fct b;exact abw _ aa
def DT{f:Bu->Nat}{K B0 k m}(h:k<=m):∀bs:List Bu,cz f K k B0 bs<=cz f K m B0 bs
 |[]=>aac (Gv h) (κ _)
 |b::bs=>aac (Nat.add_le_add_left (aac h (κ _)) _) (DT h bs)
structure rq (Z0:Nat->Nat->GQ) (m W:Nat) (Q:GQ) (BD:Nat):Prop where
 q0:Q≠GQ.i 0 0
 min:∀(P:List (Nat->GQ)) (j:Nat) (cs:List Nat),(∀p∈P,∃i,i<m/\p=Z0 i)->(∀c∈cs,c<m)->(P.length=cs.length->P.length<=m->Wh (Q*det P cs) BD)/\(P.length=cs.length+1->P.length<=m->j<W->Wh (Q*det P (j::cs)) BD)
def FW{m Z0}:∀(P:List (Nat->GQ)),(∀p∈P,∃i,i<m/\p=Z0 i)->∃L:List Nat,L.length=P.length/\P=L.map Z0
 |[],_=>⟨[],rfl,rfl⟩
 |p::P,h=>by
  obtain⟨L,l,j⟩:=FW P (fun q hq=>h q (ib _ hq));obtain⟨i,_,rfl⟩:=h p q9;exact⟨i::L,by simp[l],by rw[j];rfl⟩
def Lh{w m}(j:∀c,c<m->w c=1):∀(cs:List Nat),(∀c∈cs,c<m)->pw w cs=1
 |[],_=>rfl
 |c::cs,h=>by
  show w c*pw w cs=1;rw[Lh j cs (fun d hd=>h d (ib _ hd)),j c (h c q9)]
def agv{r0:Nat->Nat->GQ}{w:Nat->Nat}{f:Bu->Nat}{K m W B0:Nat}{bs:List Bu}{Z0:Nat->Nat->GQ}(U:∀b∈bs,Zu b (f b) K)(V:∀c,c<m->w c=1)(I:∀c,c<W->w c<=B0)(O:1<=B0)(N:∀b∈bs,∀c,c<W->Wh (b.u c) (w c))(M:∀i c,c<W->Wh (r0 i c) (w c))(F:m<=W)(Y:∀i,i<m->Z0 i=ny r0 bs i):
  ∃Q,rq Z0 m W Q (cz f K m B0 bs):=by
 obtain⟨Q,q0,J⟩:=xm (r0:=r0) (w:=w) bs U;refine⟨Q,q0,fun P j cs Z hc=> ?_⟩;have C:∀p∈P,∃i,i<m/\p=ny r0 bs i:=fun p hp=>by
  obtain⟨i,hi,e⟩:=Z p hp;exact⟨i,hi,e.trans (Y i hi)⟩
 obtain⟨L,hL,D⟩:=FW P C;have e:P=(L.map NdR.nd).map (NdR.row r0 bs):=by
  rw[D,List.map_map];rfl
 have l:∀cs,∀d∈L.map NdR.nd,Cok w cs d:=fun cs d hd=>by
  obtain⟨i,_,rfl⟩:=aad.1 hd;trivial
 have H:=Lh V cs hc;constructor
 .intro T S;have:=J B0 cs (by rw[H];exact O) (fun b hb c G=>N b hb c (by have:=hc c G;omega)) (fun i c G=>M i c (by have:=hc c G;omega)) (L.map NdR.nd) (by rw[aaM];omega) (l cs);rw[<-e] at this;exact this.mono (DT aa bs)
 .intro T S R;have B:∀c∈j::cs,c<W:=fun c G=>by
   rcases ψ.1 G with rfl|G
   .exact R
   .have:=hc c G;omega
  have:=J B0 (j::cs) (by show w j*pw w cs<=B0;rw[H,aar];exact I j R) (fun b hb c G=>N b hb c (B c G)) (fun i c G=>M i c (B c G)) (L.map NdR.nd) (by rw[aaM,nC];omega) (l _);rw[<-e] at this;exact this.mono (DT Abr bs)
section
variable {m W BD N Ns:Nat} {Z0:Nat->Nat->GQ} {Q:GQ}
def rq.OC(h:rq Z0 m W Q BD){x A D}(B:Wh (Q*A) BD)(l:Wh (Q*D) BD)(C:D≠GQ.i 0 0)(F:A=x*D)(j:BD*BD<2^N):Bd x N:=by
 refine ww B l (GQ.ik h.q0 C) ?_ j j;rw[F];ext<;>simp only[GQ.aR,GQ.aQ]<;>grind
def Inv.bdM{c}{s:Ec}{o P}(h:Inv m Z0 c s o P)(B:rq Z0 m W Q BD)(I:BD*BD<2^N)(hc:c<=m){i j}(C:s.r<=i)(l:i<m)(D:j<W):Bd (s.X i j) N:=by
 have G:∀d∈s.q,d<m:=fun d hd=>by have:=h.qc d hd;omega
 have F:=(B.min (Z0 (o i)::P) j s.q (fun p hp=>by
  rcases ψ.1 hp with rfl|hp
  .exact⟨o i,h.om i l,rfl⟩
  .exact h.pm p hp) G).2 (by rw[nC,h.pl,h.ql]) (by rw[nC,h.pl];omega) D
 have H:=(B.min P j s.q h.pm G).1 (by rw[h.pl,h.ql]) (by rw[h.pl];omega);exact B.OC F H h.ne ((h.sy i C l).entry (fun d hd=>h.z i d C l (h.qc d hd)) j) I
def Inv.V6{c k i}{s:Ec}{o P}(h:Inv m Z0 c s o P)(H:rq Z0 m W Q BD)(M:BD*BD<2^N)(hc:c<m)(j:c<W)(D:s.r<=i)(B:i<m)(C:s.r<=k)(F:k<m)(I:s.X k c≠GQ.i 0 0):Bd (s.X i c/s.X k c) N:=by
 have G:∀d∈s.q,d<m:=fun d hd=>by have:=h.qc d hd;omega
 have l:∀t,s.r<=t->t<m->Wh (Q*det (Z0 (o t)::P) (c::s.q)) BD:=fun t O K=>(H.min (Z0 (o t)::P) c s.q (fun p hp=>by
  rcases ψ.1 hp with rfl|hp
  .exact⟨o t,h.om t K,rfl⟩
  .exact h.pm p hp) G).2 (by rw[nC,h.pl,h.ql]) (by rw[nC,h.pl];omega) j
 have L:=(h.sy i D B).entry (fun d hd=>h.z i d D B (h.qc d hd)) c;have J:=(h.sy k C F).entry (fun d hd=>h.z k d C F (h.qc d hd)) c;refine H.OC (l i D B) (l k C F) (by rw[J];exact GQ.ik I h.ne) ?_ M;rw[L,J,<-GQ.cK,aeQ I]
def VC(l:rq Z0 m (m+1) Q BD)(C:BD*BD<2^N):Room N m m 1 Z0:=by
 intro c hc M;obtain⟨o,P,B⟩:=nM m Z0 c;exact⟨fun i j F D J=>B.bdM l C aa F D J,fun i k K L G I H=>B.V6 l C hc aa K L G I H⟩
theorem JS(G:rq Z0 m W Q BD)(H:BD*BD<2^N):∀c,c<=m->∀i j,i<m->j<W->Bd ((ech m Z0 c).X i j) N
 |0,_,i,j,hi,hj=>by
  obtain⟨o,P,F⟩:=nM m Z0 0;exact F.bdM G H aa (Ex _) hi hj
 |c+1,hc,i,j,hi,hj=>by
  by_cases l:(ech m Z0 (c+1)).r<=i
  .obtain⟨o,P,F⟩:=nM m Z0 (c+1);exact F.bdM G H hc l hi hj
  have B:=JS G H c aa;have e:ech m Z0 (c+1)=jN m c (ech m Z0 c):=rfl;rw[e] at l⊢;cases D:fp (ech m Z0 c).X c (m-(ech m Z0 c).r) (ech m Z0 c).r with
  |none=>rw[eX D];exact B i j hi hj
  |some k=>
   rw[dN D] at l⊢;obtain⟨K,I,L,J⟩:=ic D;have C:¬(ech m Z0 c).r+1<=i:=l;show Bd (clr (fun i=>(ech m Z0 c).X (swp k (ech m Z0 c).r i)) (ech m Z0 c).r c i j) N;unfold clr;rw[θ aa];exact B _ j (kV aa aa hi) hj
def vo{o P}(h:Kg m Z0 m (ech m Z0 m) (mJ m Z0 m) o P)(J:(ech m Z0 m).r=m)(H:rq Z0 m W Q BD):
  ∃M,M≠GQ.i 0 0/\Wh M BD/\∀l j,l<m->j<W->Wh (M*(mJ m Z0 m).X l j) BD:=by
 have N:P.length=m:=h.r.inv.pl.trans J;have hq:(ech m Z0 m).q.length=m:=h.r.inv.ql.trans J;have G:∀d∈(ech m Z0 m).q,d<m:=fun d hd=>h.r.inv.qc d hd;refine⟨Q*det P (ech m Z0 m).q,GQ.ik H.q0 h.r.inv.ne,(H.min P 0 _ h.r.inv.pm G).1 aa aa,fun l j B L=> ?_⟩;have C:((ech m Z0 m).q.eraseIdx (m-1-l)).length=m-1:=by
  rw[List.length_eraseIdx,ι aa];omega
 have D:∀d∈(ech m Z0 m).q.eraseIdx (m-1-l),d<m:=fun d hd=>G d (List.mem_of_mem_eraseIdx hd);have K:=(H.min P j _ h.r.inv.pm D).2 aa aa L;have F:=(h.r.sp l aa).entry (k:=m-1-l) (q:=(ech m Z0 m).q) aa (fun n d I=>by
  rw[h.r.un l aa n d I,J];have:n<(ech m Z0 m).q.length:=(μ.1 I).1;by_cases e:n=m-1-l
  .rw[ι e,ι aa]
  .rw[θ e,θ aa]) j
 have e:Q*det P (ech m Z0 m).q*(mJ m Z0 m).X l j=Q*det P (j::(ech m Z0 m).q.eraseIdx (m-1-l))\/Q*det P (ech m Z0 m).q*(mJ m Z0 m).X l j= -(Q*det P (j::(ech m Z0 m).q.eraseIdx (m-1-l))):=by
  rw[GQ.cK,GQ.dX (det P _)];rcases F with F|F
  .left;rw[F]
  .right;rw[F]
   ext<;>simp only[GQ.aR,GQ.aQ,GQ.ky,GQ.kE]<;>grind
 rcases e with e|e
 .rw[e];exact K
 .rw[e];exact K.neg
theorem Mk{i}(R:(ech m Z0 m).r=m)(hi:i<m)(K:rq Z0 m W Q BD):∃D,D≠GQ.i 0 0/\Wh D BD/\∀l,l<W->Wh (D*(ech m Z0 m).X i l) BD:=by
 have I:=yg (X:=Z0) (m:=m) aa (show i<=m by omega);have H:=yg (X:=Z0) (m:=m) aa (show i+1<=m by omega);obtain⟨o,P,h⟩:=nM m Z0 i;have M:ech m Z0 (i+1)=jN m i (ech m Z0 i):=rfl;cases L:fp (ech m Z0 i).X i (m-(ech m Z0 i).r) (ech m Z0 i).r with
 |none=>rw[M,eX L] at H;omega
 |some k=>
  obtain⟨C,S,O,U⟩:=ic L;have J:(ech m Z0 m).X i=(ech m Z0 i).X k:=by
   rw[(Hf m Z0 (i+1) m aa i aa).1,M,dN L];funext j;show clr (fun t=>(ech m Z0 i).X (swp k (ech m Z0 i).r t)) (ech m Z0 i).r i i j=_;unfold clr;rw[θ aa];show(ech m Z0 i).X (swp k (ech m Z0 i).r i) j=_;rw[I,ng]
  have T:P.length=i:=h.pl.trans I;have hq:(ech m Z0 i).q.length=i:=h.ql.trans I;have G:∀d∈(ech m Z0 i).q,d<m:=fun d hd=>by have:=h.qc d hd;omega
  refine⟨Q*det P (ech m Z0 i).q,GQ.ik K.q0 h.ne,(K.min P 0 _ h.pm G).1 aa aa,fun l B=> ?_⟩;have N:=(K.min (Z0 (o k)::P) l _ (fun p hp=>by
   rcases ψ.1 hp with rfl|hp
   .exact⟨o k,h.om k aa,rfl⟩
   .exact h.pm p hp) G).2 Abr Abr B
  have F:=(h.sy k C aa).entry (fun d hd'=>h.z k d C aa (h.qc d hd')) l;rw[F] at N;rw[J,GQ.cK,GQ.dX (det P _)];exact N
end
section
variable {m BD N Ns:Nat} {Z0:Nat->Nat->GQ} {Q:GQ}
def JX{W}(F:(ech m Z0 m).r=m)(G:rq Z0 m W Q BD)(B:BD*BD<2^N){l j}(Z:l<m)(C:j<W):Bd ((mJ m Z0 m).X l j) N:=by
 obtain⟨o,P,h⟩:=kH m Z0 m;obtain⟨M,I,H,D⟩:=vo h F G;exact ww (D l j Z C) H I (GQ.dX _ _) B B
def Gy(F:(ech m Z0 m).r=m)(I:rq Z0 m (m+1) Q BD)(K:(BD*BD+m*(BD*BD))*(BD*BD)<2^Ns){k s}(N:k<m)(L:s<=k):
  Bd (bps (ech m Z0 m).X (iY (ech m Z0 m).X m k) m (m-1-k) 0 s) Ns:=by
 obtain⟨o,P,h⟩:=kH m Z0 m;rw[Fg,Al (x':=fun t=>(mJ m Z0 m).X (m-1-k+1+t) m) s (fun t J=>yP h F 0 k aa _ aa aa)];obtain⟨M,G,l,H⟩:=vo h F I;obtain⟨D,C,B,j⟩:=Mk (i:=m-1-k) F aa I;refine RO C G B l (j _ aa) (fun t J=>j _ aa) (fun t J=>H _ _ aa aa) (nH (aac ?_ (κ _)) K) (nH (aac ?_ (κ _)) K)
 .have:=aac (show s<=m by omega) (κ (BD*BD));omega
 .omega
def U6(G:(ech m Z0 m).r=m)(F:rq Z0 m (m+1) Q BD)(J:BD*BD<2^N)(C:(BD*BD+m*(BD*BD))*(BD*BD)<2^Ns)(c1:2*max Ns (N+N+1)+65<=12800)(c3:Ns+N+1<=12800):
  Kr N Ns Ns N m 1 (ech m Z0 m).X:=by
 refine⟨fun i l hi Z=>JS F J m (κ m) i l hi aa,fun k j s D I B=> ?_,fun k j D I=> ?_,fun k i j D K H I=> ?_,c1,aa,c3,aa,aa⟩
 .obtain rfl:j=0:=aa;exact Gy G F C D aa
 .obtain rfl:j=0:=aa;exact Gy G F C D (κ k)
 .obtain rfl:j=0:=aa;obtain⟨o,P,h⟩:=kH m Z0 m;rw[yP h G 0 k D i K H];exact JX G F J H aa
end
def zq (z:Imp) (n d:Int):GQ:=⟨((n*z.r:Int):Rat)/(d:Rat),((n*z.x:Int):Rat)/(d:Rat)⟩
structure Nb where
 a:Nat
 b:Nat
 y:GQ
 e:GQ
def Nb.at_ (b:Nb) (k:Nat) (U:Nat->GQ):GQ:=(if k=b.a then b.y*(U b.a-U b.b) else GQ.i 0 0)+(if k=b.b then b.y*(U b.b-U b.a) else GQ.i 0 0)
def Nb.src (b:Nb) (k:Nat):GQ:=if b.b=17/\k=b.a then b.y*b.e else GQ.i 0 0
def Nb.br (rw_:Nat->Nat) (b:Nb):Br:=⟨rw_ b.a,rw_ b.b,decide (b.b=17),b.y⟩
def oD{α:Type}{f g:α->GQ}:∀l:List α,(∀a∈l,f a=g a)->gm f l=gm g l
 |[],_=>rfl
 |a::l,h=>by
  show gm f l+f a=gm g l+g a;rw[oD l (fun x j=>h x (ib _ j)),h a q9]
def GY{α:Type}(c)(f:α->GQ):∀l:List α,gm (fun a=>c*f a) l=c*gm f l
 |[]=>(GQ.bL _).symm
 |a::l=>by
  show gm (fun a=>c*f a) l+c*f a=c*(gm f l+f a);rw[GY c f l,GQ.oO]
def Ct{α:Type}{f:α->GQ}:∀l:List α,(∀a∈l,f a=GQ.i 0 0)->gm f l=GQ.i 0 0
 |[],_=>rfl
 |a::l,h=>by
  show gm f l+f a=_;rw[Ct l (fun x j=>h x (ib _ j)),h a q9,GQ.add_zero']
def qX{n D j:Nat}(l:j<n)(y:GQ)(x:Nat->GQ)(i:Nat):gN (fun c=>jC D j y i c*x c) n=if i=D then y*x j else GQ.i 0 0:=by
 rw[qU (c:=j) n l (fun c _ hc=>by show(if i=D/\c=j then y else GQ.i 0 0)*_=_;rw[θ (fun h=>hc h.2),GQ.eO])];show(if i=D/\j=j then y else GQ.i 0 0)*x j=_;by_cases h:i=D
 .rw[ι ⟨h,rfl⟩,ι h]
 .rw[θ (fun e=>h e.1),θ h,GQ.eO]
def Br.part (b:Br) (i:Nat) (x:Nat->GQ):GQ:=
 if b.nt then (if i=b.p then b.y*x b.p else GQ.i 0 0) else (if i=b.p then b.y*(x b.p-x b.q) else GQ.i 0 0)+(if i=b.q then b.y*(x b.q-x b.p) else GQ.i 0 0)
theorem SN{n X}{b:Br}(x)(hp:b.p<n)(hq:b.nt=ζ->b.q<n)(i):gN (fun c=>stm X b i c*x c) n=gN (fun c=>X i c*x c) n+b.part i x:=by
 unfold stm Br.part;cases hb:b.nt
 .simp only[Y0,abv];have hq:=hq hb;have e:(fun c=>(X i c+jC b.p b.p b.y i c+jC b.q b.q b.y i c+jC b.p b.q (-b.y) i c+jC b.q b.p (-b.y) i c)*x c)=fun c=>(((X i c*x c+jC b.p b.p b.y i c*x c)+jC b.q b.q b.y i c*x c)+jC b.p b.q (-b.y) i c*x c)+jC b.q b.p (-b.y) i c*x c:=funext fun c=>by
   ext<;>simp only[GQ.bf,GQ.aY,GQ.aR,GQ.aQ]<;>grind
  rw[e,kN,kN,kN,kN,qX hp,qX hq,qX hq,qX hp];generalize gN (fun c=>X i c*x c) n=s;by_cases l:i=b.p<;>by_cases j:i=b.q<;>simp only[l,j,Ad,abv]
  (all_goals (try subst l);(try subst j));all_goals (try split)<;>(ext<;>simp only[GQ.bf,GQ.aY,GQ.aR,GQ.aQ,GQ.bX,GQ.cu,GQ.ky,GQ.kE,GQ.bU,GQ.bS]<;>grind)
 .simp only[Ad];have e:(fun c=>(X i c+jC b.p b.p b.y i c)*x c)=fun c=>X i c*x c+jC b.p b.p b.y i c*x c:=funext fun c=>by
   ext<;>simp only[GQ.bf,GQ.aY,GQ.aR,GQ.aQ]<;>grind
  rw[e,kN,qX hp]
def Fx{n}(x i):∀(bs:List Br) (X:Nat->Nat->GQ),(∀b∈bs,b.p<n/\(b.nt=ζ->b.q<n))->gN (fun c=>fq X bs i c*x c) n=gN (fun c=>X i c*x c) n+gm (fun b=>b.part i x) bs
 |[],X,_=>(GQ.add_zero' _).symm
 |b::bs,X,h=>by
  have hb:=h b q9;show gN (fun c=>fq (stm X b) bs i c*x c) n=_+(gm _ bs+b.part i x);rw[Fx x i bs (stm X b) (fun c hc=>h c (ib _ hc)),SN x hb.1 hb.2];generalize gN (fun c=>X i c*x c) n=s;generalize gm _ bs=t;generalize b.part i x=u;ext<;>simp only[GQ.bf,GQ.aY]<;>grind
def P8(i:Nat)(x:Nat->GQ)(n:Nat):gN (fun c=>zmx i c*x c) n=GQ.i 0 0:=by
 rw[iN (g:=fun _=>GQ.i 0 0) n (fun c _=>by show GQ.i 0 0*_=_;rw[GQ.eO]),lF]
structure Rwx (L:Nat->Bool) (rw_:Nat->Nat) (n:Nat):Prop where
 lt:∀k,L k=ε->rw_ k<n
 inj:∀j k,L j=ε->L k=ε->rw_ j=rw_ k->j=k
 onto:∀i,i<n->∃k,L k=ε/\rw_ k=i
structure VZ (L:Nat->Bool) (us:List Nb):Prop where
 none:L 17=ζ
 ab:∀b∈us,L b.a=ε/\(b.b=17\/L b.b=ε)/\b.a≠b.b
inductive JoinN (us:List Nb):Nat->Prop
 |neutral (b:Nb) (h:b∈us) (hn:b.b=17):JoinN us b.a
 |fro (b:Nb) (h:b∈us) (hn:b.b≠17) (hq:JoinN us b.b):JoinN us b.a
 |fwd (b:Nb) (h:b∈us) (hn:b.b≠17) (hp:JoinN us b.a):JoinN us b.b
def JoinN.br{us}(rw_){k}(h:JoinN us k):Joined (us.map (Nb.br rw_)) (rw_ k):=by
 induction h with
 |neutral b h hn=>exact Joined.neutral (Nb.br rw_ b) (aaP h) (by simp[Nb.br,hn])
 |fro b h hn _ ih=>exact Joined.fro (Nb.br rw_ b) (aaP h) (by simp[Nb.br,hn]) ih
 |fwd b h hn _ ih=>exact Joined.fwd (Nb.br rw_ b) (aaP h) (by simp[Nb.br,hn]) ih
structure xU (L:Nat->Bool) (rw_:Nat->Nat) (n:Nat) (us:List Nb):Prop where
 r:Rwx L rw_ n
 u:VZ L us
 im:∀b∈us,b.y.im<0
 jn:∀k,L k=ε->JoinN us k
section
variable {L:Nat->Bool} {rw_:Nat->Nat} {n:Nat} {us:List Nb}
def xU.psv(h:xU L rw_ n us):Psv n (us.map (Nb.br rw_)):=by
 refine⟨fun b hb=> ?_,fun p hp=> ?_⟩
 .obtain⟨c,hc,rfl⟩:=aad.1 hb;obtain⟨B,l,C⟩:=h.u.ab c hc;refine⟨h.r.lt _ B,fun hn=> ?_,h.im c hc⟩;have:c.b≠17:=by simpa[Nb.br] using hn
  exact h.r.lt _ (l.resolve_left this)
 .obtain⟨k,j,rfl⟩:=h.r.onto p hp;exact(h.jn k j).br rw_
noncomputable def nJ (L:Nat->Bool) (rw_:Nat->Nat) (n:Nat) (us:List Nb) (v:Nat->GQ) (k:Nat):GQ:=if L k=ε then sol n (fq zmx (us.map (Nb.br rw_))) (col v) (rw_ k) 0 else GQ.i 0 0
theorem mH{v k}(h:L k=ζ):nJ L rw_ n us v k=GQ.i 0 0:=by unfold nJ;rw[h];rfl
theorem rV{v k}(h:L k=ε):nJ L rw_ n us v k=sol n (fq zmx (us.map (Nb.br rw_))) (col v) (rw_ k) 0:=by unfold nJ;rw[ι h]
def xU.kcl(h:xU L rw_ n us){v k}(l:L k=ε):gm (fun b=>b.at_ k (nJ L rw_ n us v)) us=v (rw_ k):=by
 have F:=h.psv.EH (v:=v) (h.r.lt k l);rw[Fx _ _ _ _ (fun b hb=>⟨(h.psv.ok b hb).1,(h.psv.ok b hb).2.1⟩),P8,qW] at F;have D:k≠17:=fun e=>by rw[e,h.u.none] at l;cases l
 rw[<-F,oD (g:=fun a=>(Nb.br rw_ a).part (rw_ k) (fun c=>sol n (fq zmx (us.map (Nb.br rw_))) (col v) c 0)) us]
 .ext<;>simp only[GQ.bf,GQ.aY,GQ.bU,GQ.bS]<;>grind
 .intro b hb;obtain⟨ha,C,G⟩:=h.u.ab b hb;show(if k=b.a then b.y*(nJ L rw_ n us v b.a-nJ L rw_ n us v b.b) else GQ.i 0 0)+(if k=b.b then b.y*(nJ L rw_ n us v b.b-nJ L rw_ n us v b.a) else GQ.i 0 0)=
   if decide (b.b=17)=ε then (if rw_ k=rw_ b.a then b.y*sol n (fq zmx (us.map (Nb.br rw_))) (col v) (rw_ b.a) 0 else GQ.i 0 0)
   else (if rw_ k=rw_ b.a then b.y*(sol n (fq zmx (us.map (Nb.br rw_))) (col v) (rw_ b.a) 0-sol n (fq zmx (us.map (Nb.br rw_))) (col v) (rw_ b.b) 0) else GQ.i 0 0)+
    (if rw_ k=rw_ b.b then b.y*(sol n (fq zmx (us.map (Nb.br rw_))) (col v) (rw_ b.b) 0-sol n (fq zmx (us.map (Nb.br rw_))) (col v) (rw_ b.a) 0) else GQ.i 0 0)
  rw[rV ha];by_cases hn:b.b=17
  .rw[ι (show decide (b.b=17)=ε by simp[hn]),θ (show ¬k=b.b by omega),GQ.add_zero',mH (k:=b.b) (by rw[hn];exact h.u.none)];by_cases j:k=b.a
   .rw[ι j,ι (by rw[j])];generalize sol n _ _ _ _=z;ext<;>simp only[GQ.bX,GQ.cu,GQ.aR,GQ.aQ,GQ.bU,GQ.bS]<;>grind
   .rw[θ j,θ (fun e=>j (h.r.inj _ _ l ha e))]
  .have B:=C.resolve_left hn;rw[θ (show ¬decide (b.b=17)=ε by simp[hn]),rV B];have I:(rw_ k=rw_ b.a)=(k=b.a):=propext ⟨fun e=>h.r.inj _ _ l ha e,fun e=>by rw[e]⟩;have H:(rw_ k=rw_ b.b)=(k=b.b):=propext ⟨fun e=>h.r.inj _ _ l B e,fun e=>by rw[e]⟩;simp only[I,H]
def xU.drive(h:xU L rw_ n us){f}(j:L f=ε):0<(nJ L rw_ n us (unit (rw_ f)) f).im:=by
 rw[rV j];exact h.psv.drive (x:=fun c=>sol n (fq zmx (us.map (Nb.br rw_))) (col (unit (rw_ f))) c 0) (h.r.lt f j) (fun i hi=>h.psv.EH (v:=unit (rw_ f)) hi)
def feed (rw_:Nat->Nat) (us:List Nb) (i:Nat):GQ:=gm (fun b=>if b.b=17/\i=rw_ b.a then b.y*b.e else GQ.i 0 0) us
theorem xU.SF(h:xU L rw_ n us){k}(j:L k=ε):feed rw_ us (rw_ k)=gm (fun b=>b.src k) us:=by
 refine oD us fun b hb=> ?_;have l:(rw_ k=rw_ b.a)=(k=b.a):=propext ⟨fun e=>h.r.inj _ _ j (h.u.ab b hb).1 e,fun e=>by rw[e]⟩;unfold Nb.src;simp only[l]
end
def tH(g)(z:Imp)(n d w)(hc:bM w g)(G:0<=z.r/\z.r<=1000)(F:0<=z.x/\z.x<=1000)(hn:0<=n/\n<=16)(hd:1<=d/\d<=16):
  CV 156 #[.pointer (γ ⟨g,0,δ⟩),.agg #[.int .i64 z.r,.int .i64 z.x],.int .i64 n,.int .i64 d] w fun v w'=>GV w' v (zq z n d) 64:=by
 obtain⟨Y,C,j⟩:=an2 w 54 #[.int .i64 z.r,.int .i64 z.x] 42 #[.bool ζ,.slice δ 0 0,.bool ζ,.slice δ 0 0,.bool ζ,.slice δ 0 0];have I:=hc.ext Y;have Q:=C.cell;have J:0<=n*z.r/\n*z.r<=16000:=⟨abH hn.1 G.1,by have:=abI hn.2 G.2 G.1 aa;omega⟩;have Z:0<=n*z.x/\n*z.x<=16000:=⟨abH hn.1 F.1,by have:=abI hn.2 F.2 F.1 aa;omega⟩;have T:=aJ (fun w hc=>Px g (n*z.r) (n*z.x) d w hc aa aa aa aa aa aa aa);clear G F hn hd;obtain⟨b10,l⟩:=J;obtain⟨D,B⟩:=Z;go_enter func156,ntmps156;(go_wp2_with fail);clear Q C;refine(T.o _ I).mono ?_;rintro e w3 ⟨v,rfl,hv,F⟩;replace Y:=Y.trans F;replace j:=j.ext F;clear F;obtain⟨WH,U,WG,O,V,M,P,WI,K,WF,L,W,rfl⟩:=hv.opn;have k6:=j.cell;have f6:=j.frozen;obtain⟨p1,p2,H⟩:=eH Y aa j hv;have R:=aJ p1;have S:=aJ p2;have N:=aJ H;clear p1 p2 H Y j hv;(go_wp2_with fail);exact dE rfl rfl rfl S.o ⟨_,rfl,N.o,R.o⟩
def iO(g)(z:Imp)(w)(hc:bM w g)(D:0<=z.r/\z.r<=1000)(l:0<=z.x/\z.x<=1000):
  CV 120 #[.pointer (γ ⟨g,0,δ⟩),.agg #[.int .i64 z.r,.int .i64 z.x]] w fun v w'=>GV w' v (zq z 1 1) 64:=by
 obtain⟨Y,C,j⟩:=an2 w 54 #[.int .i64 z.r,.int .i64 z.x] 42 #[.bool ζ,.slice δ 0 0,.bool ζ,.slice δ 0 0,.bool ζ,.slice δ 0 0];have I:=hc.ext Y;have M:=C.cell;have P:=aJ (fun w hc=>tH g z 1 1 w hc D l aa aa);clear D l;go_enter func120,ntmps120;(go_wp2_with fail);clear M C;refine(P.o _ I).mono ?_;rintro e Z ⟨v,rfl,hv,l⟩;replace Y:=Y.trans l;replace j:=j.ext l;clear l;obtain⟨V,Q,U,K,R,H,L,W,F,T,G,S,rfl⟩:=hv.opn;have k6:=j.cell;have f6:=j.frozen;obtain⟨p1,p2,B⟩:=eH Y aa j hv;have N:=aJ p1;have O:=aJ p2;have J:=aJ B;clear p1 p2 B Y j hv;(go_wp2_with fail);exact dE rfl rfl rfl O.o ⟨_,rfl,J.o,N.o⟩
def um(g v0 q0 n0 m w)(hc:bM w g)(F:GV w v0 q0 n0)(hm: -9223372036854775808<=m/\m<=9223372036854775807)(hn:2*max n0 64+1<=12800):
  CV 162 #[.pointer (γ ⟨g,0,δ⟩),v0,.int .i64 m] w fun v w'=>GV w' v (q0*GQ.i m 0) (n0+64+1):=by
 obtain⟨G,D,H,B,R,L,O,Q,S,Z,Wm,U,rfl⟩:=F.opn;obtain⟨Y,T,j⟩:=an2 w 42 #[.bool G,.slice D H B,.bool R,.slice L O Q,.bool S,.slice Z Wm U] 42 #[.bool ζ,.slice δ 0 0,.bool ζ,.slice δ 0 0,.bool ζ,.slice δ 0 0];have HX:=aJ (F.ext Y);have HC:=aJ (bM.ext hc Y);have HE:=aJ Y;have V:=aJ T;have l:=aJ j;have HN:=aJ hn;have HM:=aJ hm;clear hm;clear F Y T j hn hc;go_enter func162,ntmps162;(go_wp2_with fail);generalize ((w.alloc (.cells #[.bool G,.slice D H B,.bool R,.slice L O Q,.bool S,.slice Z Wm U] 42)).alloc (.cells #[.bool ζ,.slice δ 0 0,.bool ζ,.slice δ 0 0,.bool ζ,.slice δ 0 0] 42))=w5 at HX HC HE V l⊢;have Y1:=aK.blk V.o;refine bQ 6 [(ε,0),(ε,1),(ε,2),(ε,3),(ζ,4),(ζ,5)] ah ah ?_;refine aV [0,1,2,3] [(ζ,4),(ζ,5)] _ ah ?_;simp only[cZ,aZ,ξ,ο];(repeat (go_big_quiet_step (fail)));refine τ ?_;refine aT 4 [(ζ,5)] ah ?_;intro K J;simp only[aZ];(go_wp2_with fail);refine(bO g m _ (HC.ext ((Ext.refl _).drew)) HM.o.1 HM.o.2).mono ?_;rintro e w2 ⟨u,rfl,N,M⟩;have P:=((Ext.refl w5).drew).trans M;have W:=aJ P;clear M;obtain⟨WR,WS,WQ,WN,WL,WK,WJ,WT,WU,WP,WM,WO,rfl⟩:=N.opn;have HU:=aJ N;(go_wp2_with fail);refine J _ _ ⟨⟨w2,P⟩,rfl⟩ ?_;clear J K P N;have N:=HU.o;refine aT 5 [] ah ?_;intro K J;simp only[aZ];(go_wp2_with fail);refine(uq g _ _ q0 (GQ.i m 0) n0 64 _ (HC.ext W.o) (HX.ext W.o) N HN.o).mono ?_;exact Aav
def DC(g v0 q0 n0 w)(hc:bM w g)(F:GV w v0 q0 n0)(hn:2*max 64 n0+65<=12800):
  CV 163 #[.pointer (γ ⟨g,0,δ⟩),v0] w fun v w'=>GV w' v (GQ.i 0 0-q0) (64+n0+65):=by
 obtain⟨G,D,H,B,R,L,O,Q,S,Z,Wm,U,rfl⟩:=F.opn;obtain⟨Y,T,j⟩:=an2 w 42 #[.bool G,.slice D H B,.bool R,.slice L O Q,.bool S,.slice Z Wm U] 42 #[.bool ζ,.slice δ 0 0,.bool ζ,.slice δ 0 0,.bool ζ,.slice δ 0 0];have HX:=aJ (F.ext Y);have HC:=aJ (bM.ext hc Y);have HE:=aJ Y;have V:=aJ T;have l:=aJ j;have HN:=aJ hn;skip;clear F Y T j hn hc;go_enter func163,ntmps163;(go_wp2_with fail);generalize ((w.alloc (.cells #[.bool G,.slice D H B,.bool R,.slice L O Q,.bool S,.slice Z Wm U] 42)).alloc (.cells #[.bool ζ,.slice δ 0 0,.bool ζ,.slice δ 0 0,.bool ζ,.slice δ 0 0] 42))=w5 at HX HC HE V l⊢;have Y1:=aK.blk V.o;refine bQ 5 [(ε,0),(ε,1),(ε,3),(ζ,2),(ζ,4)] ah ah ?_;refine aV [0,1,3] [(ζ,2),(ζ,4)] _ ah ?_;simp only[cZ,aZ,ξ,ο];(repeat (go_big_quiet_step (fail)));refine τ ?_;refine aT 2 [(ζ,4)] ah ?_;intro K J;simp only[aZ];(go_wp2_with fail);refine(bO g 0 _ (HC.ext ((Ext.refl _).drew)) aa aa).mono ?_;rintro e w2 ⟨u,rfl,N,M⟩;have P:=((Ext.refl w5).drew).trans M;have W:=aJ P;clear M;obtain⟨WR,WS,WQ,WN,WL,WK,WJ,WT,WU,WP,WM,WO,rfl⟩:=N.opn;have HU:=aJ N;(go_wp2_with fail);refine J _ _ ⟨⟨w2,P⟩,rfl⟩ ?_;clear J K P N;have N:=HU.o;refine aT 4 [] ah ?_;intro K J;simp only[aZ];(go_wp2_with fail);refine(ui g _ _ (GQ.i 0 0) q0 64 n0 _ (HC.ext W.o) N (HX.ext W.o) HN.o).mono ?_;exact Aav
def Qe{w:World}{g n j:Nat}{f:Nat->En}{x:Nat->GQ}{e:En}(hb:Blk w g 42 (aM n f).toArray)(C:∀i,i<j->GV w (f i).v (x i) 12800)(D:j<n)(U:GV w e.v (x j) 12800):
  Blk (puts w g (j*6) e.cells) g 42 (aM n (upd f j e)).toArray/\(∀i,i<j+1->GV (puts w g (j*6) e.cells) (upd f j e i).v (x i) 12800)/\Mod (fun k=>k=g) w (puts w g (j*6) e.cells):=by
 have l:Mod (fun k=>k=g) w (puts w g (j*6) e.cells):=Mod.only (fD _ _ _ _) rfl;have hS:Far (fun k=>k=g) w:=fun k B _=>by subst B;exact⟨_,_,hb,dm _ _⟩
 refine⟨?_,fun i hi=> ?_,l⟩
 .rw[<-mF e D];exact bR _ _ hb
 .by_cases h:i=j
  .subst h;rw[upd_same];exact U.mod l hS
  .rw[upd_ne h];exact(C i aa).mod l hS
theorem Dk(gf m na:Nat)(w)(hc:bM w gf)(hm:m<=24)(X8:na<=24):
  Calls prog 157 #[.pointer (γ ⟨gf,0,δ⟩),.int .i64 (m:Int),.int .i64 (na:Int)] w fun e w'=>∃(G:Nat) (H:Nat->Rw),e=.returned (.slice (γ ⟨G,0,δ⟩) m m)/\DI w w' G m na m (fun _ _=>GQ.i 0 0) H:=by
 have HC:=aJ hc;clear hc;have Xt:=DW m aa;have WP:=Aj na aa;go_enter func157,ntmps157;(go_wp2_with fail);clear Xt;go_loopw [14] (fun i wr=>∃(D:Nat) (H:Nat->Rw),D<=m/\i=.int .i64 D/\DI w wr w.heap.size m na D (fun _ _=>GQ.i 0 0) H) (fun i _=>m-(intOf i).toNat)
 case atStart=>exact⟨0,fun _=>zP,aa,rfl,Blk.new _ _ _,κ _,by intros;omega,by intros;omega,by intros;omega,Ext.new _ _⟩
 case round=>
  obtain⟨i,H,hi,rfl,hD⟩:=hrel;obtain⟨wv,WZ⟩:∃wv,wv=wr:=⟨_,rfl⟩;subst WZ;have HD:=aJ hD;clear hD;by_cases Wj:i<m
  .have hd:decide ((i:Int)<(m:Int))=ε:=ae;have WH:=HD.o.o;have fr:=WH.frozen;have C:wv.cell? ⟨w.heap.size,i,δ⟩=γ (H i).v:=by rw[WH.cell];exact iE Wj
   have WW:w.heap.size<wv.heap.size:=WH.lt;have O:Blk (wv.setCell ⟨w.heap.size,i,δ⟩ (.slice (γ ⟨wv.heap.size,0,δ⟩) na na)) w.heap.size 174 (mxc m (upd H i ⟨γ ⟨wv.heap.size,0,δ⟩,wv.heap.size,0,na,na⟩)).toArray:=by
    rw[<-El];exact WH.qg _ _
   have k2:(wv.setCell ⟨w.heap.size,i,δ⟩ (.slice (γ ⟨wv.heap.size,0,δ⟩) na na)).cell? ⟨w.heap.size,i,δ⟩=γ (.slice (γ ⟨wv.heap.size,0,δ⟩) na na):=by rw[O.cell,iE Wj,upd_same];rfl
   have WQ:=O.alloc (.cells (aM na fun _=>zEn).toArray 42);have Wo:Blk ((wv.setCell ⟨w.heap.size,i,δ⟩ (.slice (γ ⟨wv.heap.size,0,δ⟩) na na)).alloc (.cells (aM na fun _=>zEn).toArray 42)) wv.heap.size 42 (aM na fun _=>zEn).toArray:=aeE _ _ Aa9;have WA:Ext w ((wv.setCell ⟨w.heap.size,i,δ⟩ (.slice (γ ⟨wv.heap.size,0,δ⟩) na na)).alloc (.cells (aM na fun _=>zEn).toArray 42)):=(HD.o.ext.setCell (κ _) _).alloc _;have Wl:Mod (fun k=>k=w.heap.size\/k=wv.heap.size) wv ((wv.setCell ⟨w.heap.size,i,δ⟩ (.slice (γ ⟨wv.heap.size,0,δ⟩) na na)).alloc (.cells (aM na fun _=>zEn).toArray 42)):=(Mod.only (Only.set _ _ _ _) (.inl rfl)).trans (aeI (Ext.new _ _));have WV:=aJ WQ;have Wq:=aJ Wo;have W:=aJ WA;have WR:=aJ WW;have WE:=aJ Wl;clear WH WQ O Wo WA Wl;(go_wp2_with fail);clear C k2 fr;generalize ((wv.setCell ⟨w.heap.size,i,δ⟩ (.slice (γ ⟨wv.heap.size,0,δ⟩) na na)).alloc (.cells (aM na fun _=>zEn).toArray 42))=w3 at WV Wq W WE⊢;generalize Xc:wv.heap.size=g at WV Wq WR WE WW⊢;have WB:=aJ Xc;clear Xc;clear WW;go_loopw [27] (fun Y wz=>∃(j:Nat) (f:Nat->En),j<=na/\Y=.int .i64 j/\Blk wz g 42 (aM na f).toArray/\(∀L,L<j->GV wz (f L).v (GQ.i 0 0) 12800)/\Mod (fun k=>k=g) w3 wz) (fun Y _=>na-(intOf Y).toNat)
   case atStart=>exact⟨0,fun _=>zEn,aa,rfl,Wq.o,by intros;omega,Mod.refl _ _⟩
   case round=>
    obtain⟨j,f,hj,rfl,hb,WN,Xe⟩:=hrel;have WK:=aJ hb;have WJ:=aJ WN;have WG:=aJ Xe;clear hb WN Xe;have Wy:w.heap.size≠g:=by have:=WR.o;omega
    have M:=WV.o.mod WG.o Wy;have Xm:=aJ M;have P:=aJ (fC W.o WG.o (fun k hk=>by have:=WR.o;omega));by_cases Wx:j<na
    .have X9:decide ((j:Int)<(na:Int))=ε:=ae;have k3:wr.cell? ⟨w.heap.size,i,δ⟩=γ (.slice (γ ⟨g,0,δ⟩) na na):=by rw[M.cell,iE Wj,upd_same];rfl
     have V:=M.lt;have lg:=WK.o.lt;clear M;have Y1:=aK.cell k3;(go_wp2_with fail);refine bQ 7 [(ε,0),(ε,1),(ε,2),(ε,3),(ε,4),(ε,5),(ζ,6)] ah ah ?_;refine aV [0,1,2,3,4,5] [(ζ,6)] _ ah ?_;simp only[cZ,aZ,ξ,ο];(repeat (go_big_quiet_step (fail)));refine τ ?_;refine aT 6 [] ah ?_;intro K J;simp only[aZ];(go_wp2_with fail);refine(bO gf 0 _ (HC.o.ext (P.o.trans ((Ext.refl _).drew))) aa aa).mono ?_;rintro e w4 ⟨u,rfl,N,hx⟩;have Q:=((Ext.refl wr).drew).trans hx;have WL:=aJ Q;clear hx;obtain⟨en,F⟩:=N.en;subst F;have HU:=aJ (N.up (show 64<=12800 by omega));clear N;(go_wp2_with fail);refine J _ _ ⟨⟨w4,Q⟩,rfl⟩ ?_;clear J K Q Y1 k3;simp only[bT,ρ,χ];have hp:=Qe (WK.o.ext WL.o) (x:=fun _=>GQ.i 0 0) (fun i hi=>(WJ.o i hi).ext WL.o) Wx HU.o;obtain⟨d0,d1,d2,d3,d4,d5⟩:=dD.cells (WK.o.ext WL.o) Wx rfl;have fr:=(WK.o.ext WL.o).frozen;have S:=(WK.o.ext WL.o).lt;have WC:=aJ hp.1;have Xv:=aJ hp.2.1;have R:=aJ hp.2.2;clear hp;unfold En.v gv;go_wp2_with fail
     go_roundw
     case rel=>exact⟨j+1,upd f j en,aa,au,WC.o,Xv.o,(WG.o.trans (aeI WL.o)).trans R.o⟩
     case measure=>simp[intOf];omega
    .obtain rfl:j=na:=aa;clear Wx hj;go_wp2_with fail
     go_roundw
     case rel=>
      have B:∀D,D<i->(H D).b≠g:=fun D Wp=>by
       obtain⟨f',WF,_⟩:=(HD.o.row D Wp).2.1;have:=WF.lt;have:=WB.o;omega
      have I:Mod (fun k=>k=w.heap.size\/k=g) wv wr:=WE.o.trans (WG.o.mono fun k hk=> .inr hk);have l:Far (fun k=>k=w.heap.size\/k=g) wv:=fun k hk Z=>by
       rcases hk with hk|hk
       .subst hk;refine⟨_,_,HD.o.o,?_⟩;unfold kD;simp only[wo];intro v hv;simp only[mxc,aad] at hv;obtain⟨D,_,rfl⟩:=hv;rfl
       .have:=WB.o;omega
      refine⟨i+1,upd H i ⟨γ ⟨g,0,δ⟩,g,0,j,j⟩,aa,au,Xm.o,κ _,fun D Wp=> ?_,fun D Wp=> ?_,fun D L Wp Wu U=> ?_,P.o⟩
      .exact Acy
      .by_cases e:D=i
       .exact Ab7
       .rw[upd_ne e];have h3:=HD.o.row D aa;refine⟨h3.1,h3.2.1.mod I l (fun hk=> ?_),h3.2.2⟩;rcases hk with hk|hk
        .obtain⟨f',WF,_⟩:=h3.2.1;have e1:Blk wv w.heap.size 42 (aM j f').toArray:=hk ▸ WF;have e2:=HD.o.o.symm.trans e1;simp at e2
        .exact B D aa hk
      .by_cases e:D=i
       .by_cases T:L=i
        .omega
        .subst e;rw[upd_same,upd_ne T] at U;exact absurd U.symm (B L aa)
       .by_cases T:L=i
        .subst T;rw[upd_same,upd_ne e] at U;exact absurd U (B D aa)
        .rw[upd_ne e,upd_ne T] at U;exact HD.o.inj D L aa aa U
     case measure=>simp[intOf];omega
  .obtain rfl:i=m:=aa;clear Wj hi;(go_wp2_with fail);go_ret;exact⟨_,H,rfl,HD.o⟩
inductive NF where
 |any
 |gv (q:GQ) (n:Nat)
 |box (t:TypeId) (cs:Array Value)
 |eq (u:Value)
 |pt
def NF.holds:NF->Nat->Nat->Value->World->Prop
 | .any,_,_,_,_=>True
 | .gv q n,_,_,v,w=>∃e:En,v=e.v/\GV w e.v q n
 | .box t cs,lo,hi,v,w=>v=.pointer (γ ⟨lo,0,δ⟩)/\lo<hi/\Blk w lo t cs
 | .eq u,_,_,v,_=>v=u
 | .pt,lo,hi,v,_=>v=.pointer (γ ⟨lo,0,δ⟩)/\lo<hi
def afL(f:NF){lo hi v w w'}(h:f.holds lo hi v w)(x:Ext w w'):f.holds lo hi v w':=by
 cases f with
 |any=>trivial
 |gv q n=>obtain⟨e,l,j⟩:=h;exact⟨e,l,j.ext x⟩
 |box t cs=>exact⟨h.1,h.2.1,h.2.2.ext x⟩
 |eq u=>exact h
 |pt=>exact h
def aeM{q n lo hi v w}(h:NF.holds (.gv q n) lo hi v w):GV w v q n:=by
 obtain⟨e,l,j⟩:=h;rw[l];exact j
def zG:List (Nat×NF)->Nat->NF
 |[],_=> .any
 |p::r,i=>bif Nat.beq p.1 i then p.2 else zG r i
def E8:List (Nat×NF)->Nat->Bool
 |[],_=>ζ
 |p::r,i=>Nat.beq p.1 i||E8 r i
def NFs (l:List (Nat×NF)):Nat->Nat->Nat->Value->World->Prop:=fun i lo hi v w=>(zG l i).holds lo hi v w
def Oq(l):∀i lo hi v w w',NFs l i lo hi v w->Ext w w'->NFs l i lo hi v w':=fun _ _ _ _ _ _ h x=>afL _ h x
def Dl{w' v q n}(h:GV w' v q n):∃e:En,v=e.v/\GV w' e.v q n:=by
 obtain⟨e,rfl⟩:=h.en;exact⟨e,rfl,h⟩
def aN{P ops rest op a w Q}(D:op.guard=δ)(G)(x y:Operand)(B:op.op=.store G x y)(b o cells)(F:a.eval x=.pointer (γ ⟨b,o,δ⟩))(C:a.eval y=.agg cells.toArray)(j:w.there b o cells.length)(hi:(P.info? G).map (·.size)=γ cells.length)(l:∀v∈cells,v.oneCell'=ε)(h:∀w',w'=puts w b o cells->wpList P ops Q rest (a.put op.dst undef) w'):wpList P ops Q (op::rest) a w:=by
 refine wpList_store_mid D G x y B b o cells.toArray F C (by simpa using j) (by simpa using hi) (acu l) ?_;refine h _ ?_;rw[jq]
theorem dM(e:En):∀v∈e.cells,v.oneCell'=ε:=by
 intro v hv;unfold En.cells at hv;simp only[ψ,RS,aaU] at hv;rcases hv with rfl|rfl|rfl|rfl|rfl|rfl<;>rfl
def bE:(prog.info? 42).map (·.size)=γ (6:Nat):=ah
def Blk.there{w g o n t cs}(h:Blk w g t cs)(hn:o+n<=cs.size):w.there g o n:=fun j l=>
 ⟨by rw[h.cell,Array.getElem?_eq_getElem (show o+j<cs.size by omega)];rfl,h.frozen _⟩
def mR{w0 w2 w':World}{g}(e:En)(I:Ext w0 w2)(H:w0.heap.size<=g)(hb:Blk w2 g 42 #[.bool ζ,.slice δ 0 0,.bool ζ,.slice δ 0 0,.bool ζ,.slice δ 0 0])(l:w'=puts w2 g 0 e.cells):
  Ext w0 w'/\Blk w' g 42 #[.bool e.s1,.slice e.A1 e.n1 e.c1,.bool e.s2,.slice e.A2 e.n2 e.c2,.bool e.s3,.slice e.A3 e.n3 e.c3]/\(∀v q n,GV w2 v q n->GV w' v q n)/\(∀g' t c,g'≠g->Blk w2 g' t c->Blk w' g' t c):=by
 have B:Mod (fun k=>k=g) w2 w':=by rw[l];exact Mod.only (fD _ _ _ _) rfl
 have hn:kD #[.bool ζ,.slice δ 0 0,.bool ζ,.slice δ 0 0,.bool ζ,.slice δ 0 0]=ε:=rfl;have G:Far (fun k=>k=g) w2:=fun k D _=>by
  obtain rfl:k=g:=D;exact⟨_,_,hb,hn⟩
 have F:Ext w0 w':=by rw[l];exact fw (H:Own w0 g) 0 e.cells I
 have C:Blk w' g 42 (fI #[.bool ζ,.slice δ 0 0,.bool ζ,.slice δ 0 0,.bool ζ,.slice δ 0 0] 0 e.cells):=by rw[l];exact bR 0 e.cells hb
 exact⟨F,C,fun v q n h=>h.mod B G,fun g' t c j h=>h.mod B j⟩
def iC{P:Program}{fn:Func}{R:Ending->World->Prop}{a:Act}{w:World}{t g:Nat}{G:TypeId}{cs:Array Value}{d:TypeDesc}(B:fn.results= #[.cell t G])(hd:a.defers=[])(hp:a.tmps[t]?.getD undef=.pointer (γ ⟨g,0,δ⟩))(hb:Blk w g G cs)(N:P.underlying G=γ d)(j:(match d with| .struct _| .array _ _=>ε|_=>ζ)=ε)(hi:(P.info? G).map (·.size)=γ cs.size)(l:R (.returned (.agg cs)) w):bodyPost P fn R .ret a w:=
 aak (results_cell_row B _ _ g G cs (0,0) _ (by simpa using hp) hb N j hi) hd l
def Ee{P:Program}{ops:Array Oper}{w0:World}{E:Nat->Bool}{Φ:Nat->Nat->Nat->Value->World->Prop}{Qt:Book->Act->Prop}{o:Oper}{l:List Oper}{k:Nat}{F:Book}{a:Act}{G:Value->World->Prop}{f:FuncId}{args:Array Value}{Q:En->Nat->Nat->Prop}(x:∀W,Kn ops w0 Φ k F W->Calls P f args W (fun e w'=>∃v,e=.returned v/\G v w'/\Ext W w'))(h:∀e lo hi,Q e lo hi)(t:(∀W,Kn ops w0 Φ k F W->Calls P f args W (fun e w'=>∃v,e=.returned v/\G v w'/\Ext W w'))->(∀e lo hi,Q e lo hi)->wpT P ops w0 E Φ Qt (o::l) k F a:=by
   intro x h;refine dR (by rfl) (by rfl) (by rfl) ?_ ?_
   .intro W J;have y:=x W J;clear x h J;go_simp;exact⟨rfl,y.mono fun e w' ⟨v,U,hv,C⟩=>⟨v,U,C,Dl hv⟩⟩
   .intro v lo hi B;obtain⟨W,j⟩:=B;obtain⟨e,rfl,-⟩:=j.get;clear j W x;(try simp only[Act.put,qa,Z4,Z5]);exact h e lo hi):wpT P ops w0 E Φ Qt (o::l) k F a:=t x h
def tN{P:Program}{L:Nat}{Q:Exit->Act->World->Prop}{a:Act}{w:World}{l:List Oper}(n:Nat)(m:List (Nat×NF)){q:Prop}(h:q)(t:q->wpT P l.toArray w (E8 m) (NFs m) (fun F a'=>∀w',dS w (NFs m) F w'->wpList P l.toArray Q (l.drop n) a' w') (l.take n) 0 Book.none a:=by
   intro h;simp only[aao,abj,ρ,χ];exact h)(j:P.follows .mixedOrders=ε:=by kernel_rfl)(O:Region.lexTailB .any l.toArray n=ε:=by kernel_rfl):(Code.region L l.toArray ε).wp P Q a w:=iV n (E8 m) (NFs m) (Oq _) j O (t h)
def dS.hV{w W:World}{Φ:Nat->Nat->Nat->Value->World->Prop}{F:Book}(h:dS w Φ F W)(i:Nat){v:Value}{lo hi n:Nat}{q:GQ}(l:F i=γ (v,lo,hi):=by rfl)(j:Φ i lo hi v W=NF.holds (.gv q n) lo hi v W:=by rfl):Hid (GV W v q n):=aJ (aeM (j ▸ h.at_ i l))
structure Sto (g:Nat) (w w':World):Prop where
 os:w'.os=w.os
 tape:w'.tape=w.tape
 output:w'.output=w.output
 size:w'.heap.size=w.heap.size
 block:∀i,i≠g->w'.heap[i]? =w.heap[i]?
 far:∃t cs,Blk w g t cs/\kD cs=ε
def Sto.ext{g w0 w w'}(h:Sto g w w')(j:Ext w0 w)(B:w0.heap.size<=g):Ext w0 w':=
 ⟨h.os.trans j.os,h.tape.trans j.tape,h.output.trans j.output,by rw[h.size];exact j.size,fun k l=>(h.block k aa).trans (j.block k l)⟩
def Sto.blk{g g' w w' t cs}(h:Sto g w w')(hb:Blk w g' t cs)(j:g'≠g):Blk w' g' t cs:=(h.block g' j).trans hb
def Sto.mod{g w w'}(h:Sto g w w'):Mod (fun k=>k=g) w w':=⟨h.os,h.tape,h.output,by rw[h.size];exact κ _,fun k _ j=>h.block k j⟩
def Sto.gv{g w w' v q n}(h:Sto g w w')(hv:GV w v q n):GV w' v q n:=by
 obtain⟨t,cs,hb,hn⟩:=h.far;exact hv.mod h.mod (fun k j _=>by
  obtain rfl:k=g:=j;exact⟨t,cs,hb,hn⟩)
section
variable {P:Program} {ops:Array Oper} {w0:World} {E:Nat->Bool} {Φ Pd Po:Nat->Nat->Nat->Value->World->Prop} {S:Nat->Option Nat}
structure Late (ops:Array Oper) (w0:World) (Φ Pd Po:Nat->Nat->Nat->Value->World->Prop) (S:Nat->Option Nat):Prop where
 ft:∀i lo hi v w w',Φ i lo hi v w->Ext w w'->Φ i lo hi v w'
 fs:∀i lo hi v g w w',Φ i lo hi v w->Sto g w w'->Φ i lo hi v w'
 pt:∀i lo hi v w w',Pd i lo hi v w->Ext w w'->Pd i lo hi v w'
 ps:∀i lo hi v g w w',Pd i lo hi v w->Sto g w w'->(g<lo\/hi<=g)->Pd i lo hi v w'
 qt:∀i lo hi v w w',Po i lo hi v w->Ext w w'->Po i lo hi v w'
 qs:∀i lo hi v g w w',Po i lo hi v w->Sto g w w'->(g<lo\/hi<=g)->Po i lo hi v w'
 sa:∀k j,S k=γ j->anc ops ops.size k j=ε
 si:∀k k' j,S k=γ j->S k'=γ j->k=k'
 sn:∀k j,S k=γ j->S j=δ
 fz:∀k j lo hi v w,S k=γ j->Φ k lo hi v w
structure jM (w0:World) (Φ Pd Po:Nat->Nat->Nat->Value->World->Prop) (S:Nat->Option Nat) (F:Book) (w:World):Prop extends dS w0 Φ F w where
 pend:∀k j e,S k=γ j->F j=γ e->F k=Option.none->Pd j e.2.1 e.2.2 e.1 w
 post:∀k j e x,S k=γ j->F j=γ e->F k=γ x->Po j e.2.1 e.2.2 e.1 w
 dep:∀k j,S k=γ j->F j=Option.none->F k=Option.none
def KnL (ops:Array Oper) (w0:World) (Φ Pd:Nat->Nat->Nat->Value->World->Prop) (S:Nat->Option Nat) (k:Nat) (F:Book) (w:World):Prop:=
 Ext w0 w/\(∀i e,F i=γ e->anc ops ops.size k i=ε->Φ i e.2.1 e.2.2 e.1 w)/\∀j e,S k=γ j->F j=γ e->Pd j e.2.1 e.2.2 e.1 w
def Dm (Φ Pd Po:Nat->Nat->Nat->Value->World->Prop) (S:Nat->Option Nat) (k:Nat) (F:Book) (w:World) (v:Value) (w':World):Prop:=
 (S k=Option.none->Ext w w'/\Pd k w.heap.size w'.heap.size v w')/\(∀j e,S k=γ j->F j=γ e->Sto e.2.1 w w'/\Po j e.2.1 e.2.2 e.1 w')/\Φ k w.heap.size w'.heap.size v w'
def qF (P:Program) (Φ Pd Po:Nat->Nat->Nat->Value->World->Prop) (S:Nat->Option Nat) (k:Nat) (F:Book) (w:World):Result Next->Prop
 | .ok (.value v) w'=>Dm Φ Pd Po S k F w v w'
 | .ok .skip w'=>Dm Φ Pd Po S k F w undef w'
 | .ok (.enter f args) w1=>w1=w/\S k=Option.none/\Calls P f args w (fun e w'=>∃v,e=.returned v/\Ext w w'/\Pd k w.heap.size w'.heap.size v w'/\Φ k w.heap.size w'.heap.size v w')
 |_=>False
def Js (S:Nat->Option Nat) (k:Nat) (F:Book):Prop:=∀j,S k=γ j->∃e,F j=γ e/\e.2.1<e.2.2
def p9 (P:Program) (ops:Array Oper) (w0:World) (E:Nat->Bool) (Φ Pd Po:Nat->Nat->Nat->Value->World->Prop) (S:Nat->Option Nat) (k:Nat) (K:Book->Act->Prop) (F:Book) (a:Act):Prop:=
 match ops[k]? with
 |Option.none=>K F a
 |some o=>
  if Region.wanted o (yielded ops a.tmps) then
   if E k then
    Js S k F/\(∀w,KnL ops w0 Φ Pd S k F w->qF P Φ Pd Po S k F w ((execOp a.eval o).run P w))/\
    (∀v lo hi,(∃w,dS w0 Φ (F.set k (v,lo,hi)) w)->K (F.set k (v,lo,hi)) (a.put o.dst v))
   else gD o.op=ε/\S k=Option.none/\∃v,(∀w,Ext w0 w->o.quietAt P a (fun w'=>w'=w) w v)/\K F (a.put o.dst v)
  else K F (a.put o.dst undef)
def rz (P:Program) (ops:Array Oper) (w0:World) (E:Nat->Bool) (Φ Pd Po:Nat->Nat->Nat->Value->World->Prop) (S:Nat->Option Nat) (Q:Book->Act->Prop):List Oper->Nat->Book->Act->Prop
 |[],_,F,a=>Q F a
 |_::rest,k,F,a=>p9 P ops w0 E Φ Pd Po S k (rz P ops w0 E Φ Pd Po S Q rest (k+1)) F a
theorem BG{k}{K I:Book->Act->Prop}{F a}(B:∃w,dS w0 Φ F w)(h:∀Q a',(Q=F\/∃e,Q=F.set k e)->(∃w,dS w0 Φ Q w)->K Q a'->I Q a')(N:p9 P ops w0 E Φ Pd Po S k K F a):p9 P ops w0 E Φ Pd Po S k I F a:=by
 unfold p9 at*
 split
 .rename_i l;simp only[l] at N;exact h _ _ (.inl rfl) B N
 .rename_i o l
  simp only[l] at N;split
  .rename_i j
   simp only[j,Ad] at N;split
   .rename_i Y
    simp only[Y,Ad] at N;exact⟨N.1,N.2.1,fun v lo hi C=>h _ _ (.inr ⟨_,rfl⟩) C (N.2.2 v lo hi C)⟩
   .rename_i Y
    simp only[Y] at N;obtain⟨hp,hs,v,G,D⟩:=N;exact⟨hp,hs,v,G,h _ _ (.inl rfl) B D⟩
  .rename_i j
   simp only[j] at N;exact h _ _ (.inl rfl) B N
theorem LC{k}{K I:Book->Act->Prop}{F a}(h:∀F a,K F a->I F a)(N:p9 P ops w0 E Φ Pd Po S k K F a):p9 P ops w0 E Φ Pd Po S k I F a:=by
 unfold p9 at*
 split
 .rename_i l;simp only[l] at N;exact h _ _ N
 .rename_i o l
  simp only[l] at N;split
  .rename_i j
   simp only[j,Ad] at N;split
   .rename_i Y
    simp only[Y,Ad] at N;exact⟨N.1,N.2.1,fun v lo hi D=>h _ _ (N.2.2 v lo hi D)⟩
   .rename_i Y
    simp only[Y] at N;obtain⟨hp,hs,v,C,B⟩:=N;exact⟨hp,hs,v,C,h _ _ B⟩
  .rename_i j
   simp only[j] at N;exact h _ _ N
def uB (P:Program) (ops:Array Oper) (w0:World) (E:Nat->Bool) (Φ Pd Po:Nat->Nat->Nat->Value->World->Prop) (S:Nat->Option Nat) (n:Nat) (L:Array Bool->Book->Act->Prop):Nat->Array Bool->Book->Act->Prop
 |0,listed,F,a=>L listed F a
 |f+1,listed,F,a=>Region.ready .any ops listed≠[]/\∀i∈Region.ready .any ops listed,i<n/\p9 P ops w0 E Φ Pd Po S i (uB P ops w0 E Φ Pd Po S n L f (listed.setIfInBounds i ε)) F a
def jM.put{F w w' k v}(H:Late ops w0 Φ Pd Po S)(I:S k=Option.none)(hF:F k=Option.none)(h:jM w0 Φ Pd Po S F w)(G:Ext w w')(hp:Pd k w.heap.size w'.heap.size v w')(hv:Φ k w.heap.size w'.heap.size v w'):
  jM w0 Φ Pd Po S (F.set k (v,w.heap.size,w'.heap.size)) w':=by
 have C {B j:Nat} (hs:S B=γ j):B≠k:=fun e=>by rw[e,I] at hs;cases hs
 refine⟨h.todS.put H.ft hF G hv,fun B j e hs U hn=> ?_,fun B j e x hs U hn=> ?_,fun B j hs l=> ?_⟩
 .rw[aeJ _ _ (C hs)] at hn;by_cases l:j=k
  .subst l;rw[aeL] at U;cases U;exact hp
  .rw[aeJ _ _ l] at U;exact H.pt _ _ _ _ _ _ (h.pend B j e hs U hn) G
 .rw[aeJ _ _ (C hs)] at hn;by_cases l:j=k
  .subst l;rw[h.dep B j hs hF] at hn;cases hn
  .rw[aeJ _ _ l] at U;exact H.qt _ _ _ _ _ _ (h.post B j e x hs U hn) G
 .rw[aeJ _ _ (C hs)];by_cases D:j=k
  .subst D;rw[aeL] at l;cases l
  .rw[aeJ _ _ D] at l;exact h.dep B j hs l
def jM.VV{F w w' k j}{e:Value×Nat×Nat}{v}(H:Late ops w0 Φ Pd Po S)(K:S k=γ j)(O:F j=γ e)(P:e.2.1<e.2.2)(hF:F k=Option.none)(h:jM w0 Φ Pd Po S F w)(N:Sto e.2.1 w w')(hp:Po j e.2.1 e.2.2 e.1 w')(hv:Φ k w.heap.size w'.heap.size v w'):
  jM w0 Φ Pd Po S (F.set k (v,w.heap.size,w'.heap.size)) w':=by
 have I {C G:Nat} (hs:S C=γ G):G≠k:=fun e=>by have:=H.sn _ _ hs;rw[e,K] at this;cases this
 have out {G:Nat} {f:Value×Nat×Nat} (B:G≠j) (D:F G=γ f):e.2.1<f.2.1\/f.2.2<=e.2.1:=by
  rcases h.disj G j f e B D O with Q|Q
  .exact .inr Q
  .exact .inl (π P Q)
 have R:=N.size;refine⟨⟨N.ext h.ext (h.low j e O),fun i f U=> ?_,fun i f U=> ?_,fun i f U=> ?_,fun i Y f T J U D=> ?_⟩,fun C G f hs U hn=> ?_,fun C G f x hs U hn=> ?_,fun C G hs M=> ?_⟩
 .by_cases hi:i=k
  .subst hi;rw[aeL] at U;cases U;exact hv
  .rw[aeJ _ _ hi] at U;exact H.fs _ _ _ _ _ _ _ (h.fact i f U) N
 .by_cases hi:i=k
  .subst hi;rw[aeL] at U;cases U;exact κ _
  .rw[aeJ _ _ hi] at U;rw[R];exact h.size i f U
 .by_cases hi:i=k
  .subst hi;rw[aeL] at U;cases U;exact h.ext.size
  .rw[aeJ _ _ hi] at U;exact h.low i f U
 .by_cases hi:i=k
  .subst hi;rw[aeL] at U;cases U;rw[aeJ _ _ (aaO J)] at D;exact .inr (h.size Y T D)
  .rw[aeJ _ _ hi] at U;by_cases M:Y=k
   .subst M;rw[aeL] at D;cases D;exact .inl (h.size i f U)
   .rw[aeJ _ _ M] at D;exact h.disj i Y f T J U D
 .have l:C≠k:=fun L=>by rw[L,aeL] at hn;cases hn
  rw[aeJ _ _ l] at hn;rw[aeJ _ _ (I hs)] at U;have B:G≠j:=fun L=>l (H.si _ _ _ hs (by rw[L];exact K));exact H.ps _ _ _ _ _ _ _ (h.pend C G f hs U hn) N (out B U)
 .rw[aeJ _ _ (I hs)] at U;by_cases l:C=k
  .subst l;rw[K] at hs;cases hs;rw[O] at U;cases U;exact hp
  .rw[aeJ _ _ l] at hn;have B:G≠j:=fun L=>l (H.si _ _ _ hs (by rw[L];exact K));exact H.qs _ _ _ _ _ _ _ (h.post C G f x hs U hn) N (out B U)
 .rw[aeJ _ _ (I hs)] at M;by_cases l:C=k
  .subst l;rw[K] at hs;cases hs;rw[O] at M;cases M
  .rw[aeJ _ _ l];exact h.dep C G hs M
def jM.on{F w w' k v}(H:Late ops w0 Φ Pd Po S)(hF:F k=Option.none)(h:jM w0 Φ Pd Po S F w)(l:Js S k F)(U:Dm Φ Pd Po S k F w v w'):
  jM w0 Φ Pd Po S (F.set k (v,w.heap.size,w'.heap.size)) w':=by
 obtain⟨G,D,I⟩:=U;cases hs:S k with
 |none=>exact h.put H hs hF (G hs).1 (G hs).2 I
 |some j=>
  obtain⟨e,C,B⟩:=l j hs;exact h.VV H hs C B hF (D j e hs C).1 (D j e hs C).2 I
def jM.kn{F w k}(h:jM w0 Φ Pd Po S F w)(hF:F k=Option.none):KnL ops w0 Φ Pd S k F w:=⟨h.ext,fun i e U _=>h.fact i e U,fun j e hs U=>h.pend k j e hs U hF⟩
theorem DF{k F a w}{K:Book->Act->Prop}{I:Act->World->Prop}{Q'}(H:Late ops w0 Φ Pd Po S)(hF:F k=Option.none)(D:jM w0 Φ Pd Po S F w)(h:∀Q a' w',jM w0 Φ Pd Po S Q w'->(∀j,j≠k->F j=Option.none->Q j=Option.none)->K Q a'->I a' w')(N:p9 P ops w0 E Φ Pd Po S k K F a):wpOp P ops Q' k I a w:=by
 unfold p9 at N;unfold wpOp;split
 .rename_i O;simp only[O] at N;exact h F _ _ D (fun _ _ h=>h) N
 .rename_i o O
  simp only[O] at N;split
  .rename_i l
   simp only[l,Ad] at N;refine .inl ?_;by_cases Y:E k=ε
   .simp only[Y,Ad] at N;obtain⟨R,M,G⟩:=N;have C:=M w (D.kn hF);unfold Oper.wp;generalize (execOp a.eval o).run P w=r at*
    cases r with
    |ok nx w'=>
     cases nx<;>simp only[Oper.upon]
     case value v=>
      have J:=D.on H hF R C;exact h _ _ _ J (fun j L hn=>by rw[aeJ _ _ L];exact hn) (G v _ _ ⟨w',J.todS⟩)
     case skip=>
      have J:=D.on H hF R C;exact h _ _ _ J (fun j L hn=>by rw[aeJ _ _ L];exact hn) (G undef _ _ ⟨w',J.todS⟩)
     case enter f args=>
      simp only[qF] at C;obtain⟨rfl,hs,hc⟩:=C;refine hc.mono fun e w'' ⟨v,U,T,hp,hv⟩=> ?_;subst U;have J:=D.put H hs hF T hp hv;exact h _ _ _ J (fun j L hn=>by rw[aeJ _ _ L];exact hn) (G v _ _ ⟨w'',J.todS⟩)
     all_goals simp only[qF] at C
    |halt x w'=>simp only[qF] at C
   .simp only[Y] at N;obtain⟨_,_,v,M,G⟩:=N;have C:=M w D.ext;unfold Oper.quietAt at C;unfold Oper.wp;generalize (execOp a.eval o).run P w=r at*
    cases r with
    |ok nx w'=>
     cases nx<;>simp only[Oper.quietUpon] at C<;>simp only[Oper.upon]
     case value u=>obtain⟨rfl,rfl⟩:=C;exact h F _ _ D (fun _ _ h=>h) G
     case skip=>obtain⟨rfl,rfl⟩:=C;exact h F _ _ D (fun _ _ h=>h) G
     case enter f args=>
      obtain⟨rfl,hc⟩:=C;exact hc.mono fun e w'' ⟨U,B⟩=>by subst U;subst B;exact h F _ _ D (fun _ _ h=>h) G
    |halt x w'=>simp only[Oper.quietUpon] at C
  .rename_i l
   simp only[l] at N;exact h F _ _ D (fun _ _ h=>h) N
def afw(H:Late ops w0 Φ Pd Po S){F w k i}{e:Value×Nat×Nat}(hF:F i=Option.none)(l:anc ops ops.size k i=ζ):KnL ops w0 Φ Pd S k (F.set i e) w↔KnL ops w0 Φ Pd S k F w:=by
 have M {j:Nat} (hs:S k=γ j):j≠i:=fun G=>by have:=H.sa _ _ hs;rw[G,l] at this;cases this
 constructor
 .exact fun h=>⟨h.1,fun x f C ha=>h.2.1 x f (ae9 hF x f C) ha,fun j f hs D=>h.2.2 j f hs (by rw[aeJ _ _ (M hs)];exact D)⟩
 .refine fun h=>⟨h.1,fun x f C ha=> ?_,fun j f hs D=>h.2.2 j f hs (by rw[aeJ _ _ (M hs)] at D;exact D)⟩;by_cases B:x=i
  .subst B;rw[l] at ha;cases ha
  .rw[aeJ _ _ B] at C;exact h.2.1 x f C ha
def afP(H:Late ops w0 Φ Pd Po S){F k i}{e:Value×Nat×Nat}(l:anc ops ops.size k i=ζ):Js S k (F.set i e)↔Js S k F:=by
 have M {j:Nat} (hs:S k=γ j):j≠i:=fun D=>by have:=H.sa _ _ hs;rw[D,l] at this;cases this
 constructor<;>intro h j hs<;>obtain⟨f,C,B⟩:=h j hs
 .rw[aeJ _ _ (M hs)] at C;exact⟨f,C,B⟩
 .exact⟨f,by rw[aeJ _ _ (M hs)];exact C,B⟩
def afN(H:Late ops w0 Φ Pd Po S){F w k i}{e:Value×Nat×Nat}{r:Result Next}(l:anc ops ops.size k i=ζ):qF P Φ Pd Po S k (F.set i e) w r↔qF P Φ Pd Po S k F w r:=by
 have M {j:Nat} (hs:S k=γ j):j≠i:=fun D=>by have:=H.sa _ _ hs;rw[D,l] at this;cases this
 cases r with
 |ok nx w'=>
  cases nx<;>simp only[qF,Dm]
  all_goals
   constructor<;>rintro⟨G,C,I⟩<;>refine⟨G,fun j f hs B=>C j f hs ?_,I⟩
   .rw[aeJ _ _ (M hs)];exact B
   .rw[aeJ _ _ (M hs)] at B;exact B
 |halt x w'=>simp only[qF]
def CU{F:Book}{i}{a:Act}{o}(H:Late ops w0 Φ Pd Po S)(hF:F i=Option.none)(D:∃w,dS w0 Φ F w)(C:∀w,KnL ops w0 Φ Pd S i F w->qF P Φ Pd Po S i F w ((execOp a.eval o).run P w)):∃v lo hi,∃w,dS w0 Φ (F.set i (v,lo,hi)) w:=by
 obtain⟨w,B⟩:=D;cases hs:S i with
 |some j=>exact⟨undef,w.heap.size,w.heap.size,w,B.put H.ft hF (Ext.refl w) (H.fz _ _ _ _ _ _ hs)⟩
 |none=>
  have l:=C w ⟨B.ext,fun x e U _=>B.fact x e U,fun j e h=>by rw[hs] at h;cases h⟩;generalize (execOp a.eval o).run P w=r at*
  cases r with
  |ok nx w'=>
   cases nx
   case value v=>
    simp only[qF,Dm] at l;exact⟨v,_,_,w',B.put H.ft hF (l.1 hs).1 l.2.2⟩
   case skip=>
    simp only[qF,Dm] at l;exact⟨undef,_,_,w',B.put H.ft hF (l.1 hs).1 l.2.2⟩
   case enter f args=>
    simp only[qF] at l;obtain⟨_,_,hc⟩:=l;obtain⟨e,w',I,⟨v,_,G,hp,hv⟩,_⟩:=hc [];exact⟨v,_,_,w',B.put H.ft hF G hv⟩
   all_goals simp only[qF] at l
  |halt x w'=>simp only[qF] at l
theorem LU{i j l I}{K:Book->Act->Prop}{F a}(H:Late ops w0 Φ Pd Po S)(hi:ops[i]? =γ l)(hj:ops[j]? =γ I)(Wm:i≠j)(Y:l.apart ops I=ε)(Z:∀cs b,l.op≠ .select cs b)(Wj:∀cs b,I.op≠ .select cs b)(U:F i=Option.none)(V:F j=Option.none)(a1:anc ops ops.size i j=ζ)(a2:anc ops ops.size j i=ζ)(hr:∃w,dS w0 Φ F w)(h:p9 P ops w0 E Φ Pd Po S i (p9 P ops w0 E Φ Pd Po S j K) F a):
  p9 P ops w0 E Φ Pd Po S j (p9 P ops w0 E Φ Pd Po S i K) F a:=by
 obtain⟨p1,p2,p3⟩:=Oper.apart_spec Y;have x1:∀(a:Act) v,execOp (a.put l.dst v).eval I=execOp a.eval I:=fun a v=>adk I Wj a l.dst v p1;have x2:∀(a:Act) v,execOp (a.put I.dst v).eval l=execOp a.eval l:=fun a v=>adk l Z a I.dst v p3;have y1:∀(a:Act) v,Region.wanted I (yielded ops (a.put l.dst v).tmps)=Region.wanted I (yielded ops a.tmps):=fun a v=>adl I a l.dst v p1;have y2:∀(a:Act) v,Region.wanted l (yielded ops (a.put I.dst v).tmps)=Region.wanted l (yielded ops a.tmps):=fun a v=>adl l a I.dst v p3;have z:∀(a:Act) v u,(a.put I.dst u).put l.dst v=(a.put l.dst v).put I.dst u:=fun a v u=>(Act.put_comm a v u p2).symm;have q1:∀(a:Act) v w u,I.quietAt P (a.put l.dst v) (fun w'=>w'=w) w u↔I.quietAt P a (fun w'=>w'=w) w u:=fun a v w u=>by unfold Oper.quietAt;rw[x1]
 have q2:∀(a:Act) v w u,l.quietAt P (a.put I.dst v) (fun w'=>w'=w) w u↔l.quietAt P a (fun w'=>w'=w) w u:=fun a v w u=>by unfold Oper.quietAt;rw[x2]
 unfold p9 at h⊢;simp only[hi,hj] at h⊢;simp only[y1,x1,q1] at h;simp only[y2,x2,q2,z];by_cases wi:Region.wanted l (yielded ops a.tmps)=ε
 .simp only[wi,Ad] at h⊢;by_cases Ei:E i=ε
  .simp only[Ei,Ad] at h⊢;obtain⟨h0,h1,h2⟩:=h;obtain⟨v0,R,Q,T⟩:=CU H U hr h1;by_cases wj:Region.wanted I (yielded ops a.tmps)=ε
   .simp only[wj,Ad] at h2⊢;by_cases C:E j=ε
    .simp only[C,Ad] at h2⊢;refine⟨(afP H a2).1 (h2 v0 R Q T).1,fun w hw=>(afN H a2).1 ((h2 v0 R Q T).2.1 w ((afw H U a2).2 hw)),fun u lo hi B=>⟨(afP H a1).2 h0,fun w hw=>(afN H a1).2 (h1 w ((afw H V a1).1 hw)),fun v G Wp L=> ?_⟩⟩;obtain⟨w,hw⟩:=L;have Xg:dS w0 Φ (F.set i (v,G,Wp)) w:=hw.sub (afo (ae9 V));rw[afp _ (aaO Wm)] at hw⊢;exact(h2 v G Wp ⟨w,Xg⟩).2.2 u lo hi ⟨w,hw⟩
    .simp only[C] at h2⊢;obtain⟨hp,D,u,N,_⟩:=h2 v0 R Q T;refine⟨hp,D,u,N,h0,h1,fun v lo hi L=> ?_⟩;obtain⟨_,_,u',O,J⟩:=h2 v lo hi L;obtain⟨w,hw⟩:=hr;rw[wV hp (N w hw.ext) (O w hw.ext)];exact J
   .simp only[wj] at h2⊢;exact⟨h0,h1,fun v lo hi L=>h2 v lo hi L⟩
  .simp only[Ei] at h⊢;obtain⟨hp,D,v,hv,h2⟩:=h;by_cases wj:Region.wanted I (yielded ops a.tmps)=ε
   .simp only[wj,Ad] at h2⊢;by_cases C:E j=ε
    .simp only[C,Ad] at h2⊢;exact⟨h2.1,h2.2.1,fun u lo hi B=>⟨hp,D,v,hv,h2.2.2 u lo hi B⟩⟩
    .simp only[C] at h2⊢;obtain⟨M,W,u,N,J⟩:=h2;exact⟨M,W,u,N,hp,D,v,hv,J⟩
   .simp only[wj] at h2⊢;exact⟨hp,D,v,hv,h2⟩
 .simp only[wi] at h⊢;by_cases wj:Region.wanted I (yielded ops a.tmps)=ε
  .simp only[wj,Ad] at h⊢;by_cases C:E j=ε
   .simp only[C,Ad] at h⊢;exact⟨h.1,h.2.1,fun u lo hi B=>h.2.2 u lo hi B⟩
   .simp only[C] at h⊢;obtain⟨M,W,u,N,J⟩:=h;exact⟨M,W,u,N,J⟩
  .simp only[wj] at h⊢;exact h
def sw{n g}{L:Array Bool->Book->Act->Prop}{Q'}(H:Late ops w0 Φ Pd Po S)(I:∀B F a w,jM w0 Φ Pd Po S F w->L B F a->wpAny P .any ops Q' g B a w):
  ∀(f:Nat) (B:Array Bool) (F:Book) (a:Act) (w:World),jM w0 Φ Pd Po S F w->(∀j,B.getD j ε=ζ->F j=Option.none)->uB P ops w0 E Φ Pd Po S n L f B F a->wpAny P .any ops Q' (f+g) B a w
 |0,B,F,a,w,hw,_,h=>by rw[aaw];exact I _ _ _ _ hw h
 |f+1,B,F,a,w,hw,hF,h=>by
  rw[show f+1+g=(f+g)+1 by omega];refine⟨fun J=>absurd J h.1,fun i hi=> ?_⟩;have N:=(aaY.1 hi).1;refine DF H (hF i N) hw (fun Q a' w' R C G=>sw H I f _ Q a' w' R (fun j D=> ?_) G) (h.2 i hi).2;by_cases M:j=i
  .subst M;exfalso;have l:j<B.size:=by
    exact Abn
   simp[l] at D
  .rw[abS ε (aaO M)] at D;exact C j M (hF j D)
theorem BQ{n i l}{L:Array Bool->Book->Act->Prop}(HL:Late ops w0 Φ Pd Po S)(hi:ops[i]? =γ l)(C:∀(j:Nat) (o:Oper) cs b,ops[j]? =γ o->o.op≠ .select cs b)(hs:Region.sinkB .any ops n=ε)(hc:Region.chainB .any ops n=ε)(hn:n<ops.size)(K:i<n)(Z:∀B F a,L B F a->∀j∈Region.ready .any ops B,n<=j):
  ∀(f:Nat) (B:Array Bool) (F:Book) (a:Act),HeadInv .any ops n B->(∀j,B.getD j ε=ζ->F j=Option.none)->(∃w,dS w0 Φ F w)->
   (∀j I,ops[j]? =γ I->j≠i->B.getD j ε=ζ->(∀e∈I.after,Region.binds .any e=ε->e.on≠i)->l.apart ops I=ε)->
   i∈Region.ready .any ops B->p9 P ops w0 E Φ Pd Po S i (uB P ops w0 E Φ Pd Po S n L f (B.setIfInBounds i ε)) F a->uB P ops w0 E Φ Pd Po S n L (f+1) B F a:=by
 intro f
 induction f with
 |zero=>
  intro B F a inv hF T _ hr H;have N:=(aaY.1 hr).1;refine⟨fun h=>Ac6,fun j hj=> ?_⟩;have O:j<n:=by
   exact Aaz
  refine⟨O,?_⟩;by_cases M:j=i
  .subst M;exact H
  .exfalso;have V:∀Q a',uB P ops w0 E Φ Pd Po S n L 0 (B.setIfInBounds i ε) Q a'->False:=fun Q a' h=>by
    have:=Z _ _ _ h j (abq hj M);omega
   unfold p9 at H;simp only[hi] at H;split at H
   .split at H
    .obtain⟨v,lo,Wp,Wt⟩:=CU HL (hF i N) T H.2.1;exact V _ _ (H.2.2 v lo Wp Wt)
    .obtain⟨_,_,v,_,h2⟩:=H;exact V _ _ h2
   .exact V _ _ H
 |succ f ih=>
  intro B F a inv hF T Y hr H;have N:=(aaY.1 hr).1;refine⟨fun h=>Ac6,fun j hj=> ?_⟩;have O:j<n:=by
   exact Aaz
  refine⟨O,?_⟩;by_cases M:j=i
  .subst M;exact H
  .obtain⟨R,I,Wn,J⟩:=aaY.1 hj;have Wu:∀e∈I.after,Region.binds .any e=ε->e.on≠i:=fun e U hb Wo=>by
    exact AcP
   have H1:=LC (fun Q a' h=>(h.2 j (abq hj M)).2) H;have H2:=LU HL hi Wn (aaO M) (Y j I Wn M R Wu) (fun cs b=>C i l cs b hi) (fun cs b=>C j I cs b Wn) (hF i N) (hF j R) (uj inv hr R) (uj inv hj N) T H1;have D:∀k ok,ops[k]? =γ ok->k≠i->(B.setIfInBounds j ε).getD k ε=ζ->
     (∀e∈ok.after,Region.binds .any e=ε->e.on≠i)->l.apart ops ok=ε:=fun k ok hk Wv Wq Wm=>by
    exact Acr
   refine BG T (fun Q a' Ws W h3=>ih (B.setIfInBounds j ε) Q a' (inv.set hj O) (fun x hx=> ?_) W D (abq hr (aaO M)) ?_) H2
   .exact AbJ
   .rw[ab2 _ _ M];exact h3
def yc{n g}{K:Book->Act->Prop}(H:Late ops w0 Φ Pd Po S)(C:Region.noSelect ops=ε)(hs:Region.sinkB .any ops n=ε)(hc:Region.chainB .any ops n=ε)(hn:n<ops.size):
  ∀(l:List Oper) (k:Nat) (B:Array Bool) (F:Book) (a:Act),(∀j,j<l.length->l[j]? =ops[k+j]?)->k+l.length=n->HeadInv .any ops n B->(∀j,B.getD j ε=ζ->F j=Option.none)->(∃w,dS w0 Φ F w)->
  Region.lexHead .any ops g l.length k B=ε->rz P ops w0 E Φ Pd Po S K l k F a->
  uB P ops w0 E Φ Pd Po S n (fun I Q a'=>Region.seqB .any ops g n I=ε/\K Q a') l.length B F a
 |[],k,B,F,a,_,hk,_,_,_,hB,h=>by
  exact Ab9
 |o::l,k,B,F,a,hl,hk,inv,hF,hr0,hB,h=>by
  have U:ops[k]? =γ o:=by simpa using(hl 0 ag).symm
  simp only[nC,Region.lexHead,υ] at hB;obtain⟨⟨Z,Y⟩,J⟩:=hB;have M:k<n:=by simp only[nC] at hk;omega
  have W:k∈Region.ready .any ops B:=by simpa using Z
  have N:=(aaY.1 W).1;refine BQ H U (aau C) hs hc hn M (fun I Q a' V=>abK V.1) l.length B F a inv hF hr0 (aaT U Y) W ?_;refine BG hr0 (fun Q a' T L G=>yc H C hs hc hn l (k+1) _ Q a' (fun j hj=>by have:=hl (j+1) ae;simpa[abO,aa6 1 j] using this) (by simp only[nC] at hk;omega) (inv.set W M) (fun x O=> ?_) L J G) h;have D:x≠k:=by
   exact Aa1
  rw[abS ε (aaO D)] at O;rcases T with rfl|⟨e,rfl⟩
  .exact hF x O
  .rw[aeJ _ _ D];exact hF x O
end
def tJ{P:Program}{L Q a w}{l:List Oper}(n E Φ Pd Po)(S:Nat->Option Nat)(H:Late l.toArray w Φ Pd Po S)(hm:P.follows .mixedOrders=ε)(O:Region.lexTailB .any l.toArray n=ε)(h:rz P l.toArray w E Φ Pd Po S (fun F a'=>∀w',jM w Φ Pd Po S F w'->wpList P l.toArray Q (l.drop n) a' w') (l.take n) 0 Book.none a):(Code.region L l.toArray ε).wp P Q a w:=by
 simp only[Region.lexTailB,υ,Θ] at O;obtain⟨⟨⟨⟨C,hn⟩,hs⟩,hc⟩,M⟩:=O;have Wq:n<l.length:=by simpa using hn
 have K:(l.take n).length=n:=ae;have J:(l.drop n).length=l.toArray.size-n:=ag;have G:HeadInv .any l.toArray n (Array.replicate l.toArray.size ζ):=
  ⟨ag,fun j I _ Z=>AaJ,fun t _ Y=>ade (by simpa using Y) (aaK _ _)⟩
 have D:dS w Φ Book.none {w with drawn:=w.drawn+1}:=⟨(Ext.refl w).drew,fun _ _ h=>Ab2,fun _ _ h=>Ab2,fun _ _ h=>Ab2,fun _ _ _ _ _ h=>Ab2⟩;have N:jM w Φ Pd Po S Book.none {w with drawn:=w.drawn+1}:=⟨D,fun _ _ _ _ h=>Ab2,fun _ _ _ _ _ h=>Ab2,fun _ _ _ _=>rfl⟩;have H1:=yc (P:=P) (E:=E) (g:=l.toArray.size-n) H C hs hc hn (l.take n) 0 _ Book.none a (fun j W=>by
  have T:j<n:=by rw[K] at W;exact W
  simp[T]) (by simpa using K) G (fun _ _=>rfl) ⟨_,D⟩ (by rw[K];exact M) h
 refine acC hm ?_;have U:=sw (P:=P) (n:=n) (g:=l.toArray.size-n) (Q':=Q) H (fun B F a' w' R V=>by
  have:=ab3 (P:=P) (ops:=l.toArray) (md:=.any) (Q':=Q) (l.drop n) n B a' w' (fun j=>ag) (by rw[J];exact V.1) (V.2 w' R);rwa[J] at this) _ _ _ _ _ N (fun _ _=>rfl) H1
 exact Acv
section
variable {P:Program} {ops:Array Oper} {w0:World} {E:Nat->Bool} {Φ Pd Po:Nat->Nat->Nat->Value->World->Prop} {S:Nat->Option Nat} {Q:Book->Act->Prop}
theorem F5(m){l k F a}(B:∀j,j<m->l[j]? =ops[k+j]?)(Y:(List.range m).all (fun j=>(!E (k+j)&&(S (k+j)).isNone)&&((ops[k+j]?).map fun o=>gD o.op).getD ζ)=ε)(h:wpQuiet P ops (fun w'=>∃x:aK w0,w'=x.val) (fun a'=>rz P ops w0 E Φ Pd Po S Q (l.drop m) (k+m) F a') (l.take m) a):rz P ops w0 E Φ Pd Po S Q l k F a:=by
 induction m generalizing l k a with
 |zero=>simpa[wpQuiet] using h
 |succ m ih=>
  cases l with
  |nil=>simp[wpQuiet] at h;simpa[rz] using h
  |cons o r=>
   have M:ops[k]? =γ o:=by simpa using(B 0 aa).symm
   have J:=wo.1 Y;have H:=J 0 ag;simp only[Nq,M,Option.map_some,Option.getD_some,υ,acK,Option.isNone_iff_eq_none] at H;have G:(List.range m).all (fun j=>(!E (k+1+j)&&(S (k+1+j)).isNone)&&((ops[k+1+j]?).map fun o=>gD o.op).getD ζ)=ε:=by
    exact Aa6
   have D:=fun a'=>ih (l:=r) (k:=k+1) (a:=a') (fun j U=>by have:=B (j+1) aa;simpa[abO,aa6 1 j] using this) G;simp only[aao,ρ,wpQuiet] at h;have K:k+(m+1)=k+1+m:=aa;rw[K] at h;unfold rz p9;simp only[M];by_cases N:Region.wanted o (yielded ops a.tmps)=ε
   .simp only[N,Ad] at h⊢;simp only[H.1.1,Y0,abv];obtain⟨v,R,O⟩:=h;refine⟨H.2,H.1.2,v,fun w L=> ?_,D _ O⟩;have I:=R w ⟨⟨w,L⟩,rfl⟩;unfold Oper.quietAt at*
    generalize T:(execOp a.eval o).run P w=C at*
    cases C with
    |ok nx w'=>
     cases nx<;>simp only[Oper.quietUpon] at I⊢
     case value u=>exact I
     case skip=>exact I
     case enter f args=>exact(jP H.2 T).elim
    |halt x w'=>simp only[Oper.quietUpon] at I
   .simp only[N] at h⊢;exact D _ h
def lK(m){l k F a}(B:l.take m=(ops.toList.drop k).take m)(Y:(List.range m).all (fun j=>(!E (k+j)&&(S (k+j)).isNone)&&((ops[k+j]?).map fun o=>gD o.op).getD ζ)=ε)(h:wpQuiet P ops (fun w'=>∃x:aK w0,w'=x.val) (fun a'=>rz P ops w0 E Φ Pd Po S Q (l.drop m) (k+m) F a') (l.take m) a):rz P ops w0 E Φ Pd Po S Q l k F a:=
 F5 m (fun j C=>by
  have D:(l.take m)[j]? =((ops.toList.drop k).take m)[j]? :=by rw[B]
  rw[Zb C,Zb C,aaf] at D;simpa using D) Y h
theorem jL{l o k F a}(G:ops[k]? =γ o)(I:Region.wanted o (yielded ops a.tmps)=ε)(Y:E k=ε)(hS:S k=Option.none)(H:∀w,Ext w0 w->(∀i e,F i=γ e->anc ops ops.size k i=ε->Φ i e.2.1 e.2.2 e.1 w)->lX P (fun lo hi v w'=>Pd k lo hi v w'/\Φ k lo hi v w') w ((execOp a.eval o).run P w))(D:∀v lo hi,(∃w,dS w0 Φ (F.set k (v,lo,hi)) w)->rz P ops w0 E Φ Pd Po S Q l (k+1) (F.set k (v,lo,hi)) (a.put o.dst v)):rz P ops w0 E Φ Pd Po S Q (o::l) k F a:=by
 unfold rz p9;simp only[G,I,Y,Ad];refine⟨fun j C=>(by rw[hS] at C;cases C),fun w J=> ?_,D⟩;have B:=H w J.1 J.2.1;generalize (execOp a.eval o).run P w=r at*
 cases r with
 |ok nx w'=>
  cases nx<;>simp only[lX,qF,Dm] at B⊢
  case value v=>exact⟨fun _=>⟨B.1,B.2.1⟩,fun j e C=>(by rw[hS] at C;cases C),B.2.2⟩
  case enter f args=>exact⟨B.1,hS,B.2⟩
 |halt x w'=>simp only[lX] at B
theorem Gt{l o k j F a}{e:Value×Nat×Nat}(G:ops[k]? =γ o)(K:Region.wanted o (yielded ops a.tmps)=ε)(Y:E k=ε)(hS:S k=γ j)(hF:F j=γ e)(C:e.2.1<e.2.2)(hd:o.dst=δ)(I:∀lo hi v w',Φ k lo hi v w')(H:∀w,Pd j e.2.1 e.2.2 e.1 w->∃w',(execOp a.eval o).run P w=.ok .skip w'/\Sto e.2.1 w w'/\Po j e.2.1 e.2.2 e.1 w')(D:∀x,rz P ops w0 E Φ Pd Po S Q l (k+1) (F.set k x) a):rz P ops w0 E Φ Pd Po S Q (o::l) k F a:=by
 unfold rz p9;simp only[G,K,Y,Ad];refine⟨fun L B=>(by rw[hS] at B;cases B;exact⟨e,hF,C⟩),fun w J=> ?_,fun v lo hi _=>(by rw[hd];exact D (v,lo,hi))⟩;obtain⟨w',M,hs,hp⟩:=H w (J.2.2 j e hS hF);exact AaY
def FH{k F a}(h:Q F a):rz P ops w0 E Φ Pd Po S Q [] k F a:=h
end
def PdG (al:List Nat):Nat->Nat->Nat->Value->World->Prop:=fun i lo hi _ w=>al.contains i=ε->lo<hi/\Blk w lo 42 #[.bool ζ,.slice δ 0 0,.bool ζ,.slice δ 0 0,.bool ζ,.slice δ 0 0]
def PoG (cs:Nat->En):Nat->Nat->Nat->Value->World->Prop:=fun i lo hi _ w=>lo<hi/\Blk w lo 42 #[.bool (cs i).s1,.slice (cs i).A1 (cs i).n1 (cs i).c1,.bool (cs i).s2,.slice (cs i).A2 (cs i).n2 (cs i).c2,.bool (cs i).s3,.slice (cs i).A3 (cs i).n3 (cs i).c3]
def SG:List (Nat×Nat)->Nat->Option Nat
 |[],_=>Option.none
 |p::r,k=>if p.1=k then γ p.2 else SG r k
theorem AB:∀{l:List (Nat×Nat)} {k j:Nat},SG l k=γ j->(k,j)∈l
 |[],_,_,h=>by cases h
 |p::r,k,j,h=>by
  unfold SG at h;split at h
  .rename_i e
   cases h
   subst e;exact q9
  .exact ib _ (AB h)
def Kt:List (Nat×NF)->Bool
 |[]=>ε
 |p::r=>(match p.2 with| .box _ _=>ζ|_=>ε)&&Kt r
theorem Ag:∀{l:List (Nat×NF)},Kt l=ε->∀i,(match zG l i with| .box _ _=>ζ|_=>ε)=ε
 |[],_,_=>rfl
 |p::r,h,i=>by
  unfold Kt at h;rw[υ] at h;unfold zG;cases Nat.beq p.1 i with
  |true=>exact h.1
  |false=>exact Ag h.2 i
def Vn (ops:Array Oper) (nf:List (Nat×NF)) (l:List (Nat×Nat)):Bool:=
 l.all fun p=>anc ops ops.size p.1 p.2&&l.all (fun q=>(p.1==q.1)|| !(p.2==q.2))&&l.all (fun q=> !(p.2==q.1))&& !(E8 nf p.1)
theorem Ak:∀{l:List (Nat×NF)} {i:Nat},E8 l i=ζ->zG l i=.any
 |[],_,_=>rfl
 |p::r,i,h=>by
  unfold E8 at h;rw[Bool.or_eq_false_iff] at h;unfold zG;rw[h.1];exact Ak h.2
theorem af9{ops w0}(nf l al cs)(F:Kt nf=ε)(C:Vn ops nf l=ε):Late ops w0 (NFs nf) (PdG al) (PoG cs) (SG l):=by
 have Z:∀k j,SG l k=γ j->(anc ops ops.size k j=ε/\(∀q∈l,k=q.1\/j≠q.2))/\(∀q∈l,j≠q.1)/\E8 nf k=ζ:=fun k j hs=>by
  have:=wo.1 C _ (AB hs);simp only[υ,wo,acj,beq_iff_eq,acK,beq_eq_false_iff_ne] at this;exact⟨⟨this.1.1.1,this.1.1.2⟩,this.1.2,this.2⟩
 refine⟨fun i lo hi v w w' h x=>afL _ h x,fun i lo hi v g w w' h x=> ?_,fun i lo hi v w w' h x hc=>⟨(h hc).1,(h hc).2.ext x⟩,fun i lo hi v g w w' h x G hc=>⟨(h hc).1,x.blk (h hc).2 (show lo≠g by have:=(h hc).1;omega)⟩,fun i lo hi v w w' h x=>⟨h.1,h.2.ext x⟩,fun i lo hi v g w w' h x G=>⟨h.1,x.blk h.2 (show lo≠g by have:=h.1;omega)⟩,fun k j hs=>(Z k j hs).1.1,fun k J j hs B=> ?_,fun k j hs=> ?_,fun k j lo hi v w hs=> ?_⟩
 .have hb:=Ag F i;unfold NFs at h⊢;cases hn:zG nf i with
  |any=>trivial
  |gv q n=>rw[hn] at h;obtain⟨e,H,D⟩:=h;exact⟨e,H,x.gv D⟩
  |box t cs=>rw[hn] at hb;cases hb
  |eq u=>rw[hn] at h;exact h
  |pt=>rw[hn] at h;exact h
 .rcases(Z k j hs).1.2 _ (AB B) with e|e
  .exact e
  .exact absurd rfl e
 .cases I:SG l j with
  |none=>rfl
  |some m=>exact absurd rfl ((Z k j hs).2.1 _ (AB I))
 .unfold NFs;rw[Ak (Z k j hs).2.2];trivial
def vk(g):∀(B:List Value) (i:Nat) (w:World) (k:Nat),k≠g->(puts w g i B).heap[k]? =w.heap[k]?
 |[],_,_,_,_=>rfl
 |v::r,i,w,k,hne=>(vk g r (i+1) (w.setCell ⟨g,i,δ⟩ v) k hne).trans (ab1 w ⟨g,i,δ⟩ v k (fun e=>hne (by rw[e])))
def xR(g):∀(B:List Value) (i:Nat) (w:World),(puts w g i B).heap.size=w.heap.size
 |[],_,_=>rfl
 |v::r,i,w=>(xR g r (i+1) (w.setCell ⟨g,i,δ⟩ v)).trans Aa9
def UR{ev:Operand->Value}{o:Oper}{x y:Operand}{g w}(e:En)(B:o.op=.store 42 x y)(F:ev x=.pointer (γ ⟨g,0,δ⟩))(C:ev y=e.v)(hb:Blk w g 42 #[.bool ζ,.slice δ 0 0,.bool ζ,.slice δ 0 0,.bool ζ,.slice δ 0 0]):∃w',(execOp ev o).run prog w=.ok .skip w'/\Sto g w w'/\Blk w' g 42 #[.bool e.s1,.slice e.A1 e.n1 e.c1,.bool e.s2,.slice e.A2 e.n2 e.c2,.bool e.s3,.slice e.A3 e.n3 e.c3]:=by
 have D:=run_storeAt_mid (P:=prog) w g 0 42 e.cells.toArray (hb.there (o:=0) (n:=6) ag) bE (acu (dM e));have W:(Instr.storeAt 42 (.pointer (γ ⟨g,0,δ⟩)) e.v).run prog w=.ok () (w.setCells g 0 e.cells):=D;refine⟨w.setCells g 0 e.cells,?_,?_,?_⟩
 .exact Abi
 .rw[jq];have T:=fD w g 0 e.cells;have hn:kD #[.bool ζ,.slice δ 0 0,.bool ζ,.slice δ 0 0,.bool ζ,.slice δ 0 0]=ε:=rfl;exact⟨T.os,T.tape,T.output,xR g _ _ _,fun i j=>vk g _ _ _ i j,⟨_,_,hb,hn⟩⟩
 .rw[jq];have l:Blk (puts w g 0 e.cells) g 42 (fI #[.bool ζ,.slice δ 0 0,.bool ζ,.slice δ 0 0,.bool ζ,.slice δ 0 0] 0 e.cells):=bR 0 e.cells hb;exact l
def Pm{ev:Operand->Value}{o}{x y:Operand}{j lo hi v w cs}(B:o.op=.store 42 x y)(H:ev x=.pointer (γ ⟨lo,0,δ⟩))(C:ev y=(cs j).v)(l:lo<hi/\Blk w lo 42 #[.bool ζ,.slice δ 0 0,.bool ζ,.slice δ 0 0,.bool ζ,.slice δ 0 0]):∃w',(execOp ev o).run prog w=.ok .skip w'/\Sto lo w w'/\PoG cs j lo hi v w':=by
 obtain⟨w',F,D,G⟩:=UR (cs j) B H C l.2;exact⟨w',F,D,l.1,G⟩
section
variable {W W':World} {G m n:Nat} {P:Nat->Prop} {R:Nat->Rw} {X:Nat->Nat->GQ}
def MxI.hd(h:MxI W G m n P R X){i}(hi:i<m)(hn:0<n):W.cell? ⟨G,i,δ⟩=γ (.slice (γ ⟨(R i).b,0,δ⟩) n n):=by
 rw[h.o.cell,iE hi,h.v hi hn]
def MxI.rb(h:MxI W G m n P R X){i}(hi:i<m)(hn:0<n):(R i).b<W.heap.size:=by
 obtain⟨f,hb,_⟩:=(h.row i hi hn).2;exact hb.lt
def MxI.put(h:MxI W G m n P R X){i j}(hi:i<m)(D:j<n){e:En}{q}(U:GV W e.v q 12800):
  MxI (puts W (R i).b (j*6) e.cells) G m n P R (upd X i (upd (X i) j q))/\Mod (fun k=>k=(R i).b) W (puts W (R i).b (j*6) e.cells)/\Far (fun k=>k=(R i).b) W/\W.there (R i).b (j*6) 6:=by
 have hn:0<n:=aa;obtain⟨f,hb,F⟩:=(h.row i hi hn).2;have hp:=dD.put hb F D U;have B:=(h.row i hi hn).2.far;refine⟨h.SB hp.2 B (fun e=> ?_) (fun k C l _ e=>l (h.inj k i C hi hn e)) (fun _=>hp.1),hp.2,B,hb.there (by simp[aW];omega)⟩;exact h.o.eF hb aj e
end
structure BrV where
 a:Nat
 b:Nat
 z0:En
 z1:En
 e:En
def BrV.z (b:BrV) (sq:Nat):En:=if sq=0 then b.z0 else b.z1
def BrV.cs (b:BrV):List Value:=[.int .i64 (b.a:Int),.int .i64 (b.b:Int),.bool b.z0.s1,.slice b.z0.A1 b.z0.n1 b.z0.c1,.bool b.z0.s2,.slice b.z0.A2 b.z0.n2 b.z0.c2,.bool b.z0.s3,.slice b.z0.A3 b.z0.n3 b.z0.c3,.bool b.z1.s1,.slice b.z1.A1 b.z1.n1 b.z1.c1,.bool b.z1.s2,.slice b.z1.A2 b.z1.n2 b.z1.c2,.bool b.z1.s3,.slice b.z1.A3 b.z1.n3 b.z1.c3,.bool b.e.s1,.slice b.e.A1 b.e.n1 b.e.c1,.bool b.e.s2,.slice b.e.A2 b.e.n2 b.e.c2,.bool b.e.s3,.slice b.e.A3 b.e.n3 b.e.c3]
theorem BrV.zat(b:BrV){sq}(h:sq<=1){t v}(hv:(b.z sq).cells[t]? =γ v):b.cs[2+sq*6+t]? =γ v:=by
 have j:t<6:=(μ.1 hv).1;have l:sq=0\/sq=1:=aa;rcases l with rfl|rfl
 .unfold BrV.z at hv;rw[ι rfl] at hv
  match t,j with
  |0,_=>exact hv
  |1,_=>exact hv
  |2,_=>exact hv
  |3,_=>exact hv
  |4,_=>exact hv
  |5,_=>exact hv
 .unfold BrV.z at hv;rw[θ aa] at hv
  match t,j with
  |0,_=>exact hv
  |1,_=>exact hv
  |2,_=>exact hv
  |3,_=>exact hv
  |4,_=>exact hv
  |5,_=>exact hv
structure StI (w W:World) (gf Ga Gb n:Nat) (Pa Pb:Nat->Prop) (Ra Rb:Nat->Rw) (X Y:Nat->Nat->GQ) (gy q1 q2:Nat) (ey:En) (y:GQ) (Ny:Nat) (em:GQ) (Ne:Nat) (rwf:Nat->Nat) (bv:BrV):Prop where
 a:MxI W Ga n n Pa Ra X
 b:MxI W Gb n 1 Pb Rb Y
 c:bM W gf
 y:GV W ey.v y Ny
 by_:Blk W gy 42 #[.bool ey.s1,.slice ey.A1 ey.n1 ey.c1,.bool ey.s2,.slice ey.A2 ey.n2 ey.c2,.bool ey.s3,.slice ey.A3 ey.n3 ey.c3]
 r1:fA W q1 222 18 (fun k=> .int .i64 (rwf k:Int))
 r2:Blk W q2 167 bv.cs.toArray
 em:GV W bv.e.v em Ne
 mod:Mod (fun k=>Pa k\/Pb k) w W
 hp:∀k,Pa k\/Pb k->k≠gf/\k≠Ga/\k≠Gb
 dj:∀k,Pa k->¬Pb k
 la:∀i,i<n->(Ra i).b<w.heap.size
 lb:∀i,i<n->(Rb i).b<w.heap.size
 lg:w.heap.size<=gy/\w.heap.size<=q1/\w.heap.size<=q2
section
variable {w W W':World} {gf Ga Gb n:Nat} {Pa Pb:Nat->Prop} {Ra Rb:Nat->Rw} {X Y:Nat->Nat->GQ} {gy q1 q2:Nat} {ey:En} {y:GQ} {Ny:Nat} {em:GQ} {Ne:Nat} {rwf:Nat->Nat} {b:BrV}
def StI.ext(h:StI w W gf Ga Gb n Pa Pb Ra Rb X Y gy q1 q2 ey y Ny em Ne rwf b)(x:Ext W W'):StI w W' gf Ga Gb n Pa Pb Ra Rb X Y gy q1 q2 ey y Ny em Ne rwf b:=
 ⟨h.a.ext x,h.b.ext x,h.c.ext x,h.y.ext x,h.by_.ext x,h.r1.ext x,h.r2.ext x,h.em.ext x,h.mod.trans (aeI x),h.hp,h.dj,h.la,h.lb,h.lg⟩
def StI.RQ(h:StI w W gf Ga Gb n Pa Pb Ra Rb X Y gy q1 q2 ey y Ny em Ne rwf b){i j}(hi:i<n)(H:j<n){e:En}{q}(U:GV W e.v q 12800):
  StI w (puts W (Ra i).b (j*6) e.cells) gf Ga Gb n Pa Pb Ra Rb (upd X i (upd (X i) j q)) Y gy q1 q2 ey y Ny em Ne rwf b/\W.there (Ra i).b (j*6) 6:=by
 obtain⟨J,l,G,I⟩:=h.a.put hi H U;have C:=h.a.mem i hi aa;have Z:=h.la i hi;have F:=h.lg;have B (k:Nat) (K:w.heap.size<=k):¬(fun k=>k=(Ra i).b) k:=fun e=>by have e:k=(Ra i).b:=e;omega
 have D:=h.hp _ (Or.inl C);refine⟨⟨J,h.b.mod l G (fun e=>D.2.2 e.symm) (fun j H _ e=>h.dj _ C (by have e:(Rb j).b=(Ra i).b:=e;rw[<-e];exact h.b.mem j H aa)),Blk.mod h.c l (fun e=>D.1 e.symm),h.y.mod l G,h.by_.mod l (B _ F.1),h.r1.mod l (B _ F.2.1),h.r2.mod l (B _ F.2.2),h.em.mod l G,h.mod.trans (l.mono (fun k e=>by rw[show k=(Ra i).b from e];exact Or.inl C)),h.hp,h.dj,h.la,h.lb,h.lg⟩,I⟩
def StI.VS(h:StI w W gf Ga Gb n Pa Pb Ra Rb X Y gy q1 q2 ey y Ny em Ne rwf b){i}(hi:i<n){e:En}{q}(U:GV W e.v q 12800):
  StI w (puts W (Rb i).b 0 e.cells) gf Ga Gb n Pa Pb Ra Rb X (upd Y i (upd (Y i) 0 q)) gy q1 q2 ey y Ny em Ne rwf b/\W.there (Rb i).b 0 6:=by
 obtain⟨H,l,F,G⟩:=h.b.put hi (show 0<1 by omega) U;rw[aa0] at H l G;have Q:=h.b.mem i hi aa;have Z:=h.lb i hi;have D:=h.lg;have B (k:Nat) (J:w.heap.size<=k):¬(fun k=>k=(Rb i).b) k:=fun e=>by have e:k=(Rb i).b:=e;omega
 have C:=h.hp _ (Or.inr Q);refine⟨⟨h.a.mod l F (fun e=>C.2.1 e.symm) (fun j I _ e=>h.dj _ (h.a.mem j I aa) (by have e:(Ra j).b=(Rb i).b:=e;rw[e];exact Q)),H,Blk.mod h.c l (fun e=>C.1 e.symm),h.y.mod l F,h.by_.mod l (B _ D.1),h.r1.mod l (B _ D.2.1),h.r2.mod l (B _ D.2.2),h.em.mod l F,h.mod.trans (l.mono (fun k e=>by rw[show k=(Rb i).b from e];exact Or.inr Q)),h.hp,h.dj,h.la,h.lb,h.lg⟩,G⟩
def MxI.en(h:MxI W Ga n n Pa Ra X){i j}(hi:i<n)(l:j<n):∃e:En,GV W e.v (X i j) 12800/\∀t u,e.cells[t]? =γ u->W.cell? ⟨(Ra i).b,j*6+t,δ⟩=γ u:=by
 obtain⟨f,hb,C⟩:=(h.row i hi aa).2;refine⟨f j,C j l,fun t u N=> ?_⟩;have B:t<6:=(μ.1 N).1;rw[hb.cell,Ξ,dO B l];exact N
def MxI.en1(h:MxI W Gb n 1 Pb Rb Y){i}(hi:i<n):∃e:En,GV W e.v (Y i 0) 12800/\∀t u,e.cells[t]? =γ u->W.cell? ⟨(Rb i).b,t,δ⟩=γ u:=by
 obtain⟨f,hb,l⟩:=(h.row i hi aa).2;refine⟨f 0,l 0 aa,fun t u N=> ?_⟩;have j:t<6:=(μ.1 N).1;have:=dO (f:=f) j (show 0<1 by omega);exact Abm
end
theorem Uq{n}(X){i k}(y):∀p q,p<n->q<n->upd X i (upd (X i) i (X i i+y)) p q=stm X ⟨i,k,ε,y⟩ p q:=by
 intro p q _ _;show _=X p q+jC i i y p q;unfold jC;by_cases hp:p=i
 .subst hp;rw[upd_same];by_cases hq:q=p
  .subst hq;rw[upd_same,ι ⟨rfl,rfl⟩]
  .rw[upd_ne hq,θ (fun e=>hq e.2),GQ.add_zero']
 .rw[upd_ne hp,θ (fun e=>hp e.1),GQ.add_zero']
theorem R6{n}(X){i j}(l:i≠j)(y):∀p q,p<n->q<n->
  (fun X=>upd X j (upd (X j) i (X j i-y))) ((fun X=>upd X i (upd (X i) j (X i j-y))) ((fun X=>upd X j (upd (X j) j (X j j+y))) (upd X i (upd (X i) i (X i i+y))))) p q=stm X ⟨i,j,ζ,y⟩ p q:=by
 intro p q _ _;show _=X p q+jC i i y p q+jC j j y p q+jC i j (-y) p q+jC j i (-y) p q;unfold jC upd;by_cases p1:p=i<;>by_cases p2:p=j<;>by_cases r1:q=i<;>by_cases r2:q=j<;>simp only[p1,p2,r1,r2,l,aaO l,Ad,abv,and_self,ac2,true_and,and_false,false_and]
 (all_goals (try omega));all_goals (ext<;>simp only[GQ.bf,GQ.aY,GQ.bX,GQ.cu,GQ.ky,GQ.kE,GQ.bU,GQ.bS]<;>grind)
def Sk(gx gf Ga Gb n sq V Ny Nz Nb Ne:Nat)(Pa Pb:Nat->Prop)(Ra Rb:Nat->Rw)(X Y:Nat->Nat->GQ)(rwf:Nat->Nat)(b:BrV)(z em:GQ)(w:World)(hc:bM w gf)(ha:MxI w Ga n n Pa Ra X)(hb:MxI w Gb n 1 Pb Rb Y)(hP:∀k,Pa k\/Pb k->k≠gf/\k≠Ga/\k≠Gb)(hd:∀k,Pa k->¬Pb k)(Xq:sq<=1)(hz:GV w (b.z sq).v z Nz)(WG:z≠GQ.i 0 0)(U:GV w b.e.v em Ne)(Wt:b.a<17)(L:rwf b.a<n)(Wz:b.b=17\/b.b<17/\rwf b.b<n/\rwf b.a≠rwf b.b)(by_:Bd (GQ.i 1 0/z) Ny)(bx:∀i j,i<n->j<n->Bd (X i j) V)(bb:∀i,i<n->Bd (Y i 0) Nb)(n1:64+Nz+1<=12800)(n2:Nz+Nz+1<=12800)(n3:2*max V Ny+65<=12800)(n4:2*max Ny Ne+1<=12800)(n5:2*max Nb (Ny+Ne+1)+65<=12800):
  Calls prog 158 #[.pointer (γ ⟨gx,0,δ⟩),.pointer (γ ⟨gf,0,δ⟩),.slice (γ ⟨Ga,0,δ⟩) n n,.slice (γ ⟨Gb,0,δ⟩) n n,.agg (ofC 18 (fun k=> .int .i64 (rwf k:Int))),.agg #[.int .i64 (b.a:Int),.int .i64 (b.b:Int),.bool b.z0.s1,.slice b.z0.A1 b.z0.n1 b.z0.c1,.bool b.z0.s2,.slice b.z0.A2 b.z0.n2 b.z0.c2,.bool b.z0.s3,.slice b.z0.A3 b.z0.n3 b.z0.c3,.bool b.z1.s1,.slice b.z1.A1 b.z1.n1 b.z1.c1,.bool b.z1.s2,.slice b.z1.A2 b.z1.n2 b.z1.c2,.bool b.z1.s3,.slice b.z1.A3 b.z1.n3 b.z1.c3,.bool b.e.s1,.slice b.e.A1 b.e.n1 b.e.c1,.bool b.e.s2,.slice b.e.A2 b.e.n2 b.e.c2,.bool b.e.s3,.slice b.e.A3 b.e.n3 b.e.c3],.int .i64 (sq:Int)] w fun e w'=>e=.returned (.tuple #[])/\
   MxI w' Ga n n Pa Ra (stm X ⟨rwf b.a,rwf b.b,decide (b.b=17),GQ.i 1 0/z⟩)/\MxI w' Gb n 1 Pb Rb (fun i j=>if b.b=17/\i=rwf b.a then Y i j+GQ.i 1 0/z*em else Y i j)/\Mod (fun k=>Pa k\/Pb k) w w':=by
 have WV:0<n:=aa;have x2:Ext w ((w.alloc (.cells (ofC 18 (fun k=> .int .i64 (rwf k:Int))) 222)).alloc (.cells #[.int .i64 (b.a:Int),.int .i64 (b.b:Int),.bool b.z0.s1,.slice b.z0.A1 b.z0.n1 b.z0.c1,.bool b.z0.s2,.slice b.z0.A2 b.z0.n2 b.z0.c2,.bool b.z0.s3,.slice b.z0.A3 b.z0.n3 b.z0.c3,.bool b.z1.s1,.slice b.z1.A1 b.z1.n1 b.z1.c1,.bool b.z1.s2,.slice b.z1.A2 b.z1.n2 b.z1.c2,.bool b.z1.s3,.slice b.z1.A3 b.z1.n3 b.z1.c3,.bool b.e.s1,.slice b.e.A1 b.e.n1 b.e.c1,.bool b.e.s2,.slice b.e.A2 b.e.n2 b.e.c2,.bool b.e.s3,.slice b.e.A3 b.e.n3 b.e.c3] 167)):=(Ext.new _ _).alloc _;have b1:fA ((w.alloc (.cells (ofC 18 (fun k=> .int .i64 (rwf k:Int))) 222)).alloc (.cells #[.int .i64 (b.a:Int),.int .i64 (b.b:Int),.bool b.z0.s1,.slice b.z0.A1 b.z0.n1 b.z0.c1,.bool b.z0.s2,.slice b.z0.A2 b.z0.n2 b.z0.c2,.bool b.z0.s3,.slice b.z0.A3 b.z0.n3 b.z0.c3,.bool b.z1.s1,.slice b.z1.A1 b.z1.n1 b.z1.c1,.bool b.z1.s2,.slice b.z1.A2 b.z1.n2 b.z1.c2,.bool b.z1.s3,.slice b.z1.A3 b.z1.n3 b.z1.c3,.bool b.e.s1,.slice b.e.A1 b.e.n1 b.e.c1,.bool b.e.s2,.slice b.e.A2 b.e.n2 b.e.c2,.bool b.e.s3,.slice b.e.A3 b.e.n3 b.e.c3] 167)) w.heap.size 222 18 (fun k=> .int .i64 (rwf k:Int)):=(Blk.new _ _ _).alloc _;have b2:Blk ((w.alloc (.cells (ofC 18 (fun k=> .int .i64 (rwf k:Int))) 222)).alloc (.cells #[.int .i64 (b.a:Int),.int .i64 (b.b:Int),.bool b.z0.s1,.slice b.z0.A1 b.z0.n1 b.z0.c1,.bool b.z0.s2,.slice b.z0.A2 b.z0.n2 b.z0.c2,.bool b.z0.s3,.slice b.z0.A3 b.z0.n3 b.z0.c3,.bool b.z1.s1,.slice b.z1.A1 b.z1.n1 b.z1.c1,.bool b.z1.s2,.slice b.z1.A2 b.z1.n2 b.z1.c2,.bool b.z1.s3,.slice b.z1.A3 b.z1.n3 b.z1.c3,.bool b.e.s1,.slice b.e.A1 b.e.n1 b.e.c1,.bool b.e.s2,.slice b.e.A2 b.e.n2 b.e.c2,.bool b.e.s3,.slice b.e.A3 b.e.n3 b.e.c3] 167)) (w.heap.size+1) 167 b.cs.toArray:=aeE _ _ ag;have HX:=aJ x2;have Wn:=aJ b1;have WK:=aJ b2;have HA:=aJ (ha.ext x2);have HB:=aJ (hb.ext x2);have HC:=aJ (hc.ext x2);have N:=aJ (hz.ext x2);have Wq:=aJ (U.ext x2);have XL:Hid (∀k,Pa k\/Pb k->k≠gf/\k≠Ga/\k≠Gb):=aJ hP;have HD:=aJ hd;have WJ:=aJ WG;have WC:=aJ by_;have WP:=aJ bx;have WR:=aJ bb;have G:=aJ Wz;have XO:=aJ Xq;have XA:Hid (∀i,i<n->(Ra i).b<w.heap.size):=aJ fun i hi=>ha.rb hi WV;have WF:Hid (∀i,i<n->(Rb i).b<w.heap.size):=aJ fun i hi=>hb.rb hi aa;clear x2 b1 b2 ha hb hc hz U hP hd WG by_ bx bb Wz;go_enter func158,ntmps158;(go_wp2_with fail);have Z:Hid (∀t v,(b.z sq).cells[t]? =γ v->((w.alloc (.cells (ofC 18 (fun k=> .int .i64 (rwf k:Int))) 222)).alloc (.cells #[.int .i64 (b.a:Int),.int .i64 (b.b:Int),.bool b.z0.s1,.slice b.z0.A1 b.z0.n1 b.z0.c1,.bool b.z0.s2,.slice b.z0.A2 b.z0.n2 b.z0.c2,.bool b.z0.s3,.slice b.z0.A3 b.z0.n3 b.z0.c3,.bool b.z1.s1,.slice b.z1.A1 b.z1.n1 b.z1.c1,.bool b.z1.s2,.slice b.z1.A2 b.z1.n2 b.z1.c2,.bool b.z1.s3,.slice b.z1.A3 b.z1.n3 b.z1.c3,.bool b.e.s1,.slice b.e.A1 b.e.n1 b.e.c1,.bool b.e.s2,.slice b.e.A2 b.e.n2 b.e.c2,.bool b.e.s3,.slice b.e.A3 b.e.n3 b.e.c3] 167)).cell? ⟨w.heap.size+1,2+sq*6+t,δ⟩=γ v):=aJ fun t v hv=>(WK.cell _).trans (by
  have:=b.zat XO.o hv;simpa using this)
 generalize ((w.alloc (.cells (ofC 18 (fun k=> .int .i64 (rwf k:Int))) 222)).alloc (.cells #[.int .i64 (b.a:Int),.int .i64 (b.b:Int),.bool b.z0.s1,.slice b.z0.A1 b.z0.n1 b.z0.c1,.bool b.z0.s2,.slice b.z0.A2 b.z0.n2 b.z0.c2,.bool b.z0.s3,.slice b.z0.A3 b.z0.n3 b.z0.c3,.bool b.z1.s1,.slice b.z1.A1 b.z1.n1 b.z1.c1,.bool b.z1.s2,.slice b.z1.A2 b.z1.n2 b.z1.c2,.bool b.z1.s3,.slice b.z1.A3 b.z1.n3 b.z1.c3,.bool b.e.s1,.slice b.e.A1 b.e.n1 b.e.c1,.bool b.e.s2,.slice b.e.A2 b.e.n2 b.e.c2,.bool b.e.s3,.slice b.e.A3 b.e.n3 b.e.c3] 167))=w5 at HX Wn WK HA HB HC N Wq Z⊢;generalize Xo:w.heap.size+1=q2 at WK Z⊢;generalize Wv:w.heap.size=q1 at Wn⊢;have Ww:Hid (w.heap.size<=q1/\w.heap.size<=q2):=aJ ⟨aa,aa⟩;clear Wv Xo;generalize b.z sq=zE at N Z;have Ws:w.heap.size<=w5.heap.size:=HX.size;have E0:=aK.cell (show w5.cell? ⟨q2,2+sq*6,δ⟩=γ (.bool zE.s1) from Z.o 0 _ rfl);have E1:=aK.cell (Z.o 1 _ rfl);have E2:=aK.cell (Z.o 2 _ rfl);have E3:=aK.cell (Z.o 3 _ rfl);have E4:=aK.cell (Z.o 4 _ rfl);have E5:=aK.cell (Z.o 5 _ rfl);refine tN 9 [(2,.gv (GQ.i 1 0) (64)),(7,.gv ((GQ.i 1 0)/z) (Ny)),(8,.box 42 #[.bool ζ,.slice δ 0 0,.bool ζ,.slice δ 0 0,.bool ζ,.slice δ 0 0])] ?_;refine Qs ?_;refine Ee (fun T J=>bO gf 1 _ (HC.ext J.1) aa aa) ?_;intro WE XM XJ;refine Qs ?_;refine Ee (fun T J=>lY gf WE.v zE.v (GQ.i 1 0) z (64) (Nz) _ (HC.ext J.1) (aeM (J.f 2 (WE.v,XM,XJ))) (N.ext J.1) WJ.o (Ny) aa aa WC.o aa) ?_;intro K XV X6;refine Eb ?_;intro Xa Xv WL;refine bz ?_;intro w6 J;have F:=J.ext;have R:=J.hV 2;have P:=J.hV 7;have Wl:=J.hB 8;have WZ:=aJ (J.lw 8);clear J WL E0 E1 E2 E3 E4 E5;have O:=aJ (Wl.there (o:=0) (n:=6) ag);refine aN rfl 42 (.tmp 14) (.tmp 24) rfl Xa 0 K.cells rf rf O.o bE (dM K) ?_;intro w7 l;refine Qp ?_;obtain⟨F,Wm,M,Wx⟩:=mR K F WZ.o Wl.o l;clear l O;replace R:=aJ (M _ _ _ R.o);replace P:=aJ (M _ _ _ P.o);replace Wl:=aJ Wm;clear Wm M Wx;replace HA:=HA.aA F;replace HB:=HB.aA F;replace HC:=HC.aA F;replace Wn:=Wn.aA F;replace WK:=WK.aA F;replace Wq:=Wq.aA F;replace N:=N.aA F;replace HX:=HX.aC F;clear F;have Wy:Hid (w.heap.size<=w5.heap.size):=aJ Ws;clear Ws;have Wp:Hid (StI w w7 gf Ga Gb n Pa Pb Ra Rb (X) (Y) Xa q1 q2 K (GQ.i 1 0/z) Ny em Ne rwf b):=aJ ⟨HA.o,HB.o,HC.o,P.o,Wl.o,Wn.o,WK.o,Wq.o,aeI HX.o,XL.o,HD.o,XA.o,WF.o,nk Wy.o WZ.o,Ww.o⟩;clear HA HB HC Wn WK Wq XL HD XA WF Ww P Wl N R Z WZ Wy HX;have kq:w7.cell? ⟨q2,0,δ⟩=γ (.int .i64 (b.a:Int)):=(Blk.cell Wp.r2 0).trans rfl;have kr:=Wp.r1.cell (k:=b.a) aa;(go_wp2_with fail);clear kq kr;obtain⟨eA,M,B⟩:=Wp.a.en L L;have H:=M.to (show Bd (X (rwf b.a) (rwf b.a)) V by exact WP.o _ _ L L);have WS:=aJ H;clear H M;have W:=aK.cell (show _=γ (Value.bool eA.s1) from B 0 _ rfl);rw[Nq] at W;have K1:=aK.cell (B 1 _ rfl);have K2:=aK.cell (B 2 _ rfl);have K3:=aK.cell (B 3 _ rfl);have K4:=aK.cell (B 4 _ rfl);have K5:=aK.cell (B 5 _ rfl);have KH:=aK.cell (Wp.a.hd L WV);have KY:=aK.blk Wp.by_;clear B;refine tN 16 [(14,.gv (X (rwf b.a) (rwf b.a)+GQ.i 1 0/z) (V+Ny+65))] ?_;refine Qs ?_;refine Ee (fun T J=>lW gf eA.v K.v (X (rwf b.a) (rwf b.a)) (GQ.i 1 0/z) V Ny _ (Wp.c.ext J.1) (WS.ext J.1) (Wp.y.ext J.1) aa) ?_;intro eN S WX;refine Qs ?_;refine bz ?_;intro w8 J;have F:=J.ext;have I:=aJ (aeM (J.at_ 14 (e:=(eN.v,S,WX)) rf));have C:=(Wp.ext F).RQ L L (I.up (show V+Ny+65<=12800 by omega));clear J F W K1 K2 K3 K4 K5 KH KY WS I;have O:=aJ C.2;replace Wp:=aJ C.1;clear C;refine aN rfl 42 (.tmp 44) (.tmp 43) rfl (Ra ((rwf b.a))).b (((rwf b.a))*6) eN.cells rf rf O.o bE (dM eN) ?_;intro w9 l;refine Qp ?_;replace Wp:Hid (StI w w9 gf Ga Gb n Pa Pb Ra Rb (upd X (rwf b.a) (upd (X (rwf b.a)) (rwf b.a) (X (rwf b.a) (rwf b.a)+GQ.i 1 0/z))) (Y) Xa q1 q2 K (GQ.i 1 0/z) Ny em Ne rwf b):=aJ Abt;clear l O;rcases G.o with D|⟨Wj,hr,Wo⟩
 .have WT:((b.b:Int)==17)=ε:=by simp[D]
  have HH:=aJ D;clear D;have kq:w9.cell? ⟨q2,1,δ⟩=γ (.int .i64 (b.b:Int)):=(Blk.cell Wp.r2 1).trans rfl;(go_wp2_with fail);clear kq WT;obtain⟨eA,M,B⟩:=Wp.b.en1 L;have H:=M.to (WR.o _ L);have WS:=aJ H;clear H M;have W:=aK.cell (B 0 _ rfl);have K1:=aK.cell (B 1 _ rfl);have K2:=aK.cell (B 2 _ rfl);have K3:=aK.cell (B 3 _ rfl);have K4:=aK.cell (B 4 _ rfl);have K5:=aK.cell (B 5 _ rfl);have KH:=aK.cell (Wp.b.hd L aa);have KY:=aK.blk Wp.by_;clear B;have Q:∀t v,b.e.cells[t]? =γ v->w9.cell? ⟨q2,14+t,δ⟩=γ v:=fun t v hv=>(Blk.cell Wp.r2 (14+t)).trans (by have ht:t<6:=(μ.1 hv).1;match t,ht with|0,_=>exact hv|1,_=>exact hv|2,_=>exact hv|3,_=>exact hv|4,_=>exact hv|5,_=>exact hv);have J0:=aK.cell (Q 0 _ rfl);have J1:=aK.cell (Q 1 _ rfl);have J2:=aK.cell (Q 2 _ rfl);have J3:=aK.cell (Q 3 _ rfl);have J4:=aK.cell (Q 4 _ rfl);have J5:=aK.cell (Q 5 _ rfl);clear Q;refine tN 18 [(15,.gv (GQ.i 1 0/z*em) (Ny+Ne+1)),(16,.gv (Y (rwf b.a) 0+GQ.i 1 0/z*em) (Nb+(Ny+Ne+1)+65))] ?_;refine Qs ?_;refine Ee (fun T J=>uq gf K.v b.e.v (GQ.i 1 0/z) em Ny Ne _ (Wp.c.ext J.1) (Wp.y.ext J.1) (Wp.em.ext J.1) aa) ?_;intro eM S WX;refine Ee (fun T J=>lW gf eA.v eM.v (Y (rwf b.a) 0) (GQ.i 1 0/z*em) Nb (Ny+Ne+1) _ (Wp.c.ext J.1) (WS.ext J.1) (aeM (J.f 15 (eM.v,S,WX))) aa) ?_;intro eN WA WB;refine Qs ?_;refine bz ?_;intro XE J;have F:=J.ext;have I:=aJ (aeM (J.at_ 16 (e:=(eN.v,WA,WB)) rf));have C:=(Wp.ext F).VS L (I.up (show Nb+(Ny+Ne+1)+65<=12800 by omega));clear J F W K1 K2 K3 K4 K5 J0 J1 J2 J3 J4 J5 KH KY WS I;have O:=aJ C.2;replace Wp:=aJ C.1;clear C;refine aN rfl 42 (.tmp 65) (.tmp 64) rfl (Rb (rwf b.a)).b 0 eN.cells rf rf O.o bE (dM eN) ?_;intro Xn l;refine Qp ?_;replace Wp:=aJ (show StI w Xn gf Ga Gb n Pa Pb Ra Rb (upd X (rwf b.a) (upd (X (rwf b.a)) (rwf b.a) (X (rwf b.a) (rwf b.a)+GQ.i 1 0/z))) (upd Y (rwf b.a) (upd (Y (rwf b.a)) 0 (Y (rwf b.a) 0+GQ.i 1 0/z*em))) Xa q1 q2 K (GQ.i 1 0/z) Ny em Ne rwf b from by rw[l];exact Wp.o);clear l O;(go_wp2_with fail);refine aak (v:=.tuple #[]) (aaq rfl _ _ _) rfl ⟨rfl,?_,?_,Wp.mod⟩
  .rw[show decide (b.b=17)=ε from pq HH.o];exact Wp.a.congr (fun i j hi hj=>Uq (n:=n) X _ i j hi hj)
  .refine Wp.b.congr (fun i j hi hj=> ?_);obtain rfl:j=0:=aa;by_cases Wu:i=rwf b.a
   .subst Wu;rw[upd_same,upd_same,ι ⟨HH.o,rfl⟩]
   .rw[upd_ne Wu,θ (fun e=>Wu e.2)]
 .have WT:((b.b:Int)==17)=ζ:=ae;have WQ:=aJ Wj;clear Wj;have kq:w9.cell? ⟨q2,1,δ⟩=γ (.int .i64 (b.b:Int)):=(Blk.cell Wp.r2 1).trans rfl;have kr:=Wp.r1.cell (k:=b.b) (π WQ.o aa);have Yd:b.b<18:=π WQ.o aa;(go_wp2_with fail);clear kq WT kr Yd;have WM:=aJ Wo;clear Wo;obtain⟨eA,M,B⟩:=Wp.a.en hr hr;have H:=M.to (show Bd ((upd X (rwf b.a) (upd (X (rwf b.a)) (rwf b.a) (X (rwf b.a) (rwf b.a)+GQ.i 1 0/z))) (rwf b.b) (rwf b.b)) V by rw[upd_ne (WM.o.symm)];exact WP.o _ _ hr hr);have WS:=aJ H;clear H M;have W:=aK.cell (show _=γ (Value.bool eA.s1) from B 0 _ rfl);rw[Nq] at W;have K1:=aK.cell (B 1 _ rfl);have K2:=aK.cell (B 2 _ rfl);have K3:=aK.cell (B 3 _ rfl);have K4:=aK.cell (B 4 _ rfl);have K5:=aK.cell (B 5 _ rfl);have KH:=aK.cell (Wp.a.hd hr WV);have KY:=aK.blk Wp.by_;clear B;refine tN 16 [(14,.gv ((upd X (rwf b.a) (upd (X (rwf b.a)) (rwf b.a) (X (rwf b.a) (rwf b.a)+GQ.i 1 0/z))) (rwf b.b) (rwf b.b)+GQ.i 1 0/z) (V+Ny+65))] ?_;refine Qs ?_;refine Ee (fun T J=>lW gf eA.v K.v ((upd X (rwf b.a) (upd (X (rwf b.a)) (rwf b.a) (X (rwf b.a) (rwf b.a)+GQ.i 1 0/z))) (rwf b.b) (rwf b.b)) (GQ.i 1 0/z) V Ny _ (Wp.c.ext J.1) (WS.ext J.1) (Wp.y.ext J.1) aa) ?_;intro eN S WX;refine Qs ?_;refine bz ?_;intro XE J;have F:=J.ext;have I:=aJ (aeM (J.at_ 14 (e:=(eN.v,S,WX)) rf));have C:=(Wp.ext F).RQ hr hr (I.up (show V+Ny+65<=12800 by omega));clear J F W K1 K2 K3 K4 K5 KH KY WS I;have O:=aJ C.2;replace Wp:=aJ C.1;clear C;refine aN rfl 42 (.tmp 85) (.tmp 84) rfl (Ra ((rwf b.b))).b (((rwf b.b))*6) eN.cells rf rf O.o bE (dM eN) ?_;intro Xn l;refine Qp ?_;replace Wp:Hid (StI w Xn gf Ga Gb n Pa Pb Ra Rb (upd (upd X (rwf b.a) (upd (X (rwf b.a)) (rwf b.a) (X (rwf b.a) (rwf b.a)+GQ.i 1 0/z))) (rwf b.b) (upd ((upd X (rwf b.a) (upd (X (rwf b.a)) (rwf b.a) (X (rwf b.a) (rwf b.a)+GQ.i 1 0/z))) (rwf b.b)) (rwf b.b) ((upd X (rwf b.a) (upd (X (rwf b.a)) (rwf b.a) (X (rwf b.a) (rwf b.a)+GQ.i 1 0/z))) (rwf b.b) (rwf b.b)+GQ.i 1 0/z))) (Y) Xa q1 q2 K (GQ.i 1 0/z) Ny em Ne rwf b):=aJ Abt;clear l O;(go_wp2_with fail);obtain⟨eA,M,B⟩:=Wp.a.en L hr;have H:=M.to (show Bd ((upd (upd X (rwf b.a) (upd (X (rwf b.a)) (rwf b.a) (X (rwf b.a) (rwf b.a)+GQ.i 1 0/z))) (rwf b.b) (upd ((upd X (rwf b.a) (upd (X (rwf b.a)) (rwf b.a) (X (rwf b.a) (rwf b.a)+GQ.i 1 0/z))) (rwf b.b)) (rwf b.b) ((upd X (rwf b.a) (upd (X (rwf b.a)) (rwf b.a) (X (rwf b.a) (rwf b.a)+GQ.i 1 0/z))) (rwf b.b) (rwf b.b)+GQ.i 1 0/z))) (rwf b.a) (rwf b.b)) V by rw[upd_ne WM.o,upd_same,upd_ne (WM.o.symm)];exact WP.o _ _ L hr);have WS:=aJ H;clear H M;have W:=aK.cell (show _=γ (Value.bool eA.s1) from B 0 _ rfl);rw[Nq] at W;have K1:=aK.cell (B 1 _ rfl);have K2:=aK.cell (B 2 _ rfl);have K3:=aK.cell (B 3 _ rfl);have K4:=aK.cell (B 4 _ rfl);have K5:=aK.cell (B 5 _ rfl);have KH:=aK.cell (Wp.a.hd L WV);have KY:=aK.blk Wp.by_;clear B;refine tN 16 [(14,.gv ((upd (upd X (rwf b.a) (upd (X (rwf b.a)) (rwf b.a) (X (rwf b.a) (rwf b.a)+GQ.i 1 0/z))) (rwf b.b) (upd ((upd X (rwf b.a) (upd (X (rwf b.a)) (rwf b.a) (X (rwf b.a) (rwf b.a)+GQ.i 1 0/z))) (rwf b.b)) (rwf b.b) ((upd X (rwf b.a) (upd (X (rwf b.a)) (rwf b.a) (X (rwf b.a) (rwf b.a)+GQ.i 1 0/z))) (rwf b.b) (rwf b.b)+GQ.i 1 0/z))) (rwf b.a) (rwf b.b)-GQ.i 1 0/z) (V+Ny+65))] ?_;refine Qs ?_;refine Ee (fun T J=>ui gf eA.v K.v ((upd (upd X (rwf b.a) (upd (X (rwf b.a)) (rwf b.a) (X (rwf b.a) (rwf b.a)+GQ.i 1 0/z))) (rwf b.b) (upd ((upd X (rwf b.a) (upd (X (rwf b.a)) (rwf b.a) (X (rwf b.a) (rwf b.a)+GQ.i 1 0/z))) (rwf b.b)) (rwf b.b) ((upd X (rwf b.a) (upd (X (rwf b.a)) (rwf b.a) (X (rwf b.a) (rwf b.a)+GQ.i 1 0/z))) (rwf b.b) (rwf b.b)+GQ.i 1 0/z))) (rwf b.a) (rwf b.b)) (GQ.i 1 0/z) V Ny _ (Wp.c.ext J.1) (WS.ext J.1) (Wp.y.ext J.1) aa) ?_;intro eN S WX;refine Qs ?_;refine bz ?_;intro XY J;have F:=J.ext;have I:=aJ (aeM (J.at_ 14 (e:=(eN.v,S,WX)) rf));have C:=(Wp.ext F).RQ L hr (I.up (show V+Ny+65<=12800 by omega));clear J F W K1 K2 K3 K4 K5 KH KY WS I;have O:=aJ C.2;replace Wp:=aJ C.1;clear C;refine aN rfl 42 (.tmp 101) (.tmp 100) rfl (Ra ((rwf b.a))).b (((rwf b.b))*6) eN.cells rf rf O.o bE (dM eN) ?_;intro XG l;refine Qp ?_;replace Wp:Hid (StI w XG gf Ga Gb n Pa Pb Ra Rb (upd (upd (upd X (rwf b.a) (upd (X (rwf b.a)) (rwf b.a) (X (rwf b.a) (rwf b.a)+GQ.i 1 0/z))) (rwf b.b) (upd ((upd X (rwf b.a) (upd (X (rwf b.a)) (rwf b.a) (X (rwf b.a) (rwf b.a)+GQ.i 1 0/z))) (rwf b.b)) (rwf b.b) ((upd X (rwf b.a) (upd (X (rwf b.a)) (rwf b.a) (X (rwf b.a) (rwf b.a)+GQ.i 1 0/z))) (rwf b.b) (rwf b.b)+GQ.i 1 0/z))) (rwf b.a) (upd ((upd (upd X (rwf b.a) (upd (X (rwf b.a)) (rwf b.a) (X (rwf b.a) (rwf b.a)+GQ.i 1 0/z))) (rwf b.b) (upd ((upd X (rwf b.a) (upd (X (rwf b.a)) (rwf b.a) (X (rwf b.a) (rwf b.a)+GQ.i 1 0/z))) (rwf b.b)) (rwf b.b) ((upd X (rwf b.a) (upd (X (rwf b.a)) (rwf b.a) (X (rwf b.a) (rwf b.a)+GQ.i 1 0/z))) (rwf b.b) (rwf b.b)+GQ.i 1 0/z))) (rwf b.a)) (rwf b.b) ((upd (upd X (rwf b.a) (upd (X (rwf b.a)) (rwf b.a) (X (rwf b.a) (rwf b.a)+GQ.i 1 0/z))) (rwf b.b) (upd ((upd X (rwf b.a) (upd (X (rwf b.a)) (rwf b.a) (X (rwf b.a) (rwf b.a)+GQ.i 1 0/z))) (rwf b.b)) (rwf b.b) ((upd X (rwf b.a) (upd (X (rwf b.a)) (rwf b.a) (X (rwf b.a) (rwf b.a)+GQ.i 1 0/z))) (rwf b.b) (rwf b.b)+GQ.i 1 0/z))) (rwf b.a) (rwf b.b)-GQ.i 1 0/z))) (Y) Xa q1 q2 K (GQ.i 1 0/z) Ny em Ne rwf b):=aJ Abt;clear l O;(go_wp2_with fail);obtain⟨eA,M,B⟩:=Wp.a.en hr L;have H:=M.to (show Bd ((upd (upd (upd X (rwf b.a) (upd (X (rwf b.a)) (rwf b.a) (X (rwf b.a) (rwf b.a)+GQ.i 1 0/z))) (rwf b.b) (upd ((upd X (rwf b.a) (upd (X (rwf b.a)) (rwf b.a) (X (rwf b.a) (rwf b.a)+GQ.i 1 0/z))) (rwf b.b)) (rwf b.b) ((upd X (rwf b.a) (upd (X (rwf b.a)) (rwf b.a) (X (rwf b.a) (rwf b.a)+GQ.i 1 0/z))) (rwf b.b) (rwf b.b)+GQ.i 1 0/z))) (rwf b.a) (upd ((upd (upd X (rwf b.a) (upd (X (rwf b.a)) (rwf b.a) (X (rwf b.a) (rwf b.a)+GQ.i 1 0/z))) (rwf b.b) (upd ((upd X (rwf b.a) (upd (X (rwf b.a)) (rwf b.a) (X (rwf b.a) (rwf b.a)+GQ.i 1 0/z))) (rwf b.b)) (rwf b.b) ((upd X (rwf b.a) (upd (X (rwf b.a)) (rwf b.a) (X (rwf b.a) (rwf b.a)+GQ.i 1 0/z))) (rwf b.b) (rwf b.b)+GQ.i 1 0/z))) (rwf b.a)) (rwf b.b) ((upd (upd X (rwf b.a) (upd (X (rwf b.a)) (rwf b.a) (X (rwf b.a) (rwf b.a)+GQ.i 1 0/z))) (rwf b.b) (upd ((upd X (rwf b.a) (upd (X (rwf b.a)) (rwf b.a) (X (rwf b.a) (rwf b.a)+GQ.i 1 0/z))) (rwf b.b)) (rwf b.b) ((upd X (rwf b.a) (upd (X (rwf b.a)) (rwf b.a) (X (rwf b.a) (rwf b.a)+GQ.i 1 0/z))) (rwf b.b) (rwf b.b)+GQ.i 1 0/z))) (rwf b.a) (rwf b.b)-GQ.i 1 0/z))) (rwf b.b) (rwf b.a)) V by rw[upd_ne (WM.o.symm),upd_same,upd_ne WM.o,upd_ne (WM.o.symm)];exact WP.o _ _ hr L);have WS:=aJ H;clear H M;have W:=aK.cell (show _=γ (Value.bool eA.s1) from B 0 _ rfl);rw[Nq] at W;have K1:=aK.cell (B 1 _ rfl);have K2:=aK.cell (B 2 _ rfl);have K3:=aK.cell (B 3 _ rfl);have K4:=aK.cell (B 4 _ rfl);have K5:=aK.cell (B 5 _ rfl);have KH:=aK.cell (Wp.a.hd hr WV);have KY:=aK.blk Wp.by_;clear B;refine tN 16 [(14,.gv ((upd (upd (upd X (rwf b.a) (upd (X (rwf b.a)) (rwf b.a) (X (rwf b.a) (rwf b.a)+GQ.i 1 0/z))) (rwf b.b) (upd ((upd X (rwf b.a) (upd (X (rwf b.a)) (rwf b.a) (X (rwf b.a) (rwf b.a)+GQ.i 1 0/z))) (rwf b.b)) (rwf b.b) ((upd X (rwf b.a) (upd (X (rwf b.a)) (rwf b.a) (X (rwf b.a) (rwf b.a)+GQ.i 1 0/z))) (rwf b.b) (rwf b.b)+GQ.i 1 0/z))) (rwf b.a) (upd ((upd (upd X (rwf b.a) (upd (X (rwf b.a)) (rwf b.a) (X (rwf b.a) (rwf b.a)+GQ.i 1 0/z))) (rwf b.b) (upd ((upd X (rwf b.a) (upd (X (rwf b.a)) (rwf b.a) (X (rwf b.a) (rwf b.a)+GQ.i 1 0/z))) (rwf b.b)) (rwf b.b) ((upd X (rwf b.a) (upd (X (rwf b.a)) (rwf b.a) (X (rwf b.a) (rwf b.a)+GQ.i 1 0/z))) (rwf b.b) (rwf b.b)+GQ.i 1 0/z))) (rwf b.a)) (rwf b.b) ((upd (upd X (rwf b.a) (upd (X (rwf b.a)) (rwf b.a) (X (rwf b.a) (rwf b.a)+GQ.i 1 0/z))) (rwf b.b) (upd ((upd X (rwf b.a) (upd (X (rwf b.a)) (rwf b.a) (X (rwf b.a) (rwf b.a)+GQ.i 1 0/z))) (rwf b.b)) (rwf b.b) ((upd X (rwf b.a) (upd (X (rwf b.a)) (rwf b.a) (X (rwf b.a) (rwf b.a)+GQ.i 1 0/z))) (rwf b.b) (rwf b.b)+GQ.i 1 0/z))) (rwf b.a) (rwf b.b)-GQ.i 1 0/z))) (rwf b.b) (rwf b.a)-GQ.i 1 0/z) (V+Ny+65))] ?_;refine Qs ?_;refine Ee (fun T J=>ui gf eA.v K.v ((upd (upd (upd X (rwf b.a) (upd (X (rwf b.a)) (rwf b.a) (X (rwf b.a) (rwf b.a)+GQ.i 1 0/z))) (rwf b.b) (upd ((upd X (rwf b.a) (upd (X (rwf b.a)) (rwf b.a) (X (rwf b.a) (rwf b.a)+GQ.i 1 0/z))) (rwf b.b)) (rwf b.b) ((upd X (rwf b.a) (upd (X (rwf b.a)) (rwf b.a) (X (rwf b.a) (rwf b.a)+GQ.i 1 0/z))) (rwf b.b) (rwf b.b)+GQ.i 1 0/z))) (rwf b.a) (upd ((upd (upd X (rwf b.a) (upd (X (rwf b.a)) (rwf b.a) (X (rwf b.a) (rwf b.a)+GQ.i 1 0/z))) (rwf b.b) (upd ((upd X (rwf b.a) (upd (X (rwf b.a)) (rwf b.a) (X (rwf b.a) (rwf b.a)+GQ.i 1 0/z))) (rwf b.b)) (rwf b.b) ((upd X (rwf b.a) (upd (X (rwf b.a)) (rwf b.a) (X (rwf b.a) (rwf b.a)+GQ.i 1 0/z))) (rwf b.b) (rwf b.b)+GQ.i 1 0/z))) (rwf b.a)) (rwf b.b) ((upd (upd X (rwf b.a) (upd (X (rwf b.a)) (rwf b.a) (X (rwf b.a) (rwf b.a)+GQ.i 1 0/z))) (rwf b.b) (upd ((upd X (rwf b.a) (upd (X (rwf b.a)) (rwf b.a) (X (rwf b.a) (rwf b.a)+GQ.i 1 0/z))) (rwf b.b)) (rwf b.b) ((upd X (rwf b.a) (upd (X (rwf b.a)) (rwf b.a) (X (rwf b.a) (rwf b.a)+GQ.i 1 0/z))) (rwf b.b) (rwf b.b)+GQ.i 1 0/z))) (rwf b.a) (rwf b.b)-GQ.i 1 0/z))) (rwf b.b) (rwf b.a)) (GQ.i 1 0/z) V Ny _ (Wp.c.ext J.1) (WS.ext J.1) (Wp.y.ext J.1) aa) ?_;intro eN S WX;refine Qs ?_;refine bz ?_;intro ad J;have F:=J.ext;have I:=aJ (aeM (J.at_ 14 (e:=(eN.v,S,WX)) rf));have C:=(Wp.ext F).RQ hr L (I.up (show V+Ny+65<=12800 by omega));clear J F W K1 K2 K3 K4 K5 KH KY WS I;have O:=aJ C.2;replace Wp:=aJ C.1;clear C;refine aN rfl 42 (.tmp 117) (.tmp 116) rfl (Ra ((rwf b.b))).b (((rwf b.a))*6) eN.cells rf rf O.o bE (dM eN) ?_;intro ac l;refine Qp ?_;replace Wp:Hid (StI w ac gf Ga Gb n Pa Pb Ra Rb (upd (upd (upd (upd X (rwf b.a) (upd (X (rwf b.a)) (rwf b.a) (X (rwf b.a) (rwf b.a)+GQ.i 1 0/z))) (rwf b.b) (upd ((upd X (rwf b.a) (upd (X (rwf b.a)) (rwf b.a) (X (rwf b.a) (rwf b.a)+GQ.i 1 0/z))) (rwf b.b)) (rwf b.b) ((upd X (rwf b.a) (upd (X (rwf b.a)) (rwf b.a) (X (rwf b.a) (rwf b.a)+GQ.i 1 0/z))) (rwf b.b) (rwf b.b)+GQ.i 1 0/z))) (rwf b.a) (upd ((upd (upd X (rwf b.a) (upd (X (rwf b.a)) (rwf b.a) (X (rwf b.a) (rwf b.a)+GQ.i 1 0/z))) (rwf b.b) (upd ((upd X (rwf b.a) (upd (X (rwf b.a)) (rwf b.a) (X (rwf b.a) (rwf b.a)+GQ.i 1 0/z))) (rwf b.b)) (rwf b.b) ((upd X (rwf b.a) (upd (X (rwf b.a)) (rwf b.a) (X (rwf b.a) (rwf b.a)+GQ.i 1 0/z))) (rwf b.b) (rwf b.b)+GQ.i 1 0/z))) (rwf b.a)) (rwf b.b) ((upd (upd X (rwf b.a) (upd (X (rwf b.a)) (rwf b.a) (X (rwf b.a) (rwf b.a)+GQ.i 1 0/z))) (rwf b.b) (upd ((upd X (rwf b.a) (upd (X (rwf b.a)) (rwf b.a) (X (rwf b.a) (rwf b.a)+GQ.i 1 0/z))) (rwf b.b)) (rwf b.b) ((upd X (rwf b.a) (upd (X (rwf b.a)) (rwf b.a) (X (rwf b.a) (rwf b.a)+GQ.i 1 0/z))) (rwf b.b) (rwf b.b)+GQ.i 1 0/z))) (rwf b.a) (rwf b.b)-GQ.i 1 0/z))) (rwf b.b) (upd ((upd (upd (upd X (rwf b.a) (upd (X (rwf b.a)) (rwf b.a) (X (rwf b.a) (rwf b.a)+GQ.i 1 0/z))) (rwf b.b) (upd ((upd X (rwf b.a) (upd (X (rwf b.a)) (rwf b.a) (X (rwf b.a) (rwf b.a)+GQ.i 1 0/z))) (rwf b.b)) (rwf b.b) ((upd X (rwf b.a) (upd (X (rwf b.a)) (rwf b.a) (X (rwf b.a) (rwf b.a)+GQ.i 1 0/z))) (rwf b.b) (rwf b.b)+GQ.i 1 0/z))) (rwf b.a) (upd ((upd (upd X (rwf b.a) (upd (X (rwf b.a)) (rwf b.a) (X (rwf b.a) (rwf b.a)+GQ.i 1 0/z))) (rwf b.b) (upd ((upd X (rwf b.a) (upd (X (rwf b.a)) (rwf b.a) (X (rwf b.a) (rwf b.a)+GQ.i 1 0/z))) (rwf b.b)) (rwf b.b) ((upd X (rwf b.a) (upd (X (rwf b.a)) (rwf b.a) (X (rwf b.a) (rwf b.a)+GQ.i 1 0/z))) (rwf b.b) (rwf b.b)+GQ.i 1 0/z))) (rwf b.a)) (rwf b.b) ((upd (upd X (rwf b.a) (upd (X (rwf b.a)) (rwf b.a) (X (rwf b.a) (rwf b.a)+GQ.i 1 0/z))) (rwf b.b) (upd ((upd X (rwf b.a) (upd (X (rwf b.a)) (rwf b.a) (X (rwf b.a) (rwf b.a)+GQ.i 1 0/z))) (rwf b.b)) (rwf b.b) ((upd X (rwf b.a) (upd (X (rwf b.a)) (rwf b.a) (X (rwf b.a) (rwf b.a)+GQ.i 1 0/z))) (rwf b.b) (rwf b.b)+GQ.i 1 0/z))) (rwf b.a) (rwf b.b)-GQ.i 1 0/z))) (rwf b.b)) (rwf b.a) ((upd (upd (upd X (rwf b.a) (upd (X (rwf b.a)) (rwf b.a) (X (rwf b.a) (rwf b.a)+GQ.i 1 0/z))) (rwf b.b) (upd ((upd X (rwf b.a) (upd (X (rwf b.a)) (rwf b.a) (X (rwf b.a) (rwf b.a)+GQ.i 1 0/z))) (rwf b.b)) (rwf b.b) ((upd X (rwf b.a) (upd (X (rwf b.a)) (rwf b.a) (X (rwf b.a) (rwf b.a)+GQ.i 1 0/z))) (rwf b.b) (rwf b.b)+GQ.i 1 0/z))) (rwf b.a) (upd ((upd (upd X (rwf b.a) (upd (X (rwf b.a)) (rwf b.a) (X (rwf b.a) (rwf b.a)+GQ.i 1 0/z))) (rwf b.b) (upd ((upd X (rwf b.a) (upd (X (rwf b.a)) (rwf b.a) (X (rwf b.a) (rwf b.a)+GQ.i 1 0/z))) (rwf b.b)) (rwf b.b) ((upd X (rwf b.a) (upd (X (rwf b.a)) (rwf b.a) (X (rwf b.a) (rwf b.a)+GQ.i 1 0/z))) (rwf b.b) (rwf b.b)+GQ.i 1 0/z))) (rwf b.a)) (rwf b.b) ((upd (upd X (rwf b.a) (upd (X (rwf b.a)) (rwf b.a) (X (rwf b.a) (rwf b.a)+GQ.i 1 0/z))) (rwf b.b) (upd ((upd X (rwf b.a) (upd (X (rwf b.a)) (rwf b.a) (X (rwf b.a) (rwf b.a)+GQ.i 1 0/z))) (rwf b.b)) (rwf b.b) ((upd X (rwf b.a) (upd (X (rwf b.a)) (rwf b.a) (X (rwf b.a) (rwf b.a)+GQ.i 1 0/z))) (rwf b.b) (rwf b.b)+GQ.i 1 0/z))) (rwf b.a) (rwf b.b)-GQ.i 1 0/z))) (rwf b.b) (rwf b.a)-GQ.i 1 0/z))) (Y) Xa q1 q2 K (GQ.i 1 0/z) Ny em Ne rwf b):=aJ Abt;clear l O;(go_wp2_with fail);refine aa1 (aaq rfl _ _ _) rfl ⟨rfl,?_,?_,Wp.mod⟩
  .rw[show decide (b.b=17)=ζ from Γ (by have:=WQ.o;omega)];exact Wp.a.congr (fun i j hi hj=>R6 (n:=n) X WM.o _ i j hi hj)
  .refine Wp.b.congr (fun i j hi hj=> ?_);rw[θ (fun e=>by have:=WQ.o;omega)]
def PN{a b}(h:a<=b):2^a<=2^b:=BB aa h
def dlt (i k:Nat):GQ:=if i=k then GQ.i 1 0 else GQ.i 0 0
theorem Gp(D L y i j):jC D L y i j=y*(dlt i D*dlt j L):=by
 unfold jC dlt;by_cases h:i=D<;>by_cases l:j=L
 .rw[ι ⟨h,l⟩,ι h,ι l];ext<;>simp only[GQ.aR,GQ.aQ,GQ.bU,GQ.bS]<;>grind
 .rw[θ (fun e=>l e.2),θ l,GQ.bL,GQ.bL]
 .rw[θ (fun e=>h e.1),θ h,GQ.eO,GQ.bL]
 .rw[θ (fun e=>h e.1),θ h,GQ.eO,GQ.bL]
def Br.al (b:Br) (i:Nat):GQ:=dlt i b.p-(if b.nt then GQ.i 0 0 else dlt i b.q)
theorem KT(X)(b:Br)(i j):stm X b i j=X i j+b.y*(b.al i*b.al j):=by
 unfold stm Br.al;cases hb:b.nt
 .simp only[Y0,abv,Gp];generalize dlt i b.p=c1;generalize dlt i b.q=c2;generalize dlt j b.p=c3;generalize dlt j b.q=c4;ext<;>simp only[GQ.bf,GQ.aY,GQ.aR,GQ.aQ,GQ.ky,GQ.kE,GQ.bX,GQ.cu]<;>grind
 .simp only[Ad,Gp];generalize dlt i b.p=c1;generalize dlt j b.p=c3;ext<;>simp only[GQ.bf,GQ.aY,GQ.aR,GQ.aQ,GQ.bX,GQ.cu,GQ.bU,GQ.bS]<;>grind
def GL:∀(bs:List Br) (X:Nat->Nat->GQ) (i j:Nat),fq X bs i j=X i j+gm (fun b=>b.y*(b.al i*b.al j)) bs
 |[],X,i,j=>(GQ.add_zero' _).symm
 |b::bs,X,i,j=>by
  show fq (stm X b) bs i j=X i j+(gm (fun b=>b.y*(b.al i*b.al j)) bs+b.y*(b.al i*b.al j));rw[GL bs (stm X b) i j,KT];generalize gm _ bs=t;generalize b.y*(b.al i*b.al j)=u;generalize X i j=v;ext<;>simp only[GQ.bf,GQ.aY]<;>grind
def Gj(r0):∀(bs:List Bu) (i c:Nat),ny r0 bs i c=r0 i c+gm (fun b=>b.y*(b.al i*b.u c)) bs
 |[],i,c=>(GQ.add_zero' _).symm
 |b::bs,i,c=>by
  show ny r0 bs i c+b.y*(b.al i*b.u c)=r0 i c+(gm (fun b=>b.y*(b.al i*b.u c)) bs+b.y*(b.al i*b.u c));rw[Gj r0 bs i c];generalize gm _ bs=t;generalize b.y*(b.al i*b.u c)=u;generalize r0 i c=v;ext<;>simp only[GQ.bf,GQ.aY]<;>grind
def rhs (rw_:Nat->Nat) (us:List Nb) (f:Nat) (al be:Nat->GQ):Nat->Nat->GQ:=fun i j=>al j*feed rw_ us i+be j*unit f i
def afg (n:Nat) (rw_:Nat->Nat) (al:Nat->GQ) (b:Nb):Bu:=⟨b.y,(b.br rw_).al,fun c=>if c<n then (b.br rw_).al c else if b.b=17 then al (c-n)*b.e else GQ.i 0 0⟩
def r0u (n f:Nat) (be:Nat->GQ):Nat->Nat->GQ:=fun i c=>if c<n then GQ.i 0 0 else be (c-n)*unit f i
theorem Mi{n f rw_ al be}(us i):side n (fq zmx (us.map (Nb.br rw_))) (rhs rw_ us f al be) i=ny (r0u n f be) (us.map (afg n rw_ al)) i:=by
 funext c;rw[Gj,qW];unfold side r0u;by_cases hc:c<n
 .rw[ι hc,ι hc,GL,qW];show zmx i c+_=_;congr 1;refine oD us fun b hb=> ?_;show _=b.y*((b.br rw_).al i*(if c<n then (b.br rw_).al c else _));rw[ι hc];rfl
 .rw[θ hc,θ hc];unfold rhs feed;rw[<-GY];have e:gm (fun b=>al (c-n)*if b.b=17/\i=rw_ b.a then b.y*b.e else GQ.i 0 0) us=gm (fun a=>(afg n rw_ al a).y*((afg n rw_ al a).al i*(afg n rw_ al a).u c)) us:=by
   refine oD us fun b hb=> ?_;show _=b.y*((b.br rw_).al i*(if c<n then (b.br rw_).al c else if b.b=17 then al (c-n)*b.e else GQ.i 0 0));rw[θ hc];by_cases D:b.b=17
   .have l:(if b.b=17/\i=rw_ b.a then b.y*b.e else GQ.i 0 0)=if i=rw_ b.a then b.y*b.e else GQ.i 0 0:=by
     by_cases hi:i=rw_ b.a
     .rw[ι ⟨D,hi⟩,ι hi]
     .rw[θ (fun e=>hi e.2),θ hi]
    have j:(b.br rw_).al i=dlt i (rw_ b.a):=by
     unfold Br.al;show dlt i (rw_ b.a)-(if decide (b.b=17)=ε then GQ.i 0 0 else dlt i (rw_ b.b))=_;rw[ι (show decide (b.b=17)=ε by simp[D])];generalize dlt i (rw_ b.a)=z;ext<;>simp only[GQ.bX,GQ.cu,GQ.bU,GQ.bS]<;>grind
    rw[l,j,ι (show b.b=17 from D)];unfold dlt;by_cases hi:i=rw_ b.a
    .rw[ι hi,ι hi];ext<;>simp only[GQ.aR,GQ.aQ,GQ.bU,GQ.bS]<;>grind
    .rw[θ hi,θ hi];ext<;>simp only[GQ.aR,GQ.aQ,GQ.bU,GQ.bS]<;>grind
   .rw[θ D,θ (fun e=>D e.1),GQ.bL,GQ.bL,GQ.bL]
  rw[e];generalize gm _ us=t;generalize be (c-n)*unit f i=u;ext<;>simp only[GQ.bf,GQ.aY]<;>grind
structure QR (b:Nb):Prop where
 z:∃(zn:GQ) (zd:Nat),zn≠GQ.i 0 0/\Wh zn 32000/\b.y*zn=GQ.i zd 0/\zd<=16
 e:Wh b.e 1000000
theorem zu(b:Br)(i):Wh (b.al i) 1:=by
 have j (i k:Nat):dlt i k=GQ.i 1 0\/dlt i k=GQ.i 0 0:=by
  unfold dlt;split
  .exact Or.inl rfl
  .exact Or.inr rfl
 have B:(if b.nt then GQ.i 0 0 else dlt i b.q)=GQ.i 1 0\/(if b.nt then GQ.i 0 0 else dlt i b.q)=GQ.i 0 0:=by
  split
  .exact Or.inr rfl
  .exact j _ _
 unfold Br.al;rcases j i b.p with e|e<;>rcases B with l|l<;>rw[e,l]
 .exact Abz
 .exact⟨1,0,by ext<;>simp only[GQ.bX,GQ.cu,GQ.bU,GQ.bS]<;>grind,aj⟩
 .exact⟨-1,0,by ext<;>simp only[GQ.bX,GQ.cu,GQ.bU,GQ.bS]<;>grind,aj⟩
 .exact Abz
theorem QN(f i):Wh (unit f i) 1:=by
 unfold unit;split
 .exact uQ
 .exact gG _
def BD:Nat:=2^420
def TC{m}(B:m<=17):∀(bs:List Bu),cz (fun _=>32000) 16 m 1000000 bs<=2^(15*bs.length)*(2^49*2^20)
 |[]=>by
  show fct m*1000000<=2^(15*0)*_;have l:fct m<=fct 17:=Gv B;have j:fct 17<=2^49:=aj;have:=aac (nk l j) (show 1000000<=2^20 by decide);simpa using this
 |b::bs=>by
  show(32000+m*16)*cz _ 16 m 1000000 bs<=_;have l:32000+m*16<=2^15:=aa;have j:=aac l (TC B bs);rw[nC,show 15*(bs.length+1)=15+15*bs.length by omega,aaJ,ω];exact j
def rq.mono{Z0 m W B C Q}(h:rq Z0 m W Q B)(l:B<=C):rq Z0 m W Q C:=
 ⟨h.q0,fun P j cs G hc=>⟨fun F D=>((h.min P j cs G hc).1 F D).mono l,fun F D H=>((h.min P j cs G hc).2 F D H).mono l⟩⟩
section
variable {L:Nat->Bool} {rw_:Nat->Nat} {n:Nat} {us:List Nb}
theorem zM{f W al be}(hs:∀b∈us,QR b)(hn:n<=17)(Z:us.length<=23)(B:n<=W)(ha:∀j,Wh (al j) 1)(hb:∀j,Wh (be j) 1):
  ∃Q,rq (side n (fq zmx (us.map (Nb.br rw_))) (rhs rw_ us f al be)) n W Q BD:=by
 obtain⟨Q,l⟩:=agv (r0:=r0u n f be) (w:=fun c=>if c<n then 1 else 1000000) (f:=fun _=>32000) (K:=16) (m:=n) (W:=W) (B0:=1000000) (bs:=us.map (afg n rw_ al)) (Z0:=side n (fq zmx (us.map (Nb.br rw_))) (rhs rw_ us f al be))
  (fun b hb=>by
   obtain⟨c,hc,rfl⟩:=aad.1 hb;exact⟨(hs c hc).z,fun i=>zu _ i⟩)
  (fun c hc=>show(if c<n then 1 else 1000000)=1 from ι hc) (fun c _=>by show(if c<n then 1 else 1000000)<=1000000;split<;>omega) aa
  (fun b hb c hc=>by
   obtain⟨d,hd,rfl⟩:=aad.1 hb;show Wh (if c<n then _ else _) (if c<n then 1 else 1000000);by_cases h:c<n
   .rw[ι h,ι h];exact zu _ c
   .rw[θ h,θ h];split
    .exact((ha (c-n)).mul (hs d hd).e).mono aa
    .exact gG _)
  (fun i c hc=>by
   show Wh (if c<n then _ else _) (if c<n then 1 else 1000000);by_cases h:c<n
   .rw[ι h,ι h];exact gG _
   .rw[θ h,θ h];exact((hb (c-n)).mul (QN f i)).mono aa)
  B (fun i hi=>Mi us i)
 refine⟨Q,l.mono (nk (TC hn _) ?_)⟩;rw[aaM];unfold BD;rw[<-aaJ,<-aaJ];exact PN (a:=15*us.length+(49+20)) (b:=420) aa
def QO{f}:rhs rw_ us f (fun _=>GQ.i 1 0) (fun _=>GQ.i 0 0)=col (feed rw_ us):=by
 funext i j;show GQ.i 1 0*feed rw_ us i+GQ.i 0 0*unit f i=feed rw_ us i;rw[GQ.jJ,GQ.eO,GQ.add_zero']
def Oc{f}:rhs rw_ us f (fun _=>GQ.i 0 0) (fun _=>GQ.i 1 0)=col (unit f):=by
 funext i j;show GQ.i 0 0*feed rw_ us i+GQ.i 1 0*unit f i=unit f i;rw[GQ.jJ,GQ.eO];generalize unit f i=u;ext<;>simp only[GQ.bf,GQ.aY,GQ.bU,GQ.bS]<;>grind
def P9{f}:rhs rw_ us f (fun j=>if j=0 then GQ.i 1 0 else GQ.i 0 0) (fun j=>if j=0 then GQ.i 0 0 else GQ.i 1 0)=Ed (feed rw_ us) (unit f):=by
 funext i j;show(if j=0 then GQ.i 1 0 else GQ.i 0 0)*feed rw_ us i+(if j=0 then GQ.i 0 0 else GQ.i 1 0)*unit f i=if j=0 then feed rw_ us i else unit f i;by_cases h:j=0
 .rw[ι h,ι h,ι h,GQ.jJ,GQ.eO,GQ.add_zero']
 .rw[θ h,θ h,θ h,GQ.jJ,GQ.eO];generalize unit f i=u;ext<;>simp only[GQ.bf,GQ.aY,GQ.bU,GQ.bS]<;>grind
def xU.den(h:xU L rw_ n us)(hs:∀b∈us,QR b)(hn:n<=17)(Z:us.length<=23)(f):
  ∃M,M≠GQ.i 0 0/\Wh M BD/\(∀k,Wh (M*nJ L rw_ n us (feed rw_ us) k) BD)/\∀k,Wh (M*nJ L rw_ n us (unit f) k) BD:=by
 obtain⟨Q,F⟩:=zM (rw_:=rw_) (f:=f) (W:=n+2) (al:=fun j=>if j=0 then GQ.i 1 0 else GQ.i 0 0) (be:=fun j=>if j=0 then GQ.i 0 0 else GQ.i 1 0) hs hn Z aa (fun j=>by split;exact uQ;exact gG _) (fun j=>by split;exact gG _;exact uQ);rw[P9] at F;have C:(ech n (side n (fq zmx (us.map (Nb.br rw_))) (Ed (feed rw_ us) (unit f))) n).r=n:=zZ h.psv.full;obtain⟨o,P,H⟩:=kH n (side n (fq zmx (us.map (Nb.br rw_))) (Ed (feed rw_ us) (unit f))) n;obtain⟨M,m0,G,D⟩:=vo H C F;refine⟨M,m0,G,fun k=> ?_,fun k=> ?_⟩
 .cases B:L k with
  |false=>rw[mH B,GQ.bL];exact gG _
  |true=>
   have l:=h.r.lt k B;rw[rV B,(h.psv.Lb (v:=feed rw_ us) (u:=unit f) l).1,DZ C l];exact D _ _ l aa
 .cases B:L k with
  |false=>rw[mH B,GQ.bL];exact gG _
  |true=>
   have l:=h.r.lt k B;rw[rV B,(h.psv.Lb (v:=feed rw_ us) (u:=unit f) l).2,DZ C l];exact D _ _ l aa
end
def q2 (n:Nat):Nat:=2^n
def TM{a b}(h:a<=b):q2 a<=q2 b:=PN h
def oz(a b):q2 (a+b)=q2 a*q2 b:=aaJ 2 a b
def pO(a):q2 (a+1)=q2 a*2:=De 2 a
def Co{a b}(h:a<b):q2 a<2^b:=Nat.pow_lt_pow_right aa h
def p2 (h:Nat):GQ:=GQ.i ((2^h:Nat):Int) 0
def KI:p2 0=GQ.i 1 0:=rfl
theorem Dz(h):p2 (h+1)=GQ.i 2 0*p2 h:=by
 unfold p2;rw[De];ext<;>simp only[GQ.aR,GQ.aQ,GQ.bU,GQ.bS]<;>push_cast<;>grind
def Vx(h):p2 h≠GQ.i 0 0:=by
 induction h with
 |zero=>rw[KI];decide
 |succ h ih=>rw[Dz];exact GQ.ik aj ih
theorem VQ(h):Wh (p2 h) (q2 h):=nA (by unfold q2;simp)
def Fr (D:GQ) (h e:Nat) (x:GQ):Prop:=Wh (p2 h*(D*x)) (q2 e)
section
variable {D:GQ} {h e:Nat} {x y:GQ}
theorem afe(j:Wh (D*x) (q2 e)):Fr D 0 e x:=by unfold Fr;rw[KI,GQ.jJ];exact j
def Fr.le{T}(j:Fr D h e x)(U:e<=T):Fr D h T x:=Wh.mono j (TM U)
theorem Fr.up(j:Fr D h e x):Fr D (h+1) (e+1) x:=by
 unfold Fr at*
 rw[Dz,GQ.cK,pO,qb];exact Wh.mul (B:=2) ⟨2,0,rfl,aj⟩ j
theorem Fr.add(l:Fr D h e x)(j:Fr D h e y):Fr D h (e+1) (x+y):=by
 unfold Fr at*
 rw[GQ.oO,GQ.oO,pO,abU];exact l.add j
theorem Fr.sub(l:Fr D h e x)(j:Fr D h e y):Fr D h (e+1) (x-y):=by
 unfold Fr at*
 rw[GQ.kW,GQ.kW,pO,abU];exact l.sub j
theorem Fr.Mo{c k}(l:Fr D h e x)(hc:Wh c (q2 k)):Fr D h (e+k) (x*c):=by
 unfold Fr at*
 have j:p2 h*(D*(x*c))=p2 h*(D*x)*c:=by ext<;>simp only[GQ.aR,GQ.aQ]<;>grind
 rw[j,oz];exact l.mul hc
def Fr.VW{c k}(j:Fr D h e x)(hc:Wh c (q2 k)):Fr D h (e+k) (c*x):=by rw[GQ.dX];exact j.Mo hc
theorem Fr.zero:Fr D h e (GQ.i 0 0):=by unfold Fr;rw[GQ.bL,GQ.bL];exact gG _
theorem Fr.half(l:Fr D h e x):Fr D (h+1) e (x*⟨1/2,0⟩):=by
 unfold Fr at*
 have j:p2 (h+1)*(D*(x*⟨1/2,0⟩))=p2 h*(D*x):=by
  rw[Dz];ext<;>simp only[GQ.aR,GQ.aQ,GQ.bU,GQ.bS]<;>grind
 rw[j];exact l
def oG{x N M a b n}(D:Wh N (q2 a))(l:Wh M (q2 b))(C:M≠GQ.i 0 0)(F:x*M=N)(B:a+b<n)(j:b+b<n):Bd x n:=by
 refine ww D l C F ?_ ?_
 .rw[<-oz];exact Co B
 .rw[<-oz];exact Co j
def Fr.bd{d n}(C:Fr D h e x)(F:Wh D (q2 d))(B:D≠GQ.i 0 0)(l:e+(h+d)<n)(j:h+d+(h+d)<n):Bd x n:=by
 have hq:=(VQ h).mul F;rw[<-oz] at hq;refine ww (N:=p2 h*(D*x)) (M:=p2 h*D) C hq (GQ.ik (Vx h) B) ?_ ?_ ?_
 .ext<;>simp only[GQ.aR,GQ.aQ]<;>grind
 .rw[<-oz];exact Co l
 .rw[<-oz];exact Co j
end
def gP (kind:Int) (v z1 z0 r:GQ) (k:Nat):GQ:=
 if kind<=3 then v/(z1*GQ.i 2 0+z0+r*GQ.i 3 0)
 else if kind<=6 then
  if k=0 then GQ.i 0 0 else if k=1 then v/(z1*GQ.i 2 0+r) else GQ.i 0 0-v/(z1*GQ.i 2 0+r)
 else if kind<=9 then
  if k=0 then GQ.i 0 0-v/(z1+z1*(z0+r*GQ.i 3 0)/(z1+(z0+r*GQ.i 3 0)))*z1/(z1+(z0+r*GQ.i 3 0))
  else if k=1 then v/(z1+z1*(z0+r*GQ.i 3 0)/(z1+(z0+r*GQ.i 3 0)))
  else GQ.i 0 0-v/(z1+z1*(z0+r*GQ.i 3 0)/(z1+(z0+r*GQ.i 3 0)))*(z0+r*GQ.i 3 0)/(z1+(z0+r*GQ.i 3 0))
 else if k=1 then v/(z1+r) else GQ.i 0 0
structure Seen (M0 M1 v z1 z0:GQ):Prop where
 m0:M0≠GQ.i 0 0
 m1:M1≠GQ.i 0 0
 w0:Wh M0 (q2 420)
 w1:Wh M1 (q2 420)
 wv:Wh (M1*v) (q2 420)
 wz1:Wh (M1*z1) (q2 420)
 wz0:Wh (M0*z0) (q2 420)
 i1:0<z1.im
 i0:0<z0.im
structure FU (K:GQ) (A:Nat->GQ):Prop where
 k0:K≠GQ.i 0 0
 wk:Wh K (q2 1278)
 wa:∀k,Wh (K*A k) (q2 1278)
def gI{x a b}(h:Wh x (q2 a))(j:a<=b):Wh x (q2 b):=h.mono (TM j)
def eD{x y a b}(l:Wh x (q2 a))(j:Wh y (q2 b)):Wh (x*y) (q2 (a+b)):=by rw[oz];exact l.mul j
def K6{x y a}(l:Wh x (q2 a))(j:Wh y (q2 a)):Wh (x+y) (q2 (a+1)):=by rw[pO,abU];exact l.add j
def KF{x a}(j:Wh x (q2 a)):Wh (GQ.i 0 0-x) (q2 (a+1)):=by rw[pO,abU];exact(gG (q2 a)).sub j
def QI{m a}(h:m.natAbs<=2^a):Wh (GQ.i m 0) (q2 a):=nA h
def aeZ{a b c}(h:a*c=b*c)(hc:c≠GQ.i 0 0):a=b:=by
 refine ae3 ?_;have l:(a-b)*c=GQ.i 0 0:=by
  have:(a-b)*c=a*c-b*c:=by ext<;>simp only[GQ.aR,GQ.aQ,GQ.bX,GQ.cu]<;>grind
  rw[this,h];ext<;>simp only[GQ.bX,GQ.cu,GQ.bU,GQ.bS]<;>grind
 by_cases j:a-b=GQ.i 0 0
 .exact j
 .exact absurd l (GQ.ik j hc)
section
variable {M0 M1 v z1 z0:GQ}
def Seen.lin(h:Seen M0 M1 v z1 z0){a b c}(ha:a.natAbs<=2^12)(hb:b.natAbs<=2^12)(hc:c.natAbs<=2^13):Wh (M0*(M1*(z1*GQ.i a 0+z0*GQ.i b 0+GQ.i c 0))) (q2 854):=by
 have e:M0*(M1*(z1*GQ.i a 0+z0*GQ.i b 0+GQ.i c 0))=M0*(M1*z1)*GQ.i a 0+M1*(M0*z0)*GQ.i b 0+M0*M1*GQ.i c 0:=by
  ext<;>simp only[GQ.aR,GQ.aQ,GQ.bf,GQ.aY]<;>grind
 rw[e];exact K6 (a:=853) (K6 (a:=852) (gI (eD (eD h.w0 h.wz1) (QI ha)) aa) (gI (eD (eD h.w1 h.wz0) (QI hb)) aa)) (gI (eD (eD h.w0 h.w1) (QI hc)) aa)
def Seen.num(h:Seen M0 M1 v z1 z0):Wh (M0*(M1*v)) (q2 854):=gI (eD h.w0 h.wv) aa
def Seen.mm(h:Seen M0 M1 v z1 z0){x}(j:x≠GQ.i 0 0):M0*(M1*x)≠GQ.i 0 0:=GQ.ik h.m0 (GQ.ik h.m1 j)
def Seen.ne(h:Seen M0 M1 v z1 z0){a b c}(ha:0<=a)(hb:0<=b)(B:1<=a\/1<=b):z1*GQ.i a 0+z0*GQ.i b 0+GQ.i c 0≠GQ.i 0 0:=by
 refine KD ?_;simp only[GQ.aY,GQ.aQ,GQ.bU,GQ.bS];have C:=h.i1;have D:=h.i0;have j:(0:Rat)<=(a:Rat):=by exact_mod_cast ha
 have l:(0:Rat)<=(b:Rat):=by exact_mod_cast hb
 have p1:0<=z1.im*(a:Rat):=aaX (Rat.le_of_lt C) j;have M:0<=z0.im*(b:Rat):=aaX (Rat.le_of_lt D) l;rcases B with h|h
 .have:(0:Rat)<(a:Rat):=by exact_mod_cast (show 0<a by omega)
  have:=aer C this
  push_cast
  grind
 .have:(0:Rat)<(b:Rat):=by exact_mod_cast (show 0<b by omega)
  have:=aer D this
  push_cast
  grind
def FU.one{S}(h:Seen M0 M1 v z1 z0)(hS:Wh (M0*(M1*S)) (q2 854))(l:S≠GQ.i 0 0){A}(B:∀k,A k=v/S\/A k=GQ.i 0 0\/A k=GQ.i 0 0-v/S):FU (M0*(M1*S)) A:=by
 have hc:=aeQ (x:=v) l;have j:Wh (M0*(M1*S)*(v/S)) (q2 854):=by
  have e:M0*(M1*S)*(v/S)=M0*(M1*v):=by
   rw[GQ.cK,GQ.cK,GQ.dX S,hc]
  rw[e];exact h.num
 refine⟨h.mm l,gI hS aa,fun k=> ?_⟩;rcases B k with e|e|e<;>rw[e]
 .exact gI j aa
 .rw[GQ.bL];exact gG _
 .rw[GQ.kW,GQ.bL];exact gI (KF j) aa
def Seen.bcg(h:Seen M0 M1 v z1 z0){r}(Y:0<=r)(Z:r<=1000):∃K,K≠GQ.i 0 0/\Wh K (q2 1274)/\
  Wh (K*(v/(z1+z1*(z0+GQ.i r 0*GQ.i 3 0)/(z1+(z0+GQ.i r 0*GQ.i 3 0))))) (q2 1274)/\
  Wh (K*(v/(z1+z1*(z0+GQ.i r 0*GQ.i 3 0)/(z1+(z0+GQ.i r 0*GQ.i 3 0)))*(z0+GQ.i r 0*GQ.i 3 0)/(z1+(z0+GQ.i r 0*GQ.i 3 0)))) (q2 1274)/\
  Wh (K*(v/(z1+z1*(z0+GQ.i r 0*GQ.i 3 0)/(z1+(z0+GQ.i r 0*GQ.i 3 0)))*z1/(z1+(z0+GQ.i r 0*GQ.i 3 0)))) (q2 1274)/\
  Bd (z1*(z0+GQ.i r 0*GQ.i 3 0)/(z1+(z0+GQ.i r 0*GQ.i 3 0))) 2600/\z1+(z0+GQ.i r 0*GQ.i 3 0)≠GQ.i 0 0/\z1+z1*(z0+GQ.i r 0*GQ.i 3 0)/(z1+(z0+GQ.i r 0*GQ.i 3 0))≠GQ.i 0 0:=by
 have G:z0+GQ.i r 0*GQ.i 3 0=z1*GQ.i 0 0+z0*GQ.i 1 0+GQ.i (r*3) 0:=by
  ext<;>simp only[GQ.aR,GQ.aQ,GQ.bf,GQ.aY,GQ.bU,GQ.bS]<;>push_cast<;>grind
 have T:z1+(z0+GQ.i r 0*GQ.i 3 0)=z1*GQ.i 1 0+z0*GQ.i 1 0+GQ.i (r*3) 0:=by
  ext<;>simp only[GQ.aR,GQ.aQ,GQ.bf,GQ.aY,GQ.bU,GQ.bS]<;>push_cast<;>grind
 have W:z1+(z0+GQ.i r 0*GQ.i 3 0)+(z0+GQ.i r 0*GQ.i 3 0)=z1*GQ.i 1 0+z0*GQ.i 2 0+GQ.i (r*3+r*3) 0:=by
  ext<;>simp only[GQ.aR,GQ.aQ,GQ.bf,GQ.aY,GQ.bU,GQ.bS]<;>push_cast<;>grind
 have w1:=h.lin (a:=0) (b:=1) (c:=r*3) aj aj aa;have w2:=h.lin (a:=1) (b:=1) (c:=r*3) aj aj aa;have I:=h.lin (a:=1) (b:=2) (c:=r*3+r*3) aj aj aa;have n1:=h.ne (a:=0) (b:=1) (c:=r*3) aj aj (Or.inr aj);have n2:=h.ne (a:=1) (b:=1) (c:=r*3) aj aj (Or.inl aj);have n3:=h.ne (a:=1) (b:=2) (c:=r*3+r*3) aj aj (Or.inl aj);rw[<-G] at w1 n1;rw[<-T] at w2 n2;rw[<-W] at I n3;have O:z1≠GQ.i 0 0:=KD h.i1;generalize z0+GQ.i r 0*GQ.i 3 0=w at w1 n1 w2 n2 I n3⊢;generalize R:z1+w=both at w2 n2 I n3⊢;have J:=aeQ (x:=z1*w) n2;generalize z1*w/both=t at J⊢;have Q:Bd t 2600:=by
  refine oG (N:=M1*z1*(M0*(M1*w))) (M:=M1*(M0*(M1*both))) (eD h.wz1 w1) (eD h.w1 w2) (GQ.ik h.m1 (h.mm n2)) ?_ aa aa
  .have H:t*(M1*(M0*(M1*both)))=M1*(M0*M1)*(t*both):=by ext<;>simp only[GQ.aR,GQ.aQ]<;>grind
   rw[H,J];ext<;>simp only[GQ.aR,GQ.aQ]<;>grind
 have j:(z1+t)*both=z1*(both+w):=by
  have:(z1+t)*both=z1*both+t*both:=by ext<;>simp only[GQ.aR,GQ.aQ,GQ.bf,GQ.aY]<;>grind
  rw[this,J,GQ.oO]
 have C:z1+t≠GQ.i 0 0:=by
  intro e;rw[e,GQ.eO] at j;exact GQ.ik O n3 j.symm
 have i1:=aeQ (x:=v) C;have F:=C;generalize z1+t=S at i1 j C F⊢;generalize v/S=i at i1⊢;have hi:i*(z1*(both+w))=v*both:=by rw[<-j,<-GQ.cK,i1]
 have P:=aeQ (x:=i*w) n2;have L:=aeQ (x:=i*z1) n2;generalize i*w/both=o at P⊢;generalize i*z1/both=q at L⊢;have V:o*(z1*(both+w))=v*w:=by
  refine aeZ (c:=both) ?_ n2;have H:o*(z1*(both+w))*both=o*both*(z1*(both+w)):=by rw[GQ.cK,GQ.dX (z1*(both+w)),<-GQ.cK]
  have U:v*w*both=v*both*w:=by rw[GQ.cK,GQ.dX w,<-GQ.cK]
  rw[H,P,U,<-hi,GQ.cK,GQ.cK,GQ.dX w]
 have hq:q*(both+w)=v:=by
  refine aeZ (c:=both) ?_ n2;have H:q*(both+w)*both=q*both*(both+w):=by rw[GQ.cK,GQ.dX (both+w),<-GQ.cK]
  rw[H,L,GQ.cK,hi]
 have B:Wh (M1*z1*(M0*(M1*(both+w)))*i) (q2 1274):=by
  have e:M1*z1*(M0*(M1*(both+w)))*i=M1*v*(M0*(M1*both)):=by
   have H:M1*z1*(M0*(M1*(both+w)))*i=M1*(M0*M1)*(i*(z1*(both+w))):=by
    generalize both+w=s;ext<;>simp only[GQ.aR,GQ.aQ]<;>grind
   rw[H,hi];ext<;>simp only[GQ.aR,GQ.aQ]<;>grind
  rw[e];exact gI (eD h.wv w2) aa
 have D:Wh (M1*z1*(M0*(M1*(both+w)))*o) (q2 1274):=by
  have e:M1*z1*(M0*(M1*(both+w)))*o=M1*v*(M0*(M1*w)):=by
   have H:M1*z1*(M0*(M1*(both+w)))*o=M1*(M0*M1)*(o*(z1*(both+w))):=by
    generalize both+w=s;ext<;>simp only[GQ.aR,GQ.aQ]<;>grind
   rw[H,V];ext<;>simp only[GQ.aR,GQ.aQ]<;>grind
  rw[e];exact gI (eD h.wv w1) aa
 have l:Wh (M1*z1*(M0*(M1*(both+w)))*q) (q2 1274):=by
  have e:M1*z1*(M0*(M1*(both+w)))*q=M1*z1*(M0*(M1*v)):=by
   have H:M1*z1*(M0*(M1*(both+w)))*q=M1*z1*(M0*M1)*(q*(both+w)):=by
    generalize both+w=s;ext<;>simp only[GQ.aR,GQ.aQ]<;>grind
   rw[H,hq];ext<;>simp only[GQ.aR,GQ.aQ]<;>grind
  rw[e];exact gI (eD h.wz1 h.num) aa
 exact⟨M1*z1*(M0*(M1*(both+w))),GQ.ik (GQ.ik h.m1 O) (h.mm n3),gI (eD h.wz1 I) aa,B,D,l,Q,n2,F⟩
theorem Seen.cur(h:Seen M0 M1 v z1 z0)(kind){r}(G:0<=r)(H:r<=1000):∃K,FU K (gP kind v z1 z0 (GQ.i r 0)):=by
 by_cases j:kind<=3
 .have e:z1*GQ.i 2 0+z0+GQ.i r 0*GQ.i 3 0=z1*GQ.i 2 0+z0*GQ.i 1 0+GQ.i (r*3) 0:=by
   ext<;>simp only[GQ.aR,GQ.aQ,GQ.bf,GQ.aY,GQ.bU,GQ.bS]<;>push_cast<;>grind
  refine⟨_,FU.one h (h.lin (a:=2) (b:=1) (c:=r*3) aj aj aa) (h.ne aj aj (Or.inl aj)) (fun k=> ?_)⟩
  left;unfold gP;rw[ι j,e]
 by_cases C:kind<=6
 .have e:z1*GQ.i 2 0+GQ.i r 0=z1*GQ.i 2 0+z0*GQ.i 0 0+GQ.i r 0:=by
   ext<;>simp only[GQ.aR,GQ.aQ,GQ.bf,GQ.aY,GQ.bU,GQ.bS]<;>push_cast<;>grind
  refine⟨_,FU.one h (h.lin (a:=2) (b:=0) (c:=r) aj aj aa) (h.ne aj aj (Or.inl aj)) (fun k=> ?_)⟩;unfold gP;rw[θ j,ι C,e];split
  .right;left;rfl
  .split
   .left;rfl
   .right;right;rfl
 by_cases F:kind<=9
 .obtain⟨K,k0,I,B,D,l,_⟩:=h.bcg G H;unfold gP;simp only[θ j,θ C,ι F];have neg {x y:GQ} (J:Wh (x*y) (q2 1274)):Wh (x*(GQ.i 0 0-y)) (q2 1278):=by
   rw[GQ.kW,GQ.bL];exact gI (KF J) aa
  refine⟨K,k0,gI I aa,fun k=> ?_⟩;split
  .exact neg l
  .split
   .exact gI B aa
   .exact neg D
 .have e:z1+GQ.i r 0=z1*GQ.i 1 0+z0*GQ.i 0 0+GQ.i r 0:=by
   ext<;>simp only[GQ.aR,GQ.aQ,GQ.bf,GQ.aY,GQ.bU,GQ.bS]<;>push_cast<;>grind
  refine⟨_,FU.one h (h.lin (a:=1) (b:=0) (c:=r) aj aj aa) (h.ne aj aj (Or.inl aj)) (fun k=> ?_)⟩;unfold gP;rw[θ j,θ C,θ F,e];split
  .left;rfl
  .right;left;rfl
def FU.bd{K A}(h:FU K A)(k):Bd (A k) 2600:=oG (N:=K*A k) (M:=K) (h.wa k) h.wk h.k0 (GQ.dX _ _) aa aa
def Seen.bd(h:Seen M0 M1 v z1 z0)(kind){r}(l:0<=r)(j:r<=1000)(k):Bd (gP kind v z1 z0 (GQ.i r 0) k) 2600:=by
 obtain⟨K,J⟩:=h.cur kind l j;exact J.bd k
def Seen.neA(h:Seen M0 M1 v z1 z0)(r):z1*GQ.i 2 0+z0+GQ.i r 0*GQ.i 3 0≠GQ.i 0 0:=by
 have e:z1*GQ.i 2 0+z0+GQ.i r 0*GQ.i 3 0=z1*GQ.i 2 0+z0*GQ.i 1 0+GQ.i (r*3) 0:=by
  ext<;>simp only[GQ.aR,GQ.aQ,GQ.bf,GQ.aY,GQ.bU,GQ.bS]<;>push_cast<;>grind
 rw[e];exact h.ne aj aj (Or.inl aj)
def Seen.neB(h:Seen M0 M1 v z1 z0)(r):z1*GQ.i 2 0+GQ.i r 0≠GQ.i 0 0:=by
 have e:z1*GQ.i 2 0+GQ.i r 0=z1*GQ.i 2 0+z0*GQ.i 0 0+GQ.i r 0:=by
  ext<;>simp only[GQ.aR,GQ.aQ,GQ.bf,GQ.aY,GQ.bU,GQ.bS]<;>push_cast<;>grind
 rw[e];exact h.ne aj aj (Or.inl aj)
def Seen.neD(h:Seen M0 M1 v z1 z0)(r):z1+GQ.i r 0≠GQ.i 0 0:=by
 have e:z1+GQ.i r 0=z1*GQ.i 1 0+z0*GQ.i 0 0+GQ.i r 0:=by
  ext<;>simp only[GQ.aR,GQ.aQ,GQ.bf,GQ.aY,GQ.bU,GQ.bS]<;>push_cast<;>grind
 rw[e];exact h.ne aj aj (Or.inl aj)
def Seen.VO(h:Seen M0 M1 v z1 z0){r}(B:0<=r)(l:r<=1000):
  Bd (v/(z1+z1*(z0+GQ.i r 0*GQ.i 3 0)/(z1+(z0+GQ.i r 0*GQ.i 3 0)))) 2600/\
  Bd (v/(z1+z1*(z0+GQ.i r 0*GQ.i 3 0)/(z1+(z0+GQ.i r 0*GQ.i 3 0)))*(z0+GQ.i r 0*GQ.i 3 0)/(z1+(z0+GQ.i r 0*GQ.i 3 0))) 2600/\
  Bd (v/(z1+z1*(z0+GQ.i r 0*GQ.i 3 0)/(z1+(z0+GQ.i r 0*GQ.i 3 0)))*z1/(z1+(z0+GQ.i r 0*GQ.i 3 0))) 2600/\
  Bd (z1*(z0+GQ.i r 0*GQ.i 3 0)/(z1+(z0+GQ.i r 0*GQ.i 3 0))) 2600/\z1+(z0+GQ.i r 0*GQ.i 3 0)≠GQ.i 0 0/\z1+z1*(z0+GQ.i r 0*GQ.i 3 0)/(z1+(z0+GQ.i r 0*GQ.i 3 0))≠GQ.i 0 0:=by
 obtain⟨K,k0,j,a,b,c,d,e,f⟩:=h.bcg B l;exact⟨oG a j k0 (GQ.dX _ _) aa aa,oG b j k0 (GQ.dX _ _) aa aa,oG c j k0 (GQ.dX _ _) aa aa,d,e,f⟩
end
structure lD (nb nl:Nat) (f:dZ):Prop where
 r:0<=f.r/\f.r<=1000
 kind:0<=f.kind/\f.kind<=10
 lk:f.line=ε->1<=f.kind
 line:f.line=ε->(0<=f.obj/\f.obj<nl)/\(2<=f.den/\f.den<=16)/\1<=f.num/\f.num<=f.den-1
 bus:f.line=ζ->1<=f.kind->0<=f.obj/\f.obj<nb
theorem afk{nb nl f}(h:iF nb nl f=0):lD nb nl f:=by
 unfold iF at h;by_cases D:f=⟨0,ζ,0,0,0,0⟩
 .subst D;exact⟨⟨aj,aj⟩,⟨aj,aj⟩,(fun e=>by cases e),(fun e=>by cases e),fun _ e=>absurd e (show ¬(1:Int)<=0 by decide)⟩
 rw[θ D] at h;by_cases l:btw f.kind 1 10=ε
 .rw[ι l] at h;rw[fe] at l;generalize hc:(if f.line=ε then (nl:Int) else (nb:Int))=j at h;by_cases B:btw f.obj 0 (j-1)=ε
  .rw[ι B] at h;rw[fe] at B;by_cases Z:f.line=ε/\(f.den<2\/16<f.den\/f.num<1\/f.den-1<f.num)
   .rw[ι Z] at h;exact absurd h aj
   rw[θ Z] at h;by_cases hb:f.line=ζ/\(f.num≠0\/f.den≠0)
   .rw[ι hb] at h;exact absurd h aj
   rw[θ hb] at h;by_cases C:btw f.r 0 1000=ε
   .rw[fe] at C;refine⟨C,aa,fun _=>l.1,fun e=> ?_,fun e _=> ?_⟩
    .rw[ι e] at hc;have:¬(f.den<2\/16<f.den\/f.num<1\/f.den-1<f.num):=fun x=>Z ⟨e,x⟩;omega
    .rw[θ (by rw[e];decide)] at hc;omega
   .rw[θ C] at h;exact absurd h aj
  .rw[θ B] at h;exact absurd h aj
 .rw[θ l] at h;exact absurd h aj
structure iD (x:BrD):Prop where
 a:x.a<17
 b:x.b<=17
 n:1<=x.n/\x.n<=15
 d:1<=x.d/\x.d<=16
 z0:okZ x.z0=ε
 z1:okZ x.z1=ε
 emf:0<=x.emf/\x.emf<=1000000
section
variable {s:StD} {p:dA} {f:dZ}
def j3(h:iT s)(p){k}(j:k<s.buses.length):0<=(groups s p).getD k 0/\((groups s p).getD k 0).toNat<4:=by
 have l:=h.groups p k (by rw[j5];exact j);have:=h.nb;omega
theorem Ka(h:iT s)(p){i}(hi:i<s.bays.length)(j:(sides s p i).1.1=1):(sides s p i).1.2.toNat<4:=by
 have C:=h.link hi;unfold sides at j⊢;by_cases l:(s.bays.getD i η).kind=3
 .rw[ι l];exact(j3 h p (h.bus hi (k:=0) aa).2).2
 .rw[θ l] at j⊢;simp only[] at j⊢;unfold qV at j⊢;split
  .exact(j3 h p (h.bus hi (k:=0) aa).2).2
  .split
   .rename_i B
    exact(j3 h p (h.bus hi (k:=1) B.1).2).2
   .decide
theorem uY(h:iT s)(p){i}(hi:i<s.bays.length)(j:lV s p i=ε):13<=iw s p i/\iw s p i<17:=by
 unfold lV at j;simp only[υ,Θ] at j;have:=Ka h p hi j.2;unfold iw;omega
theorem Ot{x}(h:bZ x=ε)(j:x.kind=3):okZ x.z=ε:=by
 unfold bZ at h;rw[ι j] at h;simp only[υ] at h;exact h.1.1
theorem Qu{nl ns x}(h:jc nl ns x=0)(j:x.kind=2):0<=x.obj/\x.obj<ns:=by
 unfold jc at h;rw[θ aa,ι j] at h;split at h
 .rename_i hb
  rw[fe] at hb;omega
 .exact absurd h aj
theorem MF{nl ns x}(h:jc nl ns x=0)(j:x.kind=1):0<=x.obj/\x.obj<nl:=by
 unfold jc at h;rw[ι j] at h;split at h
 .rename_i hb
  rw[fe] at hb;omega
 .exact absurd h aj
theorem IW{x}(h:bZ x=ε):0<=x.en/\x.en<=1:=by
 unfold bZ at h;simp only[υ] at h;have j:=h.2.1.1.1;rw[fe] at j;split at j<;>omega
theorem xe(h:iT s){i}(hi:i<s.bays.length){b}(hb:fV s p i=γ b):iD b/\13<=b.a/\(b.b=17\/13<=b.b):=by
 unfold fV at hb;simp only[] at hb;split at hb
 .rename_i D
  have hn:=uY h p hi D;split at hb
  .rename_i j
   injection hb with hb;subst hb;have F:=Qu (h.obj i hi) j;have hs:=h.src (s.bays.getD i η).obj.toNat aa;unfold jE at hs;simp only[υ] at hs;have U:=fe.1 hs.1.1;exact⟨⟨hn.2,ag,ag,ag,hs.2,hs.1.2,⟨by simp only[];omega,by simp only[];omega⟩⟩,hn.1,Or.inl rfl⟩
  .split at hb
   .rename_i j
    injection hb with hb;subst hb;have B:=Ot (h.rng i hi) j.1;have C:=h.link hi;have G:=C.2.1 j.1;have H:=j3 h p (h.bus hi (k:=1) aa).2;have l:(sides s p i).2.2=(groups s p).getD (fQ s i 1) 0:=by unfold sides;rw[ι j.1];rfl
    refine⟨⟨hn.2,?_,ag,ag,B,B,ag⟩,hn.1,Or.inr ?_⟩
    .simp only[l];omega
    .simp only[l];omega
   .cases hb
 .cases hb
theorem rP(h:iT s){l e}(Z:l<6)(U:e<=1):∀n,n<=s.bays.length->vD s p l e n<17/\vD s p l e n≠12
 |0,_=>by
  show 2*l+e<17/\2*l+e≠12;omega
 |n+1,hn=>by
  show(if mE s p l e n=ε then iw s p n else vD s p l e n)<17/\(if mE s p l e n=ε then iw s p n else vD s p l e n)≠12;split
  .rename_i j
   unfold mE at j;simp only[υ] at j;have:=uY h p (i:=n) aa j.1.1.1;omega
  .exact rP h Z U n aa
theorem wI(h:iT s)(D:lD s.buses.length s.lines.length f){l e}(Z:l<s.lines.length)(U:e<=1):iD (half s p f l e):=by
 have G:=h.nl;have j:=h.line l Z;have C:=rP (p:=p) h (l:=l) (e:=e) aa U _ (κ _);have F:=rP (p:=p) h (l:=l) (e:=1-e) aa aa _ (κ _);unfold half;simp only[];split
 .rename_i B
  unfold iB at B;simp only[υ,Θ] at B;have:=D.line B.1;refine⟨C.1,ag,?_,by simp only[];omega,j.2,j.1,ag⟩;simp only[];split<;>omega
 .exact⟨C.1,aaH F.1,ag,ag,j.2,j.1,ag⟩
def Df(h:iT s):∀n,n<=s.bays.length->(fM s p n).length<=n/\∀b∈fM s p n,iD b
 |0,_=>⟨κ _,by simp[fM]⟩
 |n+1,hn=>by
  have B:=Df h n aa;show(fM s p n++(fV s p n).toList).length<=n+1/\∀b∈fM s p n++(fV s p n).toList,iD b;cases hb:fV s p n with
  |none=>exact⟨ae,by simpa using B.2⟩
  |some c=>
   refine⟨ae,fun b j=> ?_⟩;rw[aag] at j;rcases j with l|l
   .exact B.2 b l
   .simp only[Option.toList_some,Z6] at l;subst l;exact(xe h aa hb).1
theorem Ia(l):(jg s p f l).length=if iB f l=ε then 2 else 1:=by
 unfold jg;split<;>rfl
theorem JP{l D}(h:iB f l=ε)(G:iB f D=ε):l=D:=by
 unfold iB at h G;simp only[υ,Θ] at h G;omega
theorem Ao(h:iT s)(j:lD s.buses.length s.lines.length f):∀n,n<=s.lines.length->((eU s p f n).length<=n+1/\((∀l,l<n->iB f l=ζ)->(eU s p f n).length<=n))/\∀b∈eU s p f n,iD b
 |0,_=>⟨⟨by simp[eU],by simp[eU]⟩,by simp[eU]⟩
 |n+1,hn=>by
  have B:=Ao h j n aa;have D:=Ia (s:=s) (p:=p) (f:=f) n;show((eU s p f n++jg s p f n).length<=n+1+1/\(_->(eU s p f n++jg s p f n).length<=n+1))/\∀b∈eU s p f n++jg s p f n,iD b;rw[q8,D];refine⟨⟨?_,fun C=> ?_⟩,fun b hb=> ?_⟩
  .split
   .rename_i C
    have:=B.1.2 (fun l Z=>by
     cases F:iB f l with
     |false=>rfl
     |true=>have:=JP C F;omega)
    omega
   .have:=B.1.1;omega
  .rw[θ (by rw[C n aa];decide)];have:=B.1.2 (fun l Z=>C l aa);omega
  .rw[aag] at hb;rcases hb with hb|hb
   .exact B.2 b hb
   .unfold jg at hb;split at hb
    .simp only[ψ,RS,aaU] at hb;rcases hb with rfl|rfl
     .exact wI h j aa aa
     .exact wI h j aa aa
    .simp only[ψ,RS,aaU] at hb;subst hb;exact wI h j aa aa
theorem qQ(h:iT s)(j:lD s.buses.length s.lines.length f):(bI s p f).length<=23/\∀b∈bI s p f,iD b:=by
 have B:=Df (p:=p) h _ (κ _);have l:=Ao (p:=p) h j _ (κ _);have:=h.nq;have:=h.nl;refine⟨by unfold bI;rw[q8];omega,fun b hb=> ?_⟩;rw[bI,aag] at hb;rcases hb with hb|hb
 .exact B.2 b hb
 .exact l.2 b hb
theorem E9(h:iT s)(j:lD s.buses.length s.lines.length f)(p):dK s p f<=17/\(f.kind≠0->dK s p f<17):=by
 unfold dK;split
 .omega
 .rename_i Z
  split
  .rename_i l;exact⟨aa,fun e=>absurd l e⟩
  .rename_i l
   have hb:=j.bus (by simpa using Z) (by have:=j.kind;omega);have:=j3 h p (k:=f.obj.toNat) aa;omega
end
inductive JoinD (bs:List BrD):Nat->Prop
 |neutral (b:BrD) (h:b∈bs) (hn:b.b=17):JoinD bs b.a
 |fro (b:BrD) (h:b∈bs) (hn:b.b≠17) (hq:JoinD bs b.b):JoinD bs b.a
 |fwd (b:BrD) (h:b∈bs) (hn:b.b≠17) (hp:JoinD bs b.a):JoinD bs b.b
noncomputable def lv (bs:List BrD) (k:Nat):Bool:= @decide (JoinD bs k) (Classical.propDecidable _)
section
variable {bs:List BrD}
theorem qj{k}:lv bs k=ε↔JoinD bs k:=by
 unfold lv;exact @decide_eq_true_iff _ (Classical.propDecidable _)
def JoinD.lt{k}(hb:∀b∈bs,iD b)(h:JoinD bs k):k<17:=by
 cases h with
 |neutral b h hn=>exact(hb b h).a
 |fro b h hn hq=>exact(hb b h).a
 |fwd b h hn hp=>have:=(hb b h).b;omega
def JoinD.live{L}(j:xG bs L)(hb:∀b∈bs,iD b){k}(h:JoinD bs k):L k=ε:=by
 induction h with
 |neutral b h hn=>exact(j.closed b h (Or.inl hn)).1 AbA
 |fro b h hn _ ih=>exact(j.closed b h (Or.inr (Or.inr ih))).1 AbA
 |fwd b h hn _ ih=>exact(j.closed b h (Or.inr (Or.inl ih))).2 hn
def VG{L}(hb:∀b∈bs,iD b)(B:xG bs L)(j:∀k,L k=ε->JoinD bs k):L=lv bs:=by
 funext k;cases h:L k with
 |true=>exact(qj.2 (j k h)).symm
 |false=>
  cases l:lv bs k with
  |false=>rfl
  |true=>rw[(qj.1 l).live B hb] at h;cases h
def sI(hb:∀b∈bs,iD b){k}(h:lv bs k=ε):k<17:=(qj.1 h).lt hb
def yE(hb:∀b∈bs,iD b):xG bs (lv bs):=by
 refine⟨fun b h Z=> ?_,?_⟩
 .rcases Z with Z|Z|Z
  .exact⟨fun _=>qj.2 (.neutral b h Z),fun hn=>absurd Z hn⟩
  .refine⟨fun _=>Z,fun hn=>qj.2 (.fwd b h hn (qj.1 Z))⟩
  .have:b.b≠17:=by have:=sI hb Z;omega
   exact⟨fun _=>qj.2 (.fro b h this (qj.1 Z)),fun _=>Z⟩
 .cases h:lv bs 17 with
  |false=>rfl
  |true=>have:=sI hb h;omega
end
def cnt (L:Nat->Bool):Nat->Nat
 |0=>0
 |k+1=>cnt L k+(if L k=ε then 1 else 0)
def rwx (L:Nat->Bool) (k:Nat):Nat:=if L k=ε then cnt L k else 0
section
variable {L:Nat->Bool}
def cnt_mono:∀{j k:Nat},j<=k->cnt L j<=cnt L k
 |j,0,h=>by rw[show j=0 by omega];exact κ _
 |j,k+1,h=>by
  by_cases e:j=k+1
  .rw[e];exact κ _
  .have:=cnt_mono (j:=j) (k:=k) aa;show _<=cnt L k+_;omega
def cnt_lt{j k}(l:L j=ε)(h:j<k):cnt L j<cnt L k:=by
 have C:cnt L (j+1)<=cnt L k:=cnt_mono h;have B:cnt L (j+1)=cnt L j+(if L j=ε then 1 else 0):=rfl;rw[ι l] at B;omega
def JF(k):cnt L k<=k:=by
 induction k with
 |zero=>exact κ _
 |succ k ih=>
  show cnt L k+_<=_;split<;>omega
def Gd:∀{k i:Nat},i<cnt L k->∃j,j<k/\L j=ε/\cnt L j=i
 |0,i,h=>absurd h (by show ¬i<0;omega)
 |k+1,i,h=>by
  have G:i<cnt L k+(if L k=ε then 1 else 0):=h;by_cases B:i<cnt L k
  .obtain⟨j,F,C,D⟩:=Gd B;exact⟨j,aa,C,D⟩
  .by_cases l:L k=ε
   .rw[ι l] at G;exact⟨k,aa,l,aa⟩
   .rw[θ l] at G;omega
theorem ae2(h:∀k,L k=ε->k<17):Rwx L (rwx L) (cnt L 18):=by
 refine⟨fun k l=> ?_,fun j k C l e=> ?_,fun i hi=> ?_⟩
 .unfold rwx;rw[ι l];exact cnt_lt l (by have:=h k l;omega)
 .unfold rwx at e;rw[ι C,ι l] at e;by_cases D:j<k
  .have:=cnt_lt C D;omega
  .by_cases B:k<j
   .have:=cnt_lt l B;omega
   .omega
 .obtain⟨j,_,B,F⟩:=Gd hi;exact⟨j,B,by unfold rwx;rw[ι B];exact F⟩
def EG(h:L 17=ζ):cnt L 18<=17:=by
 show cnt L 17+(if L 17=ε then 1 else 0)<=17;rw[h];have:=JF (L:=L) 17;simpa using this
end
def BrD.zs (b:BrD) (sq:Nat):GQ:=zq (if sq=0 then b.z0 else b.z1) b.n b.d
def BrD.nb (sq:Nat) (b:BrD):Nb:=⟨b.a,b.b,GQ.i 1 0/b.zs sq,GQ.i b.emf 0⟩
def used (L:Nat->Bool) (b:BrD):Bool:=L b.a&&decide (b.a≠b.b)
def usd (L:Nat->Bool) (sq:Nat) (bs:List BrD):List Nb:=(bs.filter (used L)).map (BrD.nb sq)
def yj{a b:Rat}(ha:0<a)(hb:0<b):0<a/b:=by rw[Rat.div_def];exact aer ha (Rat.inv_pos.2 hb)
theorem K8(z:Imp){n d}(F:okZ z=ε)(hn:1<=n/\n<=15)(hd:1<=d/\d<=16):0<(zq z n d).im/\∃j:GQ,j≠GQ.i 0 0/\Wh j 32000/\zq z n d*GQ.i d 0=j:=by
 have l:=pU.1 F;have B:(0:Rat)<(d:Rat):=by exact_mod_cast (show 0<d by omega)
 have I:1<=n*z.x:=by have:=abI hn.1 l.2.1 aa aa;omega
 have P:n*z.x<=15000:=by have:=abI hn.2 l.2.2 aa aa;omega
 have G:0<=n*z.r:=abH aa l.1.1;have D:n*z.r<=15000:=by have:=abI hn.2 l.1.2 l.1.1 aa;omega
 refine⟨?_,GQ.i (n*z.r) (n*z.x),?_,⟨_,_,rfl,aa⟩,?_⟩
 .show 0<((n*z.x:Int):Rat)/(d:Rat);have:(0:Rat)<((n*z.x:Int):Rat):=by exact_mod_cast (show 0<n*z.x by omega)
  exact yj this B
 .intro e;have C:((n*z.x:Int):Rat)=((0:Int):Rat):=congrArg GQ.im e;have H:n*z.x=0:=by exact_mod_cast C
  omega
 .unfold zq;ext<;>simp only[GQ.aR,GQ.aQ,GQ.bU,GQ.bS]<;>grind
section
variable {b:BrD}
def iD.zi(h:iD b)(sq):okZ (if sq=0 then b.z0 else b.z1)=ε:=by split;exact h.z0;exact h.z1
def iD.ne(h:iD b)(sq):b.zs sq≠GQ.i 0 0:=KD (K8 _ (h.zi sq) h.n h.d).1
def QS{z}(h:z≠GQ.i 0 0):GQ.i 1 0/z*z=GQ.i 1 0:=aeQ h
def vg{z}(h:0<z.im):(GQ.i 1 0/z).im<0:=by
 have j:=KD h;have hn:=Ri j;show(((0:Int):Rat)*z.re-((1:Int):Rat)*z.im)/z.nrm<0;have e:(((0:Int):Rat)*z.re-((1:Int):Rat)*z.im)/z.nrm= -(z.im/z.nrm):=ak;rw[e];have:=yj h hn;grind
def iD.sz(h:iD b)(sq):QR (b.nb sq):=by
 obtain⟨D,j,l,C,B⟩:=K8 _ (h.zi sq) h.n h.d;have hd:=h.d;refine⟨⟨j,b.d.toNat,l,C,?_,aa⟩,nA (by have:=h.emf;show b.emf.natAbs<=_;omega)⟩;show GQ.i 1 0/b.zs sq*j=_;rw[<-B,<-GQ.cK];show GQ.i 1 0/b.zs sq*b.zs sq*_=_;rw[QS (h.ne sq),GQ.jJ,show((b.d.toNat:Nat):Int)=b.d by omega]
def iD.im(h:iD b)(sq):(b.nb sq).y.im<0:=vg (K8 _ (h.zi sq) h.n h.d).1
end
theorem xP{bs}(hb:∀b∈bs,iD b)(sq):xU (lv bs) (rwx (lv bs)) (cnt (lv bs) 18) (usd (lv bs) sq bs):=by
 have D:=yE hb;refine⟨ae2 (fun k j=>sI hb j),⟨D.none,fun c hc=> ?_⟩,fun c hc=> ?_,fun k j=> ?_⟩
 .obtain⟨b,C,rfl⟩:=aad.1 hc;obtain⟨F,l⟩:=abb.1 C;unfold used at l;simp only[υ,Θ] at l;refine⟨l.1,?_,l.2⟩;by_cases e:b.b=17
  .exact Or.inl e
  .exact Or.inr ((D.closed b F (Or.inr (Or.inl l.1))).2 e)
 .obtain⟨b,C,rfl⟩:=aad.1 hc;exact(hb b (abb.1 C).1).im sq
 .replace j:=qj.1 j;have mem {b:BrD} (h:b∈bs) (ha:JoinD bs b.a) (B:b.a≠b.b):b.nb sq∈usd (lv bs) sq bs:=
   aaP (abb.2 ⟨h,by unfold used;simp[qj.2 ha,B]⟩)
  induction j with
  |neutral b h hn=>exact JoinN.neutral (b.nb sq) (mem h (.neutral b h hn) AbA) hn
  |fro b h hn hq ih=>
   by_cases e:b.a=b.b
   .rw[e];exact ih
   .exact JoinN.fro (b.nb sq) (mem h (.fro b h hn hq) e) hn ih
  |fwd b h hn hp ih=>
   by_cases e:b.a=b.b
   .rw[<-e];exact ih
   .exact JoinN.fwd (b.nb sq) (mem h hp e) hn ih
theorem Om{bs}(hb:∀b∈bs,iD b)(Z:bs.length<=23)(L sq):(usd L sq bs).length<=23/\∀b∈usd L sq bs,QR b:=by
 refine⟨?_,fun c hc=> ?_⟩
 .unfold usd;rw[aaM];have:=List.length_filter_le (used L) bs;omega
 .obtain⟨b,j,rfl⟩:=aad.1 hc;exact(hb b (abb.1 j).1).sz sq
def KV{s i}(hi:i<s.size):(s[i]'hi).toNat=vC s i:=by
 have j:i<s.data.size:=hi;show(s.data[i]'j).toNat=(s.data.getD i 0).toNat;rw[Array.getD,dif_pos j];rfl
def jl{s k}(h:∀j,j<k->iA s j=ε)(g:iA s k=ε)(j)(l:j<k+1):iA s j=ε:=by
 by_cases e:j=k
 .rw[e];exact g
 .exact h j aa
def Cw(s i):vC s i<256:=(s.data.getD i 0).toNat_lt
def KE{s i l}(h:vC s i=l):iA s i=(dI l||(decide (0<i)&&eG l)):=by rw[<-h];rfl
def nc0(l:Nat)(h:0<=l)(g:l<=47):decide ((97:Int)<=(l:Int))=ζ/\(¬(97:Int)<=(l:Int))/\decide ((65:Int)<=(l:Int))=ζ/\(¬(65:Int)<=(l:Int))/\decide ((48:Int)<=(l:Int))=ζ/\(¬(48:Int)<=(l:Int))/\decide ((l:Int)<=122)=ε/\(l:Int)<=122/\decide ((l:Int)<=90)=ε/\(l:Int)<=90/\decide ((l:Int)<=57)=ε/\(l:Int)<=57/\decide ((l:Int)<48)=ε/\(l:Int)<48/\decide ((57:Int)<(l:Int))=ζ/\(¬(57:Int)<(l:Int))/\((l:Int)==95)=ζ/\((l:Int) !=95)=ε/\(¬(l:Int)=95):=by
 refine⟨?_,?_,?_,?_,?_,?_,?_,?_,?_,?_,?_,?_,?_,?_,?_,?_,?_,?_,?_⟩<;>first|omega|(simp;omega)|simp
def nc1(l:Nat)(h:48<=l)(g:l<=57):decide ((97:Int)<=(l:Int))=ζ/\(¬(97:Int)<=(l:Int))/\decide ((65:Int)<=(l:Int))=ζ/\(¬(65:Int)<=(l:Int))/\decide ((48:Int)<=(l:Int))=ε/\(48:Int)<=(l:Int)/\decide ((l:Int)<=122)=ε/\(l:Int)<=122/\decide ((l:Int)<=90)=ε/\(l:Int)<=90/\decide ((l:Int)<=57)=ε/\(l:Int)<=57/\decide ((l:Int)<48)=ζ/\(¬(l:Int)<48)/\decide ((57:Int)<(l:Int))=ζ/\(¬(57:Int)<(l:Int))/\((l:Int)==95)=ζ/\((l:Int) !=95)=ε/\(¬(l:Int)=95):=by
 refine⟨?_,?_,?_,?_,?_,?_,?_,?_,?_,?_,?_,?_,?_,?_,?_,?_,?_,?_,?_⟩<;>first|omega|(simp;omega)|simp
def nc2(l:Nat)(h:58<=l)(g:l<=64):decide ((97:Int)<=(l:Int))=ζ/\(¬(97:Int)<=(l:Int))/\decide ((65:Int)<=(l:Int))=ζ/\(¬(65:Int)<=(l:Int))/\decide ((48:Int)<=(l:Int))=ε/\(48:Int)<=(l:Int)/\decide ((l:Int)<=122)=ε/\(l:Int)<=122/\decide ((l:Int)<=90)=ε/\(l:Int)<=90/\decide ((l:Int)<=57)=ζ/\(¬(l:Int)<=57)/\decide ((l:Int)<48)=ζ/\(¬(l:Int)<48)/\decide ((57:Int)<(l:Int))=ε/\(57:Int)<(l:Int)/\((l:Int)==95)=ζ/\((l:Int) !=95)=ε/\(¬(l:Int)=95):=by
 refine⟨?_,?_,?_,?_,?_,?_,?_,?_,?_,?_,?_,?_,?_,?_,?_,?_,?_,?_,?_⟩<;>first|omega|(simp;omega)|simp
def nc3(l:Nat)(h:65<=l)(g:l<=90):decide ((97:Int)<=(l:Int))=ζ/\(¬(97:Int)<=(l:Int))/\decide ((65:Int)<=(l:Int))=ε/\(65:Int)<=(l:Int)/\decide ((48:Int)<=(l:Int))=ε/\(48:Int)<=(l:Int)/\decide ((l:Int)<=122)=ε/\(l:Int)<=122/\decide ((l:Int)<=90)=ε/\(l:Int)<=90/\decide ((l:Int)<=57)=ζ/\(¬(l:Int)<=57)/\decide ((l:Int)<48)=ζ/\(¬(l:Int)<48)/\decide ((57:Int)<(l:Int))=ε/\(57:Int)<(l:Int)/\((l:Int)==95)=ζ/\((l:Int) !=95)=ε/\(¬(l:Int)=95):=by
 refine⟨?_,?_,?_,?_,?_,?_,?_,?_,?_,?_,?_,?_,?_,?_,?_,?_,?_,?_,?_⟩<;>first|omega|(simp;omega)|simp
def nc4(l:Nat)(h:95<=l)(g:l<=95):decide ((97:Int)<=(l:Int))=ζ/\(¬(97:Int)<=(l:Int))/\decide ((65:Int)<=(l:Int))=ε/\(65:Int)<=(l:Int)/\decide ((48:Int)<=(l:Int))=ε/\(48:Int)<=(l:Int)/\decide ((l:Int)<=122)=ε/\(l:Int)<=122/\decide ((l:Int)<=90)=ζ/\(¬(l:Int)<=90)/\decide ((l:Int)<=57)=ζ/\(¬(l:Int)<=57)/\decide ((l:Int)<48)=ζ/\(¬(l:Int)<48)/\decide ((57:Int)<(l:Int))=ε/\(57:Int)<(l:Int)/\((l:Int)==95)=ε/\((l:Int) !=95)=ζ/\(l:Int)=95:=by
 refine⟨?_,?_,?_,?_,?_,?_,?_,?_,?_,?_,?_,?_,?_,?_,?_,?_,?_,?_,?_⟩<;>first|omega|(simp;omega)|simp
def nc5(l:Nat)(h:97<=l)(g:l<=122):decide ((97:Int)<=(l:Int))=ε/\(97:Int)<=(l:Int)/\decide ((65:Int)<=(l:Int))=ε/\(65:Int)<=(l:Int)/\decide ((48:Int)<=(l:Int))=ε/\(48:Int)<=(l:Int)/\decide ((l:Int)<=122)=ε/\(l:Int)<=122/\decide ((l:Int)<=90)=ζ/\(¬(l:Int)<=90)/\decide ((l:Int)<=57)=ζ/\(¬(l:Int)<=57)/\decide ((l:Int)<48)=ζ/\(¬(l:Int)<48)/\decide ((57:Int)<(l:Int))=ε/\(57:Int)<(l:Int)/\((l:Int)==95)=ζ/\((l:Int) !=95)=ε/\(¬(l:Int)=95):=by
 refine⟨?_,?_,?_,?_,?_,?_,?_,?_,?_,?_,?_,?_,?_,?_,?_,?_,?_,?_,?_⟩<;>first|omega|(simp;omega)|simp
def nc6(l:Nat)(h:123<=l)(g:l<=255):decide ((97:Int)<=(l:Int))=ε/\(97:Int)<=(l:Int)/\decide ((65:Int)<=(l:Int))=ε/\(65:Int)<=(l:Int)/\decide ((48:Int)<=(l:Int))=ε/\(48:Int)<=(l:Int)/\decide ((l:Int)<=122)=ζ/\(¬(l:Int)<=122)/\decide ((l:Int)<=90)=ζ/\(¬(l:Int)<=90)/\decide ((l:Int)<=57)=ζ/\(¬(l:Int)<=57)/\decide ((l:Int)<48)=ζ/\(¬(l:Int)<48)/\decide ((57:Int)<(l:Int))=ε/\(57:Int)<(l:Int)/\((l:Int)==95)=ζ/\((l:Int) !=95)=ε/\(¬(l:Int)=95):=by
 refine⟨?_,?_,?_,?_,?_,?_,?_,?_,?_,?_,?_,?_,?_,?_,?_,?_,?_,?_,?_⟩<;>first|omega|(simp;omega)|simp
def Cy(s w):
  Calls prog 63 #[.string s] w fun e w'=>e=.returned (.bool (fT s))/\w'=w:=by
 by_cases h0:s.size=0\/12<s.size
 .have I:=aJ (yo h0);rcases h0 with h0|h0
  .have hs:s=ByteArray.empty:=by
    cases s with
    |mk d=>exact congrArg ByteArray.mk (acl h0)
   subst hs;go_enter aes,ad1;exact Ab5
  .have t1:decide ((s.size:Int)<1)=ζ:=ae;have t2:¬(s.size:Int)<1:=aa;have t3:decide ((12:Int)<(s.size:Int))=ε:=ae;have t4:(12:Int)<(s.size:Int):=aa;have t5:((s.size:Int)==0)=ζ:=by simp;intro e;rw[e] at h0;simp at h0
   have t6:¬(s.size:Int)=0:=aa;have t7:¬s=ByteArray.empty:=by intro e;rw[e] at h0;simp at h0
   clear h0;go_enter aes,ad1;exact Ab5
 .have hp:0<s.size:=aa;have hm:s.size<=12:=aa;have t1:decide ((s.size:Int)<1)=ζ:=ae;have t2:¬(s.size:Int)<1:=aa;have t3:decide ((12:Int)<(s.size:Int))=ζ:=ae;have t4:¬(12:Int)<(s.size:Int):=aa;have t5:((s.size:Int)==0)=ζ:=by simp;intro e;rw[e] at hp;simp at hp
  have t6:¬(s.size:Int)=0:=aa;have t7:¬s=ByteArray.empty:=by intro e;rw[e] at hp;simp at hp
  clear h0;go_enter aes,ad1;go_wp2_with fail
  go_loop [3] (fun i=>∃k:Nat,k<=s.size/\i=.int .i64 (k:Int)/\∀j,j<k->iA s j=ε) (fun i=>s.size-(intOf i).toNat)
  case atStart=>exact⟨0,aa,rfl,fun j hj=>absurd hj aa⟩
  case round=>
   exact Aaa
def Hq(s w):
  Calls prog 70 #[.string s] w fun e w'=>e=.returned (.bool (fT s))/\w'=w:=by
 by_cases h0:s.size=0\/12<s.size
 .have I:=aJ (yo h0);rcases h0 with h0|h0
  .have hs:s=ByteArray.empty:=by
    cases s with
    |mk d=>exact congrArg ByteArray.mk (acl h0)
   subst hs;go_enter aet,ad2;exact Ab5
  .have t1:decide ((s.size:Int)<1)=ζ:=ae;have t2:¬(s.size:Int)<1:=aa;have t3:decide ((12:Int)<(s.size:Int))=ε:=ae;have t4:(12:Int)<(s.size:Int):=aa;have t5:((s.size:Int)==0)=ζ:=by simp;intro e;rw[e] at h0;simp at h0
   have t6:¬(s.size:Int)=0:=aa;have t7:¬s=ByteArray.empty:=by intro e;rw[e] at h0;simp at h0
   clear h0;go_enter aet,ad2;exact Ab5
 .have hp:0<s.size:=aa;have hm:s.size<=12:=aa;have t1:decide ((s.size:Int)<1)=ζ:=ae;have t2:¬(s.size:Int)<1:=aa;have t3:decide ((12:Int)<(s.size:Int))=ζ:=ae;have t4:¬(12:Int)<(s.size:Int):=aa;have t5:((s.size:Int)==0)=ζ:=by simp;intro e;rw[e] at hp;simp at hp
  have t6:¬(s.size:Int)=0:=aa;have t7:¬s=ByteArray.empty:=by intro e;rw[e] at hp;simp at hp
  clear h0;go_enter aet,ad2;go_wp2_with fail
  go_loop [17] (fun i=>∃k:Nat,k<=s.size/\i=.int .i64 (k:Int)/\∀j,j<k->iA s j=ε) (fun i=>s.size-(intOf i).toNat)
  case atStart=>exact⟨0,aa,rfl,fun j hj=>absurd hj aa⟩
  case round=>
   exact Aaa
def bC(x lo hi w):
  Calls prog 109 #[.int .i64 x,.int .i64 lo,.int .i64 hi] w fun e w'=>e=.returned (.bool (btw x lo hi))/\w=w':=by
 go_enter func109,ntmps109;go_wp2
 .go_ret;simp_all [btw]
 .go_ret;simp_all [btw];omega
def dC(x lo hi w):
  Calls prog 116 #[.int .i64 x,.int .i64 lo,.int .i64 hi] w fun e w'=>e=.returned (.bool (btw x lo hi))/\w=w':=by
 go_enter func116,ntmps116;go_wp2
 .go_ret;simp_all [btw]
 .go_ret;simp_all [btw];omega
def Qq (z:Imp):Value:=.agg #[.int .i64 z.r,.int .i64 z.x]
theorem bK(z:Imp)(w):
  Calls prog 66 #[Qq z] w fun e w'=>e=.returned (.bool (okZ z))/\w'=w.alloc (.cells #[.int .i64 z.r,.int .i64 z.x] 54):=by
 obtain⟨r,x⟩:=z;unfold Qq;dsimp only;cases h:btw r 0 1000
 .have V:Hid (okZ ⟨r,x⟩=ζ):=aJ (by simp[okZ,h]);exact AaZ
 .have V:Hid (okZ ⟨r,x⟩=btw x 1 1000):=aJ (by simp[okZ,h]);exact AaZ
theorem bP(z:Imp)(w):
  Calls prog 115 #[Qq z] w fun e w'=>e=.returned (.bool (okZ z))/\w'=w.alloc (.cells #[.int .i64 z.r,.int .i64 z.x] 54):=by
 obtain⟨r,x⟩:=z;unfold Qq;dsimp only;cases h:btw r 0 1000
 .have V:Hid (okZ ⟨r,x⟩=ζ):=aJ (by simp[okZ,h]);exact AaW
 .have V:Hid (okZ ⟨r,x⟩=btw x 1 1000):=aJ (by simp[okZ,h]);exact AaW
def Rl (g:BV):Value:=.agg #[.string g.name,.int .i64 g.emf,.int .i64 g.z1.r,.int .i64 g.z1.x,.int .i64 g.z0.r,.int .i64 g.z0.x]
theorem yw(g w):
  CE 67 #[Rl g] w (.bool (jE g)):=by
 obtain⟨nm,emf,⟨r1,l⟩,⟨r0,j⟩⟩:=g;unfold Rl;dsimp only;cases h:btw emf 1 1000000
 .have V:Hid (jE ⟨nm,emf,⟨r1,l⟩,⟨r0,j⟩⟩=ζ):=aJ (by simp[jE,h]);go_enter aeu,ad3;(go_wp2_with (go_at_call 109;refine(bC _ _ _ _).mono ?_;rintro e w1 ⟨rfl,rfl⟩));go_ret;exact⟨aU V.symm,Ext.new _ _⟩
 .cases B:okZ ⟨r1,l⟩
  .have V:Hid (jE ⟨nm,emf,⟨r1,l⟩,⟨r0,j⟩⟩=ζ):=aJ (by simp[jE,h,B]);go_enter aeu,ad3;(go_wp2_with (first|(go_at_call 109;refine(bC _ _ _ _).mono ?_;rintro e w1 ⟨rfl,rfl⟩)|(go_at_call 66;refine(bK ⟨_,_⟩ _).mono ?_;rintro e w1 ⟨rfl,rfl⟩)));go_ret;exact⟨aU V.symm,(Ext.new _ _).trans (Ext.new _ _)⟩
  .have V:Hid (jE ⟨nm,emf,⟨r1,l⟩,⟨r0,j⟩⟩=okZ ⟨r0,j⟩):=aJ (by simp[jE,h,B]);go_enter aeu,ad3;(go_wp2_with (first|(go_at_call 109;refine(bC _ _ _ _).mono ?_;rintro e w1 ⟨rfl,rfl⟩)|(go_at_call 66;refine(bK ⟨_,_⟩ _).mono ?_;rintro e w1 ⟨rfl,rfl⟩)));go_ret;exact⟨aU V.symm,((Ext.new _ _).trans (Ext.new _ _)).trans (Ext.new _ _)⟩
def yK (b:gJ) (A:Option Addr) (n c:Nat):Value:=
 .agg #[.string b.name,.int .i64 b.kind,.int .i64 b.obj,.int .i64 b.en,.int .i64 b.z.r,.int .i64 b.z.x,.slice A n c,.bool b.closed,.int .i64 b.ct,.int .i64 b.vt,.int .i64 b.sat,.int .i64 b.travel]
theorem Im(b A n c w):
  CE 117 #[yK b A n c] w (.bool (bZ b)):=by
 obtain⟨nm,kd,obj,en,⟨r,x⟩,B,l,ct,vt,sat,j⟩:=b;unfold yK;dsimp only;by_cases G:kd=3
 .subst G;cases h:okZ ⟨r,x⟩
  .skip;have V:Hid (bZ ⟨nm,3,obj,en,⟨r,x⟩,B,l,ct,vt,sat,j⟩=ζ):=aJ (by simp[bZ,h]);exact AbD
  by_cases hv:vt=0
  .subst hv;cases D:btw en 0 0
   .skip;have V:Hid (bZ ⟨nm,3,obj,en,⟨r,x⟩,B,l,ct,0,sat,j⟩=ζ):=aJ (by simp[bZ,h,D]);exact AbD
   cases F:btw ct 1 100
   .skip;have V:Hid (bZ ⟨nm,3,obj,en,⟨r,x⟩,B,l,ct,0,sat,j⟩=ζ):=aJ (by simp[bZ,h,D,F]);exact AbD
   cases H:btw sat 0 16383
   .skip;have V:Hid (bZ ⟨nm,3,obj,en,⟨r,x⟩,B,l,ct,0,sat,j⟩=ζ):=aJ AcG;exact AbD
   have V:Hid (bZ ⟨nm,3,obj,en,⟨r,x⟩,B,l,ct,0,sat,j⟩=btw j 1 6):=aJ AcG;exact AbD
  have v1:((vt:Int)==0)=ζ:=ae;have M:((vt:Int) !=0)=ε:=ae;have V:Hid (bZ ⟨nm,3,obj,en,⟨r,x⟩,B,l,ct,vt,sat,j⟩=ζ):=aJ (by simp[bZ,h,hv]);exact AbD
 have C:((kd:Int)==3)=ζ:=ae;by_cases K:r=0/\x=0
 .obtain⟨rfl,rfl⟩:=K;cases h:btw vt 1 10000
  .skip;have V:Hid (bZ ⟨nm,kd,obj,en,⟨0,0⟩,B,l,ct,vt,sat,j⟩=ζ):=aJ (by simp[bZ,G,h]);exact Aaf
  by_cases I:kd=1
  .subst I;cases D:btw en 0 1
   .skip;have V:Hid (bZ ⟨nm,1,obj,en,⟨0,0⟩,B,l,ct,vt,sat,j⟩=ζ):=aJ (by simp[bZ,h,D]);exact Aaf
   cases F:btw ct 1 100
   .skip;have V:Hid (bZ ⟨nm,1,obj,en,⟨0,0⟩,B,l,ct,vt,sat,j⟩=ζ):=aJ (by simp[bZ,h,D,F]);exact Aaf
   cases H:btw sat 0 16383
   .skip;have V:Hid (bZ ⟨nm,1,obj,en,⟨0,0⟩,B,l,ct,vt,sat,j⟩=ζ):=aJ AcG;exact Aaf
   have V:Hid (bZ ⟨nm,1,obj,en,⟨0,0⟩,B,l,ct,vt,sat,j⟩=btw j 1 6):=aJ AcG;exact Aaf
  have N:((kd:Int)==1)=ζ:=ae;cases D:btw en 0 0
  .skip;have V:Hid (bZ ⟨nm,kd,obj,en,⟨0,0⟩,B,l,ct,vt,sat,j⟩=ζ):=aJ (by simp[bZ,G,h,I,D]);exact Aaf
  cases F:btw ct 1 100
  .skip;have V:Hid (bZ ⟨nm,kd,obj,en,⟨0,0⟩,B,l,ct,vt,sat,j⟩=ζ):=aJ (by simp[bZ,G,h,I,D,F]);exact Aaf
  cases H:btw sat 0 16383
  .skip;have V:Hid (bZ ⟨nm,kd,obj,en,⟨0,0⟩,B,l,ct,vt,sat,j⟩=ζ):=aJ (by simp[bZ,G,h,I,D,F,H]);exact Aaf
  have V:Hid (bZ ⟨nm,kd,obj,en,⟨0,0⟩,B,l,ct,vt,sat,j⟩=btw j 1 6):=aJ (by simp[bZ,G,h,I,D,F,H]);exact Aaf
 by_cases J:r=0
 .subst J;have L:¬x=0:=fun e=>K ⟨rfl,e⟩;have O:((x:Int)==0)=ζ:=by simp;exact L
  have V:Hid (bZ ⟨nm,kd,obj,en,⟨0,x⟩,B,l,ct,vt,sat,j⟩=ζ):=aJ (by simp[bZ,G,L]);exact Aaf
 have r1:((r:Int)==0)=ζ:=by simp;exact J
 have V:Hid (bZ ⟨nm,kd,obj,en,⟨r,x⟩,B,l,ct,vt,sat,j⟩=ζ):=aJ (by simp[bZ,G,J]);exact Aaf
theorem tq(b A n c w):
  CE 111 #[yK b A n c] w (.bool (bZ b)):=by
 obtain⟨nm,kd,obj,en,⟨r,x⟩,B,l,ct,vt,sat,j⟩:=b;unfold yK;dsimp only;by_cases H:kd=3
 .subst H;by_cases G:en=0
  rotate_left
  .have O:((en:Int)==0)=ζ:=ae;have N:((en:Int) !=0)=ε:=ae;have D:btw en 0 0=ζ:=by simp[btw];omega
   have V:Hid (bZ ⟨nm,3,obj,en,⟨r,x⟩,B,l,ct,vt,sat,j⟩=ζ):=aJ (by simp[bZ,D]);exact Aac
  have O:((en:Int)==0)=ε:=ae;have N:((en:Int) !=0)=ζ:=ae;have D:btw en 0 0=ε:=by simp[btw];omega
  cases h:okZ ⟨r,x⟩
  .skip;have V:Hid (bZ ⟨nm,3,obj,en,⟨r,x⟩,B,l,ct,vt,sat,j⟩=ζ):=aJ (by simp[bZ,D,h]);exact AbB
  cases F:btw ct 1 100
  .skip;have V:Hid (bZ ⟨nm,3,obj,en,⟨r,x⟩,B,l,ct,vt,sat,j⟩=ζ):=aJ (by simp[bZ,D,h,F]);exact AbB
  by_cases hv:vt=0
  .subst hv;cases I:btw sat 0 16383
   .skip;have V:Hid (bZ ⟨nm,3,obj,en,⟨r,x⟩,B,l,ct,0,sat,j⟩=ζ):=aJ (by simp[bZ,D,h,F,I]);exact AbB
   have V:Hid (bZ ⟨nm,3,obj,en,⟨r,x⟩,B,l,ct,0,sat,j⟩=btw j 1 6):=aJ (by simp[bZ,D,h,F,I]);exact AbB
  have v1:((vt:Int)==0)=ζ:=ae;have Q:((vt:Int) !=0)=ε:=ae;have V:Hid (bZ ⟨nm,3,obj,en,⟨r,x⟩,B,l,ct,vt,sat,j⟩=ζ):=aJ (by simp[bZ,D,h,F,hv]);exact AbB
 have C:((kd:Int)==3)=ζ:=ae;by_cases J:kd=1
 .subst J;cases G:btw en 0 1
  .skip;have V:Hid (bZ ⟨nm,1,obj,en,⟨r,x⟩,B,l,ct,vt,sat,j⟩=ζ):=aJ (by simp[bZ,G]);exact Aac
  by_cases L:r=0/\x=0
  .obtain⟨rfl,rfl⟩:=L;cases F:btw ct 1 100
   .skip;have V:Hid (bZ ⟨nm,1,obj,en,⟨0,0⟩,B,l,ct,vt,sat,j⟩=ζ):=aJ (by simp[bZ,G,F]);exact Aac
   cases hv:btw vt 1 10000
   .skip;have V:Hid (bZ ⟨nm,1,obj,en,⟨0,0⟩,B,l,ct,vt,sat,j⟩=ζ):=aJ (by simp[bZ,G,F,hv]);exact Aac
   cases I:btw sat 0 16383
   .skip;have V:Hid (bZ ⟨nm,1,obj,en,⟨0,0⟩,B,l,ct,vt,sat,j⟩=ζ):=aJ (by simp[bZ,G,F,hv,I]);exact Aac
   have V:Hid (bZ ⟨nm,1,obj,en,⟨0,0⟩,B,l,ct,vt,sat,j⟩=btw j 1 6):=aJ (by simp[bZ,G,F,hv,I]);exact Aac
  by_cases K:r=0
  .subst K;have M:¬x=0:=fun e=>L ⟨rfl,e⟩;have P:((x:Int)==0)=ζ:=by simp;exact M
   have V:Hid (bZ ⟨nm,1,obj,en,⟨0,x⟩,B,l,ct,vt,sat,j⟩=ζ):=aJ (by simp[bZ,G,M]);exact Aac
  have r1:((r:Int)==0)=ζ:=by simp;exact K
  have V:Hid (bZ ⟨nm,1,obj,en,⟨r,x⟩,B,l,ct,vt,sat,j⟩=ζ):=aJ (by simp[bZ,G,K]);exact Aac
 have R:((kd:Int)==1)=ζ:=ae;by_cases G:en=0
 rotate_left
 .have O:((en:Int)==0)=ζ:=ae;have N:((en:Int) !=0)=ε:=ae;have D:btw en 0 0=ζ:=by simp[btw];omega
  have V:Hid (bZ ⟨nm,kd,obj,en,⟨r,x⟩,B,l,ct,vt,sat,j⟩=ζ):=aJ (by simp[bZ,H,J,D]);exact Aac
 have O:((en:Int)==0)=ε:=ae;have N:((en:Int) !=0)=ζ:=ae;have D:btw en 0 0=ε:=by simp[btw];omega
 by_cases L:r=0/\x=0
 .obtain⟨rfl,rfl⟩:=L;cases F:btw ct 1 100
  .skip;have V:Hid (bZ ⟨nm,kd,obj,en,⟨0,0⟩,B,l,ct,vt,sat,j⟩=ζ):=aJ (by simp[bZ,H,J,D,F]);exact Aac
  cases hv:btw vt 1 10000
  .skip;have V:Hid (bZ ⟨nm,kd,obj,en,⟨0,0⟩,B,l,ct,vt,sat,j⟩=ζ):=aJ (by simp[bZ,H,J,D,F,hv]);exact Aac
  cases I:btw sat 0 16383
  .skip;have V:Hid (bZ ⟨nm,kd,obj,en,⟨0,0⟩,B,l,ct,vt,sat,j⟩=ζ):=aJ (by simp[bZ,H,J,D,F,hv,I]);exact Aac
  have V:Hid (bZ ⟨nm,kd,obj,en,⟨0,0⟩,B,l,ct,vt,sat,j⟩=btw j 1 6):=aJ (by simp[bZ,H,J,D,F,hv,I]);exact Aac
 by_cases K:r=0
 .subst K;have M:¬x=0:=fun e=>L ⟨rfl,e⟩;have P:((x:Int)==0)=ζ:=by simp;exact M
  have V:Hid (bZ ⟨nm,kd,obj,en,⟨0,x⟩,B,l,ct,vt,sat,j⟩=ζ):=aJ (by simp[bZ,H,J,D,M]);exact Aac
 have r1:((r:Int)==0)=ζ:=by simp;exact K
 have V:Hid (bZ ⟨nm,kd,obj,en,⟨r,x⟩,B,l,ct,vt,sat,j⟩=ζ):=aJ (by simp[bZ,H,J,D,K]);exact Aac
def stV (nm:ByteArray) (A0:Option Addr) (n0 c0:Nat) (A1:Option Addr) (n1 c1:Nat) (A2:Option Addr) (n2 c2:Nat) (A3:Option Addr) (n3 c3:Nat):Value:=
 .agg #[.string nm,.slice A0 n0 c0,.slice A1 n1 c1,.slice A2 n2 c2,.slice A3 n3 c3]
def Strs (w:World) (A:Option Addr) (n:Nat) (l:List ByteArray):Prop:=Reads w w.heap.size 1 A n (l.map Value.string)
def Strs.ext{w w' A n}{l:List ByteArray}(h:Strs w A n l)(e:Ext w w'):Strs w' A n l:=Reads.ext h e
def Strs.len{w A n}{l:List ByteArray}(h:Strs w A n l):l.length=n:=by simpa using h.1
def Strs.at_{w A n k}{l:List ByteArray}(h:Strs w A n l)(B:k<n):∃R x,A=γ R/\R.block<w.heap.size/\l[k]? =γ x/\w.cell? (R.add k)=γ (.string x):=by
 obtain⟨R,u,e,hb,N,hc⟩:=Reads.at_ h B;rw[I5,acd] at N;obtain⟨x,j,rfl⟩:=N;exact⟨R,x,e,hb,j,hc⟩
def uW (s:ByteArray):List ByteArray->Nat->Int
 |[],_=> -1
 |x::l,k=>if x=s then (k:Int) else uW s l (k+1)
theorem Cg(s):∀(l:List ByteArray) (k:Nat),decide (0<=uW s l k)=uD s l
 |[],k=>by simp[uW,uD]
 |x::l,k=>by
  have B:=Cg s l (k+1);unfold uW uD;by_cases h:x=s
  .rw[ι h,pq h];simp
  .rw[θ h,B,Γ h];simp
def toList_eq{x s:ByteArray}:(x.toList==s.toList)=decide (x=s):=by
 rw[Lib.toList_data,Lib.toList_data];by_cases h:x=s
 .rw[h];simp
 .rw[Γ h];have:¬x.data.toList=s.data.toList:=by
   intro e;apply h;cases x with|mk a=>cases s with|mk b=>exact congrArg ByteArray.mk (Array.toList_inj.1 e)
  simpa using this
def MB{s x}{l:List ByteArray}{k}(B:l[k]? =γ x)(h:x=s):uW s (l.drop k) k=(k:Int):=by
 obtain⟨j,rfl⟩:=μ.1 B;rw[aaF j,uW,ι h]
def Te{s x}{l:List ByteArray}{k}(B:l[k]? =γ x)(h:x≠s):uW s (l.drop k) k=uW s (l.drop (k+1)) (k+1):=by
 obtain⟨j,rfl⟩:=μ.1 B;rw[aaF j,uW,θ h]
def Py{s}{l:List ByteArray}{k}(h:l.length<=k):uW s (l.drop k) k= -1:=by
 rw[aaQ h];rfl
def BL(s)(l:List ByteArray)(A n c w)(h:Strs w A n l)(hn:n<=9223372036854775807):
  Calls prog 108 #[.slice A n c,.string s] w fun e w'=>e=.returned (.int .i64 (uW s l 0))/\w=w':=by
 have I:=aJ h.len;go_enter func108,ntmps108;go_wp2_with fail
 go_loop [5] (fun i=>∃k:Nat,k<=n/\i=.int .i64 (k:Int)/\uW s l 0=uW s (l.drop k) k) (fun i=>n-(intOf i).toNat)
 case atStart=>exact⟨0,Ex _,rfl,rfl⟩
 case round=>
  obtain⟨k,L,rfl,B⟩:=hrel;have D:=aJ B;clear B;by_cases C:k<n
  .obtain⟨R,x,rfl,hb,G,K⟩:=h.at_ C;have H:=aJ G;clear G;by_cases j:x=s
   .have J:(x.toList==s.toList)=ε:=by rw[toList_eq];simp[j]
    have F:=aJ j;clear j;go_wp2;go_ret;exact⟨aO (by rw[D.o,MB H.o F.o]),rfl⟩
   .have J:(x.toList==s.toList)=ζ:=by rw[toList_eq];simp[j]
    have F:=aJ j;go_wp2_with fail
    go_round
    case rel=>exact⟨k+1,aa,au,by rw[D.o,Te H.o F.o]⟩
    case measure=>simp[intOf];omega
  .go_wp2;go_ret;exact⟨aO (by rw[D.o,Py (by have:=I.o;omega)]),rfl⟩
def rA(s)(l:List ByteArray)(A n c w)(h:Strs w A n l)(j:n<=9223372036854775807):
  Calls prog 64 #[.slice A n c,.string s] w fun e w'=>e=.returned (.int .i64 (dU l s))/\w=w':=by
 have Q:∀w:World,Calls prog 63 #[.string s] w fun e w'=>e=.returned (.bool (fT s))/\w=w':=fun w=>(Cy s w).mono (fun e w' N=>⟨N.1,N.2.symm⟩);cases hn:fT s
 .have I:Hid (dU l s=7):=aJ (by simp[dU,hn]);go_enter func64,ntmps64;(go_wp2_with (first|(go_at_call 63;refine(Q _).mono ?_;rintro e w1 ⟨rfl,rfl⟩)));go_ret;exact⟨aO I.symm,rfl⟩
 .have hd:=Cg s l 0;cases hc:uD s l
  .have I:Hid (dU l s=0):=aJ (by simp only[dU,hn,hc];rfl);rw[hc] at hd;have hd':¬0<=uW s l 0:=by simpa using hd
   exact AaG
  .have I:Hid (dU l s=8):=aJ (by simp only[dU,hn,hc];rfl);rw[hc] at hd;have hd':0<=uW s l 0:=by simpa using hd
   exact AaG
theorem pK(nm A0 n0 c0 A1 n1 c1 A2 n2 c2 A3 n3 c3 b A n c w):
  CE 110 #[stV nm A0 n0 c0 A1 n1 c1 A2 n2 c2 A3 n3 c3,yK b A n c] w (.int .i64 (jc n1 n2 b)):=by
 obtain⟨D,kd,obj,en,⟨r,x⟩,B,l,ct,vt,sat,j⟩:=b;unfold yK stV;dsimp only;by_cases I:kd=1
 .subst I;by_cases hn:obj<0
  .have G:decide ((obj:Int)<0)=ε:=ae;exact AcA
  have G:decide ((obj:Int)<0)=ζ:=ae;by_cases L:(n1:Int)<=obj
  .have F:decide ((n1:Int)<=obj)=ε:=ae;exact AcA
  have F:decide ((n1:Int)<=obj)=ζ:=ae;have V:Hid (jc n1 n2 ⟨D,1,obj,en,⟨r,x⟩,B,l,ct,vt,sat,j⟩=0):=aJ AbR;exact Aao
 have C:((kd:Int)==1)=ζ:=ae;by_cases H:kd=2
 .subst H;by_cases hn:obj<0
  .have G:decide ((obj:Int)<0)=ε:=ae;exact AcS
  have G:decide ((obj:Int)<0)=ζ:=ae;by_cases L:(n2:Int)<=obj
  .have F:decide ((n2:Int)<=obj)=ε:=ae;exact AcS
  have F:decide ((n2:Int)<=obj)=ζ:=ae;have V:Hid (jc n1 n2 ⟨D,2,obj,en,⟨r,x⟩,B,l,ct,vt,sat,j⟩=0):=aJ AbR;exact Aao
 have N:((kd:Int)==2)=ζ:=ae;by_cases K:kd=3
 .subst K;by_cases J:obj=0
  .subst J;have V:Hid (jc n1 n2 ⟨D,3,0,en,⟨r,x⟩,B,l,ct,vt,sat,j⟩=0):=aJ AbR;exact Aao
  have G:((obj:Int)==0)=ζ:=ae;have F:((obj:Int) !=0)=ε:=ae;have V:Hid (jc n1 n2 ⟨D,3,obj,en,⟨r,x⟩,B,l,ct,vt,sat,j⟩=9):=aJ (by simp[jc,btw,J]<;>omega);exact Aao
 have M:((kd:Int)==3)=ζ:=ae;have V:Hid (jc n1 n2 ⟨D,kd,obj,en,⟨r,x⟩,B,l,ct,vt,sat,j⟩=10):=aJ (by simp[jc,btw,I,H,K]<;>omega);exact Aao
structure Hd where
 A:Option Addr
 n:Nat
 c:Nat
def Hd.v (h:Hd):Value:=.slice h.A h.n h.c
def Arr (w:World) (A:Option Addr) (n k:Nat) (f:Nat->List Value):Prop:=
 0<n->∃b o,A=γ ⟨b,o,δ⟩/\b<w.heap.size/\∀i,i<n->∀t u,(f i)[t]? =γ u->w.cell? ⟨b,o+i*k+t,δ⟩=γ u
def Arr.ext{w w' A n k f}(h:Arr w A n k f)(x:Ext w w'):Arr w' A n k f:=fun hn=>by
 obtain⟨b,o,e,hb,hc⟩:=h hn;exact⟨b,o,e,π hb x.size,fun i hi t u N=>(x.cell (p:=⟨b,_,δ⟩) hb).trans (hc i hi t u N)⟩
def Arr.at_{w A n k i f}(h:Arr w A n k f)(hi:i<n):∃b o,A=γ ⟨b,o,δ⟩/\b<w.heap.size/\∀t u,(f i)[t]? =γ u->w.cell? ⟨b,o+i*k+t,δ⟩=γ u:=by
 obtain⟨b,o,e,hb,hc⟩:=h aa;exact⟨b,o,e,hb,hc i hi⟩
def Arr.congr{w A n k f g}(h:Arr w A n k f)(e:∀i,i<n->f i=g i):Arr w A n k g:=fun hn=>by
 obtain⟨b,o,j,hb,hc⟩:=h hn;exact⟨b,o,j,hb,fun i hi t u N=>hc i hi t u (by rw[e i hi];exact N)⟩
def NC (l:CL):List Value:=[.int .i64 l.bus,.int .i64 l.pos]
def mo (l:sj):List Value:=[.string l.name,.int .i64 l.z1.r,.int .i64 l.z1.x,.int .i64 l.z0.r,.int .i64 l.z0.x]
def xM (g:BV):List Value:=[.string g.name,.int .i64 g.emf,.int .i64 g.z1.r,.int .i64 g.z1.x,.int .i64 g.z0.r,.int .i64 g.z0.x]
def ja (b:gJ) (h:Hd):List Value:=[.string b.name,.int .i64 b.kind,.int .i64 b.obj,.int .i64 b.en,.int .i64 b.z.r,.int .i64 b.z.x,.slice h.A h.n h.c,.bool b.closed,.int .i64 b.ct,.int .i64 b.vt,.int .i64 b.sat,.int .i64 b.travel]
def Lks (w:World) (A:Option Addr) (n:Nat) (l:List CL):Prop:=l.length=n/\Arr w A n 2 (fun k=>NC (l.getD k η))
def Lks.ext{w w' A n l}(h:Lks w A n l)(x:Ext w w'):Lks w' A n l:=⟨h.1,h.2.ext x⟩
theorem CS{nb x}(B:1<=x.links.length)(l:x.links.length<=2)(j:x.kind=3->x.links.length=2):gL nb x=dJ (gT nb x) x.links.length:=by
 unfold gL;rw[θ (fun h=>by rcases h with h|h|⟨h,G⟩<;>first|omega|exact G (j h))]
def dB{E n k v}(B:∀j,j<k->E j=0)(Y:E k=v)(hv:v≠0)(l:k<n):v=dJ E n:=by
 rw[Cq B (by rw[Y];exact hv) l,Y]
def fP{E:Nat->Int}{k:Nat}(l:∀j,j<k->E j=0)(Y:E k=0):∀j,j<k+1->E j=0:=fun j B=>by
 by_cases e:j=k
 .rw[e];exact Y
 .exact l j aa
theorem qM{nb x}(h:x.links.length<1\/2<x.links.length\/(x.kind=3/\x.links.length≠2)):gL nb x=3:=by
 unfold gL;rw[ι h]
theorem vH(nm A0 n0 c0 A1 n1 c1 A2 n2 c2 A3 n3 c3 b A n c w)(hL:Lks w A n b.links):
    CE 112 #[stV nm A0 n0 c0 A1 n1 c1 A2 n2 c2 A3 n3 c3,yK b A n c] w (.int .i64 (gL n0 b)):=by
  have Z:=hL.1;have HL:=aJ hL;clear hL;have H:=aJ Z;clear Z;unfold yK stV;by_cases h1:n<1
  · have d1:decide ((n:Int)<1)=ε:=ae;have V:Hid (gL n0 b=3):=aJ (qM (Or.inl Adu));exact AbN
  have d1:decide ((n:Int)<1)=ζ:=ae;by_cases h2:2<n
  · have d2:decide ((2:Int)<(n:Int))=ε:=ae;have V:Hid (gL n0 b=3):=aJ (qM (Or.inr (Or.inl Adu)));exact AbN
  have d2:decide ((2:Int)<(n:Int))=ζ:=ae;by_cases h3:b.kind=3/\n≠2
  · obtain⟨Q,Xh⟩:=h3;have d3:((b.kind:Int)==3)=ε:=by simp[Q]
    have d4:((n:Int) !=2)=ε:=ae;have V:Hid (gL n0 b=3):=aJ (qM (Or.inr (Or.inr ⟨Q,by have:=H.o;omega⟩)));clear Xh Q;exact AbN
  have V:Hid (gL n0 b=dJ (gT n0 b) n):=aJ (by
    have N:=H.o;have e:=CS (nb:=n0) (x:=b) aa aa (fun Q=>by
      by_cases e:n=2
      · omega
      · exact absurd (And.intro Q e) h3)
    rw[N] at e;exact e)
  have H3:=aJ h3;clear h3;have hd:(∃k3:Bool,((b.kind:Int)==3)=k3/\(k3=ε->((n:Int) !=2)=ζ)):=⟨_,rfl,fun h=>by
    have Q:b.kind=3:=by simpa using h
    have:=H3.o;simp;omega⟩
  obtain⟨k3,d3,d4⟩:=hd;cases k3
  (all_goals (first|(replace d4:=d4 rfl)|clear d4));all_goals
    obtain⟨E0,B2,B3⟩:=an2 w 27 #[.string nm,.slice A0 n0 c0,.slice A1 n1 c1,.slice A2 n2 c2,.slice A3 n3 c3] 57 #[.string b.name,.int .i64 b.kind,.int .i64 b.obj,.int .i64 b.en,.int .i64 b.z.r,.int .i64 b.z.x,.slice A n c,.bool b.closed,.int .i64 b.ct,.int .i64 b.vt,.int .i64 b.sat,.int .i64 b.travel];have Wq:=aJ B2;have Wm:=aJ B3;have D:=aJ E0;clear B2 B3 E0;go_enter func112,ntmps112;go_wp2_with fail
    go_loopw [6] (fun i wr=>∃k:Nat,k<=n/\i=.int .i64 (k:Int)/\(∀j,j<k->gT n0 b j=0)/\Ext ((w.alloc (.cells #[.string nm,.slice A0 n0 c0,.slice A1 n1 c1,.slice A2 n2 c2,.slice A3 n3 c3] 27)).alloc (.cells #[.string b.name,.int .i64 b.kind,.int .i64 b.obj,.int .i64 b.en,.int .i64 b.z.r,.int .i64 b.z.x,.slice A n c,.bool b.closed,.int .i64 b.ct,.int .i64 b.vt,.int .i64 b.sat,.int .i64 b.travel] 57)) wr) (fun i _=>n-(intOf i).toNat)
    case atStart=>exact⟨0,aa,rfl,by intros;omega,Ext.refl _⟩
    case round=>
      obtain⟨k,Q,rfl,hz,hx⟩:=hrel;have P:=aJ hz;have M:=aJ hx;have k2:=(Wq.ext hx).cell;have k3:=(Wm.ext hx).cell;have hs:w.heap.size+1<wr.heap.size:=by have:=hx.size;simp at this;omega
      have WX:w.heap.size<wr.heap.size:=aa;clear hz hx;by_cases L:k<n
      · obtain⟨lb,lo,Y,hb,hc⟩:=(HL.ext (D.trans M.o)).2.at_ L;subst Y;have e0:wr.cell? ⟨lb,lo+k*2,δ⟩=γ (.int .i64 (b.links.getD k η).bus):=hc 0 _ rfl;have e1:wr.cell? ⟨lb,lo+k*2+1,δ⟩=γ (.int .i64 (b.links.getD k η).pos):=hc 1 _ rfl;clear hc;have F:Hid (gT n0 b k=if btw (b.links.getD k η).bus 0 ((n0:Int)-1)=ε then
    (if (b.links.getD k η).pos≠1/\((b.links.getD k η).pos≠0\/b.kind=3) then 16
     else if 0<k/\(b.links.getD (k-1) η).bus=(b.links.getD k η).bus then 12 else 0)
  else 9):=aJ rfl
        generalize b.links.getD k η=l at e0 e1 F;obtain⟨bus,pos⟩:=l;dsimp only at e0 e1 F;by_cases WE:bus<0
        · have q1:decide (bus<0)=ε:=ae;exact Ado
        have q1:decide (bus<0)=ζ:=ae;by_cases Wz:(n0:Int)<=bus
        · have q2:decide ((n0:Int)<=bus)=ε:=ae;exact Ado
        have q2:decide ((n0:Int)<=bus)=ζ:=ae;have C:Hid (¬(pos≠1/\(pos≠0\/b.kind=3))->gT n0 b k=if 0<k/\(b.links.getD (k-1) η).bus=bus then 12 else 0):=aJ (fun h=>by
          rw[F.o,ι Ade,θ h])
        by_cases hp:pos=1
        · subst hp;by_cases W:k=0
          · subst W;rw[aa0,Nq] at e0 e1;have I:Hid (gT n0 b 0=0):=aJ (by rw[C.o ag,θ aa]);exact Ac3
          · obtain rfl:k=1:=aa;obtain⟨K,G,Y,WF,hc⟩:=(HL.ext (D.trans M.o)).2.at_ (show 0<n by omega);simp only[aaC,ace,ac2] at Y;obtain⟨rfl,rfl⟩:=Y;have f0:wr.cell? ⟨lb,lo,δ⟩=γ (.int .i64 (b.links.getD 0 η).bus):=by
              exact Adk
            clear hc;rw[show lo+1*2=lo+2 from rfl] at e0 e1;by_cases B:(b.links.getD 0 η).bus=bus
            · have I:Hid (gT n0 b 1=12):=aJ (by rw[C.o ag,ι ⟨aa,B⟩]);exact AcO
            · have I:Hid (gT n0 b 1=0):=aJ (by rw[C.o ag,θ (fun h=>B h.2)]);exact AaI
        by_cases J:pos=0
        · subst J;by_cases O:b.kind=3
          · first
            |(exfalso;simp[O] at d3;done)
            |(have I:Hid (gT n0 b k=16):=aJ (by rw[F.o,ι Ade,ι ⟨aj,Or.inr O⟩]);go_wp2;go_ret;exact⟨aO Ack,(D.trans M.o).alloc _⟩)
          · first
            |(exfalso;simp at d3;exact O d3)
            |
              skip;by_cases W:k=0
              · subst W;rw[aa0,Nq] at e0 e1;have I:Hid (gT n0 b 0=0):=aJ (by rw[C.o (by simp;exact O),θ aa]);exact Ac3
              · obtain rfl:k=1:=aa;obtain⟨K,G,Y,WF,hc⟩:=(HL.ext (D.trans M.o)).2.at_ (show 0<n by omega);simp only[aaC,ace,ac2] at Y;obtain⟨rfl,rfl⟩:=Y;have f0:wr.cell? ⟨lb,lo,δ⟩=γ (.int .i64 (b.links.getD 0 η).bus):=by
                  exact Adk
                clear hc;rw[show lo+1*2=lo+2 from rfl] at e0 e1;by_cases B:(b.links.getD 0 η).bus=bus
                · have I:Hid (gT n0 b 1=12):=aJ (by rw[C.o (by simp;exact O),ι ⟨aa,B⟩]);exact AcO
                · have I:Hid (gT n0 b 1=0):=aJ (by rw[C.o (by simp;exact O),θ (fun h=>B h.2)]);exact AaI
        · have q6:((pos:Int)==1)=ζ:=by simp;exact hp
          have U:((pos:Int) !=1)=ε:=by simp;exact hp
          have S:((pos:Int)==0)=ζ:=by simp;exact J
          have R:((pos:Int) !=0)=ε:=by simp;exact J
          have I:Hid (gT n0 b k=16):=aJ (by rw[F.o,ι Ade,ι ⟨hp,Or.inl J⟩]);go_wp2;go_ret;exact⟨aO Ack,(D.trans M.o).alloc _⟩
      · obtain rfl:k=n:=aa;go_wp2;go_ret;exact⟨aO (by rw[V.o];exact(dh P.o).symm),D.trans M.o⟩
def Gi{α:Type}(f:α->GQ)(l2:List α):∀l1:List α,gm f (l1++l2)=gm f l2+gm f l1
 |[]=>(GQ.add_zero' _).symm
 |a::l1=>by
  show gm f (l1++l2)+f a=gm f l2+(gm f l1+f a);rw[Gi f l2 l1];generalize gm f l2=x;generalize gm f l1=y;generalize f a=z;ext<;>simp only[GQ.bf,GQ.aY]<;>grind
theorem Pw(X)(l:List Br)(b:Br):fq X (l++[b])=stm (fq X l) b:=by
 unfold fq;rw[acM];rfl
section
variable {L:Nat->Bool} {sq:Nat} {brs:List BrD} {k:Nat}
def eqA (L:Nat->Bool) (sq:Nat) (brs:List BrD) (k:Nat):Nat->Nat->GQ:=fq zmx ((usd L sq (brs.take k)).map (Nb.br (rwx L)))
def eqB (L:Nat->Bool) (sq:Nat) (brs:List BrD) (k:Nat):Nat->Nat->GQ:=fun i _=>feed (rwx L) (usd L sq (brs.take k)) i
def G5(j:k<brs.length):brs.take (k+1)=brs.take k++[brs.getD k η]:=by
 rw[acL,φ,ν j];rfl
theorem Pe(j:k<brs.length)(N:used L (brs.getD k η)=ε):usd L sq (brs.take (k+1))=usd L sq (brs.take k)++[(brs.getD k η).nb sq]:=by
 unfold usd;rw[G5 j,List.filter_append,aaN];congr 1;rw[List.filter_cons_of_pos N];rfl
theorem Lm(j:k<brs.length)(N:used L (brs.getD k η)=ζ):usd L sq (brs.take (k+1))=usd L sq (brs.take k):=by
 unfold usd;rw[G5 j,List.filter_append,aaN,List.filter_cons_of_neg (by rw[N];decide)];simp
theorem O0(j:k<brs.length)(N:used L (brs.getD k η)=ε):eqA L sq brs (k+1)=stm (eqA L sq brs k) (((brs.getD k η).nb sq).br (rwx L)):=by
 unfold eqA;rw[Pe j N,aaN,<-Pw];rfl
theorem PU(l:k<brs.length)(N:used L (brs.getD k η)=ε)(i j):eqB L sq brs (k+1) i j=
  if (brs.getD k η).b=17/\i=rwx L (brs.getD k η).a then eqB L sq brs k i j+GQ.i 1 0/(brs.getD k η).zs sq*GQ.i (brs.getD k η).emf 0 else eqB L sq brs k i j:=by
 unfold eqB feed;rw[Pe l N,Gi];show GQ.i 0 0+(if (brs.getD k η).b=17/\i=rwx L (brs.getD k η).a then GQ.i 1 0/(brs.getD k η).zs sq*GQ.i (brs.getD k η).emf 0 else GQ.i 0 0)+gm (fun b=>if b.b=17/\i=rwx L b.a then b.y*b.e else GQ.i 0 0) (usd L sq (brs.take k))=_;generalize gm (fun b=>if b.b=17/\i=rwx L b.a then b.y*b.e else GQ.i 0 0) (usd L sq (brs.take k))=x;split
 .generalize GQ.i 1 0/(brs.getD k η).zs sq*GQ.i (brs.getD k η).emf 0=y;ext<;>simp only[GQ.bf,GQ.aY,GQ.bU,GQ.bS]<;>grind
 .ext<;>simp only[GQ.bf,GQ.aY,GQ.bU,GQ.bS]<;>grind
theorem Dy(j:k<brs.length)(N:used L (brs.getD k η)=ζ):eqA L sq brs (k+1)=eqA L sq brs k:=by unfold eqA;rw[Lm j N]
theorem Ep(j:k<brs.length)(N:used L (brs.getD k η)=ζ):eqB L sq brs (k+1)=eqB L sq brs k:=by unfold eqB;rw[Lm j N]
def VH:eqA L sq brs 0=zmx:=rfl
def Vj(i j):eqB L sq brs 0 i j=GQ.i 0 0:=rfl
theorem SE:eqA L sq brs brs.length=fq zmx ((usd L sq brs).map (Nb.br (rwx L))):=by unfold eqA;rw[List.take_length]
theorem Tm:eqB L sq brs brs.length=col (feed (rwx L) (usd L sq brs)):=by unfold eqB col;rw[List.take_length]
def Ui{b}(h:iD b)(sq):Bd (GQ.i 1 0/b.zs sq) 40:=by
 obtain⟨j,S,z0,l,e,hd⟩:=(h.sz sq).z;exact oG (a:=4) (b:=15) (nA (D:=S) (by show S<=2^4;omega)) (l.mono (by show 32000<=2^15;omega)) z0 e aa aa
def O3(hb:∀b∈brs,iD b):∀k,k<=brs.length->∀i j,Bd (eqA L sq brs k i j) (64+110*k)
 |0,_,i,j=>by rw[VH];exact⟨0,0,1,Qk 0 0,UJ aa⟩
 |k+1,hk,i,j=>by
  have B:=O3 hb k aa i j;cases N:used L (brs.getD k η) with
  |false=>rw[Dy aa N];exact B.mono aa
  |true=>
   rw[O0 aa N,KT];have l:=Ui (hb (brs.getD k η) (by rw[φ,ν aa];exact abk _)) sq;have al (x:Nat):Bd ((((brs.getD k η).nb sq).br (rwx L)).al x) 2:=by
    have h:=zu (((brs.getD k η).nb sq).br (rwx L)) x;exact oG (a:=0) (b:=0) (M:=GQ.i 1 0) h (uQ.mono (κ _)) aj (by ext<;>simp only[GQ.aR,GQ.aQ,GQ.bU,GQ.bS]<;>grind) aa aa
   exact(Bd.add B (Bd.mul l (Bd.mul (al i) (al j)))).mono aa
def OA(hb:∀b∈brs,iD b):∀k,k<=brs.length->∀i j,Bd (eqB L sq brs k i j) (64+110*k)
 |0,_,i,j=>by rw[Vj];exact⟨0,0,1,Qk 0 0,UJ aa⟩
 |k+1,hk,i,j=>by
  have B:=OA hb k aa i j;cases N:used L (brs.getD k η) with
  |false=>rw[Ep aa N];exact B.mono aa
  |true=>
   rw[PU aa N];have l:brs.getD k η∈brs:=by rw[φ,ν aa];exact abk _
   have C:=Ui (hb _ l) sq;split
   .have U:Bd (GQ.i (brs.getD k η).emf 0) 64:=by
     have:=(hb _ l).emf;exact⟨_,0,1,Qk _ 0,V4 aa aa aa aa⟩
    exact(Bd.add B (Bd.mul C U)).mono aa
   .exact B.mono aa
end
def MxI.out'{W G m n P R X}(h:MxI W G m n P R X)(hn:0<m->0<n):Out W G m n R X:=
 ⟨h.o,fun i hi=>⟨(h.row i hi (hn aa)).1,(h.len i hi).1,(h.len i hi).2,(h.row i hi (hn aa)).2⟩⟩
def OV:BD=q2 420:=rfl
def Pz:BD*BD<2^841:=by
 rw[OV,<-oz];exact Co (a:=420+420) (b:=841) aa
def QT{m}(j:m<=17):(BD*BD+m*(BD*BD))*(BD*BD)<2^1690:=by
 have B:BD*BD+m*(BD*BD)<=q2 5*(BD*BD):=by
  have:m*(BD*BD)<=17*(BD*BD):=aac j (κ _);have H:q2 5=32:=rfl;rw[H];omega
 have l:=aac B (κ (BD*BD));refine nH l ?_;rw[OV,<-oz,<-oz,<-oz];exact Co (a:=5+(420+420)+(420+420)) (b:=1690) aa
theorem TL{m n R}(h:∀i,i<m->(R i).n=n)(hn:n<=24):wd m R<=24/\∀i,i<m->(R i).n=wd m R:=by
 unfold wd;by_cases e:m=0
 .rw[ι e];exact⟨aa,fun i hi=>aa⟩
 .rw[θ e,h 0 aa];exact⟨hn,h⟩
def Cc (rw_:Nat->Nat) (us:List Nb) (v:Nat->GQ):Prop:=v=feed rw_ us\/∃f,v=unit f
section
variable {brs:List BrD} {sq n:Nat} {v:Nat->GQ}
def Kz(hb:∀b∈brs,iD b)(Z:brs.length<=23)(hv:Cc (rwx (lv brs)) (usd (lv brs) sq brs) v)(j:cnt (lv brs) 18=n):∃Q,rq (side n (fq zmx ((usd (lv brs) sq brs).map (Nb.br (rwx (lv brs))))) (col v)) n (n+1) Q BD:=by
 have hs:=Om hb Z (lv brs) sq;have hn:n<=17:=j ▸ EG (yE hb).none;rcases hv with rfl|⟨f,rfl⟩
 .have:=zM (rw_:=rwx (lv brs)) (n:=n) (us:=usd (lv brs) sq brs) (f:=0) (W:=n+1) (al:=fun _=>GQ.i 1 0) (be:=fun _=>GQ.i 0 0) hs.2 hn hs.1 aa (fun _=>uQ) (fun _=>gG _);rwa[QO] at this
 .have:=zM (rw_:=rwx (lv brs)) (n:=n) (us:=usd (lv brs) sq brs) (f:=f) (W:=n+1) (al:=fun _=>GQ.i 0 0) (be:=fun _=>GQ.i 1 0) hs.2 hn hs.1 aa (fun _=>gG _) (fun _=>uQ);rwa[Oc] at this
def Fv(hb:∀b∈brs,iD b)(j:cnt (lv brs) 18=n)(Y):(ech n (side n (fq zmx ((usd (lv brs) sq brs).map (Nb.br (rwx (lv brs))))) Y) n).r=n:=by
 subst j;exact zZ (xP hb sq).psv.full
def JM(hb:∀b∈brs,iD b)(Z:brs.length<=23)(hv:Cc (rwx (lv brs)) (usd (lv brs) sq brs) v)(j:cnt (lv brs) 18=n){i}(hi:i<n):Bd (sol n (fq zmx ((usd (lv brs) sq brs).map (Nb.br (rwx (lv brs))))) (col v) i 0) 841:=by
 obtain⟨Q,B⟩:=Kz hb Z hv j;have l:=Fv (sq:=sq) hb j (col v);rw[DZ l hi 0];exact JX l B Pz hi aa
def CR{w Ga Gb Pa Pb Ra Rb}(hb:∀b∈brs,iD b)(Z:brs.length<=23)(hv:Cc (rwx (lv brs)) (usd (lv brs) sq brs) v)(B:cnt (lv brs) 18=n)(ha:MxI w Ga n n Pa Ra (fq zmx ((usd (lv brs) sq brs).map (Nb.br (rwx (lv brs))))))(l:MxI w Gb n 1 Pb Rb (col v)):
  Calls prog 159 #[.slice (γ ⟨Ga,0,δ⟩) n n,.slice (γ ⟨Gb,0,δ⟩) n n] w fun e w'=>∃G RX,e=.returned (.tuple #[.slice (γ ⟨G,0,δ⟩) n n,.int .i64 0])/\Out w' G n 1 RX (sol n (fq zmx ((usd (lv brs) sq brs).map (Nb.br (rwx (lv brs))))) (col v))/\Ext w w':=by
 obtain⟨Q,I⟩:=Kz hb Z hv B;have O:=Fv (sq:=sq) hb B (col v);have hn:n<=17:=B ▸ EG (yE hb).none;obtain⟨R,E,L,F,K⟩:=(ha.out' (fun h=>h)).mem aa aa;obtain⟨R2,E2,C,H,J⟩:=(l.out' (fun _=>aa)).mem aa aa;have w1:=TL F aa;have w2:=TL H aa;refine(Ti (N:=841) (Ns:=1690) (Nd:=1690) (Nx:=841) (vb:=fun _ _=>ε) (vb2:=fun _ _=>ε) L C (fun i j hi D=>(K i j hi (by rw[F i hi] at D;exact D)).vb aa) (fun i j hi D=>(J i j hi (by rw[H i hi] at D;exact D)).vb aa)
  ⟨aa,w1.1,w1.2,fun _ _ _ _=>rfl⟩ ⟨aa,w2.1,w2.2,fun _ _ _ _=>rfl⟩ F H aa K J aa (VC I Pz) (fun _=>U6 O I Pz (QT hn) aa aa)).mono ?_
 rintro e w' ⟨h|⟨_,G,RX,U,M⟩,P⟩
 .omega
 .exact⟨G,RX,U,M,P⟩
end
def Cr(g A n c w)(hc:bM w g):
  CE 160 #[.pointer (γ ⟨g,0,δ⟩),.slice A n c,.int .i64 0] w (.slice A n c):=by
 have B:=Blk.cell hc;have l:=Blk.frozen hc;have j:Ext w (w.setCell ⟨g,0,δ⟩ (.int .i64 0)):=(Ext.refl w).stay hc rfl;have I:=hc.ext j;have C:=Blk.cell I;go_enter func160,ntmps160;go_wp2
 first
  |exact⟨rfl,j⟩
  |(go_ret;exact⟨rfl,j⟩)
def BS{P}(w G cs u)(j:(P.info? G).map (·.zero)=γ (γ (.agg cs))):(Instr.alloc G ε u).run P w=.ok (.pointer (γ ⟨w.heap.size,0,δ⟩)) (w.alloc (.cells cs G)):=by
 cases hq:P.info? G with
 |none=>simp[hq] at j
 |some i=>
  have l:i.zero=γ (.agg cs):=by simpa[hq] using j
  simp[Instr.alloc,zeroValue,typeInfo,hq,l,aaG,newVar,newRow,Value.cells]
theorem eP{P ops rest op a w Q}(D:op.guard=δ)(G)(j:op.op=.alloc G)(cs)(l:(P.info? G).map (·.zero)=γ (γ (.agg cs)))(h:∀w',w'=w.alloc (.cells cs G)->wpList P ops Q rest (a.put op.dst (.pointer (γ ⟨w.heap.size,0,δ⟩))) w'):wpList P ops Q (op::rest) a w:=
 adG D fun K J=>by
  unfold Oper.wp execOp;simp only[j,aaG,aa4,BS w G cs _ l,aaB];exact J _ _ (h _ rfl)
def tX:(prog.info? 100).map (·.zero)=γ (γ (.agg (aM 18 fun _=>zEn).toArray)):=ah
def IY:(prog.info? 222).map (·.zero)=γ (γ (.agg (ofC 18 fun _=> .int .i64 0))):=ah
structure r9 (w:World) (C:Nat->Value) (A:Option Addr) (nb cb:Nat) (Bv:Nat->BrV) (brs:List BrD) (L:Nat->Bool):Prop where
 br:C 0=.slice A nb cb
 arr:Arr w A nb 20 (fun i=>(Bv i).cs)
 len:brs.length=nb
 ab:∀i,i<nb->(Bv i).a=(brs.getD i η).a/\(Bv i).b=(brs.getD i η).b
 z0:∀i,i<nb->GV w (Bv i).z0.v ((brs.getD i η).zs 0) 64
 z1:∀i,i<nb->GV w (Bv i).z1.v ((brs.getD i η).zs 1) 64
 e:∀i,i<nb->GV w (Bv i).e.v (GQ.i (brs.getD i η).emf 0) 64
 live:∀k,k<18->C (15+k)=.bool (L k)
 ok:∀b∈brs,iD b
 l23:brs.length<=23
structure Lp1 (w wr:World) (g8 g9 g10:Nat) (L:Nat->Bool) (i j:Nat):Prop where
 b8:Blk wr g8 100 (aM 18 fun _=>zEn).toArray
 b9:∃f:Nat->En,Blk wr g9 100 (aM 18 f).toArray/\∀k,k<i->GV wr (f k).v (GQ.i 0 0) 64
 b10:fA wr g10 222 18 (fun k=> .int .i64 (if k<j then (rwx L k:Nat) else 0:Int))
 x:Ext w wr
 l8:w.heap.size<=g8
 l9:w.heap.size<=g9/\g8<g9
 l10:w.heap.size<=g10/\g9<g10
section
variable {w wr wr':World} {g8 g9 g10:Nat} {L:Nat->Bool} {i j:Nat}
def Lp1.ext(h:Lp1 w wr g8 g9 g10 L i j)(x:Ext wr wr'):Lp1 w wr' g8 g9 g10 L i j:=by
 obtain⟨f,C,B⟩:=h.b9;exact⟨h.b8.ext x,⟨f,C.ext x,fun k l=>(B k l).ext x⟩,h.b10.ext x,h.x.trans x,h.l8,h.l9,h.l10⟩
def Lp1.there(h:Lp1 w wr g8 g9 g10 L i j){k}(B:k<18):wr.there g9 (k*6) 6:=by
 obtain⟨f,l,_⟩:=h.b9;exact l.there Acj
def Lp1.put(h:Lp1 w wr g8 g9 g10 L i j)(hi:i<18){e:En}(U:GV wr e.v (GQ.i 0 0) 64)(F:wr'=puts wr g9 (i*6) e.cells):Lp1 w wr' g8 g9 g10 L (i+1) j:=by
 subst F;obtain⟨f,D,G⟩:=h.b9;have l:Mod (fun k=>k=g9) wr (puts wr g9 (i*6) e.cells):=Mod.only (fD _ _ _ _) rfl;have hS:Far (fun k=>k=g9) wr:=fun k B _=>by
  obtain rfl:k=g9:=B;exact⟨_,_,D,dm _ _⟩
 have l9:=h.l9;have l10:=h.l10;refine⟨h.b8.mod l (by show ¬g8=g9;omega),⟨upd f i e,?_,fun k B=> ?_⟩,h.b10.mod l (by show ¬g10=g9;omega),fC h.x l (fun k B=>by have B:k=g9:=B;omega),h.l8,h.l9,h.l10⟩
 .rw[<-mF e hi];exact bR _ _ D
 .by_cases C:k=i
  .subst C;rw[upd_same];exact U.mod l hS
  .rw[upd_ne C];exact(G k aa).mod l hS
theorem Lp1.skip(h:Lp1 w wr g8 g9 g10 L i j)(C:L j=ζ):Lp1 w wr g8 g9 g10 L i (j+1):=
 ⟨h.b8,h.b9,h.b10.congr (fun k _=>by
  by_cases l:k<j
  .rw[ι l,ι aa]
  .by_cases B:k=j
   .subst B;rw[θ aa,ι aa];unfold rwx;rw[C];rfl
   .rw[θ l,θ aa]),h.x,h.l8,h.l9,h.l10⟩
theorem Lp1.row(h:Lp1 w wr g8 g9 g10 L i j)(F:j<18)(G:L j=ε):Lp1 w (wr.setCell ⟨g10,j,δ⟩ (.int .i64 (cnt L j:Nat))) g8 g9 g10 L i (j+1):=by
 have B:Mod (fun k=>k=g10) wr (wr.setCell ⟨g10,j,δ⟩ (.int .i64 (cnt L j:Nat))):=Mod.set _ _ _ _ rfl;have l9:=h.l9;have l10:=h.l10;have hS:gu (fun k=>k=g10) wr:=ae6 h.b10 (fun k _=>rfl) (fun k l=>l);obtain⟨f,D,C⟩:=h.b9;refine⟨h.b8.mod B (by show ¬g8=g10;omega),⟨f,D.mod B (by show ¬g9=g10;omega),fun k l=>(C k l).fo B hS⟩,(h.b10.set _ F).congr (fun k _=> ?_),fC h.x B (fun k l=>by have l:k=g10:=l;omega),h.l8,h.l9,h.l10⟩;by_cases C:k=j
 .subst C;rw[upd_same,ι aa];unfold rwx;rw[ι G]
 .rw[upd_ne C];by_cases D:k<j
  .rw[ι D,ι aa]
  .rw[θ D,θ aa]
end
def U1{L i}(h:L i=ε):((cnt L (i+1):Nat):Int)=(cnt L i:Nat)+1:=by
 show((cnt L i+(if L i=ε then 1 else 0):Nat):Int)=_;rw[ι h];rfl
def Qr{L i}(h:L i=ζ):cnt L (i+1)=cnt L i:=by
 show cnt L i+(if L i=ε then 1 else 0)=_;rw[h];rfl
def jd (L:Nat->Bool):List Value:=(List.range 18).map fun k=>Value.bool (L k)
def uo{w C A nb B Bv brs L}(h:r9 w C A nb B Bv brs L){j v}(hv:(jd L)[j]? =γ v):C (15+j)=v:=by
 have l:j<18:=by have:=(μ.1 hv).1;simpa[jd] using this
 rw[h.live j l];have e:(jd L)[j]? =γ (.bool (L j)):=by simp[jd,I5,aaD l]
 rw[e] at hv;injection hv
def uA:(prog.info? 99).map (·.size)=γ (18:Nat):=ah
def KR{L}{k:Nat}(j:k<18)(w):Sem.run prog (Instr.index 99 (.agg (jd L).toArray) (.int .i64 (k:Int))) w=.ok (.bool (L k)) w:=by
 have B:(0:Int)<=(k:Int):=aa;have l:(k:Int)<18:=aa;have h:(jd L)[k]? =γ (.bool (L k)):=by simp[jd,I5,aaD j]
 simp[Instr.index,abh abC,asIntOf,go_sem,isAgg4,sizeOf4,part,h,j]
def wG:(prog.info? 167).map (·.size)=γ (20:Nat):=ah
def UC:List Value:=[.int .i64 0,.int .i64 0,.bool ζ,.slice δ 0 0,.bool ζ,.slice δ 0 0,.bool ζ,.slice δ 0 0,.bool ζ,.slice δ 0 0,.bool ζ,.slice δ 0 0,.bool ζ,.slice δ 0 0,.bool ζ,.slice δ 0 0,.bool ζ,.slice δ 0 0,.bool ζ,.slice δ 0 0]
def zBr:Array Value:=UC.toArray
def Kq:(prog.info? 167).map (·.zero)=γ (γ (.agg zBr)):=ah
theorem ve(b:BrV):∀v∈b.cs,v.oneCell'=ε:=by
 intro v hv;unfold BrV.cs at hv;simp only[ψ,RS,aaU] at hv;rcases hv with rfl|rfl|rfl|rfl|rfl|rfl|rfl|rfl|rfl|rfl|rfl|rfl|rfl|rfl|rfl|rfl|rfl|rfl|rfl|rfl<;>rfl
def fU(l B:List Value)(h:l.length=B.length):fI l.toArray 0 B=B.toArray:=by
 rw[ji,abj,ο,Λ aa,ac9 aa,aaj]
def Pg{w g}{b:BrV}(h:Blk w g 167 zBr):Blk (puts w g 0 b.cs) g 167 b.cs.toArray:=by
 have j:Blk (puts w g 0 b.cs) g 167 (fI UC.toArray 0 b.cs):=bR 0 b.cs h;rw[fU UC b.cs rfl] at j;exact j
def AL{α:Type}[Inhabited α]{l:List α}{i}(h:i<l.length):l.getD i η∈l:=by
 rw[φ,ν h];exact abk _
def Jt:(prog.info? 222).map (·.size)=γ (18:Nat):=ah
def Lp1.rng{w wr g8 g9 g10 L i}(h:Lp1 w wr g8 g9 g10 L i 18):wr.rangeAt g10 0 ((List.range 18).map fun k=>Value.int .i64 (rwx L k:Nat)):=by
 intro j v hv;have l:j<18:=by have:=(μ.1 hv).1;simpa using this
 rw[aaw];refine h.b10.cell_ l ?_;have e:((List.range 18).map fun k=>Value.int .i64 ((rwx L k:Nat):Int))[j]? =γ (.int .i64 (rwx L j:Nat)):=by simp[I5,aaD l]
 rw[e] at hv;injection hv with hv;rw[<-hv];simp only[ι l]
def Rws (n:Nat) (R:Nat->Rw):Nat->Prop:=fun g=>∃i,i<n/\g=(R i).b
structure Lp2 (w wr:World) (g8 g9 g10 Ga Gb:Nat) (L:Nat->Bool) (n:Nat) (Ra Rb:Nat->Rw) (X Y:Nat->Nat->GQ):Prop where
 p1:Lp1 w wr g8 g9 g10 L 18 18
 a:MxI wr Ga n n (Rws n Ra) Ra X
 b:MxI wr Gb n 1 (Rws n Rb) Rb Y
 own:∀k,Rws n Ra k\/Rws n Rb k->w.heap.size<=k/\g10<k/\k≠Ga/\k≠Gb
 dj:∀k,Rws n Ra k->¬Rws n Rb k
section
variable {w wr wr':World} {g8 g9 g10 Ga Gb:Nat} {L:Nat->Bool} {n i j:Nat} {Ra Rb:Nat->Rw} {X Y X' Y':Nat->Nat->GQ}
def Lp1.mod{S}(h:Lp1 w wr g8 g9 g10 L i j)(m:Mod S wr wr')(hS:Far S wr)(B:∀k,S k->w.heap.size<=k/\g10<k):Lp1 w wr' g8 g9 g10 L i j:=by
 obtain⟨f,F,D⟩:=h.b9;have l9:=h.l9;have l10:=h.l10;have H:¬S g8:=fun e=>by have:=(B _ e).2;omega
 have G:¬S g9:=fun e=>by have:=(B _ e).2;omega
 have l:¬S g10:=fun e=>by have:=(B _ e).2;omega
 exact⟨h.b8.mod m H,⟨f,F.mod m G,fun k C=>(D k C).mod m hS⟩,h.b10.mod m l,fC h.x m (fun k C=>(B k C).1),h.l8,h.l9,h.l10⟩
def Lp2.far(h:Lp2 w wr g8 g9 g10 Ga Gb L n Ra Rb X Y):Far (fun k=>Rws n Ra k\/Rws n Rb k) wr:=by
 intro g j _;rcases j with ⟨i,hi,rfl⟩|⟨i,hi,rfl⟩
 .obtain⟨f,hb,_⟩:=(h.a.row i hi aa).2;exact⟨_,_,hb,dm _ _⟩
 .obtain⟨f,hb,_⟩:=(h.b.row i hi aa).2;exact⟨_,_,hb,dm _ _⟩
def Lp2.ext(h:Lp2 w wr g8 g9 g10 Ga Gb L n Ra Rb X Y)(x:Ext wr wr'):Lp2 w wr' g8 g9 g10 Ga Gb L n Ra Rb X Y:=⟨h.p1.ext x,h.a.ext x,h.b.ext x,h.own,h.dj⟩
def Lp2.step(h:Lp2 w wr g8 g9 g10 Ga Gb L n Ra Rb X Y)(ha:MxI wr' Ga n n (Rws n Ra) Ra X')(hb:MxI wr' Gb n 1 (Rws n Rb) Rb Y')(l:Mod (fun k=>Rws n Ra k\/Rws n Rb k) wr wr'):Lp2 w wr' g8 g9 g10 Ga Gb L n Ra Rb X' Y':=
 ⟨h.p1.mod l h.far (fun k j=>⟨(h.own k j).1,(h.own k j).2.1⟩),ha,hb,h.own,h.dj⟩
def agc{C H}(h:Lp1 w wr g8 g9 g10 L 18 18)(ha:DI wr C Ga n n n (fun _ _=>GQ.i 0 0) Ra)(hb:DI C H Gb n 1 n (fun _ _=>GQ.i 0 0) Rb):Lp2 w H g8 g9 g10 Ga Gb L n Ra Rb zmx (fun _ _=>GQ.i 0 0):=by
 have J:=h.b10.lt;have O:=h.x.size;have la (i:Nat) (hi:i<n):(Ra i).b<C.heap.size:=by
  obtain⟨f,B,_⟩:=(ha.row i hi).2.1;exact B.lt
 have l:Ga<C.heap.size:=ha.o.lt;refine⟨(h.ext ha.ext).ext hb.ext,ha.mx hb.ext,hb.mx (Ext.refl _),fun k F=> ?_,fun k F D=> ?_⟩
 .rcases F with ⟨i,hi,rfl⟩|⟨i,hi,rfl⟩
  .have G:=(ha.row i hi).2.2;have I:=la i hi;have N:=hb.gx;refine⟨aa,aa,fun e=> ?_,aa⟩;obtain⟨f,B,_⟩:=(ha.row i hi).2.1;exact ha.o.eF B aj e.symm
  .have G:=(hb.row i hi).2.2;have M:=ha.ext.size;refine⟨aa,aa,aa,fun e=> ?_⟩;obtain⟨f,B,_⟩:=(hb.row i hi).2.1;exact hb.o.eF B aj e.symm
 .obtain⟨i,hi,rfl⟩:=F;obtain⟨j,K,e⟩:=D;have G:=la i hi;have I:=(hb.row j K).2.2;omega
end
theorem Nk{w wq gx gf sq nb Q C A Bv brs g8 g9 g10 Ga Gb n i Ra Rb}(hn:r9 w C A nb Q Bv brs (lv brs))(hc:bM wq gf)(h:Lp2 w wq g8 g9 g10 Ga Gb (lv brs) n Ra Rb (eqA (lv brs) sq brs i) (eqB (lv brs) sq brs i))(J:cnt (lv brs) 18=n)(hi:i<brs.length)(N:used (lv brs) (brs.getD i η)=ε)(G:sq<=1)(j:gf<w.heap.size):
  Calls prog 158 #[.pointer (γ ⟨gx,0,δ⟩),.pointer (γ ⟨gf,0,δ⟩),.slice (γ ⟨Ga,0,δ⟩) n n,.slice (γ ⟨Gb,0,δ⟩) n n,.agg (ofC 18 (fun k=> .int .i64 (rwx (lv brs) k:Nat))),.agg #[.int .i64 ((Bv i).a:Int),.int .i64 ((Bv i).b:Int),.bool (Bv i).z0.s1,.slice (Bv i).z0.A1 (Bv i).z0.n1 (Bv i).z0.c1,.bool (Bv i).z0.s2,.slice (Bv i).z0.A2 (Bv i).z0.n2 (Bv i).z0.c2,.bool (Bv i).z0.s3,.slice (Bv i).z0.A3 (Bv i).z0.n3 (Bv i).z0.c3,.bool (Bv i).z1.s1,.slice (Bv i).z1.A1 (Bv i).z1.n1 (Bv i).z1.c1,.bool (Bv i).z1.s2,.slice (Bv i).z1.A2 (Bv i).z1.n2 (Bv i).z1.c2,.bool (Bv i).z1.s3,.slice (Bv i).z1.A3 (Bv i).z1.n3 (Bv i).z1.c3,.bool (Bv i).e.s1,.slice (Bv i).e.A1 (Bv i).e.n1 (Bv i).e.c1,.bool (Bv i).e.s2,.slice (Bv i).e.A2 (Bv i).e.n2 (Bv i).e.c2,.bool (Bv i).e.s3,.slice (Bv i).e.A3 (Bv i).e.n3 (Bv i).e.c3],.int .i64 (sq:Int)] wq
   fun e w'=>e=.returned (.tuple #[])/\Lp2 w w' g8 g9 g10 Ga Gb (lv brs) n Ra Rb (eqA (lv brs) sq brs (i+1)) (eqB (lv brs) sq brs (i+1)):=by
 have V:=hn.len;have M:brs.getD i η∈brs:=AL hi;have D:=hn.ok _ M;have l:=hn.ab i aa;have O:=yE hn.ok;have B:=N;unfold used at B;simp only[υ,Θ] at B;have I:Rwx (lv brs) (rwx (lv brs)) n:=J ▸ ae2 (fun k F=>sI hn.ok F);have P:GV wq ((Bv i).z sq).v ((brs.getD i η).zs sq) 64:=by
  have hs:sq=0\/sq=1:=aa;rcases hs with rfl|rfl
  .exact(hn.z0 i aa).ext h.p1.x
  .exact(hn.z1 i aa).ext h.p1.x
 have K:(Bv i).b=17\/(Bv i).b<17/\rwx (lv brs) (Bv i).b<n/\rwx (lv brs) (Bv i).a≠rwx (lv brs) (Bv i).b:=by
  by_cases e:(Bv i).b=17
  .exact Or.inl e
  .have hb:lv brs (brs.getD i η).b=ε:=(O.closed _ M (Or.inr (Or.inl B.1))).2 (by rw[<-l.2];exact e);refine Or.inr ⟨by rw[l.2];exact sI hn.ok hb,by rw[l.2];exact I.lt _ hb,fun L=> ?_⟩;rw[l.1,l.2] at L;exact B.2 (I.inj _ _ B.1 hb L)
 have S:=hn.l23;refine(Sk gx gf Ga Gb n sq (64+110*i) 40 64 (64+110*i) 64 (Rws n Ra) (Rws n Rb) Ra Rb (eqA (lv brs) sq brs i) (eqB (lv brs) sq brs i) (rwx (lv brs)) (Bv i) ((brs.getD i η).zs sq) (GQ.i (brs.getD i η).emf 0) wq hc h.a h.b
  (fun k F=>⟨by have:=(h.own k F).1;omega,(h.own k F).2.2.1,(h.own k F).2.2.2⟩) h.dj G P (D.ne sq) ((hn.e i aa).ext h.p1.x) (by rw[l.1];exact D.a) (by rw[l.1];exact I.lt _ B.1) K (Ui D sq)
  (fun p q _ _=>O3 hn.ok i aa p q) (fun p _=>OA hn.ok i aa p 0) aa aa aa aa aa).mono ?_
 rintro e w' ⟨U,ha,hb,H⟩;refine⟨U,h.step ?_ ?_ H⟩
 .rw[O0 hi N];rw[l.1,l.2] at ha;exact ha
 .refine hb.congr (fun p q _ _=> ?_);rw[PU hi N,l.1,l.2]
def Jy{D wd j B n r Rc}(hd:DI D wd B n 1 n (fun _ _=>GQ.i 0 0) Rc)(x:Ext wd j)(C:r<n):j.there (Rc r).b 0 6:=by
 obtain⟨f,l,_⟩:=(hd.row r C).2.1;exact(l.ext x).there Acj
def PY{w F wd G C g8 g9 g10 Ga H n r L Pa Ra Rc X}(p1:Lp1 w F g8 g9 g10 L 18 18)(ha:MxI F Ga n n Pa Ra X)(hd:DI F wd H n 1 n (fun _ _=>GQ.i 0 0) Rc)(x:Ext wd G)(J:r<n){e:En}(U:GV G e.v (GQ.i 1 0) 64)(N:C=puts G (Rc r).b 0 e.cells):Lp1 w C g8 g9 g10 L 18 18/\MxI C Ga n n Pa Ra X/\MxI C H n 1 (Rws n Rc) Rc (col (unit r)):=by
 have O:=hd.mx x;have B:=hd.ext.trans x;obtain⟨I,D,K,_⟩:=O.put (j:=0) J aa (U.up aa);rw[aa0,<-N] at I D;have P:=(hd.row r J).2.2;have l10:=p1.b10.lt;have lx:=p1.x.size;refine⟨(p1.ext B).mod D K (fun k l=> ?_),(ha.ext B).mod D K (fun l=> ?_) (fun j M hn l=> ?_),I.congr (fun i j hi M=> ?_)⟩
 .have l:k=(Rc r).b:=l;omega
 .have l:Ga=(Rc r).b:=l;have:=ha.o.lt;omega
 .have l:(Ra j).b=(Rc r).b:=l;have:=ha.rb M hn;omega
 .obtain rfl:j=0:=aa;by_cases e:i=r
  .subst e;rw[upd_same,upd_same];simp[col,unit]
  .rw[upd_ne e];simp[col,unit,e]
structure Lp3 (w wr:World) (g8 g9 g10 G:Nat) (L:Nat->Bool) (n:Nat) (RX:Nat->Rw) (X:Nat->Nat->GQ) (i:Nat):Prop where
 b8:Blk wr g8 100 (aM 18 fun _=>zEn).toArray
 b9:∃f:Nat->En,Blk wr g9 100 (aM 18 f).toArray/\∀k,k<18->GV wr (f k).v (if k<i then (if L k=ε then X (rwx L k) 0 else GQ.i 0 0) else GQ.i 0 0) 12800
 b10:fA wr g10 222 18 (fun k=> .int .i64 (if k<18 then (rwx L k:Nat) else 0:Int))
 x:Ext w wr
 l8:w.heap.size<=g8
 l9:w.heap.size<=g9/\g8<g9
 l10:w.heap.size<=g10/\g9<g10
 o:Out wr G n 1 RX X
section
variable {w wr wr':World} {g8 g9 g10 G n i:Nat} {L:Nat->Bool} {RX:Nat->Rw} {X:Nat->Nat->GQ}
def afy(h:Lp1 w wr g8 g9 g10 L 18 18)(l:Out wr G n 1 RX X):Lp3 w wr g8 g9 g10 G L n RX X 0:=by
 obtain⟨f,C,B⟩:=h.b9;exact⟨h.b8,⟨f,C,fun k j=>by rw[θ aa];exact(B k j).up aa⟩,h.b10,h.x,h.l8,h.l9,h.l10,l⟩
def Lp3.skip(h:Lp3 w wr g8 g9 g10 G L n RX X i)(F:L i=ζ):Lp3 w wr g8 g9 g10 G L n RX X (i+1):=by
 obtain⟨f,D,C⟩:=h.b9;refine⟨h.b8,⟨f,D,fun k B=> ?_⟩,h.b10,h.x,h.l8,h.l9,h.l10,h.o⟩;have j:=C k B;by_cases e:k=i
 .subst e;rw[θ aa] at j;rw[ι aa,F];exact j
 .by_cases l:k<i
  .rw[ι l] at j;rw[ι aa];exact j
  .rw[θ l] at j;rw[θ aa];exact j
theorem Lp3.hd(h:Lp3 w wr g8 g9 g10 G L n RX X i){r}(j:r<n):wr.cell? ⟨G,r,δ⟩=γ (.slice (γ ⟨(RX r).b,0,δ⟩) (1:Nat) (1:Nat)):=by
 obtain⟨B,l,C,_⟩:=h.o.row r j;rw[h.o.x.cell,iE j];unfold Rw.v;rw[B,l,C]
def Lp3.en(h:Lp3 w wr g8 g9 g10 G L n RX X i){r}(j:r<n):∃e:En,GV wr e.v (X r 0) 12800/\∀t u,e.cells[t]? =γ u->wr.cell? ⟨(RX r).b,t,δ⟩=γ u:=by
 obtain⟨f,hb,B⟩:=(h.o.row r j).2.2.2;refine⟨f 0,B 0 aa,fun t u N=> ?_⟩;have l:t<6:=(μ.1 N).1;have:=dO (f:=f) l (show 0<1 by omega);exact Abm
def Lp3.there(h:Lp3 w wr g8 g9 g10 G L n RX X i){k}(l:k<18):wr.there g9 (k*6) 6:=by
 obtain⟨f,j,_⟩:=h.b9;exact j.there Acj
def Lp3.put(h:Lp3 w wr g8 g9 g10 G L n RX X i)(hi:i<18)(K:L i=ε){e:En}(U:GV wr e.v (X (rwx L i) 0) 12800)(M:wr'=puts wr g9 (i*6) e.cells):Lp3 w wr' g8 g9 g10 G L n RX X (i+1):=by
 subst M;obtain⟨f,D,I⟩:=h.b9;have j:Mod (fun k=>k=g9) wr (puts wr g9 (i*6) e.cells):=Mod.only (fD _ _ _ _) rfl;have hS:Far (fun k=>k=g9) wr:=fun k l _=>by
  obtain rfl:k=g9:=l;exact⟨_,_,D,dm _ _⟩
 have l9:=h.l9;have l10:=h.l10;refine⟨h.b8.mod j (by show ¬g8=g9;omega),⟨upd f i e,?_,fun k l=> ?_⟩,h.b10.mod j (by show ¬g10=g9;omega),fC h.x j (fun k l=>by have l:k=g9:=l;omega),h.l8,h.l9,h.l10,h.o.x.mod j (fun B=>h.o.x.eF D aj B),fun r N=> ?_⟩
 .rw[<-mF e hi];exact bR _ _ D
 .by_cases C:k=i
  .subst C;rw[upd_same,ι aa,ι K];exact U.mod j hS
  .rw[upd_ne C];have F:=(I k l).mod j hS;by_cases B:k<i
   .rw[ι B] at F;rw[ι aa];exact F
   .rw[θ B] at F;rw[θ aa];exact F
 .obtain⟨O,P,J,H⟩:=h.o.row r N;refine⟨O,P,J,H.mod j hS (fun B=> ?_)⟩;obtain⟨Q,Z,_⟩:=H;exact Z.eF D aj B
def kP(f):(prog.info? 100).map (·.size)=γ (aM 18 f).length:=by rw[aW];kernel_rfl
def Ca(f):(prog.info? 100).map (·.size)=γ (aM 18 f).toArray.size:=by rw[nS];exact kP f
def Lp3.fin(h:Lp3 w wr g8 g9 g10 G L n RX X 18){f}(hb:Blk wr g9 100 (aM 18 f).toArray)(hv:∀k,k<18->GV wr (f k).v (if k<18 then (if L k=ε then X (rwx L k) 0 else GQ.i 0 0) else GQ.i 0 0) 12800)(C:wr'=puts wr g8 0 (aM 18 f)):
  Blk wr' g8 100 (aM 18 f).toArray/\Ext w wr'/\∀k,k<18->GV wr' (f k).v (if L k=ε then X (rwx L k) 0 else GQ.i 0 0) 12800:=by
 subst C;have l:Mod (fun k=>k=g8) wr (puts wr g8 0 (aM 18 f)):=Mod.only (fD _ _ _ _) rfl;have hS:Far (fun k=>k=g8) wr:=fun k j _=>by
  obtain rfl:k=g8:=j;exact⟨_,_,h.b8,dm _ _⟩
 have l8:=h.l8;refine⟨?_,fC h.x l (fun k j=>by have j:k=g8:=j;omega),fun k j=> ?_⟩
 .have:=bR 0 (aM 18 f) h.b8;exact Abp
 .have B:=(hv k j).mod l hS;rw[ι j] at B;exact B
end
def Kl{brs sq n k v}(hb:∀b∈brs,iD b)(Z:brs.length<=23)(hv:Cc (rwx (lv brs)) (usd (lv brs) sq brs) v)(j:cnt (lv brs) 18=n)(l:k<18):
  Bd (if lv brs k=ε then sol n (fq zmx ((usd (lv brs) sq brs).map (Nb.br (rwx (lv brs))))) (col v) (rwx (lv brs) k) 0 else GQ.i 0 0) 841:=by
 by_cases h:lv brs k=ε
 .rw[ι h];exact JM hb Z hv j (by rw[<-j];exact(ae2 (fun k l=>sI hb l)).lt _ h)
 .rw[θ h];exact Aa0
def eY (C:Nat->Value) (E:Nat->En) (i:Nat):Value:=if i<33 then C i else ((E ((i-33)/6)).cells[(i-33)%6]?).getD undef
theorem dz{C E i}(h:i<33):eY C E i=C i:=by unfold eY;rw[ι h]
theorem qp{C E e t u}(h:(E e).cells[t]? =γ u):eY C E (33+e*6+t)=u:=by
 have j:t<6:=(μ.1 h).1;unfold eY;rw[θ aa,show(33+e*6+t-33)/6=e by omega,show(33+e*6+t-33)%6=t by omega,h];rfl
def rF(e:En):e.cells.length=6:=rfl
theorem JE{C E e}(x i):D6 (eY C E) (33+e*6) x.cells i=eY C (upd E e x) i:=by
 by_cases h:33+e*6<=i/\i<33+e*6+6
 .obtain⟨t,rfl⟩:∃t,i=33+e*6+t:=⟨i-(33+e*6),aa⟩;have B:t<6:=aa;have l:x.cells[t]? =γ (x.cells[t]'Abg):=ν _;rw[qp (E:=upd E e x) (u:=x.cells[t]'Abg) (by rw[upd_same];exact l)];exact KO _ l
 .rw[DX _ Abg];unfold eY;by_cases j:i<33
  .rw[ι j,ι j]
  .rw[θ j,θ j,upd_ne aa]
theorem oh{C E}(K:∀i,i<33->mr (C i)=ε)(i):mr (eY C E i)=ε:=by
 unfold eY;by_cases h:i<33
 .rw[ι h];exact K i h
 .rw[θ h];have:(i-33)%6<6:=Ab _ aa;generalize (i-33)%6=t at this
  match t,this with
  |0,_=>rfl
  |1,_=>rfl
  |2,_=>rfl
  |3,_=>rfl
  |4,_=>rfl
  |5,_=>rfl
structure GrS (w0 w:World) (gx gf:Nat) (C:Nat->Value) (E:Nat->En) (D:Nat->Prop) (Q:Nat->GQ) (N:Nat):Prop where
 b:fA w gx 105 393 (eY C E)
 v:∀e,e<60->D e->GV w (E e).v (Q e) N
 m:Mod (fun k=>k=gx) w0 w
 f:bM w gf
 n:∀i,i<33->mr (C i)=ε
section
variable {w0 w w':World} {gx gf N:Nat} {C:Nat->Value} {E:Nat->En} {D D':Nat->Prop} {Q Q':Nat->GQ}
def GrS.ext(h:GrS w0 w gx gf C E D Q N)(x:Ext w w'):GrS w0 w' gx gf C E D Q N:=⟨h.b.ext x,fun e U hd=>(h.v e U hd).ext x,h.m.trans (aeI x),h.f.ext x,h.n⟩
def GrS.far(h:GrS w0 w gx gf C E D Q N):gu (fun k=>k=gx) w:=ae6 h.b (fun k _=>oh h.n k) (fun k j=>j)
def GrS.there(h:GrS w0 w gx gf C E D Q N){e}(U:e<60):w.there gx (33+e*6) 6:=h.b.there aa
def GrS.to(h:GrS w0 w gx gf C E D Q N)(hd:∀e,e<60->D' e->D e/\Q e=Q' e):GrS w0 w gx gf C E D' Q' N:=
 ⟨h.b,fun e U hd'=>by rw[<-(hd e U hd').2];exact h.v e U (hd e U hd').1,h.m,h.f,h.n⟩
def GrS.Gz(h:GrS w0 w gx gf C E D Q N)(j:Mod (fun k=>k=gx) w w'){v q n}(hv:GV w v q n):GV w' v q n:=hv.fo j h.far
def GrS.put(h:GrS w0 w gx gf C E D Q N){e x q}(U:e<60)(H:GV w x.v q N)(F:w'=puts w gx (33+e*6) x.cells):
  GrS w0 w' gx gf C (upd E e x) (fun k=>k=e\/D k) (upd Q e q) N/\Mod (fun k=>k=gx) w w':=by
 have l:Mod (fun k=>k=gx) w w':=by rw[F];exact Mod.puts _ _ _ _ rfl
 have B:gf≠gx:=Blk.eF h.f h.b aj;refine⟨⟨?_,fun k G hd=> ?_,h.m.trans l,Blk.mod h.f l B,h.n⟩,l⟩
 .rw[F];exact(h.b.puts x.cells Abg).congr (fun k _=>JE x k)
 .by_cases j:k=e
  .subst j;rw[upd_same,upd_same];exact H.fo l h.far
  .rw[upd_ne j,upd_ne j];exact(h.v k G (hd.resolve_left j)).fo l h.far
end
theorem Arr.mod{S w w' A n k f}(h:Arr w A n k f)(m:Mod S w w')(l:∀b o,A=γ ⟨b,o,δ⟩->¬S b):Arr w' A n k f:=fun hn=>by
 obtain⟨b,o,e,hb,hc⟩:=h hn;exact⟨b,o,e,π hb m.size,fun i hi t u N=>(by
  have j:=hc i hi t u N;unfold World.cell? at j⊢;simp only[m.block b hb (l b o e)];exact j)⟩
def r9.mod{w w' gx C C' A nb l Bv brs L}(h:r9 w C A nb l Bv brs L)(m:Mod (fun k=>k=gx) w w')(j:gu (fun k=>k=gx) w)(D:∀b o,A=γ ⟨b,o,δ⟩->b≠gx)(K:∀i,i<33->C' i=C i):r9 w' C' A nb l Bv brs L:=
 ⟨by rw[K 0 aa];exact h.br,h.arr.mod m D,h.len,h.ab,fun i hi=>(h.z0 i hi).fo m j,fun i hi=>(h.z1 i hi).fo m j,fun i hi=>(h.e i hi).fo m j,fun k B=>by rw[K _ aa];exact h.live k B,h.ok,h.l23⟩
end Go.Proofs.YtbfnfkppkmpieaaGreat
