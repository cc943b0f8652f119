import Derived.Test.YtbfnfkppkmpieaaGreatQpc
set_option linter.unusedVariables false
set_option linter.unusedSimpArgs false
set_option maxHeartbeats 25600000
set_option maxRecDepth 200000
set_option linter.defProp false
namespace Go.Proofs.YtbfnfkppkmpieaaGreat
open Go.RowKit
open Go.RowKit Go.ChangeShapes Go.WideShapes Go.ChangeAt Go.Joins Go.Deep
open Go.RowKit Go.Deep
open Go.Proofs.Tryz
open Option renaming some->γ,none->δ
open Bool renaming true->ε,false->ζ
open Inhabited renaming default->η
open Value renaming slice->aO
open World renaming alloc->aU
open Mc
structure MO (N Ns Nd Nx m nb:Nat) (Z:Nat->Nat->GQ):Prop where
 a:∀i l,i<m->l<m->Bd (Z i l) N
 s:∀k j s,k<m->j<nb->s<k->Bd (bps Z (jI Z m k) m (m-1-k) j s) Ns
 d:∀k j,k<m->j<nb->Bd (bps Z (jI Z m k) m (m-1-k) j k) Nd
 x:∀k i j,k<=m->m-k<=i->i<m->j<nb->Bd (jI Z m k i j) Nx
 c1:2*max Ns (N+Nx+1)+65<=12800
 c2:2*max N Nx+1<=12800
 c3:Nd+N+1<=12800
 c4:N+N+1<=12800
 c5:Nx<=12800
def UK{N Ns Nd Nx m nb k i j Z}(h:MO N Ns Nd Nx m nb Z)(hi:i=m-1-k)(F:k<m)(D:j<nb):Bd (bps Z (jI Z m k) m i j k/Z i i) Nx:=by
 have B:=h.x (k+1) (m-1-k) j aa aa aa D;have C:jI Z m (k+1) (m-1-k) j=bps Z (jI Z m k) m (m-1-k) j k/Z (m-1-k) (m-1-k):=by
  show(upd (jI Z m k) (m-1-k) (fun j=>bps Z (jI Z m k) m (m-1-k) j k/Z (m-1-k) (m-1-k))) (m-1-k) j=_;rw[upd_same]
 rw[C] at B;rwa[<-hi] at B
theorem Vl(gf Ga Gb m cA cB nb N Ns Nd Nx PA PB Z w)(h:EI w gf Ga Gb m m nb PA PB Z)(hd:∀g,PA g->PB g->False)(ZA:∀g,PA g->g<w.heap.size)(YV:∀g,PB g->g<w.heap.size)(hm:m<=24)(Zn:nb<=24)(hz:∀i,i<m->Z i i≠GQ.i 0 0)(hR:MO N Ns Nd Nx m nb Z):
  Calls prog 193 #[aN gf 0,aO (γ (aM Ga 0)) m cA,aO (γ (aM Gb 0)) m cB] w fun e w'=>∃(G:Nat) (RX:Nat->Rw),e=.returned (.slice (γ (aM G 0)) m m)/\BI w w' gf Ga Gb G m nb PA PB Z m RX:=by
 have HH:=aW h;have HD:=aW hd;have ZN:=aW ZA;have Zi:=aW YV;have HZ:=aW hz;have Q:=aW hR;clear h hd ZA YV hz hR;have Zj:=F7 m aa;have Z7:=Co nb aa;have Zm:(0:Int)<=m:=aa;have ZK:Hid (Ga<w.heap.size/\Gb<w.heap.size):=aW (by
  obtain⟨_,⟨_,a⟩,⟨_,b⟩⟩:=HH.o;exact⟨a.o.lt,b.o.lt⟩)
 go_enter func193,ntmps193;go_wp2_with fail;clear Zj;go_loopw [8] (fun i wr=>∃(k:Nat) (RX:Nat->Rw),k<=m/\i=.int .i64 ((m:Int)-1-(k:Int))/\BI w wr gf Ga Gb w.heap.size m nb PA PB Z k RX) (fun i _=>(intOf i+1).toNat)
 case atStart=>
  obtain⟨hc,⟨R,ha⟩,⟨R2,hb⟩⟩:=HH.o;have J:=Ext.new w (.cells (mxc m fun _=>BX).toArray 174);exact⟨0,fun _=>BX,aa,au,⟨hc.ext J,⟨R,ha.ext J⟩,⟨R2,_,hb.ext J,fun _ _ _=>rfl⟩,Blk.new _ _ _,κ _,fun i h1 h2=>absurd h1 aa,ae0 J⟩⟩
 case round=>
  obtain⟨k,RX,hk,rfl,hB⟩:=hrel;have HB:=aW hB;clear hB HH;by_cases Yu:k<m
  .obtain⟨i,hi⟩:∃i,i=m-1-k:=⟨_,rfl⟩;have ZM:(m:Int)-1-(k:Int)=(i:Int):=aa;have YD:i<m:=aa;rw[ZM];have HI:=aW hi;clear hi ZM;have d1:decide ((i:Int)≥0)=ε:=ag;go_wp2_with fail;obtain⟨ac,⟨R,hA⟩,⟨R2,Y,aq,M⟩,J,YZ,F,Yy⟩:=HB.o;have HC:=aW ac;have HA:=aW hA;have B:=aW aq;have HY:=aW M;have ZL:=aW J;have ZO:=aW F;have a6:=aW Yy;clear ac hA aq M J YZ F Yy HB;have ZH:Far (fun g=>0<nb/\g=(R2 i).b) wr:=by
    rintro g ⟨hn,rfl⟩ _;obtain⟨ff,Zy,_⟩:=(B.o.row i YD hn).2;exact⟨_,_,Zy,dD _ _⟩
   have ZV:=aW ZH;clear ZH;have V:Hid (m-k=i+1):=aW (by have:=HI.o;omega);go_loopw [9] (fun i9 w2=>∃s j:Nat,s<=k/\j=i+1+s/\i9=.int .i64 j/\(0<nb->dQ w2 (R2 i).b nb (fun j=>bps Z (jI Z m k) m i j s))/\Mod (fun g=>0<nb/\g=(R2 i).b) wr w2) (aT m)
   case atStart=>exact⟨0,i+1,aa,aa,au,fun hn=>(B.o.row i YD hn).2.congr fun j hj=>HY.o i j (by have:=HI.o;omega),Mod.refl _ _⟩
   case round=>
    obtain⟨s,j,hs,hj,rfl,Zt,YT⟩:=hrel;have ZI:=aW Zt;have O:=aW YT;have HJ:=aW hj;clear Zt YT hj;rename World=>w2;have YR:=aW (HA.o.mod O.o ZV.o (by rintro⟨hn,e⟩;exact B.o.ne YD hn HA.o.o e.symm) (by rintro H YC _ ⟨hn,e⟩;exact HD.o _ (HA.o.mem H YC aa) (e ▸ B.o.mem i YD hn)));have Zd:=aW (Blk.mod HC.o O.o (by
     rintro⟨hn,e⟩;exact jV.ne HC.o (B.o.row i YD hn).2 e))
    have W:=aW (ZL.o.mod O.o (by rintro⟨hn,e⟩;exact B.o.ne YD hn ZL.o e.symm));have Zx:=aW (B.o.o.mod O.o (by rintro⟨hn,e⟩;exact B.o.ne YD hn B.o.o e.symm));by_cases Z9:s<k
    .have YW:j<m:=by have:=HI.o;have:=HJ.o;omega
     have L:i<j:=by have:=HJ.o;omega
     have dj:decide ((j:Int)<m)=ε:=ae;have di:decide ((i:Int)<m)=ε:=ae;obtain⟨ZF,f,hf,hv⟩:=YR.o.row i YD aa;have C:=YR.o.cell YD;rw[ZF] at C;obtain⟨a0,a1,a2,a3,a4,a5⟩:=dQ.cells hf YW rfl;have ar:=aW ((hv j YW).to (Q.o.a i j YD YW));clear ZF hf hv;go_wp2_with fail;refine(yI _ _ _ _ ar.o (by have:=Q.o.c2;omega)).mono ?_;rintro e w3 ⟨rfl,Yv⟩;by_cases h0:Z i j=GQ.i 0 0
     .rw[Λ h0];have aP:Hid (∀H,bps Z (jI Z m k) m i H (s+1)=bps Z (jI Z m k) m i H s):=aW fun H=>by
       show _-Z i (i+1+s)*_=_;rw[<-HJ.o,h0,GQ.fq,GQ.fC]
      have YA:=aW Yv;clear h0 C a0 a1 a2 a3 a4 a5 Yv;go_wp2_with fail
      go_roundw
      case rel=>exact⟨s+1,j+1,aa,by have:=HJ.o;omega,au,fun hn=>((ZI.o hn).ext YA.o).congr fun H _=>(aP.o H).symm,O.o.trans (ae0 YA.o)⟩
      case measure=>exact aV
     .rw[ρ h0];obtain⟨xa,xn,xc,xb,xr⟩:=ZO.o j (by have:=V.o;omega) YW;have ZJ:0<nb->(RX j).A=γ ⟨(RX j).b,0,δ⟩/\dQ w3 (RX j).b nb (jI Z m k j):=fun hn=>⟨xa,(xr.mod O.o ZV.o (by rintro⟨YL,e⟩;have h1:=Zi.o _ (B.o.mem i YD YL);omega)).ext Yv⟩;have K1:=aX.cell (Yv.cell_ C);have U:=aX.cell (show w3.cell? (aM Gb i)=γ (.slice (R2 i).A nb nb) from Yv.cell_ (by rw[Zx.o.cell,jq YD,B.o.v0 YD]));have K3:=aX.cell (show w3.cell? (aM w.heap.size j)=γ (.slice (γ (aM ((RX j).b) 0)) nb nb) from Yv.cell_ (by rw[W.o.cell,jq YW];unfold Rw.v;rw[xa,xn,xc]));have A0:=aX.cell (Yv.cell_ a0);have A1:=aX.cell (Yv.cell_ a1);have A2:=aX.cell (Yv.cell_ a2);have A3:=aX.cell (Yv.cell_ a3);have A4:=aX.cell (Yv.cell_ a4);have A5:=aX.cell (Yv.cell_ a5);have HS:=aW (Sa gf (R2 i).b (RX j).b nb nb nb Ns Nx N (R2 i).A (γ ⟨(RX j).b,0,δ⟩) _ (fun j=>bps Z (jI Z m k) m i j s) (jI Z m k j) (Z i j) w3 (Zd.o.ext Yv) (ar.o.ext Yv) (fun hn=>⟨(B.o.row i YD hn).1,(ZI.o hn).ext Yv⟩) (fun hn=>⟨rfl,(ZJ hn).2⟩) (fun hn e=>by have h1:=Zi.o _ (B.o.mem i YD hn);omega) aa (fun H YC=>by have:=Q.o.s k H s Yu YC Z9;rwa[<-HI.o] at this) (fun H YC=>Q.o.x k j H hk (by have:=V.o;omega) YW YC) Q.o.c1 Q.o.c2);have YA:=aW Yv;clear ZJ C a0 a1 a2 a3 a4 a5 Yv xa xn xc xb xr;go_wp2_with fail;refine bO 16 [(ε,0),(ε,1),(ε,2),(ε,3),(ε,4),(ε,5),(ε,6),(ε,7),(ε,8),(ε,9),(ε,10),(ε,11),(ε,12),(ε,13),(ε,14),(ε,15)] ah ah ?_;refine bD [0,1,2,3,4,5,6,7,8,9,10,11,12,13,14,15] [] _ ah ?_;refine Gq ?_;clear K1 U K3 A0 A1 A2 A3 A4 A5;simp only[dh,ξ,τ];go_wp2_with fail;refine HS.o.mono ?_;rintro e w5 ⟨rfl,aw,Zh⟩;have Zq:=aW aw;have az:=aW ((O.o.trans (ae0 YA.o)).trans Zh);clear aw Zh;go_wp2_with fail
      go_roundw
      case rel=>
       refine⟨s+1,j+1,aa,by have:=HJ.o;omega,au,fun hn=>(Zq.o hn).congr fun H _=> ?_,az.o⟩;show _=bps Z (jI Z m k) m i H s-Z i (i+1+s)*jI Z m k (i+1+s) H;rw[<-HJ.o]
      case measure=>exact aV
    .obtain rfl:k=s:=aa;obtain rfl:m=j:=by have:=HI.o;have:=HJ.o;omega
     have dj:decide ((m:Int)<m)=ζ:=ag;have di:decide ((i:Int)<m)=ε:=ae;have Zw:=Ext.new w2 (.cells (bz nb fun _=>zEn).toArray 42);have YK:=W.o.ext Zw;have fr:=YK.frozen;have C:(w2.alloc (.cells (bz nb fun _=>zEn).toArray 42)).cell? (aM w.heap.size i)=γ (RX i).v:=by rw[YK.cell];exact jq YD
     have kb:w2.cell? (aM Gb i)=γ (.slice (R2 i).A nb nb):=by rw[Zx.o.cell,jq YD,B.o.v0 YD]
     have YU:Blk ((w2.alloc (.cells (bz nb fun _=>zEn).toArray 42)).setCell ⟨w.heap.size,i,δ⟩ (.slice (γ (aM w2.heap.size 0)) nb nb)) w.heap.size 174 (mxc m (upd RX i ⟨γ ⟨w2.heap.size,0,δ⟩,w2.heap.size,0,nb,nb⟩)).toArray:=by
      rw[<-Gt];exact YK.qG _ _
     have k2:((w2.alloc (.cells (bz nb fun _=>zEn).toArray 42)).setCell ⟨w.heap.size,i,δ⟩ (.slice (γ (aM w2.heap.size 0)) nb nb)).cell? (aM w.heap.size i)=γ (aO (γ (aM w2.heap.size 0)) nb nb):=by rw[YU.cell,jq YD,upd_same];rfl
     have Zc:w.heap.size<w2.heap.size:=W.o.lt;have YG:Blk ((w2.alloc (.cells (bz nb fun _=>zEn).toArray 42)).setCell ⟨w.heap.size,i,δ⟩ (.slice (γ (aM w2.heap.size 0)) nb nb)) w2.heap.size 42 (bz nb fun _=>zEn).toArray:=(Blk.new _ _ _).far (by show w2.heap.size≠w.heap.size;omega) _;have ao:Mod (fun g=>g=w.heap.size) w2 ((w2.alloc (.cells (bz nb fun _=>zEn).toArray 42)).setCell ⟨w.heap.size,i,δ⟩ (.slice (γ (aM w2.heap.size 0)) nb nb)):=(ae0 Zw).trans (Mod.only (Only.set _ _ _ _) rfl);have ZG:Far (fun g=>g=w.heap.size) w2:=fun g hg _=>by subst hg;exact⟨_,_,W.o,kV _ _⟩
     have Zf:=aW YU;have YI:=aW YG;have YO:=aW ao;have ay:=aW ZG;have Zg:=aW Zc;clear YU YG ao ZG Zc Zw YK;go_wp2_with fail;clear C k2 fr kb;generalize ZT:World.setCell _ _ _=w4 at Zf YI YO⊢;clear ZT;generalize Zo:w2.heap.size=g at*
     have YE:=aW Zo;clear Zo;have ZW:=aW (Blk.mod Zd.o YO.o (by exact fun e=>Zd.o.fw W.o aj e));have aB:=aW (YR.o.mod YO.o ay.o (by have:=ZK.o.1;exact fun e=>aa) (fun H YC _=>YR.o.ne YC aa W.o));have ai:=aW (Zx.o.mod YO.o (by have:=ZK.o.2;exact fun e=>aa));have am:Hid (0<nb->dQ w4 (R2 i).b nb (fun j=>bps Z (jI Z m k) m i j k)):=aW fun hn=>(ZI.o hn).mod YO.o ay.o (by
      obtain⟨cs,YJ⟩:=(ZI.o hn).blk;exact fun e=>YJ.fw W.o aj e)
     have Zk:Hid (w.heap.size<g/\Ga<g/\Gb<g/\gf<g/\(0<nb->(R2 i).b<g)/\∀D,D<m->(R D).b<g):=aW (by
      have h1:=YE.o;have h2:=Zg.o;have h3:=ZK.o;refine⟨h2,aa,aa,by have:=Blk.lt Zd.o;omega,fun hn=> ?_,fun D YB=> ?_⟩
      .obtain⟨cs,YJ⟩:=(ZI.o hn).blk;have:=YJ.lt;omega
      .obtain⟨cs,YJ⟩:=(YR.o.row D YB aa).2.blk;have:=YJ.lt;omega)
     clear YR Zd Zx;go_loopw [69] (fun ZX wz=>∃(H:Nat) (f:Nat->En),H<=nb/\ZX=.int .i64 H/\Blk wz g 42 (bz nb f).toArray/\(∀j,j<H->GV wz (f j).v (bps Z (jI Z m k) m i j k/Z i i) 12800)/\Mod (fun g'=>g'=g) w4 wz) (aT nb)
     case atStart=>exact⟨0,_,aa,rfl,YI.o,fun j hj=>aa,Mod.refl _ _⟩
     case round=>
      clear dj;obtain⟨H,f,YC,rfl,hb,YS,Zp⟩:=hrel;have YP:=aW hb;have YN:=aW YS;have YH:=aW Zp;clear hb YS Zp;rename World=>wz;have ap:Far (fun g'=>g'=g) w4:=fun g' hg _=>by subst hg;exact⟨_,_,YI.o,dD _ _⟩
      have av:=aW ap;clear ap;have Zz:=aW (Zf.o.mod YH.o (by have:=Zk.o.1;exact fun e=>aa));have ZY:=aW (Blk.mod ZW.o YH.o (by have:=Zk.o.2.2.2.1;exact fun e=>aa));have ZZ:=aW (aB.o.mod YH.o av.o (by have:=Zk.o.2.1;exact fun e=>aa) (fun D YB _=>by have:=Zk.o.2.2.2.2.2 D YB;exact fun e=>aa));have ad:=aW (ai.o.mod YH.o (by have:=Zk.o.2.2.1;exact fun e=>aa));have ZQ:Hid (0<nb->dQ wz (R2 i).b nb (fun j=>bps Z (jI Z m k) m i j k)):=aW fun hn=>(am.o hn).mod YH.o av.o (by have:=Zk.o.2.2.2.2.1 hn;exact fun e=>aa);by_cases Yx:H<nb
      .have dj:decide ((H:Int)<nb)=ε:=ae;have YM:0<nb:=aa;have aE:=(B.o.row i YD YM).1;have K1:=aX.cell (show wz.cell? (aM w.heap.size i)=γ (aO (γ (aM g 0)) nb nb) by rw[Zz.o.cell,jq YD,upd_same];rfl);have U:=aX.cell (show wz.cell? (aM Gb i)=γ (.slice (γ (aM ((R2 i).b) 0)) nb nb) by rw[ad.o.cell,jq YD,B.o.v YD YM]);obtain⟨ZF,P,Z8,ZC⟩:=ZZ.o.row i YD aa;have K3:=aX.cell (show wz.cell? (aM Ga i)=γ (.slice (γ (aM ((R i).b) 0)) m m) by rw[ZZ.o.cell YD,ZF]);obtain⟨fb,ax,YY⟩:=ZQ.o YM;obtain⟨a0,a1,a2,a3,a4,a5⟩:=dQ.cells Z8 YD rfl;obtain⟨b0,b1,b2,b3,b4,b5⟩:=dQ.cells ax Yx rfl;have A0:=aX.cell a0;have A1:=aX.cell a1;have A2:=aX.cell a2;have A3:=aX.cell a3;have A4:=aX.cell a4;have A5:=aX.cell a5;have B0:=aX.cell b0;have B1:=aX.cell b1;have B2:=aX.cell b2;have B3:=aX.cell b3;have B4:=aX.cell b4;have B5:=aX.cell b5;have ZB:=aW ((ZC i YD).to (Q.o.a i i YD YD));have ZE:=aW ((YY H Yx).to (by have:=Q.o.d k H Yu Yx;rwa[<-HI.o] at this));clear ZF Z8 ZC ax YY a0 a1 a2 a3 a4 a5 b0 b1 b2 b3 b4 b5 aE;go_wp2_with fail;refine bO 21 [(ε,0),(ε,1),(ε,2),(ε,3),(ε,4),(ε,5),(ε,6),(ε,7),(ε,8),(ε,9),(ε,10),(ε,11),(ε,12),(ε,13),(ε,14),(ε,15),(ε,16),(ε,17),(ε,18),(ε,19),(ζ,20)] ah ah ?_;refine bD [0,1,2,3,4,5,6,7,8,9,10,11,12,13,14,15,16,17,18,19] [(ζ,20)] _ ah ?_;refine Gq ?_;refine bC 20 [] ah ?_;intro K I;simp only[bJ];go_wp2_with fail;have Ze:Ext wz wz.drew:=(Ext.refl _).drew;refine(WF gf _ _ (bps Z (jI Z m k) m i H k) (Z i i) Nd N _ (Blk.ext ZY.o Ze) (ZE.o.ext Ze) (ZB.o.ext Ze) (HZ.o i YD) Nx Q.o.c3 Q.o.c4 (UK Q.o HI.o Yu Yx) Q.o.c5).mono ?_;rintro e w5 ⟨v5,rfl,Zr,Yz⟩;obtain⟨u1,D1,p1,q1,u2,D2,p2,q2,u3,D3,p3,q3,rfl⟩:=Zr.opn;have YQ:=aW Yz.jJ;have ZR:=aW Zr;clear Yz Zr Ze;go_wp2;refine I _ _ ⟨⟨w5,YQ.o⟩,rfl⟩ ?_;clear I K K1 U K3 A0 A1 A2 A3 A4 A5 B0 B1 B2 B3 B4 B5;simp only[dh,ξ,τ];have YF:=YP.aA YQ.o;obtain⟨a0,a1,a2,a3,a4,a5⟩:=dQ.cells YF.o Yx rfl;have fr:=YF.o.frozen;have Zh:Mod (fun g'=>g'=g) w5 (puts w5 g (H*6) [.bool u1,.slice D1 p1 q1,.bool u2,.slice D2 p2 q2,.bool u3,.slice D3 p3 q3]):=Mod.only (gV _ _ _ _) rfl;have ZU:Far (fun g'=>g'=g) w5:=fun g' hg _=>by subst hg;exact⟨_,_,YF.o,dD _ _⟩
       have YX:=dm (H*6) [.bool u1,.slice D1 p1 q1,.bool u2,.slice D2 p2 q2,.bool u3,.slice D3 p3 q3] YF.o;have ZP:=oo (f:=f) ⟨u1,D1,p1,q1,u2,D2,p2,q2,u3,D3,p3,q3⟩ Yx;rw[show gJ (bz nb f).toArray (H*6) [.bool u1,.slice D1 p1 q1,.bool u2,.slice D2 p2 q2,.bool u3,.slice D3 p3 q3]=_ from ZP] at YX;have S:=aW YX;have Zl:=aW ((YH.o.trans (ae0 YQ.o)).trans Zh);have aI:Hid (∀j,j<H+1->GV (puts w5 g (H*6) [.bool u1,.slice D1 p1 q1,.bool u2,.slice D2 p2 q2,.bool u3,.slice D3 p3 q3]) (upd f H ⟨u1,D1,p1,q1,u2,D2,p2,q2,u3,D3,p3,q3⟩ j).v (bps Z (jI Z m k) m i j k/Z i i) 12800):=aW fun j hj=>by
        by_cases e:j=H
        .subst e;rw[upd_same];exact((ZR.o.up Q.o.c5).mod Zh ZU)
        .rw[upd_ne e];exact((YN.o j aa).ext YQ.o).mod Zh ZU
       clear Zh ZU YX ZP;go_wp2_with fail
       go_roundw
       case rel=>exact⟨H+1,_,aa,au,S.o,aI.o,Zl.o⟩
       case measure=>exact aV
      .obtain rfl:nb=H:=aa;have dj:decide ((nb:Int)<nb)=ζ:=ag;have e0:=Blk.cell ZY.o;go_wp2_with fail;have hS:Far (fun g'=>(0<nb/\g'=(R2 i).b)\/g'=w.heap.size\/g'=g) wr:=by
        rintro g' (h|rfl|rfl) af
        .exact ZV.o g' h af
        .exact⟨_,_,ZL.o,kV _ _⟩
        .have h1:=YE.o;have h2:=O.o.size;omega
       have hM:Mod (fun g'=>(0<nb/\g'=(R2 i).b)\/g'=w.heap.size\/g'=g) wr wz:=((O.o.mono fun g' h=> .inl h).trans (YO.o.mono fun g' h=> .inr (.inl h))).trans (YH.o.mono fun g' h=> .inr (.inr h));have a7:=Zk.o.1;have YV:∀j,j<m->0<nb->(R2 j).b<w.heap.size:=fun j hj hn=>Zi.o _ (B.o.mem j hj hn);have aG:(i:Int)-1=(m:Int)-1-((k+1:Nat):Int):=by have:=HI.o;omega
       refine⟨⟨k+1,upd RX i ⟨γ ⟨g,0,δ⟩,g,0,nb,nb⟩,aa,by rw[aG],?_⟩,by simp[aT,intOf]⟩;refine⟨ZY.o,⟨R,ZZ.o⟩,⟨R2,upd Y i (fun j=>bps Z (jI Z m k) m i j k),?_,fun D j YB=> ?_⟩,Zz.o,κ _,fun D h1 h2=> ?_,?_⟩
       .refine B.o.U7 hM hS ?_ ?_ (fun hn=>ZQ.o hn)
        .rintro(⟨hn,e⟩|e|e)
         .exact B.o.ne YD hn B.o.o e.symm
         .have:=ZK.o.2;omega
         .have:=Zk.o.2.2.1;omega
        .rintro j hj Yw hn (⟨_,e⟩|e|e)
         .exact Yw (B.o.inj j i hj YD hn e)
         .have:=YV j hj hn;omega
         .have:=YV j hj hn;omega
       .have:=HI.o;rw[upd_ne aa];exact HY.o D j aa
       .have hI:=HI.o;by_cases e:D=i
        .subst e;rw[upd_same];refine⟨rfl,rfl,rfl,by show w.heap.size<=g;omega,f,YP.o,fun j hj=> ?_⟩;have hb:=YN.o j hj;have e2:jI Z m (k+1) D j=bps Z (jI Z m k) m D j k/Z D D:=by
          show upd (jI Z m k) (m-1-k) (fun j=>bps Z (jI Z m k) m (m-1-k) j k/Z (m-1-k) (m-1-k)) D j=_;rw[<-hI,upd_same]
         rw[e2];exact hb
        .rw[upd_ne e];obtain⟨h3,h4,h5,h6,h7⟩:=ZO.o D aa h2;refine⟨h3,h4,h5,h6,?_⟩;rw[DZ Z Yu aa];refine h7.mod hM hS ?_;obtain⟨cs,YJ⟩:=h7.blk;rintro(⟨hn,T⟩|T|T)
         .have:=YV i YD hn;omega
         .exact YJ.fw ZL.o aj T
         .have h8:=YJ.lt;have h9:=YE.o;have Zv:=O.o.size;omega
       .have hm:=a6.o;exact⟨hM.os.trans hm.os,hM.tape.trans hm.tape,hM.output.trans hm.output,Θ hm.size hM.size,fun k' Za hn=>(hM.block k' (ο Za hm.size) (by
         rintro(⟨YL,T⟩|T|T)
         .exact hn (T ▸ B.o.mem i YD YL)
         .omega
         .omega)).trans (hm.block k' Za hn)⟩
  .obtain rfl:k=m:=aa;have ZM:(k:Int)-1-(k:Int)= -1:=aa;rw[ZM];go_wp2_with fail;go_ret;exact⟨_,RX,rfl,HB.o⟩
theorem Vq{A A2 B O B2 O2 m c c2 nb N Ns Nd Nx R R2}{E E2:Nat->Nat->En}{X Y w}{vb vb2:Nat->Nat->Bool}(h:Mem w A B O m R E)(h2:Mem w A2 B2 O2 m R2 E2)(YY:∀i j,i<m->j<(R i).n->VB w (E i j).v (vb i j))(Yx:∀i j,i<m->j<(R2 i).n->VB w (E2 i j).v (vb2 i j))(hM:IsM m R vb)(ZB:IsM m R2 vb2)(hn:∀i,i<m->(R i).n=m)(Zp:∀i,i<m->(R2 i).n=nb)(Zn:nb<=24)(hv:∀i j,i<m->j<m->GV w (E i j).v (X i j) 12800)(ZV:∀i j,i<m->j<nb->GV w (E2 i j).v (Y i j) 12800)(hN:4*N+67<=12800)(K:Room N m m nb (side m X Y))(YS:(ech m (side m X Y) m).r=m->MO N Ns Nd Nx m nb (ech m (side m X Y) m).X):
  Calls prog 159 #[aO A m c,aO A2 m c2] w fun e w'=>((ech m (side m X Y) m).r<m/\e=.returned (.tuple #[(),(45:Int)])\/(ech m (side m X Y) m).r=m/\∃G RX,e=.returned (.tuple #[aO (γ (aM G 0)) m m,aJ])/\Out w' G m nb RX (jI (ech m (side m X Y) m).X m m))/\Ext w w':=by
 have hm:=hM.1;have ZU:=Db m (side m X Y) m;have YD:=GN m (side m X Y) m;have HM:=aW h;have Yz:=aW h2;have HV:=aW hv;have V:=aW ZV;have HN:=aW hn;have YN:=aW Zp;have Q:=aW K;have Yw:=aW YS;have YL:=aW ZU;have YT:=aW (fun(w':World) (x:Ext w w')=>Dm (c:=c) (h.ext x) (fun i j hi hj=>(YY i j hi hj).ext x) ε ⟨fun _=>hM,fun _=>rfl⟩);have YU:=aW (fun(w':World) (x:Ext w w')=>Dm (c:=c2) (h2.ext x) (fun i j hi hj=>(Yx i j hi hj).ext x) ε ⟨fun _=>ZB,fun _=>rfl⟩);have YQ:=aW (fun(w':World) (x:Ext w w')=>rH (c:=c) (h.ext x));have F:wd m R=m:=by
  unfold wd;by_cases e:m=0
  .rw[ι e];exact e.symm
  .rw[θ e];exact hn 0 aa
 rw[F] at YQ;clear h h2 hv ZV hn Zp K YS YY Yx hM ZB F ZU;have YX:((m:Int) !=m)=ζ:=ag;go_enter func159,ntmps159;go_wp2_with fail;refine(YT.o _ (Ext.refl _)).mono ?_;rintro e w1 ⟨rfl,H⟩;have Zr:=aW H;clear H;go_wp2_with fail;refine(YU.o _ Zr.o).mono ?_;rintro e w2 ⟨rfl,P⟩;have Zh:=Zr.aC P;clear P Zr;go_wp2_with fail;refine(YQ.o _ Zh.o).mono ?_;rintro e w3 ⟨rfl,Yv⟩;have YE:=(Zh.o.trans Yv).alloc (.cells #[aJ] 250);have YB:=P8 w3;clear Zh Yv;go_wp2_with fail;generalize aU _ _=w4 at YB YE⊢;generalize w3.heap.size=gf at YB⊢;have ZW:=aW YB;have YP:=aW YE;clear YB YE;refine(Vy (HM.o.ext YP.o) HN.o (fun i j hi hj=>(HV.o i j hi hj).ext YP.o) hm hm).mono ?_;rintro e wa ⟨Ga,Ra,rfl,YG⟩;have YF:=YP.aC YG.ext;have D:=aW YG;clear YG;go_wp2_with fail;refine(Vy (Yz.o.ext YF.o) YN.o (fun i j hi hj=>(V.o i j hi hj).ext YF.o) hm Zn).mono ?_;rintro e wb ⟨Gb,Rb,rfl,YI⟩;have Zc:=YF.aC YI.ext;have C:=aW YI;clear YI;have ad:∀i,i<m->(Ra i).b<wa.heap.size:=fun i hi=>by
  obtain⟨cs,YJ⟩:=(D.o.row i hi).2.1.blk;exact YJ.lt
 have S:∀i,i<m->wa.heap.size<=(Rb i).b/\(Rb i).b<wb.heap.size:=fun i hi=>by
  obtain⟨cs,YJ⟩:=(C.o.row i hi).2.1.blk;exact⟨(C.o.row i hi).2.2,YJ.lt⟩
 have YR:w4.heap.size<=wa.heap.size:=D.o.ext.size;have YA:wa.heap.size<=wb.heap.size:=C.o.ext.size;have YV:=aW (EI.mk (gf:=gf) (Ga:=Ga) (Gb:=Gb) (m:=m) (na:=m) (nb:=nb) (PA:=fun g=>∃i,i<m/\g=(Ra i).b) (PB:=fun g=>∃i,i<m/\g=(Rb i).b) (Z:=side m X Y) (W:=wb) ((ZW.o.ext D.o.ext).ext C.o.ext) ⟨Ra,(D.o.mx C.o.ext).congr fun i j hi hj=>(J8 hj).symm⟩ ⟨Rb,(C.o.mx (Ext.refl _)).congr fun i j hi hj=>(Rq).symm⟩);have T:Ga≠Gb:=by have h1:=D.o.o.lt;have h2:=C.o.gx;omega
 have YM:=aW T;clear T;have ZN:=aW ad;have Zi:=aW S;clear ad S;have ac:=aW (And.intro YR YA);clear YR YA;go_wp2_with fail;refine(J2 gf Ga Gb m m m m nb N _ _ (fun g=>w4.heap.size<=g) (side m X Y) wb YV.o YM.o ?_ ⟨D.o.gx,Θ ac.o.1 C.o.gx,?_,?_⟩ (fun h=>h) hm hm Zn hN Q.o ?_).mono ?_
 .exact Abs
 .rintro g ⟨i,hi,rfl⟩;exact(D.o.row i hi).2.2
 .rintro g ⟨i,hi,rfl⟩;exact Θ ac.o.1 (Zi.o i hi).1
 .intro w' x;exact Ou ((D.o.mx C.o.ext).ext x) (fun h=>h) m aa
 rintro e w5 ⟨rfl,Yu,YH⟩;have YC:=aW Yu;have YO:=aW (YP.o.trans (YH.Wj (D.o.ext.trans C.o.ext) (κ _)));have U:=aW YH.size;have e0:=Yu.calm.cell;clear YH;generalize hs:ech m (side m X Y) m=s at Yw YL YC YD⊢;have HS:=aW hs;clear hs;by_cases hr:s.r<m
 .have M:decide ((s.r:Int)<(m:Int))=ε:=ae;have I:=aW hr;clear hr;go_wp2_with fail;refine xM rfl rfl ⟨.inl ⟨?_,rfl⟩,YO.o⟩;rw[HS.o];exact I.o
 .have M:decide ((s.r:Int)<(m:Int))=ζ:=ae;have YZ:¬((s.r:Int)<(m:Int)):=aa;have I:Hid (s.r=m):=aW aa;clear hr YD;go_wp2_with fail;refine(Vl gf Ga Gb m m m nb N Ns Nd Nx _ _ s.X _ YC.o ?_ ?_ ?_ hm Zn (YL.o I.o) (Yw.o I.o)).mono ?_
  .exact Abs
  .rintro g ⟨i,hi,rfl⟩;have h1:=ZN.o i hi;have h2:=ac.o;have h3:=U.o;omega
  .rintro g ⟨i,hi,rfl⟩;have h1:=(Zi.o i hi).2;have h3:=U.o;omega
  rintro e w6 ⟨G,RX,rfl,J⟩;have e1:=J.calm.cell;have Yy:=J.mod;have YK:Ext w w6:=by
   have L:=YO.o;exact⟨Yy.os.trans L.os,Yy.tape.trans L.tape,Yy.output.trans L.output,Θ L.size Yy.size,fun k' Za=>(Yy.block k' (ο Za L.size) (by
    rintro⟨i,hi,e⟩;have h1:=(Zi.o i hi).1;have h2:=ac.o;have h3:=YP.o.size;omega)).trans (L.block k' Za)⟩
  have YW:=aW YK;have ZQ:=aW J;clear YK J Yy;go_wp2_with fail;refine xM rfl rfl ⟨.inr ⟨?_,G,RX,rfl,?_⟩,YW.o⟩
  .rw[HS.o];exact I.o
  .rw[HS.o];exact⟨ZQ.o.x,fun i hi=>⟨(ZQ.o.row i aa hi).1,(ZQ.o.row i aa hi).2.1,(ZQ.o.row i aa hi).2.2.1,(ZQ.o.row i aa hi).2.2.2.2⟩⟩
structure BrD where
 a:Nat
 b:Nat
 z0:Imp
 z1:Imp
 n:Int
 d:Int
 emf:Int
 deriving DecidableEq,Inhabited
def nN (s:StD) (p:dM) (i:Nat):Bool:=p.closed.getD i ζ&&decide ((sides s p i).1.1=1)
def jg (s:StD) (p:dM) (i:Nat):Nat:=13+(sides s p i).1.2.toNat
def oh (s:StD) (p:dM) (l e i:Nat):Bool:=
 nN s p i&&decide ((s.bays.getD i η).kind=1)&&decide ((s.bays.getD i η).obj=(l:Int))&&decide ((s.bays.getD i η).en=(e:Int))
def wZ (s:StD) (p:dM) (l e:Nat):Nat->Nat
 |0=>2*l+e
 |n+1=>if oh s p l e n=ε then jg s p n else wZ s p l e n
def eF (s:StD) (p:dM) (l e:Nat):Nat:=wZ s p l e s.bays.length
def iq (s:StD) (p:dM) (i:Nat):Option BrD:=
 let x:=s.bays.getD i η
 if nN s p i=ε then
  if x.kind=2 then
   let g:=s.srcs.getD x.obj.toNat η
   γ ⟨jg s p i,17,g.z0,g.z1,1,1,g.emf⟩
  else if x.kind=3/\(sides s p i).1≠(sides s p i).2 then
   γ ⟨jg s p i,13+(sides s p i).2.2.toNat,x.z,x.z,1,1,0⟩
  else δ
 else δ
def gm (s:StD) (p:dM):Nat->List BrD
 |0=>[]
 |n+1=>gm s p n++(iq s p n).toList
def iC (f:eD) (l:Nat):Bool:=f.line&&decide (f.obj=(l:Int))
def half (s:StD) (p:dM) (f:eD) (l e:Nat):BrD:=
 let x:=s.lines.getD l η
 if iC f l=ε then ⟨eF s p l e,12,x.z0,x.z1,(if e=0 then f.num else f.den-f.num),f.den,0⟩
 else ⟨eF s p l e,eF s p l (1-e),x.z0,x.z1,1,1,0⟩
def jP (s:StD) (p:dM) (f:eD) (l:Nat):List BrD:=
 if iC f l=ε then [half s p f l 0,half s p f l 1] else [half s p f l 0]
def fE (s:StD) (p:dM) (f:eD):Nat->List BrD
 |0=>[]
 |n+1=>fE s p f n++jP s p f n
def bU (s:StD) (p:dM) (f:eD):List BrD:=gm s p s.bays.length++fE s p f s.lines.length
def way (s:StD) (p:dM) (f:eD) (i:Nat):Option BrD:=
 if (s.bays.getD i η).kind=1 then γ (half s p f (s.bays.getD i η).obj.toNat (s.bays.getD i η).en.toNat)
 else iq s p i
def eO (s:StD) (p:dM) (f:eD):Nat:=
 if f.line=ε then 12 else if f.kind=0 then 17 else 13+((groups s p).getD f.obj.toNat 0).toNat
def rP (L:Nat->Bool) (b:BrD):Nat->Bool:=
 fun n=>L n||((decide (b.b=17)||L b.a||L b.b)&&decide (n≠17)&&(decide (n=b.a)||decide (n=b.b)))
structure yX (bs:List BrD) (L:Nat->Bool):Prop where
 closed:∀b∈bs,(b.b=17\/L b.a=ε\/L b.b=ε)->(b.a≠17->L b.a=ε)/\(b.b≠17->L b.b=ε)
 none:L 17=ζ
def agJ{bs L}(D:L 17=ζ)(h:∀b∈bs,∀n,rP L b n=L n):yX bs L:=by
 refine⟨fun b hb Z=> ?_,D⟩;have ha:=h b hb b.a;have hc:=h b hb b.b;simp only[rP] at ha hc;have J:(decide (b.b=17)||L b.a||L b.b)=ε:=by
  rcases Z with h|h|h<;>simp[h]
 constructor
 .intro hn;cases j:L b.a with
  |true=>rfl
  |false=>rw[J,j] at ha;simp[hn] at ha
 .intro hn;cases j:L b.b with
  |true=>rfl
  |false=>rw[J,j] at hc;simp[hn] at hc
def dz (w:World) (g:Nat):Prop:=Blk w g 109 #[aJ]
def dz.ext{w w' g}(h:dz w g)(x:Ext w w'):dz w' g:=Blk.ext h x
def rZ(g v q n w)(hc:dz w g)(L:GV w v q n):
  CV 172 #[aN g 0,v,aJ] w fun v w'=>GV w' v q n:=by
 obtain⟨N,H,Q,G,Z,T,U,V,P,I,J,K,rfl⟩:=L.opn;obtain⟨Y,F,j⟩:=an2 w 42 #[N,aO H Q G,Z,aO T U V,P,aO I J K] 42 aQ3;have S:=Blk.cell hc;have B:=Blk.frozen hc;have D:Ext w (w.setCell ⟨g,0,δ⟩ (.int .i64 0)):=(Ext.refl w).stay hc rfl;have O:=hc.ext D;have C:=Blk.cell O;have R:g<w.heap.size:=Blk.lt hc;have M:=aW (L.ext D);clear L Y F j;go_enter func172,ntmps172;go_wp2_with fail;exact dG rfl rfl rfl (aeV _ _ Abh) ⟨_,rfl,M.ext ((Ext.new _ _).alloc _),D.trans ((Ext.new _ _).alloc _)⟩
def KD(g v0 v1 q0 q1 n0 n1 w)(hc:dz w g)(L:GV w v0 q0 n0)(M:GV w v1 q1 n1)(hn:2*max n0 n1+65<=12800):
  CV 134 #[aN g 0,v0,v1,.func (Fn.func 194) #[] #[]] w fun v w'=>GV w' v (q0+q1) (n0+n1+65):=by
 obtain⟨N,H,Q,G,Z,T,U,V,Yw,Yy,Yz,Yx,rfl⟩:=L.opn;obtain⟨D,YA,C,I,YB,R,YD,P,S,YC,Yv,K,rfl⟩:=M.opn;have HX:=aW L;have HY:=aW M;clear L M;obtain⟨Y,F,W,j⟩:=an3 w 42 #[N,aO H Q G,Z,aO T U V,Yw,aO Yy Yz Yx] 42 #[D,aO YA C I,YB,aO R YD P,S,aO YC Yv K] 42 aQ3;have O:=hc.ext Y;have k0:=Blk.cell O;have k4:=F.cell;have k5:=W.cell;have Yu:g<w.heap.size:=Blk.lt hc;go_enter adb,acR;go_wp2_with fail;refine(Uw _ q0 n0 _ q1 n1 _ (HX.ext Y) (HY.ext Y) hn).mono ?_;exact AbL
def Md(g v0 v1 q0 q1 n0 n1 w)(hc:dz w g)(L:GV w v0 q0 n0)(M:GV w v1 q1 n1)(hn:2*max n0 n1+65<=12800):
  CV 134 #[aN g 0,v0,v1,.func (Fn.func 135) #[] #[]] w fun v w'=>GV w' v (q0-q1) (n0+n1+65):=by
 obtain⟨N,H,Q,G,Z,T,U,V,Yw,Yy,Yz,Yx,rfl⟩:=L.opn;obtain⟨D,YA,C,I,YB,R,YD,P,S,YC,Yv,K,rfl⟩:=M.opn;have HX:=aW L;have HY:=aW M;clear L M;obtain⟨Y,F,W,j⟩:=an3 w 42 #[N,aO H Q G,Z,aO T U V,Yw,aO Yy Yz Yx] 42 #[D,aO YA C I,YB,aO R YD P,S,aO YC Yv K] 42 aQ3;have O:=hc.ext Y;have k0:=Blk.cell O;have k4:=F.cell;have k5:=W.cell;have Yu:g<w.heap.size:=Blk.lt hc;go_enter adb,acR;go_wp2_with fail;refine(N7 _ q0 n0 _ q1 n1 _ (HX.ext Y) (HY.ext Y) hn).mono ?_;exact AbL
def JZ(g v0 v1 q0 q1 n0 n1 w)(hc:dz w g)(L:GV w v0 q0 n0)(M:GV w v1 q1 n1)(hn:2*max n0 n1+1<=12800):
  CV 134 #[aN g 0,v0,v1,.func (Fn.func 164) #[] #[]] w fun v w'=>GV w' v (q0*q1) (n0+n1+1):=by
 obtain⟨N,H,Q,G,Z,T,U,V,Yw,Yy,Yz,Yx,rfl⟩:=L.opn;obtain⟨D,YA,C,I,YB,R,YD,P,S,YC,Yv,K,rfl⟩:=M.opn;have HX:=aW L;have HY:=aW M;clear L M;obtain⟨Y,F,W,j⟩:=an3 w 42 #[N,aO H Q G,Z,aO T U V,Yw,aO Yy Yz Yx] 42 #[D,aO YA C I,YB,aO R YD P,S,aO YC Yv K] 42 aQ3;have O:=hc.ext Y;have k0:=Blk.cell O;have k4:=F.cell;have k5:=W.cell;have Yu:g<w.heap.size:=Blk.lt hc;go_enter adb,acR;go_wp2_with fail;refine(RO _ q0 n0 _ q1 n1 _ (HX.ext Y) (HY.ext Y) hn).mono ?_;exact AbL
def Kl(g v0 v1 q0 q1 n0 n1 w)(hc:dz w g)(L:GV w v0 q0 n0)(M:GV w v1 q1 n1)(h0:q1≠GQ.i 0 0)(nr)(hn:n0+n1+1<=12800)(Zp:n1+n1+1<=12800)(hb:Bd (q0/q1) nr)(hr:nr<=12800):
  CV 134 #[aN g 0,v0,v1,.func (Fn.func 137) #[] #[]] w fun v w'=>GV w' v (q0/q1) (nr):=by
 obtain⟨N,H,Q,G,Z,T,U,V,Yw,Yy,Yz,Yx,rfl⟩:=L.opn;obtain⟨D,YA,C,I,YB,R,YD,P,S,YC,Yv,K,rfl⟩:=M.opn;have HX:=aW L;have HY:=aW M;clear L M;have H0:=aW h0;clear h0;obtain⟨Y,F,W,j⟩:=an3 w 42 #[N,aO H Q G,Z,aO T U V,Yw,aO Yy Yz Yx] 42 #[D,aO YA C I,YB,aO R YD P,S,aO YC Yv K] 42 aQ3;have O:=hc.ext Y;have k0:=Blk.cell O;have k4:=F.cell;have k5:=W.cell;have Yu:g<w.heap.size:=Blk.lt hc;go_enter adb,acR;go_wp2_with fail;refine(Te _ q0 n0 _ q1 n1 _ (HX.ext Y) (HY.ext Y) H0 nr hn Zp hb hr).mono ?_;exact AbL
def nO(g v0 v1 q0 q1 n0 n1 w)(hc:dz w g)(L:GV w v0 q0 n0)(M:GV w v1 q1 n1)(hn:2*max n0 n1+65<=12800):
  CV 161 #[aN g 0,v0,v1] w fun v w'=>GV w' v (q0+q1) (n0+n1+65):=by
 obtain⟨N,H,Q,G,Z,T,U,V,Yw,B,Yz,Yx,rfl⟩:=L.opn;obtain⟨D,YA,C,I,YB,R,YD,P,S,YC,Yv,K,rfl⟩:=M.opn;have HX:=aW L;have HY:=aW M;clear L M;obtain⟨Y,F,W,j⟩:=an3 w 42 #[N,aO H Q G,Z,aO T U V,Yw,aO B Yz Yx] 42 #[D,aO YA C I,YB,aO R YD P,S,aO YC Yv K] 42 aQ3;have O:=hc.ext Y;have k4:=F.cell;have k5:=W.cell;go_enter func161,ntmps161;go_wp2_with fail;clear k4 k5 F W;refine(KD g _ _ q0 q1 n0 n1 _ O (HX.ext Y) (HY.ext Y) hn).mono ?_;exact Acv
def uX(g v0 v1 q0 q1 n0 n1 w)(hc:dz w g)(L:GV w v0 q0 n0)(M:GV w v1 q1 n1)(hn:2*max n0 n1+65<=12800):
  CV 89 #[aN g 0,v0,v1] w fun v w'=>GV w' v (q0-q1) (n0+n1+65):=by
 obtain⟨N,H,Q,G,Z,T,U,V,Yw,B,Yz,Yx,rfl⟩:=L.opn;obtain⟨D,YA,C,I,YB,R,YD,P,S,YC,Yv,K,rfl⟩:=M.opn;have HX:=aW L;have HY:=aW M;clear L M;obtain⟨Y,F,W,j⟩:=an3 w 42 #[N,aO H Q G,Z,aO T U V,Yw,aO B Yz Yx] 42 #[D,aO YA C I,YB,aO R YD P,S,aO YC Yv K] 42 aQ3;have O:=hc.ext Y;have k4:=F.cell;have k5:=W.cell;go_enter func89,ntmps89;go_wp2_with fail;clear k4 k5 F W;refine(Md g _ _ q0 q1 n0 n1 _ O (HX.ext Y) (HY.ext Y) hn).mono ?_;exact Acv
def vo(g v0 v1 q0 q1 n0 n1 w)(hc:dz w g)(L:GV w v0 q0 n0)(M:GV w v1 q1 n1)(hn:2*max n0 n1+1<=12800):
  CV 127 #[aN g 0,v0,v1] w fun v w'=>GV w' v (q0*q1) (n0+n1+1):=by
 obtain⟨N,H,Q,G,Z,T,U,V,Yw,B,Yz,Yx,rfl⟩:=L.opn;obtain⟨D,YA,C,I,YB,R,YD,P,S,YC,Yv,K,rfl⟩:=M.opn;have HX:=aW L;have HY:=aW M;clear L M;obtain⟨Y,F,W,j⟩:=an3 w 42 #[N,aO H Q G,Z,aO T U V,Yw,aO B Yz Yx] 42 #[D,aO YA C I,YB,aO R YD P,S,aO YC Yv K] 42 aQ3;have O:=hc.ext Y;have k4:=F.cell;have k5:=W.cell;go_enter func127,ntmps127;go_wp2_with fail;clear k4 k5 F W;refine(JZ g _ _ q0 q1 n0 n1 _ O (HX.ext Y) (HY.ext Y) hn).mono ?_;exact Acv
def nR(g v0 v1 q0 q1 n0 n1 w)(hc:dz w g)(L:GV w v0 q0 n0)(M:GV w v1 q1 n1)(h0:q1≠GQ.i 0 0)(B)(hn:n0+n1+1<=12800)(Zp:n1+n1+1<=12800)(hb:Bd (q0/q1) B)(hr:B<=12800):
  CV 91 #[aN g 0,v0,v1] w fun v w'=>GV w' v (q0/q1) (B):=by
 obtain⟨N,H,Q,G,Z,T,U,V,Yw,Yy,Yz,Yx,rfl⟩:=L.opn;obtain⟨D,YA,C,I,YB,R,YD,P,S,YC,Yv,K,rfl⟩:=M.opn;have HX:=aW L;have HY:=aW M;clear L M;obtain⟨Y,F,W,j⟩:=an3 w 42 #[N,aO H Q G,Z,aO T U V,Yw,aO Yy Yz Yx] 42 #[D,aO YA C I,YB,aO R YD P,S,aO YC Yv K] 42 aQ3;have O:=hc.ext Y;have k4:=F.cell;have k5:=W.cell;go_enter func91,ntmps91;go_wp2_with fail;clear k4 k5 F W;refine(Kl g _ _ q0 q1 n0 n1 _ O (HX.ext Y) (HY.ext Y) h0 B hn Zp hb hr).mono ?_;exact Acv
def R6(g re im den w)(hc:dz w g)(l0: -9223372036854775808<=re)(u0:re<=9223372036854775807)(l1: -9223372036854775808<=im)(u1:im<=9223372036854775807)(l2: -9223372036854775808<=den)(u2:den<=9223372036854775807)(hd:den≠0):
  CV 133 #[aN g 0,.int .i64 re,.int .i64 im,.int .i64 den] w fun v w'=>GV w' v ⟨(re:Rat)/(den:Rat),(im:Rat)/(den:Rat)⟩ 64:=by
 obtain⟨Y,j⟩:=an1 w 42 aQ3;have O:=hc.ext Y;have T:=aW (fun w=>VC re im den w l0 u0 l1 u1 l2 u2 hd);clear l0 u0 l1 u1 l2 u2 hd;go_enter func133,ntmps133;go_wp2_with fail;refine(T.o _).mono ?_;rintro e w2 ⟨v,rfl,⟨u,rfl,P⟩,J⟩;replace Y:=Y.trans J;replace j:=j.ext J;replace O:=O.ext J;have ZU:=J.size;clear J;obtain⟨Q,R,F,D,H,G,C,L,K,S,N,I,rfl⟩:=P.opn;obtain⟨B,M⟩:=an1 w2 42 #[Q,aO R F D,H,aO G C L,K,aO S N I];have HU:=aW (P.ext B);clear P;replace Y:=Y.trans B;replace j:=j.ext B;replace O:=O.ext B;have k7:=M.cell;go_wp2_with fail;refine(rZ g _ _ _ _ O HU.o).mono ?_;rintro e w3 ⟨v,rfl,hv,J⟩;replace Y:=Y.trans J;replace j:=j.ext J;clear J;obtain⟨YP,YK,YO,YH,YL,Z,YJ,YQ,V,YN,W,YM,rfl⟩:=hv.opn;have k6:=j.cell;have f6:=j.frozen;obtain⟨p1,p2,U⟩:=fA Y aa j hv;have P1:=aW p1;have P2:=aW p2;have P3:=aW U;clear p1 p2 U Y j hv;go_wp2_with fail;exact dG rfl rfl rfl P2.o ⟨_,rfl,P3.o,P1.o⟩
def dR(g m w)(hc:dz w g)(l0: -9223372036854775808<=m)(u0:m<=9223372036854775807):
  CV 88 #[aN g 0,.int .i64 m] w fun v w'=>GV w' v (GQ.i m 0) 64:=by
 obtain⟨Y,j⟩:=an1 w 42 aQ3;have O:=hc.ext Y;have e0:(⟨(m:Rat)/((1:Int):Rat),((0:Int):Rat)/((1:Int):Rat)⟩:GQ)=GQ.i m 0:=by ext<;>simp only[GQ.dH,GQ.dC]<;>grind
 have T:=aW (fun w hc=>R6 g m 0 1 w hc l0 u0 aa aa aa aa aa);rw[e0] at T;clear l0 u0;go_enter func88,ntmps88;go_wp2_with fail;refine(T.o _ O).mono ?_;rintro e V ⟨v,rfl,hv,J⟩;replace Y:=Y.trans J;replace j:=j.ext J;clear J;obtain⟨S,M,R,H,N,F,I,U,C,Q,D,P,rfl⟩:=hv.opn;have W:=j.cell;have Z:=j.frozen;obtain⟨p1,p2,B⟩:=fA Y aa j hv;have K:=aW p1;have L:=aW p2;have G:=aW B;clear p1 p2 B Y j hv;go_wp2_with fail;exact dG rfl rfl rfl L.o ⟨_,rfl,G.o,K.o⟩
def ofC (n:Nat) (C:Nat->Value):Array Value:=((List.range n).map C).toArray
def Ip(n C):(ofC n C).size=n:=by simp[ofC]
def CZ{n k C}(h:k<n):(ofC n C)[k]? =γ (C k):=by
 simp[ofC,Aa,aaz h]
def FH{n k C}(h:n<=k):(ofC n C)[k]? =δ:=by
 rw[aat];rw[Ip];exact h
theorem Oy{n C D}(h:∀k,k<n->C k=D k):ofC n C=ofC n D:=by
 unfold ofC;rw[acz (fun k j=>h k (aau.1 j))]
def TF{a b:Array Value}(h:∀k:Nat,a[k]? =b[k]?):a=b:=Array.ext_getElem? h
def MV{n k C}(v)(h:k<n):(ofC n C).setIfInBounds k v=ofC n (upd C k v):=by
 refine TF fun i=> ?_;rw[Array.getElem?_setIfInBounds];by_cases hi:i<n
 .rw[CZ hi];by_cases e:k=i
  .subst e;rw[ι rfl,ι (by rw[Ip];exact h),CZ h,upd_same]
  .rw[θ e,CZ hi,upd_ne (fun h=>e h.symm)]
 .rw[FH aa,θ aa,FH aa]
def Gf (C:Nat->Value) (k:Nat):List Value->Nat->Value
 |[]=>C
 |v::vs=>Gf (upd C k v) (k+1) vs
def F8:∀(B:List Value) {C:Nat->Value} {k i:Nat},(i<k\/k+B.length<=i)->Gf C k B i=C i
 |[],_,_,_,_=>rfl
 |v::B,C,k,i,h=>by
  show Gf (upd C k v) (k+1) B i=C i;rw[nV] at h;rw[F8 B aa,upd_ne aa]
def Nj:∀(B:List Value) {C:Nat->Value} {k j:Nat} {v:Value},B[j]? =γ v->Gf C k B (k+j)=v
 |[],_,_,_,_,h=>by simp at h
 |u::B,C,k,0,v,h=>by
  show Gf (upd C k u) (k+1) B (k+0)=v;simp only[ade,aax] at h;rw[F8 B aa,I6,upd_same,h]
 |u::B,C,k,j+1,v,h=>by
  show Gf (upd C k u) (k+1) B (k+(j+1))=v;rw[ab6] at h;rw[show k+(j+1)=k+1+j by omega];exact Nj B h
def EP:∀(B:List Value) {n k:Nat} {C:Nat->Value},k+B.length<=n->gJ (ofC n C) k B=ofC n (Gf C k B)
 |[],_,_,_,_=>rfl
 |v::B,n,k,C,h=>by
  rw[nV] at h;show gJ ((ofC n C).setIfInBounds k v) (k+1) B=_;rw[MV v aa];exact EP B aa
def fU (w:World) (g:Nat) (t:TypeId) (n:Nat) (C:Nat->Value):Prop:=Blk w g t (ofC n C)
section
variable {w w':World} {g n:Nat} {t:TypeId} {C D:Nat->Value}
def fU.blk(h:fU w g t n C):Blk w g t (ofC n C):=h
def fU.lt(h:fU w g t n C):g<w.heap.size:=Blk.lt h
def fU.ext(h:fU w g t n C)(x:Ext w w'):fU w' g t n C:=Blk.ext h x
def fU.mod{S}(h:fU w g t n C)(m:Mod S w w')(j:¬S g):fU w' g t n C:=Blk.mod h m j
theorem fU.congr(h:fU w g t n C)(e:∀k,k<n->C k=D k):fU w g t n D:=by unfold fU;rw[<-Oy e];exact h
def fU.cell(h:fU w g t n C){k}(j:k<n):w.cell? (aM g k)=γ (C k):=(Blk.cell h k).trans (CZ j)
def fU.cell_(h:fU w g t n C){k v}(j:k<n)(hv:C k=v):w.cell? (aM g k)=γ v:=(h.cell j).trans (by rw[hv])
def fU.frozen(h:fU w g t n C)(k):w.frozen? ⟨g,k,δ⟩=ζ:=Blk.frozen h k
def fU.set(h:fU w g t n C){k}(v)(j:k<n):fU (w.setCell ⟨g,k,δ⟩ v) g t n (upd C k v):=by
 have:=Blk.qG h k v;rw[MV v j] at this;exact this
def fU.puts(h:fU w g t n C){k:Nat}(B:List Value)(j:k+B.length<=n):fU (puts w g k B) g t n (Gf C k B):=by
 have:=dm k B h;rw[EP B j] at this;exact this
def Mod.set{S}(w g k v)(j:S g):Mod S w (w.setCell ⟨g,k,δ⟩ v):=Mod.only (Only.set w g k v) j
def Mod.puts{S:Nat->Prop}(w:World)(g k:Nat)(B:List Value)(j:S g):Mod S w (puts w g k B):=Mod.only (gV w g k B) j
end
def fU.rangeAt{w g n o t C}(h:fU w g t n C){B}(hn:o+B.length<=n)(hv:∀j v,B[j]? =γ v->C (o+j)=v):w.rangeAt g o B:=fun j v D=>by
 have:=(μ.1 D).1;exact h.cell_ aa (hv j v D)
def fU.there{w g n o m t C}(h:fU w g t n C)(hn:o+m<=n):w.there g o m:=fun j B=>
 ⟨by rw[h.cell (k:=o+j) aa];rfl,h.frozen _⟩
def nM(g):∀(B:List Value) (o:Nat) (w:World),w.setCells g o B=puts w g o B
 |[],_,_=>rfl
 |v::B,o,w=>by
  show(w.setCell ⟨g,o,δ⟩ v).setCells g (o+1) B=_;rw[nM g B (o+1)];rfl
def fG{S w0 w w'}(h:Ext w0 w)(m:Mod S w w')(hs:∀k,S k->w0.heap.size<=k):Ext w0 w':=
 ⟨m.os.trans h.os,m.tape.trans h.tape,m.output.trans h.output,Θ h.size m.size,fun k j=>(m.block k (ο j h.size) (fun e=>by have:=hs k e;omega)).trans (h.block k j)⟩
def nX (v:Value):Bool:=match v with| .int .u32 _=>ζ|_=>ε
def iB (S:Nat->Prop) (w:World):Prop:=∀g,S g->g<w.heap.size->∃(t:TypeId) (cs:Array Value),Blk w g t cs/\∀(j:Nat) (v:Value),cs[j]? =γ v->nX v=ε
def afm{S w g n t C}(h:fU w g t n C)(T:∀k,k<n->nX (C k)=ε)(hS:∀k,S k->k=g):iB S w:=by
 intro k D _;obtain rfl:=hS k D;refine⟨t,_,h.blk,fun j v B=> ?_⟩;by_cases hn:j<n
 .rw[CZ hn] at B;injection B with B;rw[<-B];exact T j hn
 .rw[FH aa] at B;cases B
section
variable {S:Nat->Prop} {w w':World}
def RM.fQ{A n c l}(h:RM w A n c l)(m:Mod S w w')(hS:iB S w):RM w' A n c l:=by
 refine⟨⟨h.rd.1,fun hn=> ?_⟩,h.dg,h.nc,h.cm⟩;obtain⟨b,o,rfl,B,hc⟩:=h.rd.plain hn;obtain⟨I,x,e,_,J,_,_⟩:=h.at_ hn;have C:¬S b:=by
  intro hs;obtain⟨t,cs,hb,D⟩:=hS b hs B;have:=hc 0 _ (pY J);rw[hb.cell] at this;have:=D _ _ this;cases this
 exact Aa1
def RI.fQ{v z}(h:RI w v z)(m:Mod S w w')(hS:iB S w):RI w' v z:=by
 obtain⟨A,n,c,e,h⟩:=h;exact⟨A,n,c,e,h.fQ m hS⟩
def GV.fQ{v q n}(h:GV w v q n)(m:Mod S w w')(hS:iB S w):GV w' v q n:=by
 obtain⟨a,b,d,⟨s1,A1,n1,c1,s2,A2,n2,c2,s3,A3,n3,c3,e,B,j,C⟩,I,Z⟩:=h;exact⟨a,b,d,⟨s1,A1,n1,c1,s2,A2,n2,c2,s3,A3,n3,c3,e,B.fQ m hS,j.fQ m hS,C.fQ m hS⟩,I,Z⟩
end
def IR(a f):∀b,bz a f++bz b (fun _=>zEn)=bz (a+b) (fun i=>if i<a then f i else zEn)
 |0=>by
  show bz a f++[]=_;rw[Z6];exact BL fun i hi=>by rw[ι hi]
 |b+1=>by
  rw[jr,<-I5,IR a f b,show a+(b+1)=(a+b)+1 by omega,jr,θ aa]
def agc(w g cs):Mod (fun k=>k=g) w (w.setRow g cs):=Mod.only (Only.setRow w g cs) rfl
def KQ{w g t old cs}(h:Blk w g t old):Blk (w.setRow g cs) g t cs:=aeL w g old cs t (0,0) h
theorem LW{P w ops rest o a Q}(H:o.guard=δ)(s x:Operand)(t)(C:o.op=.call {callee:=.builtin .append,args:= #[s,x],argTypes:= #[t,t]}){B j G w'}(hs:a.eval s=B)(J:a.eval x=j)(D:(Builtin.append_ #[t,t] o.type #[B,j]).run P w=.ok G w')(h:wpList P ops Q rest (a.put o.dst G) w'):wpList P ops Q (o::rest) a w:=by
 refine adP H fun _ I=> ?_;unfold Oper.wp execOp;simp only[C,Go.resolve,invoke,builtin,aaD,aa4,aaw,List.map_toArray,acO,List.map_nil,hs,J,D];exact I _ _ h
def afH(x y):x/y=GQ.i 1 0/y*x:=by
 ext<;>simp only[GQ.Cm,GQ.wR,GQ.bL,GQ.bK,GQ.dH,GQ.dC]<;>grind
def agA(a b c:GQ):a*(b/c)=a/c*b:=by
 rw[afH b,afH a,<-GQ.dE,GQ.dZ a,GQ.dE]
def af3{x}(h:x≠GQ.i 0 0):x/x=GQ.i 1 0:=by
 have:=GQ.ME (x:=GQ.i 1 0) h;rw[GQ.kJ] at this;exact this
def agM: -(GQ.i 0 0)=GQ.i 0 0:=by(ext<;>simp only[GQ.bT,GQ.bS,GQ.dJ,GQ.dK,GQ.bL,GQ.bK,GQ.lL,GQ.lT,GQ.dH,GQ.dC]<;>grind)
def agD(x:GQ): - -x=x:=by(ext<;>simp only[GQ.bT,GQ.bS,GQ.dJ,GQ.dK,GQ.bL,GQ.bK,GQ.lL,GQ.lT,GQ.dH,GQ.dC]<;>grind)
def aff{x y}(h:x-y=GQ.i 0 0):x=y:=by
 have a:=congrArg GQ.re h;have b:=congrArg GQ.im h;simp only[GQ.dJ,GQ.dK,GQ.dH,GQ.dC] at a b;ext<;>grind
def Spn (v:Nat->GQ) (P:List (Nat->GQ)):Prop:=∀cs,det (v::P) cs=GQ.i 0 0
def Spn.more{v b P}(h:Spn v P):Spn v (b::P):=by
 intro cs;rw[xP];have:det (v::P)=fun _=>GQ.i 0 0:=funext h;show-dB b (det (v::P)) cs=_;rw[this,nD,agM]
def afR{y a P}(h:Says y a P):Spn y (a::P):=fun cs=>by
 rw[h.more cs,rM a (a::P) cs (qa)]
def Spn.XM{x y P}(J:Spn x P)(R:Spn y P)(f):Spn (fun c=>x c-f*y c) P:=fun cs=>by
 have j:det ((fun c=>x c-f*y c)::P) cs=det (x::P) cs-f*det (y::P) cs:=yA x y f cs (det P);rw[j,J cs,R cs,GQ.bY,GQ.fC]
def Spn.QQ{x P}(J:Spn x P)(f):Spn (fun c=>x c/f) P:=fun cs=>by
 have e:(fun c=>x c/f)=fun c=>GQ.i 1 0/f*x c:=funext fun c=>afH _ _;rw[e];have j:det ((fun c=>GQ.i 1 0/f*x c)::P) cs=GQ.i 1 0/f*det (x::P) cs:=sP _ _ _;rw[j,J cs,GQ.bY]
def EL{v}:∀(cs:List Nat) (k:Nat) (D:List Nat->GQ),k<cs.length->(∀t d,cs[t]? =γ d->v d=if t=k then GQ.i 1 0 else GQ.i 0 0)->dB v D cs=D (cs.eraseIdx k)\/dB v D cs= -D (cs.eraseIdx k)
 |[],k,D,hk,_=>by simp at hk
 |c::cs,0,D,_,h=>by
  left
  show v c*D cs-dB v (fun l=>D (c::l)) cs=D cs;rw[h 0 c rfl,ι rfl,GQ.kJ,nA cs _ (fun d hd=>by
   obtain⟨t,j⟩:=abP hd;rw[h (t+1) d j,θ aa]),GQ.fC]
 |c::cs,k+1,D,hk,h=>by
  have hv:v c=GQ.i 0 0:=by rw[h 0 c rfl,θ aa]
  have B:=EL (v:=v) cs k (fun l=>D (c::l)) (by simpa using hk) (fun t d j=>by
   rw[h (t+1) d j];by_cases e:t=k
   .rw[ι aa,ι e]
   .rw[θ aa,θ e])
  have e:dB v D (c::cs)= -dB v (fun l=>D (c::l)) cs:=by
   show v c*D cs-dB v (fun l=>D (c::l)) cs=_;rw[hv,GQ.fq,GQ.O7]
  rw[e];rcases B with B|B
  .right;rw[B];rfl
  .left;rw[B,agD];rfl
def Spn.entry{v P q k}(h:Spn v P)(B:k<q.length)(hq:∀t d,q[t]? =γ d->v d=if t=k then GQ.i 1 0 else GQ.i 0 0)(j):
  v j*det P q=det P (j::q.eraseIdx k)\/v j*det P q= -det P (j::q.eraseIdx k):=by
 have e:v j*det P q=dB v (fun l=>det P (j::l)) q:=aff (h (j::q));rw[e];exact EL q k _ B hq
def Wh.neg{x B}(h:Wh x B):Wh (-x) B:=by
 obtain⟨a,b,rfl,j⟩:=h;exact⟨-a,-b,by(ext<;>simp only[GQ.bT,GQ.bS,GQ.dJ,GQ.dK,GQ.bL,GQ.bK,GQ.lL,GQ.lT,GQ.dH,GQ.dC]<;>grind),aa⟩
def red (Y:Nat->Nat->GQ) (r c:Nat):Nat->Nat->GQ:=fun i j=>if i=r then Y r j/Y r c else Y i j-Y i c*(Y r j/Y r c)
structure Rc where
 r:Nat
 X:Nat->Nat->GQ
 d:GQ
def CL (m c:Nat) (s:Rc):Rc:=
 match fp s.X c (m-s.r) s.r with
 |none=>s
 |some k=>⟨s.r+1,red (fun i=>s.X (swp k s.r i)) s.r c,(if k=s.r then s.d else s.d*GQ.i (-1) 0)*s.X k c⟩
def oC (m:Nat) (X:Nat->Nat->GQ):Nat->Rc
 |0=>⟨0,X,GQ.i 1 0⟩
 |c+1=>CL m c (oC m X c)
theorem KG{m c}{s:Rc}(h:fp s.X c (m-s.r) s.r=δ):CL m c s=s:=by unfold CL;rw[h]
theorem Ki{m c k}{s:Rc}(h:fp s.X c (m-s.r) s.r=γ k):CL m c s=⟨s.r+1,red (fun i=>s.X (swp k s.r i)) s.r c,(if k=s.r then s.d else s.d*GQ.i (-1) 0)*s.X k c⟩:=by unfold CL;rw[h]
def AB(m Z):∀c,(ech m Z c).r<=c
 |0=>κ _
 |c+1=>by
  have B:=AB m Z c;show(kP m c (ech m Z c)).r<=c+1;cases j:fp (ech m Z c).X c (m-(ech m Z c).r) (ech m Z c).r with
  |none=>rw[fF j];omega
  |some k=>rw[eu j];show(ech m Z c).r+1<=c+1;omega
def zV{X Y}:∀{k:Nat},(∀i,i<k->X i i=Y i i)->rR X k=rR Y k
 |0,_=>rfl
 |k+1,h=>by
  show rR X k*X k k=rR Y k*Y k k;rw[zV (fun i hi=>h i aa),h k aa]
structure RInv (m:Nat) (X0:Nat->Nat->GQ) (c:Nat) (s:Ec) (t:Rc) (o:Nat->Nat) (P:List (Nat->GQ)):Prop where
 inv:Inv m X0 c s o P
 re:t.r=s.r
 lo:∀i,s.r<=i->i<m->t.X i=s.X i
 sp:∀i,i<s.r->Spn (t.X i) P
 un:∀i,i<s.r->∀k d,s.q[k]? =γ d->t.X i d=if k+i+1=s.r then GQ.i 1 0 else GQ.i 0 0
 dd:t.d=if s.odd then-det P s.q else det P s.q
 pp:s.r=c->rR s.X c=det P s.q
def afK(m D):RInv m D 0 (ech m D 0) (oC m D 0) (fun i=>i) []:=
 ⟨afy m D,rfl,fun _ _ _=>rfl,fun i hi=>absurd hi (acx i),fun i hi=>absurd hi (acx i),rfl,fun _=>rfl⟩
theorem RInv.step{m c D}{s:Ec}{t:Rc}{o P}(h:RInv m D c s t o P)(YT:s.r<=c):(fp s.X c (m-s.r) s.r=δ/\RInv m D (c+1) (kP m c s) (CL m c t) o P)\/∃k,fp s.X c (m-s.r) s.r=γ k/\RInv m D (c+1) (kP m c s) (CL m c t) (fun i=>o (swp k s.r i)) (D (o k)::P):=by
 have YS:=h.inv.rm;cases R:fp s.X c (m-s.r) s.r with
 |none=>
  have M:fp t.X c (m-t.r) t.r=δ:=by
   rw[h.re];refine AU fun i Q O=> ?_;rw[h.lo i Q aa];exact qA R i Q O
  have W:Inv m D (c+1) s o P:=⟨h.inv.rm,h.inv.pl,h.inv.ql,h.inv.ne,fun d hd=>ace (h.inv.qc d hd),h.inv.pm,h.inv.om,h.inv.sy,fun i j Q O h3=>by
   by_cases e:j=c
   .subst e;exact qA R i Q aa
   .exact h.inv.z i j Q O aa⟩
  rw[fF R,KG M];exact .inl ⟨rfl,W,h.re,h.lo,h.sp,h.un,h.dd,fun e=>aa⟩
 |some k=>
  obtain⟨C,k2,U,k4⟩:=jc R;have Z:k<m:=aa;have I:∀i,s.r<=i->i<m->t.X i=s.X i:=h.lo;have M:fp t.X c (m-t.r) t.r=γ k:=by
   rw[h.re];refine AP C aa (fun i Q O=> ?_) ?_
   .rw[I i Q aa];exact k4 i Q O
   .rw[I k C Z];exact U
  have L:=(h.inv.sy k C aa).entry (fun d hd=>h.inv.z k d C aa (h.inv.qc d hd)) c;have K:Spn (s.X k) (D (o k)::P):=afR (h.inv.sy k C aa);have N:∀d∈s.q,s.X k d=GQ.i 0 0:=fun d hd=>h.inv.z k d C Z (h.inv.qc d hd);have B:swp k s.r s.r=k:=oQ _ _;have H:∀i,i<s.r->swp k s.r i=i:=fun i hi=>xm aa aa;have G:∀i,s.r<i->i<m->s.r<=swp k s.r i/\swp k s.r i<m:=fun i Q O=>⟨by unfold swp;split<;>(try split)<;>omega,mH Z aa O⟩;have W:Inv m D (c+1) (kP m c s) (fun i=>o (swp k s.r i)) (D (o k)::P):=by
   rw[eu R];refine⟨by show s.r+1<=m;omega,by simp[h.inv.pl],by simp[h.inv.ql],?_,?_,?_,?_,?_,?_⟩
   .show det (D (o k)::P) (c::s.q)≠_;rw[L];exact GQ.jd U h.inv.ne
   .intro d hd;rcases kC.1 hd with rfl|hd
    .omega
    .exact ace (h.inv.qc d hd)
   .intro p hp;rcases kC.1 hp with rfl|hp
    .exact⟨o k,h.inv.om k aa,rfl⟩
    .exact h.inv.pm p hp
   .intro i hi;exact h.inv.om _ (mH aa aa hi)
   .intro i Q O;have F:s.r<i:=Q;have e:(clr (fun i=>s.X (swp k s.r i)) s.r c) i=fun j=>s.X (swp k s.r i) j-(s.X (swp k s.r i) c/s.X k c)*s.X k j:=by
     funext j;unfold clr;rw[ι F];simp only[B]
    show Says ((clr (fun i=>s.X (swp k s.r i)) s.r c) i) _ _;rw[e];exact Says.step (h.inv.sy _ (G i F O).1 (G i F O).2) (h.inv.sy k C aa) _
   .intro i j Q O h3;have F:s.r<i:=Q;show(clr (fun i=>s.X (swp k s.r i)) s.r c) i j=_;unfold clr;rw[ι F];simp only[B];by_cases e:j=c
    .subst e;rw[ae8 U,GQ.rJ]
    .rw[h.inv.z _ j (G i F O).1 (G i F O).2 aa,h.inv.z k j C aa aa,GQ.bY,GQ.fC]
  rw[Ki M];refine .inr ⟨k,rfl,W,?_,?_,?_,?_,?_,?_⟩
  .rw[eu R];show t.r+1=s.r+1;rw[h.re]
  .rw[eu R];intro i Q O;have F:s.r<i:=Q;funext j;show red (fun i=>t.X (swp k t.r i)) t.r c i j=clr (fun i=>s.X (swp k s.r i)) s.r c i j;rw[h.re];unfold red clr;rw[θ aa,ι F];simp only[B];rw[I _ (G i F O).1 (G i F O).2,I k C Z,agA]
  .rw[eu R];intro i hi;have V:i<s.r+1:=hi;show Spn (red (fun i=>t.X (swp k t.r i)) t.r c i) _;rw[h.re];by_cases e:i=s.r
   .subst e;have S:red (fun i=>t.X (swp k s.r i)) s.r c s.r=fun j=>s.X k j/s.X k c:=by
     funext j;unfold red;rw[ι rfl];simp only[B];rw[I k C Z]
    rw[S];exact K.QQ _
   .have S:red (fun i=>t.X (swp k s.r i)) s.r c i=fun j=>t.X i j-t.X i c*(s.X k j/s.X k c):=by
     funext j;unfold red;rw[θ e];simp only[B];rw[I k C Z,H i aa]
    rw[S];exact(h.sp i aa).more.XM (K.QQ _) _
  .rw[eu R];intro i hi n d hd;have V:i<s.r+1:=hi;show red (fun i=>t.X (swp k t.r i)) t.r c i d=if n+i+1=s.r+1 then _ else _;rw[h.re];by_cases e:i=s.r
   .subst e;have S:red (fun i=>t.X (swp k s.r i)) s.r c s.r d=s.X k d/s.X k c:=by
     unfold red;rw[ι rfl];simp only[B];rw[I k C Z]
    rw[S]
    match n,hd with
    |0,hd=>
     obtain rfl:c=d:=by simpa using hd
     rw[ι aa,af3 U]
    |n+1,hd=>
     have hd':s.q[n]? =γ d:=by simpa using hd
     rw[θ aa,N d (wo hd'),afw]
   .have S:red (fun i=>t.X (swp k s.r i)) s.r c i d=t.X i d-t.X i c*(s.X k d/s.X k c):=by
     unfold red;rw[θ e];simp only[B];rw[I k C Z,H i aa]
    rw[S]
    match n,hd with
    |0,hd=>
     obtain rfl:c=d:=by simpa using hd
     rw[θ aa,af3 U,GQ.pU,GQ.rJ]
    |n+1,hd=>
     have hd':s.q[n]? =γ d:=by simpa using hd
     rw[N d (wo hd'),afw,GQ.bY,GQ.fC,h.un i aa n d hd'];by_cases Y:n+i+1=s.r
     .rw[ι Y,ι aa]
     .rw[θ Y,θ aa]
  .rw[eu R];show(if k=t.r then t.d else t.d*GQ.i (-1) 0)*t.X k c=if (s.odd^^decide (k≠s.r)) then-det (D (o k)::P) (c::s.q) else det (D (o k)::P) (c::s.q);rw[L,I k C Z,h.re,h.dd];generalize s.X k c=x;generalize det P s.q=y;by_cases e:k=s.r
   .have J:(s.odd^^decide (k≠s.r))=s.odd:=by simp[e]
    rw[ι e,J];cases s.odd
    .show y*x=x*y;exact GQ.dZ _ _
    .show-y*x= -(x*y)
     (ext<;>simp only[GQ.bT,GQ.bS,GQ.dJ,GQ.dK,GQ.bL,GQ.bK,GQ.lL,GQ.lT,GQ.dH,GQ.dC]<;>grind)
   .have J:(s.odd^^decide (k≠s.r))= !s.odd:=by simp[e]
    rw[θ e,J];cases s.odd
    .show y*GQ.i (-1) 0*x= -(x*y)
     (ext<;>simp only[GQ.bT,GQ.bS,GQ.dJ,GQ.dK,GQ.bL,GQ.bK,GQ.lL,GQ.lT,GQ.dH,GQ.dC]<;>grind)
    .show-y*GQ.i (-1) 0*x=x*y
     (ext<;>simp only[GQ.bT,GQ.bS,GQ.dJ,GQ.dK,GQ.bL,GQ.bK,GQ.lL,GQ.lT,GQ.dH,GQ.dC]<;>grind)
  .rw[eu R];intro e;have T:s.r=c:=by have:s.r+1=c+1:=e;omega
   show rR (clr (fun i=>s.X (swp k s.r i)) s.r c) c*clr (fun i=>s.X (swp k s.r i)) s.r c c c=det (D (o k)::P) (c::s.q);rw[L,<-h.pp T];have a1:clr (fun i=>s.X (swp k s.r i)) s.r c c c=s.X k c:=by
    unfold clr;rw[θ aa];simp only[];rw[<-T,B]
   have a2:rR (clr (fun i=>s.X (swp k s.r i)) s.r c) c=rR s.X c:=zV fun i hi=>by
    unfold clr;rw[θ aa];simp only[];rw[H i aa]
   rw[a1,a2,GQ.dZ]
def Out.mem{W G m n RX X}(h:Out W G m n RX X)(K:m<=1000)(hn:n<=1000):∃(R:Nat->Rw) (E:Nat->Nat->En),Mem W (γ ⟨G,0,δ⟩) G 0 m R E/\(∀i,i<m->(R i).n=n)/\∀i j,i<m->j<n->GV W (E i j).v (X i j) 12800:=by
 have hc:∀i,∃f:Nat->En,i<m->Blk W (RX i).b 42 (bz n f).toArray/\∀j,j<n->GV W (f j).v (X i j) 12800:=fun i=>by
  by_cases hi:i<m
  .obtain⟨f,I,F⟩:=(h.row i hi).2.2.2;exact⟨f,fun _=>⟨I,F⟩⟩
  .exact⟨fun _=>zEn,fun h=>absurd h hi⟩
 obtain⟨E,Y⟩:=Classical.axiomOfChoice hc;refine⟨fun i=>⟨(RX i).A,(RX i).b,0,(RX i).n,(RX i).c⟩,E,⟨fun _=>rfl,fun i hi=> ?_,fun i hi _=>(h.row i hi).1,fun i j hi C t u D=> ?_,aa,fun i hi=> ?_⟩,fun i hi=>(h.row i hi).2.1,fun i j hi C=>(Y i hi).2 j C⟩
 .rw[h.x.cell,aaC,jq hi];rfl
 .have B:j<n:=by have:=(h.row i hi).2.1;have J:j<(RX i).n:=C;omega
  have H:t<6:=(μ.1 D).1;show W.cell? (aM ((RX i).b) (0+(j*6+t)))=γ u;rw[aaC,(Y i hi).1.cell,Γ,dY H B];exact D
 .have:=(h.row i hi).2.1;show(RX i).n<=_;omega
def Fu{a b n}(ha:a.natAbs<2^n)(hb:b.natAbs<2^n)(hn:1<=n):Bd (GQ.i a b) n:=by
 refine⟨a,b,1,L8 a b,ha,hb,?_⟩;have:2^1<=2^n:=Ad aa hn;show(1:Int).natAbs<2^n;simp;omega
def mx2 (a b c d:GQ):Nat->Nat->GQ:=fun i j=>if i=0 then (if j=0 then a else b) else (if j=0 then c else d)
def kA:Nat->Nat->GQ:=mx2 (GQ.i 0 0) (GQ.i 1 0) (GQ.i 1 0) (GQ.i 0 0)
def kB:Nat->Nat->GQ:=mx2 (GQ.i 5 0) (GQ.i 5 0) (GQ.i 7 0) (GQ.i 7 0)
def kp(k)(j:k<=2):Bd (rR (ech 2 kA 2).X k) 64:=by
 match k,j with
 |0,_=>rw[show rR (ech 2 kA 2).X 0=GQ.i 1 0 by decide+kernel];exact Fu aj aj aj
 |1,_=>rw[show rR (ech 2 kA 2).X 1=GQ.i 1 0 by decide+kernel];exact Fu aj aj aj
 |2,_=>rw[show rR (ech 2 kA 2).X 2=GQ.i 1 0 by decide+kernel];exact Fu aj aj aj
def kd(i)(hi:i<2):Bd ((ech 2 kA 2).X i i) 64:=by
 match i,hi with
 |0,_=>rw[show(ech 2 kA 2).X 0 0=GQ.i 1 0 by decide+kernel];exact Fu aj aj aj
 |1,_=>rw[show(ech 2 kA 2).X 1 1=GQ.i 1 0 by decide+kernel];exact Fu aj aj aj
def p8 (X Y:Nat->Nat->GQ) (i j:Nat):Nat->GQ
 |0=>GQ.i 0 0
 |s+1=>p8 X Y i j s+X i s*Y s j
def D2 (X:Nat->Nat->GQ):GQ:=X 0 0*X 1 1-X 0 1*X 1 0
def D3 (X:Nat->Nat->GQ):GQ:=X 0 0*(X 1 1*X 2 2-X 1 2*X 2 1)-X 0 1*(X 1 0*X 2 2-X 1 2*X 2 0)+X 0 2*(X 1 0*X 2 1-X 1 1*X 2 0)
def d3 (a b c d e f g h i:GQ):GQ:=a*(e*i-f*h)-b*(d*i-f*g)+c*(d*h-e*g)
theorem MX(m X):∀c,(ech m X c).r=c->∀i j,i<m->j<i->j<c->(ech m X c).X i j=GQ.i 0 0
 |0,_,i,j,_,_,h=>aa
 |c+1,h,i,j,hi,hji,hjc=>by
  have J:=GN m X c;by_cases C:c+1<=i
  .obtain⟨o,P,F⟩:=pK m X (c+1);exact F.z i j aa hi hjc
  have e:ech m X (c+1)=kP m c (ech m X c):=rfl;rw[e] at h⊢;cases B:fp (ech m X c).X c (m-(ech m X c).r) (ech m X c).r with
  |none=>rw[fF B] at h;omega
  |some k=>
   rw[eu B] at h⊢;have H:(ech m X c).r=c:=by have D:(ech m X c).r+1=c+1:=h;omega
   obtain⟨I,K,M,L⟩:=jc B;show clr (fun i=>(ech m X c).X (swp k (ech m X c).r i)) (ech m X c).r c i j=_;rw[H] at I⊢;unfold clr;rw[θ aa];show(ech m X c).X (swp k c i) j=_;by_cases G:i=c
   .subst G;rw[oQ];obtain⟨o,P,F⟩:=pK m X i;exact F.z k j aa aa aa
   .rw[xm aa G];exact MX m X c H i j hi hji aa
def F3:Nat->Nat:=fun k=>if k=0 then 402 else if k=1 then 1607 else 3617
theorem JE(m X c):∀d,c<=d->∀i,i<(ech m X c).r->(ech m X d).X i=(ech m X c).X i/\(ech m X c).r<=(ech m X d).r
 |0,hd,i,hi=>by rw[show c=0 by omega] at hi⊢;exact⟨rfl,κ _⟩
 |d+1,hd,i,hi=>by
  by_cases e:c=d+1
  .rw[e];exact⟨rfl,κ _⟩
  .obtain⟨F,D⟩:=JE m X c d aa i hi;have G:ech m X (d+1)=kP m d (ech m X d):=rfl;rw[G,<-F];cases B:fp (ech m X d).X d (m-(ech m X d).r) (ech m X d).r with
   |none=>rw[fF B];exact⟨rfl,D⟩
   |some k=>
    obtain⟨C,H,I,J⟩:=jc B;rw[eu B];refine⟨?_,by show(ech m X c).r<=(ech m X d).r+1;omega⟩;funext j;show clr (fun i=>(ech m X d).X (swp k (ech m X d).r i)) (ech m X d).r d i j=_;unfold clr;rw[θ aa];show(ech m X d).X (swp k (ech m X d).r i) j=_;rw[xm aa aa]
def Qy(m X c):∀e,(ech m X (c+e)).r<=(ech m X c).r+e
 |0=>κ _
 |e+1=>by
  have B:=Qy m X c e;show(kP m (c+e) (ech m X (c+e))).r<=_;cases j:fp (ech m X (c+e)).X (c+e) (m-(ech m X (c+e)).r) (ech m X (c+e)).r with
  |none=>rw[fF j];omega
  |some k=>rw[eu j];show(ech m X (c+e)).r+1<=_;omega
def zK{m X}(h:¬(ech m X m).r<m){k}(B:k<=m):(ech m X k).r=k:=by
 have C:=AB m X k;have j:=Qy m X k (m-k);rw[show k+(m-k)=m by omega] at j;omega
def Sn{A B c n k}(h:∀i,k<=i->i<k+n->A i c=B i c):fp A c n k=fp B c n k:=by
 cases F:fp B c n k with
 |none=>exact AU fun i j D=>by rw[h i j D];exact qA F i j D
 |some p=>
  obtain⟨C,G,H,I⟩:=jc F;exact AP C G (fun i j D=>by rw[h i j aa];exact I i j D) (by rw[h p C G];exact H)
theorem ES{m n A B}(h:∀i j,i<m->j<n->A i j=B i j):∀c,c<=n->(ech m A c).r=(ech m B c).r/\(ech m A c).odd=(ech m B c).odd/\∀i j,i<m->j<n->(ech m A c).X i j=(ech m B c).X i j
 |0,_=>⟨rfl,rfl,h⟩
 |c+1,hc=>by
  obtain⟨F,J,D⟩:=ES h c aa;have M:ech m A (c+1)=kP m c (ech m A c):=rfl;have K:ech m B (c+1)=kP m c (ech m B c):=rfl;obtain⟨o,P,L⟩:=pK m B c;have N:=L.rm;have H:fp (ech m A c).X c (m-(ech m A c).r) (ech m A c).r=fp (ech m B c).X c (m-(ech m B c).r) (ech m B c).r:=by
   rw[F];exact Sn fun i _ hi=>D i c aa aa
  rw[M,K];cases G:fp (ech m B c).X c (m-(ech m B c).r) (ech m B c).r with
  |none=>rw[fF (H.trans G),fF G];exact⟨F,J,D⟩
  |some k=>
   obtain⟨C,Q,O,R⟩:=jc G;rw[eu (H.trans G),eu G];refine⟨by show _+1=_+1;rw[F],by show(_^^_)=(_^^_);rw[F,J],fun i j hi I=> ?_⟩;show clr (fun i=>(ech m A c).X (swp k (ech m A c).r i)) (ech m A c).r c i j=clr (fun i=>(ech m B c).X (swp k (ech m B c).r i)) (ech m B c).r c i j;rw[F];have hs:∀i,i<m->swp k (ech m B c).r i<m:=fun i hi=>mH aa aa hi;unfold clr;by_cases e:(ech m B c).r<i
   .rw[ι e,ι e];simp only[];rw[D _ j (hs i hi) I,D _ c (hs i hi) aa,D _ c (hs _ aa) aa,D _ j (hs _ aa) I]
   .rw[θ e,θ e];exact D _ j (hs i hi) I
def Lx{m X Y}:∀c,c<=m->(ech m (side m X Y) c).r=(ech m X c).r/\(ech m (side m X Y) c).odd=(ech m X c).odd/\∀i j,i<m->j<m->(ech m (side m X Y) c).X i j=(ech m X c).X i j:=
 ES fun i j _ B=>J8 B
structure Mx (m:Nat) (X0:Nat->Nat->GQ) (c:Nat) (s:Ec) (t:Rc) (o:Nat->Nat) (P:List (Nat->GQ)):Prop where
 r:RInv m X0 c s t o P
 cov:∀p,p<m->X0 p∈P\/∃i,s.r<=i/\i<m/\o i=p
 sp:∀i,i<s.r->Spn (s.X i) P
 qd:s.r=c->∀k,k<c->s.q[k]? =γ (c-1-k)
theorem lX(m D):∀c,∃o P,Mx m D c (ech m D c) (oC m D c) o P
 |0=>⟨_,_,afK m D,fun p hp=> .inr ⟨p,q9 _,hp,rfl⟩,fun i hi=>absurd hi (acx i),fun _ k L=>absurd L (acx k)⟩
 |c+1=>by
  obtain⟨o,P,h⟩:=lX m D c;have J:=AB m D c;have G:ech m D (c+1)=kP m c (ech m D c):=rfl;rcases h.r.step J with ⟨F,I⟩|⟨k,F,I⟩
  .refine⟨o,P,I,?_,?_,?_⟩
   .rw[G,fF F];exact h.cov
   .rw[G,fF F];exact h.sp
   .rw[G,fF F];intro e;omega
  .obtain⟨C,T,S,U⟩:=jc F;have Q:=h.r.inv.rm;refine⟨_,_,I,?_,?_,?_⟩
   .rw[G,eu F];intro p hp;rcases h.cov p hp with hc|⟨i,R,O,K⟩
    .exact .inl (nC _ hc)
    .by_cases e:i=k
     .subst e;subst K;exact .inl qa
     .right
      refine⟨swp k (ech m D c).r i,?_,mH aa aa O,by simp only[Fy];exact K⟩;show(ech m D c).r+1<=_;by_cases B:i=(ech m D c).r
      .rw[B,oQ];omega
      .rw[xm e B];omega
   .rw[G,eu F];intro i hi;have N:i<(ech m D c).r+1:=hi;by_cases e:i=(ech m D c).r
    .have B:clr (fun i=>(ech m D c).X (swp k (ech m D c).r i)) (ech m D c).r c i=(ech m D c).X k:=by
      funext j;unfold clr;rw[θ aa];simp only[];rw[e,oQ]
     show Spn (clr (fun i=>(ech m D c).X (swp k (ech m D c).r i)) (ech m D c).r c i) _;rw[B];exact afR (h.r.inv.sy k C aa)
    .have B:clr (fun i=>(ech m D c).X (swp k (ech m D c).r i)) (ech m D c).r c i=(ech m D c).X i:=by
      funext j;unfold clr;rw[θ aa];simp only[];rw[xm aa e]
     show Spn (clr (fun i=>(ech m D c).X (swp k (ech m D c).r i)) (ech m D c).r c i) _;rw[B];exact(h.sp i aa).more
   .rw[G,eu F];intro e H M;have B:(ech m D c).r=c:=by have:(ech m D c).r+1=c+1:=e;omega
    show(c::(ech m D c).q)[H]? =_
    match H with
    |0=>rw[show c+1-1-0=c by omega];rfl
    |H+1=>
     have:=h.qd B H aa;rw[show c+1-1-(H+1)=c-1-H by omega];exact this
def Spn.zero{v P q}(h:Spn v P)(C:det P q≠GQ.i 0 0)(D:∀c∈q,v c=GQ.i 0 0)(j):v j=GQ.i 0 0:=by
 have e:v j*det P q=dB v (fun l=>det P (j::l)) q:=aff (h (j::q));rw[nA q _ D] at e;rcases aeh (v j=GQ.i 0 0) with B|B
 .exact B
 .exact absurd e (GQ.jd B C)
def rest (v:Nat->GQ) (T:Nat->Nat->GQ):Nat->Nat->GQ
 |0=>v
 |s+1=>fun c=>rest v T s c-v s*T s c
def Hy{v T P}(hv:Spn v P):∀s,(∀l,l<s->Spn (T l) P)->Spn (rest v T s) P
 |0,_=>hv
 |s+1,h=>(Hy hv s (fun l Z=>h l aa)).XM (h s aa) (v s)
def N8{v T m c}(j:∀l,l<m->T l c=if l=c then GQ.i 1 0 else GQ.i 0 0):∀s,s<=m->rest v T s c=if c<s then GQ.i 0 0 else v c
 |0,_=>by rw[θ aa];rfl
 |s+1,hs=>by
  show rest v T s c-v s*T s c=_;rw[N8 j s aa,j s aa];by_cases e:s=c
  .subst e;rw[θ aa,ι rfl,ι aa,GQ.pU,GQ.rJ]
  .rw[θ e,GQ.bY,GQ.fC];by_cases h:c<s
   .rw[ι h,ι aa]
   .rw[θ h,θ aa]
def JF{v T c}:∀s,rest v T s c=v c-p8 (fun _ l=>v l) (fun l _=>T l c) 0 0 s
 |0=>by show v c=v c-GQ.i 0 0;rw[GQ.fC]
 |s+1=>by
  show rest v T s c-v s*T s c=v c-(p8 (fun _ l=>v l) (fun l _=>T l c) 0 0 s+v s*T s c);rw[JF s];generalize p8 (fun _ l=>v l) (fun l _=>T l c) 0 0 s=y;ext<;>simp only[GQ.dJ,GQ.dK,GQ.bT,GQ.bS]<;>grind
def xe{X Y X' Y' i j D H}:∀s,(∀l,l<s->X i l=X' D l/\Y l j=Y' l H)->p8 X Y i j s=p8 X' Y' D H s
 |0,_=>rfl
 |s+1,h=>by
  show p8 X Y i j s+X i s*Y s j=p8 X' Y' D H s+X' D s*Y' s H;rw[xe s (fun l Z=>h l aa),(h s aa).1,(h s aa).2]
section
variable {m nb:Nat} {Z0:Nat->Nat->GQ}
def Jq{v o P}(h:Mx m Z0 m (ech m Z0 m) (oC m Z0 m) o P)(C:(ech m Z0 m).r=m)(hv:Spn v P)(j):v j=p8 (fun _ l=>v l) (oC m Z0 m).X 0 j m:=by
 have F:∀c,c<m->∀l,l<m->(oC m Z0 m).X l c=if l=c then GQ.i 1 0 else GQ.i 0 0:=fun c hc l Z=>by
  have hq:=h.qd C (m-1-c) aa;rw[show m-1-(m-1-c)=c by omega] at hq;rw[h.r.un l aa _ _ hq,C];by_cases e:l=c
  .rw[ι e,ι aa]
  .rw[θ e,θ aa]
 have D:=Spn.zero (Hy (T:=(oC m Z0 m).X) hv m fun l Z=>h.r.sp l aa) h.r.inv.ne (fun c hc=>by
  have B:=h.r.inv.qc c hc;rw[N8 (F c B) m (κ _),ι B]) j
 rw[JF] at D;have:=aff D;rw[this];exact xe m fun l _=>⟨rfl,rfl⟩
def Ao{o P}(h:Mx m Z0 m (ech m Z0 m) (oC m Z0 m) o P)(G:(ech m Z0 m).r=m)(j):∀k,k<=m->∀i,m-k<=i->i<m->jI (ech m Z0 m).X m k i j=(oC m Z0 m).X i (m+j)
 |0,_,i,h1,h2=>aa
 |k+1,hk,i,h1,h2=>by
  have B:=Ao h G j k aa;by_cases e:i=m-1-k
  .have hs:∀s,s<=k->bps (ech m Z0 m).X (jI (ech m Z0 m).X m k) m i j s=(ech m Z0 m).X i (m+j)-p8 (fun _ l=>(ech m Z0 m).X i (i+1+l)) (fun l _=>(oC m Z0 m).X (i+1+l) (m+j)) 0 0 s:=by
    intro s
    induction s with
    |zero=>intro _;show(ech m Z0 m).X i (m+j)=_-GQ.i 0 0;rw[GQ.fC]
    |succ s ihs=>
     intro hs;show bps _ _ m i j s-(ech m Z0 m).X i (i+1+s)*jI (ech m Z0 m).X m k (i+1+s) j=(ech m Z0 m).X i (m+j)-(p8 _ _ 0 0 s+(ech m Z0 m).X i (i+1+s)*(oC m Z0 m).X (i+1+s) (m+j));rw[ihs aa,B (i+1+s) aa aa];generalize p8 _ _ 0 0 s=y;ext<;>simp only[GQ.dJ,GQ.dK,GQ.bT,GQ.bS]<;>grind
   have D:=Jq h G (h.sp i aa) (m+j);have C:∀t,i+1+t<=m->p8 (fun _ l=>(ech m Z0 m).X i l) (oC m Z0 m).X 0 (m+j) (i+1+t)=(ech m Z0 m).X i i*(oC m Z0 m).X i (m+j)+p8 (fun _ l=>(ech m Z0 m).X i (i+1+l)) (fun l _=>(oC m Z0 m).X (i+1+l) (m+j)) 0 0 t:=by
    have J:∀t,t<=i->p8 (fun _ l=>(ech m Z0 m).X i l) (oC m Z0 m).X 0 (m+j) t=GQ.i 0 0:=by
     intro t
     induction t with
     |zero=>intro _;rfl
     |succ t iht=>
      intro K;show p8 _ _ 0 (m+j) t+(ech m Z0 m).X i t*_=_;rw[iht aa,MX m Z0 m G i t h2 aa aa,GQ.fq,GQ.add_zero']
    intro t
    induction t with
    |zero=>
     intro _;show p8 _ _ 0 (m+j) i+(ech m Z0 m).X i i*_=_+GQ.i 0 0;rw[J i (κ _),GQ.rX]
    |succ t iht=>
     intro K;show p8 _ _ 0 (m+j) (i+1+t)+(ech m Z0 m).X i (i+1+t)*(oC m Z0 m).X (i+1+t) (m+j)=_+(p8 _ _ 0 0 t+(ech m Z0 m).X i (i+1+t)*(oC m Z0 m).X (i+1+t) (m+j));rw[iht aa,GQ.sH]
   have H:=C k aa;rw[show i+1+k=m by omega,<-D] at H;have F:=hs k (κ _);rw[H] at F;have hd:=Db m Z0 m G i aa;have I:jI (ech m Z0 m).X m (k+1) i j=bps (ech m Z0 m).X (jI (ech m Z0 m).X m k) m i j k/(ech m Z0 m).X i i:=by
    show(upd (jI (ech m Z0 m).X m k) (m-1-k) (fun j=>bps (ech m Z0 m).X (jI (ech m Z0 m).X m k) m (m-1-k) j k/(ech m Z0 m).X (m-1-k) (m-1-k))) i j=_;rw[<-e,upd_same]
   rw[I,F];generalize p8 (fun _ l=>(ech m Z0 m).X i (i+1+l)) (fun l _=>(oC m Z0 m).X (i+1+l) (m+j)) 0 0 k=y;generalize (oC m Z0 m).X i (m+j)=x;have L:(ech m Z0 m).X i i*x+y-y=x*(ech m Z0 m).X i i:=by
    ext<;>simp only[GQ.dJ,GQ.dK,GQ.bT,GQ.bS,GQ.bL,GQ.bK]<;>grind
   rw[L,GQ.ME hd]
  .rw[DZ (ech m Z0 m).X aa aa];exact B i aa h2
def agv{v P}(h:v∈P):Spn v P:=fun cs=>rM v P cs h
end
def zh (e0:GQ) (e x:Nat->GQ):Nat->GQ
 |0=>e0
 |s+1=>zh e0 e x s-e s*x s
def NS{j M e0 e x D B F}(w2:Wh M D)(C:Wh (j*e0) B):∀s,(∀t,t<s->Wh (j*e t) B)->(∀t,t<s->Wh (M*x t) F)->Wh (j*M*zh e0 e x s) (B*D+s*(B*F))
 |0,_,_=>by
  have h:=C.mul w2;have e:j*M*zh e0 e x 0=j*e0*M:=by
   show j*M*e0=_;ext<;>simp only[GQ.bL,GQ.bK]<;>grind
  rw[e];simpa using h
 |s+1,we,wx=>by
  have H:=NS w2 C s (fun t I=>we t aa) (fun t I=>wx t aa);have G:=(we s aa).mul (wx s aa);have e:j*M*zh e0 e x (s+1)=j*M*zh e0 e x s-j*e s*(M*x s):=by
   show j*M*(zh e0 e x s-e s*x s)=_;ext<;>simp only[GQ.bL,GQ.bK,GQ.dJ,GQ.dK]<;>grind
  rw[e];refine(H.sub G).mono ?_;rw[Z4,aav];omega
def UI{j M e0 e x G D B F n s}(H:j≠GQ.i 0 0)(I:M≠GQ.i 0 0)(w1:Wh j G)(w2:Wh M D)(C:Wh (j*e0) B)(K:∀t,t<s->Wh (j*e t) B)(J:∀t,t<s->Wh (M*x t) F)(n1:(B*D+s*(B*F))*(G*D)<2^n)(n2:G*D*(G*D)<2^n):Bd (zh e0 e x s) n:=
 xZ (NS w2 C s K J) (w1.mul w2) (GQ.jd H I) (GQ.dZ _ _) n1 n2
def H7(Z W m i j):∀s,bps Z W m i j s=zh (Z i (m+j)) (fun t=>Z i (i+1+t)) (fun t=>W (i+1+t) j) s
 |0=>rfl
 |s+1=>by
  show bps Z W m i j s-_=zh _ _ _ s-_;rw[H7 Z W m i j s]
def Cr{e0 e x x'}:∀s,(∀t,t<s->x t=x' t)->zh e0 e x s=zh e0 e x' s
 |0,_=>rfl
 |s+1,h=>by
  show zh e0 e x s-e s*x s=zh e0 e x' s-e s*x' s;rw[Cr s (fun t j=>h t aa),h s aa]
section
variable {m nb:Nat} {X Y:Nat->Nat->GQ}
def sol (m:Nat) (X Y:Nat->Nat->GQ):Nat->Nat->GQ:=jI (ech m (side m X Y) m).X m m
def F9(B:(ech m (side m X Y) m).r=m){i}(hi:i<m)(j):sol m X Y i j=(oC m (side m X Y) m).X i (m+j):=by
 obtain⟨o,P,h⟩:=lX m (side m X Y) m;exact Ao h B j m (κ m) i aa hi
def zu(C:(ech m (side m X Y) m).r=m){i}(hi:i<m)(j):p8 X (sol m X Y) i j m=Y i j:=by
 obtain⟨o,P,h⟩:=lX m (side m X Y) m;have B:side m X Y i∈P:=by
  rcases h.cov i hi with D|⟨t,D,F,_⟩
  .exact D
  .omega
 have:=Jq h C (agv B) (m+j);rw[Rq] at this;rw[this];exact xe m fun l Z=>⟨(J8 Z).symm,F9 C Z j⟩
end
def iP (f:Nat->GQ):Nat->GQ
 |0=>GQ.i 0 0
 |n+1=>iP f n+f n
def jB{f g}:∀n,(∀i,i<n->f i=g i)->iP f n=iP g n
 |0,_=>rfl
 |n+1,h=>by
  show iP f n+f n=iP g n+g n;rw[jB n (fun i hi=>h i aa),h n aa]
def mU:∀n,iP (fun _=>GQ.i 0 0) n=GQ.i 0 0
 |0=>rfl
 |n+1=>by
  show iP _ n+GQ.i 0 0=_;rw[mU n,GQ.add_zero']
def mq(f g):∀n,iP (fun i=>f i+g i) n=iP f n+iP g n
 |0=>(GQ.add_zero' _).symm
 |n+1=>by
  show iP _ n+(f n+g n)=iP f n+f n+(iP g n+g n);rw[mq f g n];generalize iP f n=a;generalize iP g n=b;ext<;>simp only[GQ.bT,GQ.bS]<;>grind
def Ht(a f):∀n,iP (fun i=>a*f i) n=a*iP f n
 |0=>(GQ.bY _).symm
 |n+1=>by
  show iP _ n+a*f n=a*(iP f n+f n);rw[Ht a f n,GQ.qB]
def su{f c}:∀n,c<n->(∀i,i<n->i≠c->f i=GQ.i 0 0)->iP f n=f c
 |0,h,_=>aa
 |n+1,h,hz=>by
  show iP f n+f n=f c;by_cases e:c=n
  .subst e;rw[jB (g:=fun _=>GQ.i 0 0) c (fun i hi=>hz i aa aa),mU,GQ.rX,GQ.add_zero']
  .rw[su n aa (fun i hi=>hz i aa),hz n aa (fun h=>e h.symm),GQ.add_zero']
def unit (c:Nat):Nat->GQ:=fun i=>if i=c then GQ.i 1 0 else GQ.i 0 0
def DC{v u}:∀(cs:List Nat) (D:List Nat->GQ),(∀c∈cs,v c=u c)->dB v D cs=dB u D cs
 |[],_,_=>rfl
 |c::cs,D,h=>by
  show v c*D cs-dB v (fun l=>D (c::l)) cs=u c*D cs-dB u (fun l=>D (c::l)) cs;rw[h c qa,DC cs _ (fun d hd=>h d (nC _ hd))]
def EF(v u cs)(D:List Nat->GQ):dB (fun c=>v c+u c) D cs=dB v D cs+dB u D cs:=by
 have e:(fun c=>v c+u c)=fun c=>v c-GQ.i (-1) 0*u c:=funext fun c=>by
  ext<;>simp only[GQ.bT,GQ.bS,GQ.dJ,GQ.dK,GQ.bL,GQ.bK,GQ.dH,GQ.dC]<;>grind
 rw[e,yA];generalize dB v D cs=a;generalize dB u D cs=b;ext<;>simp only[GQ.bT,GQ.bS,GQ.dJ,GQ.dK,GQ.bL,GQ.bK,GQ.dH,GQ.dC]<;>grind
def Eu(F:Nat->Nat->GQ)(cs:List Nat)(D:List Nat->GQ):∀n,dB (fun c=>iP (fun i=>F i c) n) D cs=iP (fun i=>dB (F i) D cs) n
 |0=>nA cs D (fun c _=>rfl)
 |n+1=>by
  show dB (fun c=>iP (fun i=>F i c) n+F n c) D cs=iP _ n+_;rw[EF (fun c=>iP (fun i=>F i c) n) (F n) cs D,Eu F cs D n]
def KI{v n}(cs)(D:List Nat->GQ)(h:∀c∈cs,c<n):dB v D cs=iP (fun c=>v c*dB (unit c) D cs) n:=by
 have e:dB v D cs=dB (fun c=>iP (fun i=>v i*unit i c) n) D cs:=DC cs D fun c hc=>by
  rw[su (c:=c) n (h c hc) (fun i _ hi=>by
   show v i*(if c=i then _ else _)=_;rw[θ (fun e=>hi e.symm),GQ.bY])]
  show v c=v c*(if c=c then _ else _);rw[ι rfl,GQ.pU]
 rw[e,Eu (fun i c=>v i*unit i c) cs D n];exact jB n fun i _=>sP _ _ _
def all_in:∀(n:Nat) (q:List Nat),(∀j,j<n->j∈q)->n<=q.length
 |0,_,_=>q9 _
 |n+1,q,h=>by
  have B:=all_in n (q.erase n) (fun j C=>(List.mem_erase_of_ne aa).2 (h j aa));rw[List.length_erase_of_mem (h n aa)] at B;have:0<q.length:=List.length_pos_of_mem (h n aa);omega
def Ws{n}:∀(q:List Nat),q.length<n->∃j,j<n/\j∉q:=by
 intro q hq;rcases aeh (∃j,j<n/\j∉q) with h|h
 .exact h
 .exfalso;have hs:∀j,j<n->j∈q:=fun j C=>by
   rcases aeh (j∈q) with B|B
   .exact B
   .exact absurd ⟨j,C,B⟩ h
  have:=all_in n q hs;omega
def Pk{n X}(h:(ech n X n).r<n):∃v:Nat->GQ,(∃c,c<n/\v c≠GQ.i 0 0)/\∀i,i<n->iP (fun c=>X i c*v c) n=GQ.i 0 0:=by
 obtain⟨o,P,C⟩:=lX n X n;obtain⟨j,H,B⟩:=Ws (n:=n) (ech n X n).q (by rw[C.r.inv.ql];exact h);have D:∀c∈j::(ech n X n).q,c<n:=fun c hc=>by
  rcases kC.1 hc with rfl|hc
  .exact H
  .exact C.r.inv.qc c hc
 refine⟨fun c=>dB (unit c) (det P) (j::(ech n X n).q),⟨j,H,?_⟩,fun i hi=> ?_⟩
 .show unit j j*det P (ech n X n).q-dB (unit j) (fun l=>det P (j::l)) (ech n X n).q≠_;rw[nA (ech n X n).q _ (fun c hc=>by show(if c=j then _ else _)=_;rw[θ (fun e=>B (by rw[<-e];exact hc))]),GQ.fC];show(if j=j then _ else _)*_≠_;rw[ι rfl,GQ.kJ];exact C.r.inv.ne
 .show iP (fun c=>X i c*dB (unit c) (det P) (j::(ech n X n).q)) n=_;rw[<-KI (j::(ech n X n).q) (det P) D];show det (X i::P) (j::(ech n X n).q)=_;rcases C.cov i hi with F|⟨t,F,G,I⟩
  .exact rM _ _ _ F
  .rw[<-I,<-C.r.inv.sy t F G];exact nA _ _ (fun c hc=>C.r.inv.z t c F G (D c hc))
namespace GQ
def PP (x:GQ):GQ:=⟨x.re,-x.im⟩
def Nt(x):(PP x).re=x.re:=rfl
def FI(x):(PP x).im= -x.im:=rfl
end GQ
def qf (n:Nat) (X:Nat->Nat->GQ) (v:Nat->GQ):GQ:=iP (fun i=>GQ.PP (v i)*iP (fun c=>X i c*v c) n) n
theorem Gn{n X v}(h:∀i,i<n->iP (fun c=>X i c*v c) n=GQ.i 0 0):qf n X v=GQ.i 0 0:=by
 unfold qf;rw[jB (g:=fun _=>GQ.i 0 0) n (fun i hi=>by rw[h i hi,GQ.bY]),mU]
theorem BK(n X Y v):qf n (fun i j=>X i j+Y i j) v=qf n X v+qf n Y v:=by
 unfold qf;rw[<-mq];refine jB n fun i _=> ?_;rw[<-GQ.qB,<-mq];congr 1;refine jB n fun c _=> ?_;ext<;>simp only[GQ.bT,GQ.bS,GQ.bL,GQ.bK]<;>grind
def j6 (i j:Nat) (y:GQ):Nat->Nat->GQ:=fun p q=>if p=i/\q=j then y else GQ.i 0 0
theorem Cw{n i j}(hi:i<n)(B:j<n)(y v):qf n (j6 i j y) v=GQ.PP (v i)*(y*v j):=by
 unfold qf;rw[su (c:=i) n hi (fun p _ hp=>by
  rw[jB (g:=fun _=>GQ.i 0 0) n (fun c _=>by show(if p=i/\c=j then y else GQ.i 0 0)*_=_;rw[θ (fun h=>hp h.1),GQ.fq]),mU,GQ.bY])]
 rw[su (c:=j) n B (fun c _ hc=>by show(if i=i/\c=j then y else GQ.i 0 0)*_=_;rw[θ (fun h=>hc h.2),GQ.fq])];show _*((if i=i/\j=j then y else GQ.i 0 0)*v j)=_;rw[ι ⟨rfl,rfl⟩]

def JI (x:GQ):Rat:=x.re*x.re+x.im*x.im
def zz(x:Rat):0<=x*x:=by
 rcases adV (a:=0) (b:=x) with h|h
 .exact aaR h h
 .have:=aaR (a:= -x) (b:= -x) ak ak;grind
theorem Ag(x):0<=JI x:=by
 unfold JI;have j:=zz x.re;have B:=zz x.im;grind
theorem yO{x}(h:JI x=0):x=GQ.i 0 0:=by
 unfold JI at h;have C:=zz x.re;have B:=zz x.im;have e1:x.re*x.re=0:=ak;have j:x.im*x.im=0:=ak;ext<;>simp only[GQ.dH,GQ.dC]
 .rcases abx.1 e1 with h|h<;>simpa using h
 .rcases abx.1 j with h|h<;>simpa using h
structure Br where
 p:Nat
 q:Nat
 nt:Bool
 y:GQ
def stm (X:Nat->Nat->GQ) (b:Br):Nat->Nat->GQ:=
 if b.nt then fun p q=>X p q+j6 b.p b.p b.y p q
 else fun p q=>X p q+j6 b.p b.p b.y p q+j6 b.q b.q b.y p q+j6 b.p b.q (-b.y) p q+j6 b.q b.p (-b.y) p q
def fM (X:Nat->Nat->GQ) (bs:List Br):Nat->Nat->GQ:=bs.foldl stm X
def Br.w (b:Br) (v:Nat->GQ):Rat:=if b.nt then JI (v b.p) else JI (v b.p-v b.q)
theorem Xj{n X}{b:Br}(v)(hp:b.p<n)(hq:b.nt=ζ->b.q<n):(qf n (stm X b) v).im=(qf n X v).im+b.y.im*b.w v:=by
 unfold stm Br.w;cases hb:b.nt
 .simp only[NK,abA];rw[BK n (fun p q=>X p q+j6 b.p b.p b.y p q+j6 b.q b.q b.y p q+j6 b.p b.q (-b.y) p q) (j6 b.q b.p (-b.y)),BK n (fun p q=>X p q+j6 b.p b.p b.y p q+j6 b.q b.q b.y p q) (j6 b.p b.q (-b.y)),BK n (fun p q=>X p q+j6 b.p b.p b.y p q) (j6 b.q b.q b.y),BK n X (j6 b.p b.p b.y),Cw hp hp,Cw (hq hb) (hq hb),Cw hp (hq hb),Cw (hq hb) hp];unfold JI;simp only[GQ.bS,GQ.bK,GQ.bL,GQ.Nt,GQ.FI,GQ.lL,GQ.lT,GQ.dJ,GQ.dK];grind
 .simp only[aad];rw[BK n X (j6 b.p b.p b.y),Cw hp hp];unfold JI;simp only[GQ.bS,GQ.bK,GQ.bL,GQ.Nt,GQ.FI];grind
theorem Br.Ro(b:Br)(v):0<=b.w v:=by
 unfold Br.w;split
 .exact Ag _
 .exact Ag _
def AJ{n}(v):∀(bs:List Br) (X:Nat->Nat->GQ),(∀b∈bs,b.p<n/\(b.nt=ζ->b.q<n)/\b.y.im<0)->(qf n (fM X bs) v).im<=(qf n X v).im/\((qf n (fM X bs) v).im=(qf n X v).im->∀b∈bs,b.w v=0)
 |[],X,_=>⟨Rat.le_refl,fun _ b hb=>by simp at hb⟩
 |b::bs,X,h=>by
  obtain⟨D,C,I⟩:=h b qa;obtain⟨i1,Q⟩:=AJ v bs (stm X b) (fun c hc=>h c (nC _ hc));have e:=Xj (X:=X) v D C;have G:=b.Ro v;have j:b.y.im*b.w v<=0:=by
   have:=aaR (a:= -b.y.im) (b:=b.w v) ak G;grind
  show(qf n (fM (stm X b) bs) v).im<=_/\_;refine⟨ak,fun F c hc=> ?_⟩;have J:(qf n (fM (stm X b) bs) v).im=(qf n X v).im:=F;have H:b.y.im*b.w v=0:=ak;have B:(qf n (fM (stm X b) bs) v).im=(qf n (stm X b) v).im:=ak;rcases kC.1 hc with rfl|hc
  .rcases abx.1 H with h|h
   .grind
   .exact h
  .exact Q B c hc
inductive Joined (bs:List Br):Nat->Prop
 |neutral (b:Br) (h:b∈bs) (hn:b.nt=ε):Joined bs b.p
 |fro (b:Br) (h:b∈bs) (hn:b.nt=ζ) (hq:Joined bs b.q):Joined bs b.p
 |fwd (b:Br) (h:b∈bs) (hn:b.nt=ζ) (hp:Joined bs b.p):Joined bs b.q
theorem uG{bs:List Br}{v}(j:∀b∈bs,b.w v=0){p}(h:Joined bs p):v p=GQ.i 0 0:=by
 induction h with
 |neutral b h hn=>
  have:=j b h;unfold Br.w at this;rw[hn] at this;exact yO this
 |fro b h hn hq ih=>
  have:=j b h;unfold Br.w at this;rw[hn] at this;have:=aff (yO this);rw[this];exact ih
 |fwd b h hn hp ih=>
  have:=j b h;unfold Br.w at this;rw[hn] at this;have:=aff (yO this);rw[<-this];exact ih
def zmx:Nat->Nat->GQ:=fun _ _=>GQ.i 0 0
def LQ(n v):qf n zmx v=GQ.i 0 0:=Gn fun i _=>by
 rw[jB (f:=fun c=>zmx i c*v c) (g:=fun _=>GQ.i 0 0) n (fun c _=>GQ.fq _),mU]
def GK{n}{bs:List Br}(h:∀b∈bs,b.p<n/\(b.nt=ζ->b.q<n)/\b.y.im<0)(H:∀p,p<n->Joined bs p):(ech n (fM zmx bs) n).r=n:=by
 have I:=AB n (fM zmx bs) n;rcases Nq (ech n (fM zmx bs) n).r n with j|C
 .exfalso;obtain⟨v,⟨c,hc,hv⟩,F⟩:=Pk j;have D:=Gn (n:=n) (X:=fM zmx bs) (v:=v) F;obtain⟨_,B⟩:=AJ (n:=n) v bs zmx h;have G:=B (by rw[D,LQ]);exact hv (uG G (H c hc))
 .omega
def pw (w:Nat->Nat):List Nat->Nat
 |[]=>1
 |c::cs=>w c*pw w cs
def H5{x w}:∀(M:Nat) (cs:List Nat) (D:List Nat->GQ),(∀c∈cs,Wh (x c) (w c))->(∀l,l.Sublist cs->l.length+1=cs.length->Wh (D l) (M*pw w l))->Wh (dB x D cs) (cs.length*(M*pw w cs))
 |M,[],D,_,_=>by
  show Wh (GQ.i 0 0) _;exact iH _
 |M,c::cs,D,hx,hD=>by
  show Wh (x c*D cs-dB x (fun l=>D (c::l)) cs) _;have B:=(hx c qa).mul (hD cs (List.sublist_cons_self c cs) rfl);have j:=H5 (M*w c) cs (fun l=>D (c::l)) (fun d hd=>hx d (nC _ hd)) (fun l Z Y=>by
   have:=hD (c::l) (Z.cons_cons c) (by simp only[nV];omega);rw[φ];exact this)
  refine(B.sub j).mono ?_;show w c*(M*pw w cs)+cs.length*(M*w c*pw w cs)<=(cs.length+1)*(M*(w c*pw w cs));have e1:w c*(M*pw w cs)=M*(w c*pw w cs):=by ac_rfl
  have C:M*w c*pw w cs=M*(w c*pw w cs):=by ac_rfl
  rw[e1,C,Z4,aav];omega
def M8{w}:∀(R:List (Nat->GQ)) (cs:List Nat),R.length=cs.length->(∀r∈R,∀c∈cs,Wh (r c) (w c))->Wh (det R cs) (fct cs.length*pw w cs)
 |[],cs,h,_=>by
  obtain rfl:cs=[]:=KP h.symm;exact ww
 |v::R,cs,h,hr=>by
  have Z:R.length+1=cs.length:=by simpa using h
  show Wh (dB v (det R) cs) _;have:=H5 (x:=v) (w:=w) (fct (cs.length-1)) cs (det R) (hr v qa) (fun l B Y=>by
   have e:l.length=cs.length-1:=aa;rw[<-e];exact M8 R l aa (fun r G c hc=>hr r (nC _ G) c (B.subset hc)))
  refine this.mono ?_;have e:fct cs.length=cs.length*fct (cs.length-1):=by
   rw[<-Z];rfl
  rw[e,φ];exact κ _
def Wh.add{x y B C}(J:Wh x B)(R:Wh y C):Wh (x+y) (B+C):=by
 have h:=J.sub R.neg;have e:x- -y=x+y:=by
  ext<;>simp only[GQ.bT,GQ.bS,GQ.dJ,GQ.dK,GQ.lL,GQ.lT]<;>grind
 rwa[e] at h
def uT(X Y i j):∀s,p8 X Y i j s=iP (fun l=>X i l*Y l j) s
 |0=>rfl
 |s+1=>by
  show p8 X Y i j s+_=iP _ s+_;rw[uT X Y i j s]
structure Psv (n:Nat) (bs:List Br):Prop where
 ok:∀b∈bs,b.p<n/\(b.nt=ζ->b.q<n)/\b.y.im<0
 jn:∀p,p<n->Joined bs p
section
variable {n:Nat} {bs:List Br}
def Psv.full(h:Psv n bs):(ech n (fM zmx bs) n).r=n:=GK h.ok h.jn
def Psv.zero(h:Psv n bs){d:Nat->GQ}(B:∀i,i<n->iP (fun c=>fM zmx bs i c*d c) n=GQ.i 0 0){c:Nat}(hc:c<n):d c=GQ.i 0 0:=by
 have D:=Gn (n:=n) (X:=fM zmx bs) (v:=d) B;obtain⟨_,C⟩:=AJ (n:=n) d bs zmx h.ok;have j:=C (by rw[D,LQ]);exact uG j (h.jn c hc)
def Psv.unique(h:Psv n bs){x y:Nat->GQ}(e:∀i,i<n->iP (fun c=>fM zmx bs i c*x c) n=iP (fun c=>fM zmx bs i c*y c) n){c:Nat}(hc:c<n):x c=y c:=by
 refine aff (h.zero (d:=fun c=>x c-y c) (fun i hi=> ?_) hc);have e1:(fun c=>fM zmx bs i c*(x c-y c))=fun c=>fM zmx bs i c*x c+GQ.i (-1) 0*(fM zmx bs i c*y c):=funext fun c=>by
  ext<;>simp only[GQ.bT,GQ.bS,GQ.dJ,GQ.dK,GQ.bL,GQ.bK,GQ.dH,GQ.dC]<;>grind
 rw[e1,mq,Ht,e i hi];generalize iP (fun c=>fM zmx bs i c*y c) n=z;ext<;>simp only[GQ.bT,GQ.bS,GQ.bL,GQ.bK,GQ.dH,GQ.dC]<;>grind
theorem TC{X x f}(B:f<n)(J:∀i,i<n->iP (fun c=>X i c*x c) n=unit f i):qf n X x=GQ.PP (x f):=by
 unfold qf;rw[su (c:=f) n B (fun i hi j=>by
  rw[J i hi];show _*(if i=f then _ else _)=_;rw[θ j,GQ.bY]),J f B]
 show _*(if f=f then _ else _)=_;rw[ι rfl,GQ.pU]
def Psv.drive(h:Psv n bs){x:Nat->GQ}{f:Nat}(D:f<n)(J:∀i,i<n->iP (fun c=>fM zmx bs i c*x c) n=unit f i):0<(x f).im:=by
 have hq:=TC D J;obtain⟨C,j⟩:=AJ (n:=n) x bs zmx h.ok;rw[LQ,hq] at C j;simp only[GQ.FI,GQ.dC] at C j;have H: -(x f).im<=0:=by simpa using C
 rcases(by grind:0<(x f).im\/-(x f).im=0) with B|B
 .exact B
 .exfalso;have G:=j (by simpa using B);have F:∀c,c<n->x c=GQ.i 0 0:=fun c hc=>uG G (h.jn c hc);have:=J f D;rw[jB (g:=fun _=>GQ.i 0 0) n (fun c hc=>by rw[F c hc,GQ.bY]),mU] at this;have e:unit f f=GQ.i 1 0:=ι rfl;rw[e] at this;have:=congrArg GQ.re this;simp only[GQ.dH] at this;exact absurd this aj
end
def M4{z}(h:0<z.im):z≠GQ.i 0 0:=by
 intro e;rw[e] at h;simp only[GQ.dC] at h;exact absurd h aj
theorem Ul{z}(h:z≠GQ.i 0 0):0<z.nrm:=by
 have j:=GQ.Dj h;have B:0<=z.nrm:=by
  unfold GQ.nrm;have:=zz z.re;have:=zz z.im;grind
 grind
def col (v:Nat->GQ):Nat->Nat->GQ:=fun i _=>v i
def Gp (v u:Nat->GQ):Nat->Nat->GQ:=fun i j=>if j=0 then v i else u i
section
variable {n:Nat} {bs:List Br}
def Cj{m X Y}(h:(ech m X m).r=m):(ech m (side m X Y) m).r=m:=by rw[(Lx m (κ m)).1];exact h
def Psv.GU(h:Psv n bs){v i}(hi:i<n):iP (fun c=>fM zmx bs i c*sol n (fM zmx bs) (col v) c 0) n=v i:=by
 rw[<-uT (fM zmx bs) (sol n (fM zmx bs) (col v)) i 0 n];exact zu (Cj h.full) hi 0
def Psv.NL(h:Psv n bs){v u i}(hi:i<n):sol n (fM zmx bs) (col v) i 0=sol n (fM zmx bs) (Gp v u) i 0/\sol n (fM zmx bs) (col u) i 0=sol n (fM zmx bs) (Gp v u) i 1:=by
 constructor
 .refine h.unique (x:=fun c=>sol n (fM zmx bs) (col v) c 0) (y:=fun c=>sol n (fM zmx bs) (Gp v u) c 0) (fun p hp=> ?_) hi;rw[h.GU hp,<-uT (fM zmx bs) (sol n (fM zmx bs) (Gp v u)) p 0 n,zu (Cj h.full) hp 0];exact(ι rfl).symm
 .refine h.unique (x:=fun c=>sol n (fM zmx bs) (col u) c 0) (y:=fun c=>sol n (fM zmx bs) (Gp v u) c 1) (fun p hp=> ?_) hi;rw[h.GU hp,<-uT (fM zmx bs) (sol n (fM zmx bs) (Gp v u)) p 1 n,zu (Cj h.full) hp 1];exact(θ aa).symm
end
structure Bu where
 y:GQ
 al:Nat->GQ
 u:Nat->GQ
def oU (r0:Nat->Nat->GQ):List Bu->Nat->Nat->GQ
 |[],i=>r0 i
 |b::bs,i=>fun c=>oU r0 bs i c+b.y*(b.al i*b.u c)
inductive NdR
 |nd (i:Nat)
 |co (u:Nat->GQ)
def NdR.row (r0:Nat->Nat->GQ) (bs:List Bu):NdR->Nat->GQ
 | .nd i=>oU r0 bs i
 | .co u=>u
def pO(v):∀(cs:List Nat) (D E:List Nat->GQ),dB v (fun l=>D l+E l) cs=dB v D cs+dB v E cs
 |[],_,_=>(GQ.add_zero' _).symm
 |c::cs,D,E=>by
  show v c*(D cs+E cs)-dB v (fun l=>D (c::l)+E (c::l)) cs=(v c*D cs-dB v (fun l=>D (c::l)) cs)+(v c*E cs-dB v (fun l=>E (c::l)) cs);rw[pO v cs (fun l=>D (c::l)) (fun l=>E (c::l))];generalize dB v (fun l=>D (c::l)) cs=a;generalize dB v (fun l=>E (c::l)) cs=b;ext<;>simp only[GQ.bT,GQ.bS,GQ.dJ,GQ.dK,GQ.bL,GQ.bK]<;>grind
def part (r0:Nat->Nat->GQ) (bs:List Bu) (b:Bu):List NdR->List Nat->GQ
 |[],_=>GQ.i 0 0
 | .nd i::L,cs=>dB (oU r0 bs i) (part r0 bs b L) cs+b.al i*det (b.u::L.map (NdR.row r0 bs)) cs
 | .co u::L,cs=>dB u (part r0 bs b L) cs
def zm(r0)(bs:List Bu)(b:Bu):∀(L:List NdR) (cs:List Nat),dB b.u (part r0 bs b L) cs=GQ.i 0 0
 |[],cs=>nD b.u cs
 | .nd i::L,cs=>by
  show dB b.u (fun l=>dB (oU r0 bs i) (part r0 bs b L) l+b.al i*det (b.u::L.map (NdR.row r0 bs)) l) cs=_;rw[pO b.u cs (fun l=>dB (oU r0 bs i) (part r0 bs b L) l) (fun l=>b.al i*det (b.u::L.map (NdR.row r0 bs)) l)];have j:=rG b.u (oU r0 bs i) cs (part r0 bs b L);have B:dB (oU r0 bs i) (dB b.u (part r0 bs b L)) cs=GQ.i 0 0:=by
   exact Abk
  rw[B,GQ.add_zero'] at j;have e1:dB b.u (fun l=>dB (oU r0 bs i) (part r0 bs b L) l) cs=GQ.i 0 0:=j;rw[e1,kI];have C:dB b.u (fun l=>det (b.u::L.map (NdR.row r0 bs)) l) cs=GQ.i 0 0:=rM b.u (b.u::L.map (NdR.row r0 bs)) cs qa;rw[C,GQ.bY,GQ.add_zero']
 | .co u::L,cs=>by
  show dB b.u (fun l=>dB u (part r0 bs b L) l) cs=_;have j:=rG b.u u cs (part r0 bs b L);have B:dB u (dB b.u (part r0 bs b L)) cs=GQ.i 0 0:=by
   exact Abk
  rw[B,GQ.add_zero'] at j;exact j
def Bp(r0)(bs:List Bu)(b:Bu):∀(L:List NdR) (cs:List Nat),det (L.map (NdR.row r0 (b::bs))) cs=det (L.map (NdR.row r0 bs)) cs+b.y*part r0 bs b L cs
 |[],cs=>by
  show GQ.i 1 0=GQ.i 1 0+b.y*GQ.i 0 0;rw[GQ.bY,GQ.add_zero']
 | .nd i::L,cs=>by
  show dB (fun c=>oU r0 bs i c+b.y*(b.al i*b.u c)) (det (L.map (NdR.row r0 (b::bs)))) cs=dB (oU r0 bs i) (det (L.map (NdR.row r0 bs))) cs+b.y*(dB (oU r0 bs i) (part r0 bs b L) cs+b.al i*dB b.u (det (L.map (NdR.row r0 bs))) cs);have e:det (L.map (NdR.row r0 (b::bs)))=fun l=>det (L.map (NdR.row r0 bs)) l+b.y*part r0 bs b L l:=funext fun l=>Bp r0 bs b L l;have j:(fun c=>oU r0 bs i c+b.y*(b.al i*b.u c))=fun c=>oU r0 bs i c+(b.y*b.al i)*b.u c:=funext fun c=>by rw[GQ.dE]
  rw[e,j,EF (oU r0 bs i) (fun c=>(b.y*b.al i)*b.u c),sP (b.y*b.al i) cs,pO (oU r0 bs i) cs,pO b.u cs,kI b.y cs (part r0 bs b L),kI b.y cs (part r0 bs b L),zm r0 bs b L cs,GQ.bY,GQ.add_zero'];generalize dB (oU r0 bs i) (det (L.map (NdR.row r0 bs))) cs=a;generalize dB (oU r0 bs i) (part r0 bs b L) cs=c;generalize dB b.u (det (L.map (NdR.row r0 bs))) cs=d;generalize b.y=y;generalize b.al i=t;ext<;>simp only[GQ.bT,GQ.bS,GQ.bL,GQ.bK]<;>grind
 | .co u::L,cs=>by
  show dB u (det (L.map (NdR.row r0 (b::bs)))) cs=dB u (det (L.map (NdR.row r0 bs))) cs+b.y*dB u (part r0 bs b L) cs;have e:det (L.map (NdR.row r0 (b::bs)))=fun l=>det (L.map (NdR.row r0 bs)) l+b.y*part r0 bs b L l:=funext fun l=>Bp r0 bs b L l;rw[e,pO u cs,kI b.y cs (part r0 bs b L)]
def il {α:Type} (f:α->GQ):List α->GQ
 |[]=>GQ.i 0 0
 |a::l=>il f l+f a
def sF{α β:Type}(f:β->GQ)(g:α->β):∀l:List α,il f (l.map g)=il (fun a=>f (g a)) l
 |[]=>rfl
 |a::l=>by
  show il f (l.map g)+_=_;rw[sF f g l];rfl
def yN{α:Type}(v)(F:α->List Nat->GQ)(cs):∀l:List α,dB v (fun x=>il (fun a=>F a x) l) cs=il (fun a=>dB v (F a) cs) l
 |[]=>nD v cs
 |a::l=>by
  show dB v (fun x=>il (fun a=>F a x) l+F a x) cs=il _ l+_;rw[pO v cs (fun x=>il (fun a=>F a x) l) (F a),yN v F cs l]
def uw (b:Bu):List NdR->List (GQ×List NdR)
 |[]=>[]
 | .nd i::L=>(b.al i,.co b.u::L)::(uw b L).map fun x=>(x.1,.nd i::x.2)
 | .co u::L=>(uw b L).map fun x=>(x.1,.co u::x.2)
def Cf(r0)(bs:List Bu)(b:Bu):∀(L:List NdR) (cs:List Nat),part r0 bs b L cs=il (fun x:GQ×List NdR=>x.1*det (x.2.map (NdR.row r0 bs)) cs) (uw b L)
 |[],_=>rfl
 | .nd i::L,cs=>by
  show dB (oU r0 bs i) (part r0 bs b L) cs+b.al i*det (b.u::L.map (NdR.row r0 bs)) cs=il _ ((uw b L).map fun x=>(x.1,.nd i::x.2))+b.al i*det (b.u::L.map (NdR.row r0 bs)) cs;have e:part r0 bs b L=fun l=>il (fun x:GQ×List NdR=>x.1*det (x.2.map (NdR.row r0 bs)) l) (uw b L):=funext fun l=>Cf r0 bs b L l;rw[sF,e,yN (oU r0 bs i) (fun(x:GQ×List NdR) l=>x.1*det (x.2.map (NdR.row r0 bs)) l) cs (uw b L)];congr 2;funext x;exact kI x.1 cs _
 | .co u::L,cs=>by
  show dB u (part r0 bs b L) cs=il _ ((uw b L).map fun x=>(x.1,.co u::x.2));have e:part r0 bs b L=fun l=>il (fun x:GQ×List NdR=>x.1*det (x.2.map (NdR.row r0 bs)) l) (uw b L):=funext fun l=>Cf r0 bs b L l;rw[sF,e,yN u (fun(x:GQ×List NdR) l=>x.1*det (x.2.map (NdR.row r0 bs)) l) cs (uw b L)];congr 1;funext x;exact kI x.1 cs _
def Cok (w:Nat->Nat) (cs:List Nat):NdR->Prop
 | .nd _=>True
 | .co u=>∀c∈cs,Wh (u c) (w c)
def GZ{b:Bu}{w cs}(C:∀c∈cs,Wh (b.u c) (w c))(ha:∀i,Wh (b.al i) 1):∀(L:List NdR),(∀d∈L,Cok w cs d)->(uw b L).length<=L.length/\∀x∈uw b L,Wh x.1 1/\x.2.length=L.length/\∀d∈x.2,Cok w cs d
 |[],_=>⟨κ _,by simp[uw]⟩
 | .nd i::L,h=>by
  obtain⟨G,j⟩:=GZ C ha L (fun d hd=>h d (nC _ hd));refine⟨by simp only[uw,nV,aaB];omega,fun x J=> ?_⟩;rcases kC.1 (show x∈(b.al i,NdR.co b.u::L)::(uw b L).map (fun x=>(x.1,NdR.nd i::x.2)) from J) with rfl|J
  .refine⟨ha i,rfl,fun d hd=> ?_⟩;rcases kC.1 hd with rfl|hd
   .exact C
   .exact h d (nC _ hd)
  .obtain⟨y,R,rfl⟩:=aab.1 J;obtain⟨D,F,B⟩:=j y R;refine⟨D,by simp only[nV,F],fun d hd=> ?_⟩;rcases kC.1 hd with rfl|hd
   .trivial
   .exact B d hd
 | .co u::L,h=>by
  obtain⟨G,j⟩:=GZ C ha L (fun d hd=>h d (nC _ hd));refine⟨by simp only[uw,nV,aaB];omega,fun x J=> ?_⟩;obtain⟨y,R,rfl⟩:=aab.1 (show x∈(uw b L).map (fun x=>(x.1,NdR.co u::x.2)) from J);obtain⟨D,F,B⟩:=j y R;refine⟨D,by simp only[nV,F],fun d hd=> ?_⟩;rcases kC.1 hd with rfl|hd
  .exact h _ qa
  .exact B d hd
def Nc{α:Type}{f:α->GQ}{Q C}:∀l:List α,(∀a∈l,Wh (Q*f a) C)->Wh (Q*il f l) (l.length*C)
 |[],_=>by
  show Wh (Q*GQ.i 0 0) _;rw[GQ.bY];exact iH _
 |a::l,h=>by
  show Wh (Q*(il f l+f a)) _;rw[GQ.qB];refine((Nc l (fun x J=>h x (nC _ J))).add (h a qa)).mono ?_;rw[nV,Z4];omega
structure Zu (b:Bu) (Z K:Nat):Prop where
 wh:∃(zn:GQ) (zd:Nat),zn≠GQ.i 0 0/\Wh zn Z/\b.y*zn=GQ.i zd 0/\zd<=K
 al:∀i,Wh (b.al i) 1
def cz (f:Bu->Nat) (K m B0:Nat):List Bu->Nat
 |[]=>fct m*B0
 |b::bs=>(f b+m*K)*cz f K m B0 bs
def yL{r0 w}{f:Bu->Nat}{K}:∀(bs:List Bu),(∀b∈bs,Zu b (f b) K)->∃Q,Q≠GQ.i 0 0/\∀(B0:Nat) (cs:List Nat),pw w cs<=B0->(∀b∈bs,∀c∈cs,Wh (b.u c) (w c))->(∀i,∀c∈cs,Wh (r0 i c) (w c))->∀(L:List NdR),L.length=cs.length->(∀d∈L,Cok w cs d)->Wh (Q*det (L.map (NdR.row r0 bs)) cs) (cz f K cs.length B0 bs)
 |[],_=>⟨GQ.i 1 0,aj,fun B0 cs P O N L I hc=>by
  rw[GQ.kJ];refine(M8 (w:=w) (L.map (NdR.row r0 [])) cs (by simpa using I) (fun r G c H=> ?_)).mono (aaa (κ _) P);obtain⟨d,hd,rfl⟩:=aab.1 G;cases d with
  |nd i=>exact N i c H
  |co u=>exact hc _ hd c H⟩
 |b::bs,h=>by
  obtain⟨Q,q0,S⟩:=yL bs (fun c hc=>h c (nC _ hc));obtain⟨⟨j,M,z0,z1,T,W⟩,ha⟩:=h b qa;refine⟨j*Q,GQ.jd z0 q0,fun B0 cs P O N L I hc=> ?_⟩;have F:=S B0 cs P (fun c hc=>O c (nC _ hc)) N;obtain⟨l1,l2⟩:=GZ (O b qa) ha L hc;have hp:Wh (Q*part r0 bs b L cs) (cs.length*cz f K cs.length B0 bs):=by
   rw[Cf];refine(Nc (C:=cz f K cs.length B0 bs) (uw b L) (fun x J=> ?_)).mono (aaa aa (κ _));obtain⟨Y,Z,V⟩:=l2 x J;have U:=Y.mul (F x.2 (Z.trans I) V);have e:Q*(x.1*det (x.2.map (NdR.row r0 bs)) cs)=x.1*(Q*det (x.2.map (NdR.row r0 bs)) cs):=by
    rw[<-GQ.dE,GQ.dZ Q,GQ.dE]
   rw[e];exact U.mono aa
  rw[Bp];have e:j*Q*(det (L.map (NdR.row r0 bs)) cs+b.y*part r0 bs b L cs)=j*(Q*det (L.map (NdR.row r0 bs)) cs)+b.y*j*(Q*part r0 bs b L cs):=by
   generalize det (L.map (NdR.row r0 bs)) cs=x;generalize part r0 bs b L cs=y;generalize b.y=t;ext<;>simp only[GQ.bT,GQ.bS,GQ.bL,GQ.bK]<;>grind
  rw[e,T];have R:=(oZ (D:=(M:Int)) (B:=K) (by simpa using W)).mul hp;refine((z1.mul (F L I hc)).add R).mono ?_;show f b*cz f K cs.length B0 bs+K*(cs.length*cz f K cs.length B0 bs)<=(f b+cs.length*K)*cz f K cs.length B0 bs;rw[Z4,<-φ,nH K];exact κ _
def Jh{a b}(h:a<=b):fct a<=fct b:=by
 induction b with
 |zero=>
  obtain rfl:a=0:=aa;exact κ _
 |succ b ih=>
  by_cases e:a=b+1
  .subst e;exact κ _
  .refine Θ (ih aa) ?_;show fct b<=(b+1)*fct b;exact abC _ aa
def F4{f:Bu->Nat}{K B0 k m}(h:k<=m):∀bs:List Bu,cz f K k B0 bs<=cz f K m B0 bs
 |[]=>aaa (Jh h) (κ _)
 |b::bs=>aaa (Nat.add_le_add_left (aaa h (κ _)) _) (F4 h bs)
structure sJ (Z0:Nat->Nat->GQ) (m W:Nat) (Q:GQ) (BD:Nat):Prop where
 q0:Q≠GQ.i 0 0
 min:∀(P:List (Nat->GQ)) (j:Nat) (cs:List Nat),(∀p∈P,∃i,i<m/\p=Z0 i)->(∀c∈cs,c<m)->(P.length=cs.length->P.length<=m->Wh (Q*det P cs) BD)/\(P.length=cs.length+1->P.length<=m->j<W->Wh (Q*det P (j::cs)) BD)
def IG{m Z0}:∀(P:List (Nat->GQ)),(∀p∈P,∃i,i<m/\p=Z0 i)->∃L:List Nat,L.length=P.length/\P=L.map Z0
 |[],_=>⟨[],rfl,rfl⟩
 |p::P,h=>by
  obtain⟨L,B,j⟩:=IG P (fun q hq=>h q (nC _ hq));obtain⟨i,_,rfl⟩:=h p qa;exact⟨i::L,by simp[B],by rw[j];rfl⟩
def NV{w m}(j:∀c,c<m->w c=1):∀(cs:List Nat),(∀c∈cs,c<m)->pw w cs=1
 |[],_=>rfl
 |c::cs,h=>by
  show w c*pw w cs=1;rw[NV j cs (fun d hd=>h d (nC _ hd)),j c (h c qa)]
def agB{r0:Nat->Nat->GQ}{w:Nat->Nat}{f:Bu->Nat}{K m W B0:Nat}{bs:List Bu}{Z0:Nat->Nat->GQ}(U:∀b∈bs,Zu b (f b) K)(V:∀c,c<m->w c=1)(J:∀c,c<W->w c<=B0)(hB:1<=B0)(O:∀b∈bs,∀c,c<W->Wh (b.u c) (w c))(N:∀i c,c<W->Wh (r0 i c) (w c))(G:m<=W)(Y:∀i,i<m->Z0 i=oU r0 bs i):
  ∃Q,sJ Z0 m W Q (cz f K m B0 bs):=by
 obtain⟨Q,q0,M⟩:=yL (r0:=r0) (w:=w) bs U;refine⟨Q,q0,fun P j cs Z hc=> ?_⟩;have D:∀p∈P,∃i,i<m/\p=oU r0 bs i:=fun p hp=>by
  obtain⟨i,hi,e⟩:=Z p hp;exact⟨i,hi,e.trans (Y i hi)⟩
 obtain⟨L,hL,F⟩:=IG P D;have e:P=(L.map NdR.nd).map (NdR.row r0 bs):=by
  rw[F,List.map_map];rfl
 have B:∀cs,∀d∈L.map NdR.nd,Cok w cs d:=fun cs d hd=>by
  obtain⟨i,_,rfl⟩:=aab.1 hd;trivial
 have I:=NV V cs hc;constructor
 .intro T S;have:=M B0 cs (by rw[I];exact hB) (fun b hb c H=>O b hb c (by have:=hc c H;omega)) (fun i c H=>N i c (by have:=hc c H;omega)) (L.map NdR.nd) (by rw[aaB];omega) (B cs);rw[<-e] at this;exact this.mono (F4 aa bs)
 .intro T S R;have C:∀c∈j::cs,c<W:=fun c H=>by
   rcases kC.1 H with rfl|H
   .exact R
   .have:=hc c H;omega
  have:=M B0 (j::cs) (by show w j*pw w cs<=B0;rw[I,aap];exact J j R) (fun b hb c H=>O b hb c (C c H)) (fun i c H=>N i c (C c H)) (L.map NdR.nd) (by rw[aaB,nV];omega) (B _);rw[<-e] at this;exact this.mono (F4 Aby bs)
section
variable {m W BD N Ns:Nat} {Z0:Nat->Nat->GQ} {Q:GQ}
def sJ.QQ(h:sJ Z0 m W Q BD){x A D}(C:Wh (Q*A) BD)(B:Wh (Q*D) BD)(F:D≠GQ.i 0 0)(J:A=x*D)(j:BD*BD<2^N):Bd x N:=by
 refine xZ C B (GQ.jd h.q0 F) ?_ j j;rw[J];ext<;>simp only[GQ.bL,GQ.bK]<;>grind
def Inv.bdM{c}{s:Ec}{o P}(h:Inv m Z0 c s o P)(C:sJ Z0 m W Q BD)(J:BD*BD<2^N)(hc:c<=m){i j}(D:s.r<=i)(B:i<m)(F:j<W):Bd (s.X i j) N:=by
 have I:∀d∈s.q,d<m:=fun d hd=>by have:=h.qc d hd;omega
 have G:=(C.min (Z0 (o i)::P) j s.q (fun p hp=>by
  rcases kC.1 hp with rfl|hp
  .exact⟨o i,h.om i B,rfl⟩
  .exact h.pm p hp) I).2 (by rw[nV,h.pl,h.ql]) (by rw[nV,h.pl];omega) F
 have H:=(C.min P j s.q h.pm I).1 (by rw[h.pl,h.ql]) (by rw[h.pl];omega);exact C.QQ G H h.ne ((h.sy i D B).entry (fun d hd=>h.z i d D B (h.qc d hd)) j) J
def Inv.Yk{c k i}{s:Ec}{o P}(h:Inv m Z0 c s o P)(H:sJ Z0 m W Q BD)(M:BD*BD<2^N)(hc:c<m)(j:c<W)(F:s.r<=i)(D:i<m)(C:s.r<=k)(G:k<m)(J:s.X k c≠GQ.i 0 0):Bd (s.X i c/s.X k c) N:=by
 have I:∀d∈s.q,d<m:=fun d hd=>by have:=h.qc d hd;omega
 have B:∀t,s.r<=t->t<m->Wh (Q*det (Z0 (o t)::P) (c::s.q)) BD:=fun t O L=>(H.min (Z0 (o t)::P) c s.q (fun p hp=>by
  rcases kC.1 hp with rfl|hp
  .exact⟨o t,h.om t L,rfl⟩
  .exact h.pm p hp) I).2 (by rw[nV,h.pl,h.ql]) (by rw[nV,h.pl];omega) j
 have e1:=(h.sy i F D).entry (fun d hd=>h.z i d F D (h.qc d hd)) c;have K:=(h.sy k C G).entry (fun d hd=>h.z k d C G (h.qc d hd)) c;refine H.QQ (B i F D) (B k C G) (by rw[K];exact GQ.jd J h.ne) ?_ M;rw[e1,K,<-GQ.dE,ae8 J]
def XP(B:sJ Z0 m (m+1) Q BD)(D:BD*BD<2^N):Room N m m 1 Z0:=by
 intro c hc O;obtain⟨o,P,C⟩:=pK m Z0 c;exact⟨fun i j G F K=>C.bdM B D aa G F K,fun i k L M H J I=>C.Yk B D hc aa L M H J I⟩
theorem Me(H:sJ Z0 m W Q BD)(I:BD*BD<2^N):∀c,c<=m->∀i j,i<m->j<W->Bd ((ech m Z0 c).X i j) N
 |0,_,i,j,hi,hj=>by
  obtain⟨o,P,G⟩:=pK m Z0 0;exact G.bdM H I aa (q9 _) hi hj
 |c+1,hc,i,j,hi,hj=>by
  by_cases C:(ech m Z0 (c+1)).r<=i
  .obtain⟨o,P,G⟩:=pK m Z0 (c+1);exact G.bdM H I hc C hi hj
  have B:=Me H I c aa;have e:ech m Z0 (c+1)=kP m c (ech m Z0 c):=rfl;rw[e] at C⊢;cases F:fp (ech m Z0 c).X c (m-(ech m Z0 c).r) (ech m Z0 c).r with
  |none=>rw[fF F];exact B i j hi hj
  |some k=>
   rw[eu F] at C⊢;obtain⟨L,J,M,K⟩:=jc F;have D:¬(ech m Z0 c).r+1<=i:=C;show Bd (clr (fun i=>(ech m Z0 c).X (swp k (ech m Z0 c).r i)) (ech m Z0 c).r c i j) N;unfold clr;rw[θ aa];exact B _ j (mH aa aa hi) hj
def wU{o P}(h:Mx m Z0 m (ech m Z0 m) (oC m Z0 m) o P)(H:(ech m Z0 m).r=m)(G:sJ Z0 m W Q BD):
  ∃M,M≠GQ.i 0 0/\Wh M BD/\∀l j,l<m->j<W->Wh (M*(oC m Z0 m).X l j) BD:=by
 have N:P.length=m:=h.r.inv.pl.trans H;have hq:(ech m Z0 m).q.length=m:=h.r.inv.ql.trans H;have I:∀d∈(ech m Z0 m).q,d<m:=fun d hd=>h.r.inv.qc d hd;refine⟨Q*det P (ech m Z0 m).q,GQ.jd G.q0 h.r.inv.ne,(G.min P 0 _ h.r.inv.pm I).1 aa aa,fun l j B L=> ?_⟩;have C:((ech m Z0 m).q.eraseIdx (m-1-l)).length=m-1:=by
  rw[List.length_eraseIdx,ι aa];omega
 have D:∀d∈(ech m Z0 m).q.eraseIdx (m-1-l),d<m:=fun d hd=>I d (List.mem_of_mem_eraseIdx hd);have K:=(G.min P j _ h.r.inv.pm D).2 aa aa L;have J:=(h.r.sp l aa).entry (k:=m-1-l) (q:=(ech m Z0 m).q) aa (fun n d F=>by
  rw[h.r.un l aa n d F,H];have:n<(ech m Z0 m).q.length:=(μ.1 F).1;by_cases e:n=m-1-l
  .rw[ι e,ι aa]
  .rw[θ e,θ aa]) j
 have e:Q*det P (ech m Z0 m).q*(oC m Z0 m).X l j=Q*det P (j::(ech m Z0 m).q.eraseIdx (m-1-l))\/Q*det P (ech m Z0 m).q*(oC m Z0 m).X l j= -(Q*det P (j::(ech m Z0 m).q.eraseIdx (m-1-l))):=by
  rw[GQ.dE,GQ.dZ (det P _)];rcases J with J|J
  .left;rw[J]
  .right;rw[J]
   ext<;>simp only[GQ.bL,GQ.bK,GQ.lL,GQ.lT]<;>grind
 rcases e with e|e
 .rw[e];exact K
 .rw[e];exact K.neg
theorem OO{i}(R:(ech m Z0 m).r=m)(hi:i<m)(K:sJ Z0 m W Q BD):∃D,D≠GQ.i 0 0/\Wh D BD/\∀l,l<W->Wh (D*(ech m Z0 m).X i l) BD:=by
 have J:=zK (X:=Z0) (m:=m) aa (show i<=m by omega);have H:=zK (X:=Z0) (m:=m) aa (show i+1<=m by omega);obtain⟨o,P,h⟩:=pK m Z0 i;have G:ech m Z0 (i+1)=kP m i (ech m Z0 i):=rfl;cases M:fp (ech m Z0 i).X i (m-(ech m Z0 i).r) (ech m Z0 i).r with
 |none=>rw[G,fF M] at H;omega
 |some k=>
  obtain⟨C,S,O,U⟩:=jc M;have F:(ech m Z0 m).X i=(ech m Z0 i).X k:=by
   rw[(JE m Z0 (i+1) m aa i aa).1,G,eu M];funext j;show clr (fun t=>(ech m Z0 i).X (swp k (ech m Z0 i).r t)) (ech m Z0 i).r i i j=_;unfold clr;rw[θ aa];show(ech m Z0 i).X (swp k (ech m Z0 i).r i) j=_;rw[J,oQ]
  have T:P.length=i:=h.pl.trans J;have hq:(ech m Z0 i).q.length=i:=h.ql.trans J;have I:∀d∈(ech m Z0 i).q,d<m:=fun d hd=>by have:=h.qc d hd;omega
  refine⟨Q*det P (ech m Z0 i).q,GQ.jd K.q0 h.ne,(K.min P 0 _ h.pm I).1 aa aa,fun l B=> ?_⟩;have N:=(K.min (Z0 (o k)::P) l _ (fun p hp=>by
   rcases kC.1 hp with rfl|hp
   .exact⟨o k,h.om k aa,rfl⟩
   .exact h.pm p hp) I).2 Aby Aby B
  have L:=(h.sy k C aa).entry (fun d hd'=>h.z k d C aa (h.qc d hd')) l;rw[L] at N;rw[F,GQ.dE,GQ.dZ (det P _)];exact N
end
section
variable {m BD N Ns:Nat} {Z0:Nat->Nat->GQ} {Q:GQ}
def Mh{W}(F:(ech m Z0 m).r=m)(G:sJ Z0 m W Q BD)(B:BD*BD<2^N){l j}(Z:l<m)(C:j<W):Bd ((oC m Z0 m).X l j) N:=by
 obtain⟨o,P,h⟩:=lX m Z0 m;obtain⟨M,I,H,D⟩:=wU h F G;exact xZ (D l j Z C) H I (GQ.dZ _ _) B B
def Jj(G:(ech m Z0 m).r=m)(I:sJ Z0 m (m+1) Q BD)(K:(BD*BD+m*(BD*BD))*(BD*BD)<2^Ns){k s}(N:k<m)(L:s<=k):
  Bd (bps (ech m Z0 m).X (jI (ech m Z0 m).X m k) m (m-1-k) 0 s) Ns:=by
 obtain⟨o,P,h⟩:=lX m Z0 m;rw[H7,Cr (x':=fun t=>(oC m Z0 m).X (m-1-k+1+t) m) s (fun t J=>Ao h G 0 k aa _ aa aa)];obtain⟨M,V,B,H⟩:=wU h G I;obtain⟨D,F,C,j⟩:=OO (i:=m-1-k) G aa I;refine UI F V C B (j _ aa) (fun t J=>j _ aa) (fun t J=>H _ _ aa aa) (ψ (aaa ?_ (κ _)) K) (ψ (aaa ?_ (κ _)) K)
 .have:=aaa (show s<=m by omega) (κ (BD*BD));omega
 .omega
def Xl(G:(ech m Z0 m).r=m)(F:sJ Z0 m (m+1) Q BD)(J:BD*BD<2^N)(B:(BD*BD+m*(BD*BD))*(BD*BD)<2^Ns)(c1:2*max Ns (N+N+1)+65<=12800)(c3:Ns+N+1<=12800):
  MO N Ns Ns N m 1 (ech m Z0 m).X:=by
 refine⟨fun i l hi Z=>Me F J m (κ m) i l hi aa,fun k j s D I C=> ?_,fun k j D I=> ?_,fun k i j D K H I=> ?_,c1,aa,c3,aa,aa⟩
 .obtain rfl:j=0:=aa;exact Jj G F B D aa
 .obtain rfl:j=0:=aa;exact Jj G F B D (κ k)
 .obtain rfl:j=0:=aa;obtain⟨o,P,h⟩:=lX m Z0 m;rw[Ao h G 0 k D i K H];exact Mh G F J H aa
end
def zq (z:Imp) (n d:Int):GQ:=⟨((n*z.r:Int):Rat)/(d:Rat),((n*z.x:Int):Rat)/(d:Rat)⟩
structure Nb where
 a:Nat
 b:Nat
 y:GQ
 e:GQ
def Nb.at_ (b:Nb) (k:Nat) (U:Nat->GQ):GQ:=(if k=b.a then b.y*(U b.a-U b.b) else GQ.i 0 0)+(if k=b.b then b.y*(U b.b-U b.a) else GQ.i 0 0)
def Nb.src (b:Nb) (k:Nat):GQ:=if b.b=17/\k=b.a then b.y*b.e else GQ.i 0 0
def Nb.br (rw_:Nat->Nat) (b:Nb):Br:=⟨rw_ b.a,rw_ b.b,decide (b.b=17),b.y⟩
def qj{α:Type}{f g:α->GQ}:∀l:List α,(∀a∈l,f a=g a)->il f l=il g l
 |[],_=>rfl
 |a::l,h=>by
  show il f l+f a=il g l+g a;rw[qj l (fun x J=>h x (nC _ J)),h a qa]
def Ju{α:Type}(c)(f:α->GQ):∀l:List α,il (fun a=>c*f a) l=c*il f l
 |[]=>(GQ.bY _).symm
 |a::l=>by
  show il (fun a=>c*f a) l+c*f a=c*(il f l+f a);rw[Ju c f l,GQ.qB]
def ED{α:Type}{f:α->GQ}:∀l:List α,(∀a∈l,f a=GQ.i 0 0)->il f l=GQ.i 0 0
 |[],_=>rfl
 |a::l,h=>by
  show il f l+f a=_;rw[ED l (fun x J=>h x (nC _ J)),h a qa,GQ.add_zero']
def sG{n D j:Nat}(B:j<n)(y:GQ)(x:Nat->GQ)(i:Nat):iP (fun c=>j6 D j y i c*x c) n=if i=D then y*x j else GQ.i 0 0:=by
 rw[su (c:=j) n B (fun c _ hc=>by show(if i=D/\c=j then y else GQ.i 0 0)*_=_;rw[θ (fun h=>hc h.2),GQ.fq])];show(if i=D/\j=j then y else GQ.i 0 0)*x j=_;by_cases h:i=D
 .rw[ι ⟨h,rfl⟩,ι h]
 .rw[θ (fun e=>h e.1),θ h,GQ.fq]
def Br.part (b:Br) (i:Nat) (x:Nat->GQ):GQ:=
 if b.nt then (if i=b.p then b.y*x b.p else GQ.i 0 0) else (if i=b.p then b.y*(x b.p-x b.q) else GQ.i 0 0)+(if i=b.q then b.y*(x b.q-x b.p) else GQ.i 0 0)
theorem Vf{n X}{b:Br}(x)(hp:b.p<n)(hq:b.nt=ζ->b.q<n)(i):iP (fun c=>stm X b i c*x c) n=iP (fun c=>X i c*x c) n+b.part i x:=by
 unfold stm Br.part;cases hb:b.nt
 .simp only[NK,abA];have hq:=hq hb;have e:(fun c=>(X i c+j6 b.p b.p b.y i c+j6 b.q b.q b.y i c+j6 b.p b.q (-b.y) i c+j6 b.q b.p (-b.y) i c)*x c)=fun c=>(((X i c*x c+j6 b.p b.p b.y i c*x c)+j6 b.q b.q b.y i c*x c)+j6 b.p b.q (-b.y) i c*x c)+j6 b.q b.p (-b.y) i c*x c:=funext fun c=>by
   ext<;>simp only[GQ.bT,GQ.bS,GQ.bL,GQ.bK]<;>grind
  rw[e,mq,mq,mq,mq,sG hp,sG hq,sG hq,sG hp];generalize iP (fun c=>X i c*x c) n=s;by_cases B:i=b.p<;>by_cases j:i=b.q<;>simp only[B,j,aad,abA]
  (all_goals (try subst B);(try subst j));all_goals (try split)<;>(ext<;>simp only[GQ.bT,GQ.bS,GQ.bL,GQ.bK,GQ.dJ,GQ.dK,GQ.lL,GQ.lT,GQ.dH,GQ.dC]<;>grind)
 .simp only[aad];have e:(fun c=>(X i c+j6 b.p b.p b.y i c)*x c)=fun c=>X i c*x c+j6 b.p b.p b.y i c*x c:=funext fun c=>by
   ext<;>simp only[GQ.bT,GQ.bS,GQ.bL,GQ.bK]<;>grind
  rw[e,mq,sG hp]
def Ie{n}(x i):∀(bs:List Br) (X:Nat->Nat->GQ),(∀b∈bs,b.p<n/\(b.nt=ζ->b.q<n))->iP (fun c=>fM X bs i c*x c) n=iP (fun c=>X i c*x c) n+il (fun b=>b.part i x) bs
 |[],X,_=>(GQ.add_zero' _).symm
 |b::bs,X,h=>by
  have hb:=h b qa;show iP (fun c=>fM (stm X b) bs i c*x c) n=_+(il _ bs+b.part i x);rw[Ie x i bs (stm X b) (fun c hc=>h c (nC _ hc)),Vf x hb.1 hb.2];generalize iP (fun c=>X i c*x c) n=s;generalize il _ bs=t;generalize b.part i x=u;ext<;>simp only[GQ.bT,GQ.bS]<;>grind
def SL(i:Nat)(x:Nat->GQ)(n:Nat):iP (fun c=>zmx i c*x c) n=GQ.i 0 0:=by
 rw[jB (g:=fun _=>GQ.i 0 0) n (fun c _=>by show GQ.i 0 0*_=_;rw[GQ.fq]),mU]
structure Rwx (L:Nat->Bool) (rw_:Nat->Nat) (n:Nat):Prop where
 lt:∀k,L k=ε->rw_ k<n
 inj:∀j k,L j=ε->L k=ε->rw_ j=rw_ k->j=k
 onto:∀i,i<n->∃k,L k=ε/\rw_ k=i
structure Yg (L:Nat->Bool) (us:List Nb):Prop where
 none:L 17=ζ
 ab:∀b∈us,L b.a=ε/\(b.b=17\/L b.b=ε)/\b.a≠b.b
inductive JoinN (us:List Nb):Nat->Prop
 |neutral (b:Nb) (h:b∈us) (hn:b.b=17):JoinN us b.a
 |fro (b:Nb) (h:b∈us) (hn:b.b≠17) (hq:JoinN us b.b):JoinN us b.a
 |fwd (b:Nb) (h:b∈us) (hn:b.b≠17) (hp:JoinN us b.a):JoinN us b.b
def JoinN.br{us}(rw_){k}(h:JoinN us k):Joined (us.map (Nb.br rw_)) (rw_ k):=by
 induction h with
 |neutral b h hn=>exact Joined.neutral (Nb.br rw_ b) (aaK h) (by simp[Nb.br,hn])
 |fro b h hn _ ih=>exact Joined.fro (Nb.br rw_ b) (aaK h) (by simp[Nb.br,hn]) ih
 |fwd b h hn _ ih=>exact Joined.fwd (Nb.br rw_ b) (aaK h) (by simp[Nb.br,hn]) ih
structure zo (L:Nat->Bool) (rw_:Nat->Nat) (n:Nat) (us:List Nb):Prop where
 r:Rwx L rw_ n
 u:Yg L us
 im:∀b∈us,b.y.im<0
 jn:∀k,L k=ε->JoinN us k
section
variable {L:Nat->Bool} {rw_:Nat->Nat} {n:Nat} {us:List Nb}
def zo.psv(h:zo L rw_ n us):Psv n (us.map (Nb.br rw_)):=by
 refine⟨fun b hb=> ?_,fun p hp=> ?_⟩
 .obtain⟨c,hc,rfl⟩:=aab.1 hb;obtain⟨C,B,D⟩:=h.u.ab c hc;refine⟨h.r.lt _ C,fun hn=> ?_,h.im c hc⟩;have:c.b≠17:=by simpa[Nb.br] using hn
  exact h.r.lt _ (B.resolve_left this)
 .obtain⟨k,j,rfl⟩:=h.r.onto p hp;exact(h.jn k j).br rw_
noncomputable def nE (L:Nat->Bool) (rw_:Nat->Nat) (n:Nat) (us:List Nb) (v:Nat->GQ) (k:Nat):GQ:=if L k=ε then sol n (fM zmx (us.map (Nb.br rw_))) (col v) (rw_ k) 0 else GQ.i 0 0
theorem mG{v k}(h:L k=ζ):nE L rw_ n us v k=GQ.i 0 0:=by unfold nE;rw[h];rfl
theorem tK{v k}(h:L k=ε):nE L rw_ n us v k=sol n (fM zmx (us.map (Nb.br rw_))) (col v) (rw_ k) 0:=by unfold nE;rw[ι h]
def zo.kcl(h:zo L rw_ n us){v k}(B:L k=ε):il (fun b=>b.at_ k (nE L rw_ n us v)) us=v (rw_ k):=by
 have G:=h.psv.GU (v:=v) (h.r.lt k B);rw[Ie _ _ _ _ (fun b hb=>⟨(h.psv.ok b hb).1,(h.psv.ok b hb).2.1⟩),SL,sF] at G;have D:k≠17:=fun e=>by rw[e,h.u.none] at B;cases B
 rw[<-G,qj (g:=fun a=>(Nb.br rw_ a).part (rw_ k) (fun c=>sol n (fM zmx (us.map (Nb.br rw_))) (col v) c 0)) us]
 .ext<;>simp only[GQ.bT,GQ.bS,GQ.dH,GQ.dC]<;>grind
 .intro b hb;obtain⟨ha,F,H⟩:=h.u.ab b hb;show(if k=b.a then b.y*(nE L rw_ n us v b.a-nE L rw_ n us v b.b) else GQ.i 0 0)+(if k=b.b then b.y*(nE L rw_ n us v b.b-nE L rw_ n us v b.a) else GQ.i 0 0)=
   if decide (b.b=17)=ε then (if rw_ k=rw_ b.a then b.y*sol n (fM zmx (us.map (Nb.br rw_))) (col v) (rw_ b.a) 0 else GQ.i 0 0)
   else (if rw_ k=rw_ b.a then b.y*(sol n (fM zmx (us.map (Nb.br rw_))) (col v) (rw_ b.a) 0-sol n (fM zmx (us.map (Nb.br rw_))) (col v) (rw_ b.b) 0) else GQ.i 0 0)+
    (if rw_ k=rw_ b.b then b.y*(sol n (fM zmx (us.map (Nb.br rw_))) (col v) (rw_ b.b) 0-sol n (fM zmx (us.map (Nb.br rw_))) (col v) (rw_ b.a) 0) else GQ.i 0 0)
  rw[tK ha];by_cases hn:b.b=17
  .rw[ι (show decide (b.b=17)=ε by simp[hn]),θ (show ¬k=b.b by omega),GQ.add_zero',mG (k:=b.b) (by rw[hn];exact h.u.none)];by_cases j:k=b.a
   .rw[ι j,ι (by rw[j])];generalize sol n _ _ _ _=z;ext<;>simp only[GQ.dJ,GQ.dK,GQ.bL,GQ.bK,GQ.dH,GQ.dC]<;>grind
   .rw[θ j,θ (fun e=>j (h.r.inj _ _ B ha e))]
  .have C:=F.resolve_left hn;rw[θ (show ¬decide (b.b=17)=ε by simp[hn]),tK C];have J:(rw_ k=rw_ b.a)=(k=b.a):=propext ⟨fun e=>h.r.inj _ _ B ha e,fun e=>by rw[e]⟩;have I:(rw_ k=rw_ b.b)=(k=b.b):=propext ⟨fun e=>h.r.inj _ _ B C e,fun e=>by rw[e]⟩;simp only[J,I]
def zo.drive(h:zo L rw_ n us){f}(j:L f=ε):0<(nE L rw_ n us (unit (rw_ f)) f).im:=by
 rw[tK j];exact h.psv.drive (x:=fun c=>sol n (fM zmx (us.map (Nb.br rw_))) (col (unit (rw_ f))) c 0) (h.r.lt f j) (fun i hi=>h.psv.GU (v:=unit (rw_ f)) hi)
def feed (rw_:Nat->Nat) (us:List Nb) (i:Nat):GQ:=il (fun b=>if b.b=17/\i=rw_ b.a then b.y*b.e else GQ.i 0 0) us
theorem zo.NH(h:zo L rw_ n us){k}(j:L k=ε):feed rw_ us (rw_ k)=il (fun b=>b.src k) us:=by
 refine qj us fun b hb=> ?_;have B:(rw_ k=rw_ b.a)=(k=b.a):=propext ⟨fun e=>h.r.inj _ _ j (h.u.ab b hb).1 e,fun e=>by rw[e]⟩;unfold Nb.src;simp only[B]
end
def CX(g)(z:Imp)(n d w)(hc:dz w g)(F:0<=z.r/\z.r<=1000)(J:0<=z.x/\z.x<=1000)(hn:0<=n/\n<=16)(hd:1<=d/\d<=16):
  CV 156 #[aN g 0,.agg #[z.r,z.x],.int .i64 n,.int .i64 d] w fun v w'=>GV w' v (zq z n d) 64:=by
 obtain⟨Y,W,j⟩:=an2 w 54 #[z.r,z.x] 42 aQ3;have O:=hc.ext Y;have P:=W.cell;have b1:0<=n*z.r/\n*z.r<=16000:=⟨ab3 hn.1 F.1,by have:=ab5 hn.2 F.2 F.1 aa;omega⟩;have b2:0<=n*z.x/\n*z.x<=16000:=⟨ab3 hn.1 J.1,by have:=ab5 hn.2 J.2 J.1 aa;omega⟩;have T:=aW (fun w hc=>R6 g (n*z.r) (n*z.x) d w hc aa aa aa aa aa aa aa);clear F J hn hd;obtain⟨b10,B⟩:=b1;obtain⟨D,C⟩:=b2;go_enter func156,ntmps156;go_wp2_with fail;clear P W;refine(T.o _ O).mono ?_;rintro e w3 ⟨v,rfl,hv,J⟩;replace Y:=Y.trans J;replace j:=j.ext J;clear J;obtain⟨YP,S,YO,M,U,K,N,YQ,H,Z,I,V,rfl⟩:=hv.opn;have k6:=j.cell;have f6:=j.frozen;obtain⟨p1,p2,G⟩:=fA Y aa j hv;have Q:=aW p1;have R:=aW p2;have L:=aW G;clear p1 p2 G Y j hv;go_wp2_with fail;exact dG rfl rfl rfl R.o ⟨_,rfl,L.o,Q.o⟩
def lG(g)(z:Imp)(w)(hc:dz w g)(C:0<=z.r/\z.r<=1000)(J:0<=z.x/\z.x<=1000):
  CV 120 #[aN g 0,.agg #[z.r,z.x]] w fun v w'=>GV w' v (zq z 1 1) 64:=by
 obtain⟨Y,W,j⟩:=an2 w 54 #[z.r,z.x] 42 aQ3;have O:=hc.ext Y;have L:=W.cell;have T:=aW (fun w hc=>CX g z 1 1 w hc C J aa aa);clear C J;go_enter func120,ntmps120;go_wp2_with fail;clear L W;refine(T.o _ O).mono ?_;rintro e w3 ⟨v,rfl,hv,J⟩;replace Y:=Y.trans J;replace j:=j.ext J;clear J;obtain⟨V,P,U,I,Q,G,K,Z,D,S,F,R,rfl⟩:=hv.opn;have k6:=j.cell;have f6:=j.frozen;obtain⟨p1,p2,B⟩:=fA Y aa j hv;have M:=aW p1;have N:=aW p2;have H:=aW B;clear p1 p2 B Y j hv;go_wp2_with fail;exact dG rfl rfl rfl N.o ⟨_,rfl,H.o,M.o⟩
def vg(g v0 q0 n0 m w)(hc:dz w g)(L:GV w v0 q0 n0)(hm: -9223372036854775808<=m/\m<=9223372036854775807)(hn:2*max n0 64+1<=12800):
  CV 162 #[aN g 0,v0,.int .i64 m] w fun v w'=>GV w' v (q0*GQ.i m 0) (n0+64+1):=by
 obtain⟨N,H,Q,G,Z,T,U,V,M,Yy,Yz,O,rfl⟩:=L.opn;obtain⟨Y,F,j⟩:=an2 w 42 #[N,aO H Q G,Z,aO T U V,M,aO Yy Yz O] 42 aQ3;have HX:=aW (L.ext Y);have HC:=aW (dz.ext hc Y);have HE:=aW Y;have R:=aW F;have S:=aW j;have HN:=aW hn;have HM:=aW hm;clear hm;clear L Y F j hn hc;go_enter func162,ntmps162;go_wp2_with fail;generalize aU _ _=w5 at HX HC HE R S⊢;have Y1:=aX.blk R.o;refine bO 6 [(ε,0),(ε,1),(ε,2),(ε,3),(ζ,4),(ζ,5)] ah ah ?_;refine bD [0,1,2,3] [(ζ,4),(ζ,5)] _ ah ?_;refine Gq ?_;refine bC 4 [(ζ,5)] ah ?_;intro K I;simp only[bJ];go_wp2_with fail;refine(dR g m _ (HC.ext ((Ext.refl _).drew)) HM.o.1 HM.o.2).mono ?_;rintro e w2 ⟨u,rfl,D,J⟩;have P:=((Ext.refl w5).drew).trans J;have W:=aW P;clear J;obtain⟨YZ,Za,YY,YV,YT,YS,YR,Zc,Zd,YX,YU,YW,rfl⟩:=D.opn;have HU:=aW D;go_wp2_with fail;refine I _ _ ⟨⟨w2,P⟩,rfl⟩ ?_;clear I K P D;have D:=HU.o;refine bC 5 [] ah ?_;intro K I;simp only[bJ];go_wp2_with fail;refine(vo g _ _ q0 (GQ.i m 0) n0 64 _ (HC.ext W.o) (HX.ext W.o) D HN.o).mono ?_;exact Aaw
def FN(g v0 q0 n0 w)(hc:dz w g)(L:GV w v0 q0 n0)(hn:2*max 64 n0+65<=12800):
  CV 163 #[aN g 0,v0] w fun v w'=>GV w' v (GQ.i 0 0-q0) (64+n0+65):=by
 obtain⟨N,H,Q,G,Z,T,U,V,M,Yy,Yz,O,rfl⟩:=L.opn;obtain⟨Y,F,j⟩:=an2 w 42 #[N,aO H Q G,Z,aO T U V,M,aO Yy Yz O] 42 aQ3;have HX:=aW (L.ext Y);have HC:=aW (dz.ext hc Y);have HE:=aW Y;have R:=aW F;have S:=aW j;have HN:=aW hn;skip;clear L Y F j hn hc;go_enter func163,ntmps163;go_wp2_with fail;generalize aU _ _=w5 at HX HC HE R S⊢;have Y1:=aX.blk R.o;refine bO 5 [(ε,0),(ε,1),(ε,3),(ζ,2),(ζ,4)] ah ah ?_;refine bD [0,1,3] [(ζ,2),(ζ,4)] _ ah ?_;refine Gq ?_;refine bC 2 [(ζ,4)] ah ?_;intro K I;simp only[bJ];go_wp2_with fail;refine(dR g 0 _ (HC.ext ((Ext.refl _).drew)) aa aa).mono ?_;rintro e w2 ⟨u,rfl,D,J⟩;have P:=((Ext.refl w5).drew).trans J;have W:=aW P;clear J;obtain⟨YZ,Za,YY,YV,YT,YS,YR,Zc,Zd,YX,YU,YW,rfl⟩:=D.opn;have HU:=aW D;go_wp2_with fail;refine I _ _ ⟨⟨w2,P⟩,rfl⟩ ?_;clear I K P D;have D:=HU.o;refine bC 4 [] ah ?_;intro K I;simp only[bJ];go_wp2_with fail;refine(uX g _ _ (GQ.i 0 0) q0 64 n0 _ (HC.ext W.o) D (HX.ext W.o) HN.o).mono ?_;exact Aaw
def SX{w:World}{g n j:Nat}{f:Nat->En}{x:Nat->GQ}{e:En}(hb:Blk w g 42 (bz n f).toArray)(J:∀i,i<j->GV w (f i).v (x i) 12800)(D:j<n)(O:GV w e.v (x j) 12800):
  Blk (puts w g (j*6) e.cells) g 42 (bz n (upd f j e)).toArray/\(∀i,i<j+1->GV (puts w g (j*6) e.cells) (upd f j e i).v (x i) 12800)/\Mod (fun k=>k=g) w (puts w g (j*6) e.cells):=by
 have B:Mod (fun k=>k=g) w (puts w g (j*6) e.cells):=Mod.only (gV _ _ _ _) rfl;have hS:Far (fun k=>k=g) w:=fun k C _=>by subst C;exact⟨_,_,hb,dD _ _⟩
 refine⟨?_,fun i hi=> ?_,B⟩
 .rw[<-oo e D];exact dm _ _ hb
 .by_cases h:i=j
  .subst h;rw[upd_same];exact O.mod B hS
  .rw[upd_ne h];exact(J i aa).mod B hS
theorem Fq(gf m na:Nat)(w)(hc:dz w gf)(hm:m<=24)(ac:na<=24):
  Calls prog 157 #[aN gf 0,(m:Int),(na:Int)] w fun e w'=>∃(G:Nat) (S:Nat->Rw),e=.returned (.slice (γ (aM G 0)) m m)/\DI w w' G m na m (fun _ _=>GQ.i 0 0) S:=by
 have HC:=aW hc;clear hc;have Zj:=F7 m aa;have Z7:=Co na aa;go_enter func157,ntmps157;go_wp2_with fail;clear Zj;go_loopw [14] (fun i wr=>∃(D:Nat) (S:Nat->Rw),D<=m/\i=.int .i64 D/\DI w wr w.heap.size m na D (fun _ _=>GQ.i 0 0) S) (aT m)
 case atStart=>exact⟨0,fun _=>BX,aa,rfl,Blk.new _ _ _,κ _,by intros;omega,by intros;omega,by intros;omega,Ext.new _ _⟩
 case round=>
  obtain⟨i,S,hi,rfl,hD⟩:=hrel;obtain⟨wv,Zk⟩:∃wv,wv=wr:=⟨_,rfl⟩;subst Zk;have HD:=aW hD;clear hD;by_cases Yu:i<m
  .have hd:decide ((i:Int)<m)=ε:=ae;have YK:=HD.o.o;have fr:=YK.frozen;have C:wv.cell? (aM w.heap.size i)=γ (S i).v:=by rw[YK.cell];exact jq Yu
   have Zc:w.heap.size<wv.heap.size:=YK.lt;have N:Blk (wv.setCell ⟨w.heap.size,i,δ⟩ (.slice (γ (aM wv.heap.size 0)) na na)) w.heap.size 174 (mxc m (upd S i ⟨γ ⟨wv.heap.size,0,δ⟩,wv.heap.size,0,na,na⟩)).toArray:=by
    rw[<-Gt];exact YK.qG _ _
   have k2:(wv.setCell ⟨w.heap.size,i,δ⟩ (.slice (γ (aM wv.heap.size 0)) na na)).cell? (aM w.heap.size i)=γ (aO (γ (aM wv.heap.size 0)) na na):=by rw[N.cell,jq Yu,upd_same];rfl
   have YU:=N.alloc (.cells (bz na fun _=>zEn).toArray 42);have YG:Blk ((wv.setCell ⟨w.heap.size,i,δ⟩ (.slice (γ (aM wv.heap.size 0)) na na)).alloc (.cells (bz na fun _=>zEn).toArray 42)) wv.heap.size 42 (bz na fun _=>zEn).toArray:=aeV _ _ Abh;have YV:Ext w ((wv.setCell ⟨w.heap.size,i,δ⟩ (.slice (γ (aM wv.heap.size 0)) na na)).alloc (.cells (bz na fun _=>zEn).toArray 42)):=(HD.o.ext.setCell (κ _) _).alloc _;have V:Mod (fun k=>k=w.heap.size\/k=wv.heap.size) wv ((wv.setCell ⟨w.heap.size,i,δ⟩ (.slice (γ (aM wv.heap.size 0)) na na)).alloc (.cells (bz na fun _=>zEn).toArray 42)):=(Mod.only (Only.set _ _ _ _) (.inl rfl)).trans (ae0 (Ext.new _ _));have Zf:=aW YU;have U:=aW YG;have W:=aW YV;have Zg:=aW Zc;have YO:=aW V;clear YK YU N YG YV V;go_wp2_with fail;clear C k2 fr;generalize aU _ _=w3 at Zf U W YO⊢;generalize Zo:wv.heap.size=g at Zf U Zg YO Zc⊢;have YE:=aW Zo;clear Zo;clear Zc;go_loopw [27] (fun Q wz=>∃(j:Nat) (f:Nat->En),j<=na/\Q=.int .i64 j/\Blk wz g 42 (bz na f).toArray/\(∀H,H<j->GV wz (f H).v (GQ.i 0 0) 12800)/\Mod (fun k=>k=g) w3 wz) (aT na)
   case atStart=>exact⟨0,fun _=>zEn,aa,rfl,U.o,by intros;omega,Mod.refl _ _⟩
   case round=>
    obtain⟨j,f,hj,rfl,hb,YS,Zp⟩:=hrel;have YP:=aW hb;have YN:=aW YS;have YH:=aW Zp;clear hb YS Zp;have YQ:w.heap.size≠g:=by have:=Zg.o;omega
    have Y:=Zf.o.mod YH.o YQ;have Zz:=aW Y;have P:=aW (fG W.o YH.o (fun k hk=>by have:=Zg.o;omega));by_cases Yx:j<na
    .have ad:decide ((j:Int)<na)=ε:=ae;have k3:wr.cell? (aM w.heap.size i)=γ (aO (γ (aM g 0)) na na):=by rw[Y.cell,jq Yu,upd_same];rfl
     have lz:=Y.lt;have lg:=YP.o.lt;clear Y;have Y1:=aX.cell k3;go_wp2_with fail;refine bO 7 [(ε,0),(ε,1),(ε,2),(ε,3),(ε,4),(ε,5),(ζ,6)] ah ah ?_;refine bD [0,1,2,3,4,5] [(ζ,6)] _ ah ?_;refine Gq ?_;refine bC 6 [] ah ?_;intro K I;simp only[bJ];go_wp2_with fail;refine(dR gf 0 _ (HC.o.ext (P.o.trans ((Ext.refl _).drew))) aa aa).mono ?_;rintro e w4 ⟨u,rfl,hu,J⟩;have Yw:=((Ext.refl wr).drew).trans J;have YZ:=aW Yw;clear J;obtain⟨en,L⟩:=hu.en;subst L;have HU:=aW (hu.up (show 64<=12800 by omega));clear hu;go_wp2_with fail;refine I _ _ ⟨⟨w4,Yw⟩,rfl⟩ ?_;clear I K Yw Y1 k3;simp only[dh,ξ,τ];have hp:=SX (YP.o.ext YZ.o) (x:=fun _=>GQ.i 0 0) (fun i hi=>(YN.o i hi).ext YZ.o) Yx HU.o;obtain⟨d0,d1,d2,d3,d4,d5⟩:=dQ.cells (YP.o.ext YZ.o) Yx rfl;have fr:=(YP.o.ext YZ.o).frozen;have Yv:=(YP.o.ext YZ.o).lt;have YL:=aW hp.1;have ZN:=aW hp.2.1;have R:=aW hp.2.2;clear hp;unfold En.v gv;go_wp2_with fail
     go_roundw
     case rel=>exact⟨j+1,upd f j en,aa,au,YL.o,ZN.o,(YH.o.trans (ae0 YZ.o)).trans R.o⟩
     case measure=>exact aV
    .obtain rfl:j=na:=aa;clear Yx hj;go_wp2_with fail
     go_roundw
     case rel=>
      have B:∀D,D<i->(S D).b≠g:=fun D YB=>by
       obtain⟨f',YT,_⟩:=(HD.o.row D YB).2.1;have:=YT.lt;have:=YE.o;omega
      have F:Mod (fun k=>k=w.heap.size\/k=g) wv wr:=YO.o.trans (YH.o.mono fun k hk=> .inr hk);have M:Far (fun k=>k=w.heap.size\/k=g) wv:=fun k hk Z=>by
       rcases hk with hk|hk
       .subst hk;refine⟨_,_,HD.o.o,?_⟩;unfold lS;simp only[q8];intro v hv;simp only[mxc,aab] at hv;obtain⟨D,_,rfl⟩:=hv;rfl
       .have:=YE.o;omega
      refine⟨i+1,upd S i ⟨γ ⟨g,0,δ⟩,g,0,j,j⟩,aa,au,Zz.o,κ _,fun D YB=> ?_,fun D YB=> ?_,fun D H YB YC O=> ?_,P.o⟩
      .exact AcP
      .by_cases e:D=i
       .exact Aci
       .rw[upd_ne e];have h3:=HD.o.row D aa;refine⟨h3.1,h3.2.1.mod F M (fun hk=> ?_),h3.2.2⟩;rcases hk with hk|hk
        .obtain⟨f',YT,_⟩:=h3.2.1;have e1:Blk wv w.heap.size 42 (bz j f').toArray:=hk ▸ YT;have e2:=HD.o.o.symm.trans e1;simp at e2
        .exact B D aa hk
      .by_cases e:D=i
       .by_cases T:H=i
        .omega
        .subst e;rw[upd_same,upd_ne T] at O;exact absurd O.symm (B H aa)
       .by_cases T:H=i
        .subst T;rw[upd_same,upd_ne e] at O;exact absurd O (B D aa)
        .rw[upd_ne e,upd_ne T] at O;exact HD.o.inj D H aa aa O
     case measure=>exact aV
  .obtain rfl:i=m:=aa;clear Yu hi;go_wp2_with fail;go_ret;exact⟨_,S,rfl,HD.o⟩
inductive NF where
 |any
 |gv (q:GQ) (n:Nat)
 |box (t:TypeId) (cs:Array Value)
 |eq (u:Value)
 |pt
def NF.holds:NF->Nat->Nat->Value->World->Prop
 | .any,_,_,_,_=>True
 | .gv q n,_,_,v,w=>∃e:En,v=e.v/\GV w e.v q n
 | .box t cs,lo,hi,v,w=>v=.pointer (γ (aM lo 0))/\lo<hi/\Blk w lo t cs
 | .eq u,_,_,v,_=>v=u
 | .pt,lo,hi,v,_=>v=.pointer (γ (aM lo 0))/\lo<hi
def af6(f:NF){lo hi v w w'}(h:f.holds lo hi v w)(x:Ext w w'):f.holds lo hi v w':=by
 cases f with
 |any=>trivial
 |gv q n=>obtain⟨e,B,j⟩:=h;exact⟨e,B,j.ext x⟩
 |box t cs=>exact⟨h.1,h.2.1,h.2.2.ext x⟩
 |eq u=>exact h
 |pt=>exact h
def ae5{q n lo hi v w}(h:NF.holds (.gv q n) lo hi v w):GV w v q n:=by
 obtain⟨e,B,j⟩:=h;rw[B];exact j
def BJ:List (Nat×NF)->Nat->NF
 |[],_=> .any
 |p::r,i=>bif Nat.beq p.1 i then p.2 else BJ r i
def DK:List (Nat×NF)->Nat->Bool
 |[],_=>ζ
 |p::r,i=>Nat.beq p.1 i||DK r i
def NFs (l:List (Nat×NF)):Nat->Nat->Nat->Value->World->Prop:=fun i lo hi v w=>(BJ l i).holds lo hi v w
def QG(l):∀i lo hi v w w',NFs l i lo hi v w->Ext w w'->NFs l i lo hi v w':=fun _ _ _ _ _ _ h x=>af6 _ h x
def uh{w' v q n}(h:GV w' v q n):∃e:En,v=e.v/\GV w' e.v q n:=by
 obtain⟨e,rfl⟩:=h.en;exact⟨e,rfl,h⟩
def bG{P ops rest op a w Q}(H:op.guard=δ)(F)(x y:Operand)(C:op.op=.store F x y)(b o cells)(J:a.eval x=.pointer (γ (aM b o)))(R:a.eval y=.agg cells.toArray)(j:w.there b o cells.length)(hi:(P.info? F).map (·.size)=γ cells.length)(B:∀v∈cells,v.oneCell'=ε)(h:∀w',w'=puts w b o cells->wpList P ops Q rest (a.put op.dst undef) w'):wpList P ops Q (op::rest) a w:=by
 refine wpList_store_mid H F x y C b o cells.toArray J R (by simpa using j) (by simpa using hi) (adJ B) ?_;refine h _ ?_;rw[nM]
theorem eP(e:En):∀v∈e.cells,v.oneCell'=ε:=by
 intro v hv;unfold En.cells at hv;simp only[kC,Ha,aaH] at hv;rcases hv with rfl|rfl|rfl|rfl|rfl|rfl<;>rfl
def cO:(prog.info? 42).map (·.size)=γ (6:Nat):=ah
def Blk.there{w g o n t cs}(h:Blk w g t cs)(hn:o+n<=cs.size):w.there g o n:=fun j B=>
 ⟨by rw[h.cell,Array.getElem?_eq_getElem (show o+j<cs.size by omega)];rfl,h.frozen _⟩
def En.arr (e:En):Array Value:= #[e.s1,aO e.A1 e.n1 e.c1,e.s2,aO e.A2 e.n2 e.c2,e.s3,aO e.A3 e.n3 e.c3]
def ni{w0 w2 w':World}{g}(e:En)(J:Ext w0 w2)(I:w0.heap.size<=g)(hb:Blk w2 g 42 aQ3)(B:w'=puts w2 g 0 e.cells):
  Ext w0 w'/\Blk w' g 42 #[e.s1,aO e.A1 e.n1 e.c1,e.s2,aO e.A2 e.n2 e.c2,e.s3,aO e.A3 e.n3 e.c3]/\(∀v q n,GV w2 v q n->GV w' v q n)/\(∀g' t c,g'≠g->Blk w2 g' t c->Blk w' g' t c):=by
 have C:Mod (fun k=>k=g) w2 w':=by rw[B];exact Mod.only (gV _ _ _ _) rfl
 have hn:lS aQ3=ε:=rfl;have H:Far (fun k=>k=g) w2:=fun k F _=>by
  obtain rfl:k=g:=F;exact⟨_,_,hb,hn⟩
 have G:Ext w0 w':=by rw[B];exact fO (I:Own w0 g) 0 e.cells J
 have D:Blk w' g 42 (gJ aQ3 0 e.cells):=by rw[B];exact dm 0 e.cells hb
 exact⟨G,D,fun v q n h=>h.mod C H,fun g' t c j h=>h.mod C j⟩
def jo{P:Program}{fn:Func}{R:Ending->World->Prop}{a:Act}{w:World}{t g:Nat}{F:TypeId}{cs:Array Value}{d:TypeDesc}(C:fn.results= #[.cell t F])(hd:a.defers=[])(hp:a.tmps[t]?.getD undef=.pointer (γ (aM g 0)))(hb:Blk w g F cs)(D:P.underlying F=γ d)(j:(match d with| .struct _| .array _ _=>ε|_=>ζ)=ε)(hi:(P.info? F).map (·.size)=γ cs.size)(B:R (.returned (.agg cs)) w):bodyPost P fn R .ret a w:=
 aai (results_cell_row C _ _ g F cs (0,0) _ (by simpa using hp) hb D j hi) hd B
def six{w:World}{g a:Nat}{e:En}(h:∀(t:Nat) (u:Value),e.cells[t]? =γ u->w.cell? (aM g (a+t))=γ u)(x:aX w):x.val.cell? (aM g a)=γ (.bool e.s1)/\x.val.cell? (aM g (a+1))=γ (aO e.A1 e.n1 e.c1)/\x.val.cell? (aM g (a+2))=γ (.bool e.s2)/\x.val.cell? (aM g (a+3))=γ (aO e.A2 e.n2 e.c2)/\x.val.cell? (aM g (a+4))=γ (.bool e.s3)/\x.val.cell? (aM g (a+5))=γ (aO e.A3 e.n3 e.c3):=
 have k:=fun t u j=>aX.cell (h t u j) x
 ⟨k 0 _ rfl,k 1 _ rfl,k 2 _ rfl,k 3 _ rfl,k 4 _ rfl,k 5 _ rfl⟩
def Ee{P:Program}{ops:Array Oper}{w0:World}{E:Nat->Bool}{Φ:Nat->Nat->Nat->Value->World->Prop}{Qt:Book->Act->Prop}{o:Oper}{l:List Oper}{k:Nat}{F:Book}{a:Act}{G:Value->World->Prop}{f:FuncId}{args:Array Value}{Q:En->Nat->Nat->Prop}(x:∀W,Kn ops w0 Φ k F W->Calls P f args W (fun e w'=>∃v,e=.returned v/\G v w'/\Ext W w'))(h:∀e lo hi,Q e lo hi)(t:(∀W,Kn ops w0 Φ k F W->Calls P f args W (fun e w'=>∃v,e=.returned v/\G v w'/\Ext W w'))->(∀e lo hi,Q e lo hi)->wpT P ops w0 E Φ Qt (o::l) k F a:=by
   intro x h;refine dL (by rfl) (by rfl) (by rfl) ?_ ?_
   .intro W I;have y:=x W I;clear x h I;go_simp;exact⟨rfl,y.mono fun e w' ⟨v,O,hv,J⟩=>⟨v,O,J,uh hv⟩⟩
   .intro v lo hi B;obtain⟨W,j⟩:=B;obtain⟨e,rfl,-⟩:=j.get;clear j W x;(try simp only[Act.put,aQ,De,Ej]);exact h e lo hi):wpT P ops w0 E Φ Qt (o::l) k F a:=t x h
def tN{P:Program}{J:Nat}{Q:Exit->Act->World->Prop}{a:Act}{w:World}{l:List Oper}(n:Nat)(m:List (Nat×NF)){q:Prop}(h:q)(t:q->wpT P l.toArray w (DK m) (NFs m) (fun F a'=>∀w',fV w (NFs m) F w'->wpList P l.toArray Q (l.drop n) a' w') (l.take n) 0 Book.none a:=by
   intro h;simp only[aay,abm,ξ,τ];exact h)(j:P.follows .mixedOrders=ε:=by kernel_rfl)(B:Region.lexTailB .any l.toArray n=ε:=by kernel_rfl):(Code.region J l.toArray ε).wp P Q a w:=fP n (DK m) (NFs m) (QG _) j B (t h)
def fV.hV{w W:World}{Φ:Nat->Nat->Nat->Value->World->Prop}{F:Book}(h:fV w Φ F W)(i:Nat){v:Value}{lo hi n:Nat}{q:GQ}(B:F i=γ (v,lo,hi):=by rfl)(j:Φ i lo hi v W=NF.holds (.gv q n) lo hi v W:=by rfl):Hid (GV W v q n):=aW (ae5 (j ▸ h.at_ i B))
def Sto.mod{g w w'}(h:Sto g w w'):Mod (fun k=>k=g) w w':=⟨h.os,h.tape,h.output,by rw[h.size];exact κ _,fun k _ j=>h.block k j⟩
def Sto.gv{g w w' v q n}(h:Sto g w w')(hv:GV w v q n):GV w' v q n:=by
 obtain⟨t,cs,hb,hn⟩:=h.far;exact hv.mod h.mod (fun k j _=>by
  obtain rfl:k=g:=j;exact⟨t,cs,hb,hn⟩)
def PdG (al:List Nat):Nat->Nat->Nat->Value->World->Prop:=fun i lo hi _ w=>al.contains i=ε->lo<hi/\Blk w lo 42 aQ3
def PoG (cs:Nat->En):Nat->Nat->Nat->Value->World->Prop:=fun i lo hi _ w=>lo<hi/\Blk w lo 42 #[.bool (cs i).s1,aO (cs i).A1 (cs i).n1 (cs i).c1,.bool (cs i).s2,aO (cs i).A2 (cs i).n2 (cs i).c2,.bool (cs i).s3,aO (cs i).A3 (cs i).n3 (cs i).c3]
def SG:List (Nat×Nat)->Nat->Option Nat
 |[],_=>Option.none
 |p::r,k=>if p.1=k then γ p.2 else SG r k
theorem Gd:∀{l:List (Nat×Nat)} {k j:Nat},SG l k=γ j->(k,j)∈l
 |[],_,_,h=>by cases h
 |p::r,k,j,h=>by
  unfold SG at h;split at h
  .rename_i e
   cases h
   subst e;exact qa
  .exact nC _ (Gd h)
def Iy:List (Nat×NF)->Bool
 |[]=>ε
 |p::r=>(match p.2 with| .box _ _=>ζ|_=>ε)&&Iy r
theorem Cn:∀{l:List (Nat×NF)},Iy l=ε->∀i,(match BJ l i with| .box _ _=>ζ|_=>ε)=ε
 |[],_,_=>rfl
 |p::r,h,i=>by
  unfold Iy at h;rw[υ] at h;unfold BJ;cases Nat.beq p.1 i with
  |true=>exact h.1
  |false=>exact Cn h.2 i
def VI (ops:Array Oper) (nf:List (Nat×NF)) (l:List (Nat×Nat)):Bool:=
 l.all fun p=>anc ops ops.size p.1 p.2&&l.all (fun q=>(p.1==q.1)|| !(p.2==q.2))&&l.all (fun q=> !(p.2==q.1))&& !(DK nf p.1)
theorem Cq:∀{l:List (Nat×NF)} {i:Nat},DK l i=ζ->BJ l i=.any
 |[],_,_=>rfl
 |p::r,i,h=>by
  unfold DK at h;rw[Bool.or_eq_false_iff] at h;unfold BJ;rw[h.1];exact Cq h.2
theorem afE{ops w0}(nf l al cs)(F:Iy nf=ε)(B:VI ops nf l=ε):Late ops w0 (NFs nf) (PdG al) (PoG cs) (SG l):=by
 have Z:∀k j,SG l k=γ j->(anc ops ops.size k j=ε/\(∀q∈l,k=q.1\/j≠q.2))/\(∀q∈l,j≠q.1)/\DK nf k=ζ:=fun k j hs=>by
  have:=q8.1 B _ (Gd hs);simp only[υ,q8,acm,beq_iff_eq,Bool.not_eq_true',beq_eq_false_iff_ne] at this;exact⟨⟨this.1.1.1,this.1.1.2⟩,this.1.2,this.2⟩
 refine⟨fun i lo hi v w w' h x=>af6 _ h x,fun i lo hi v g w w' _ h x=> ?_,fun i lo hi v w w' h x hc=>⟨(h hc).1,(h hc).2.ext x⟩,fun i lo hi v g w w' h x G hc=>⟨(h hc).1,x.blk (h hc).2 (show lo≠g by have:=(h hc).1;omega)⟩,fun i lo hi v w w' h x=>⟨h.1,h.2.ext x⟩,fun i lo hi v g w w' h x G=>⟨h.1,x.blk h.2 (show lo≠g by have:=h.1;omega)⟩,fun k j hs=>(Z k j hs).1.1,fun k J j hs C=> ?_,fun k j hs=> ?_,fun k j lo hi v w hs=> ?_⟩
 .have hb:=Cn F i;unfold NFs at h⊢;cases hn:BJ nf i with
  |any=>trivial
  |gv q n=>rw[hn] at h;obtain⟨e,H,D⟩:=h;exact⟨e,H,x.gv D⟩
  |box t cs=>rw[hn] at hb;cases hb
  |eq u=>rw[hn] at h;exact h
  |pt=>rw[hn] at h;exact h
 .rcases(Z k j hs).1.2 _ (Gd C) with e|e
  .exact e
  .exact absurd rfl e
 .cases I:SG l j with
  |none=>rfl
  |some m=>exact absurd rfl ((Z k j hs).2.1 _ (Gd I))
 .unfold NFs;rw[Cq (Z k j hs).2.2];trivial
def Cv(g):∀(B:List Value) (i:Nat) (w:World) (k:Nat),k≠g->(puts w g i B).heap[k]? =w.heap[k]?
 |[],_,_,_,_=>rfl
 |v::r,i,w,k,hne=>(Cv g r (i+1) (w.setCell ⟨g,i,δ⟩ v) k hne).trans (abY w ⟨g,i,δ⟩ v k (fun e=>hne (by rw[e])))
def EW(g):∀(B:List Value) (i:Nat) (w:World),(puts w g i B).heap.size=w.heap.size
 |[],_,_=>rfl
 |v::r,i,w=>(EW g r (i+1) (w.setCell ⟨g,i,δ⟩ v)).trans Abh
theorem Sc{ev:Operand->Value}{o:Oper}{x y:Operand}{g w}(e:En)(D:o.op=.store 42 x y)(J:ev x=.pointer (γ (aM g 0)))(R:ev y=e.v)(hb:Blk w g 42 aQ3):∃w',(execOp ev o).run prog w=.ok .skip w'/\Sto g w w'/\Blk w' g 42 #[e.s1,aO e.A1 e.n1 e.c1,e.s2,aO e.A2 e.n2 e.c2,e.s3,aO e.A3 e.n3 e.c3]:=by
 have F:=run_storeAt_mid (P:=prog) w g 0 42 e.cells.toArray (hb.there (o:=0) (n:=6) ag) cO (adJ (eP e));have G:(Instr.storeAt 42 (.pointer (γ (aM g 0))) e.v).run prog w=.ok () (w.setCells g 0 e.cells):=F;refine⟨w.setCells g 0 e.cells,?_,?_,?_⟩
 .unfold execOp;simp only[D,J,R];simp only[aaD,aa4,G,aaw]
 .rw[nM];have j:=gV w g 0 e.cells;have hn:lS aQ3=ε:=rfl;exact⟨j.os,j.tape,j.output,EW g _ _ _,fun i B=>Cv g _ _ _ i B,⟨_,_,hb,hn⟩⟩
 .rw[nM];have C:Blk (puts w g 0 e.cells) g 42 (gJ aQ3 0 e.cells):=dm 0 e.cells hb;exact C
def RJ{ev:Operand->Value}{o}{x y:Operand}{j lo hi v w cs}(C:o.op=.store 42 x y)(J:ev x=.pointer (γ (aM lo 0)))(R:ev y=(cs j).v)(B:lo<hi/\Blk w lo 42 aQ3):∃w',(execOp ev o).run prog w=.ok .skip w'/\Sto lo w w'/\PoG cs j lo hi v w':=by
 obtain⟨w',F,D,G⟩:=Sc (cs j) C J R B.2;exact⟨w',F,D,B.1,G⟩
section
variable {W W':World} {G m n:Nat} {P:Nat->Prop} {R:Nat->Rw} {X:Nat->Nat->GQ}
def MxI.hd(h:MxI W G m n P R X){i}(hi:i<m)(hn:0<n):W.cell? (aM G i)=γ (.slice (γ (aM ((R i).b) 0)) n n):=by
 rw[h.o.cell,jq hi,h.v hi hn]
def MxI.rb(h:MxI W G m n P R X){i}(hi:i<m)(hn:0<n):(R i).b<W.heap.size:=by
 obtain⟨f,hb,_⟩:=(h.row i hi hn).2;exact hb.lt
def MxI.put(h:MxI W G m n P R X){i j}(hi:i<m)(F:j<n){e:En}{q}(O:GV W e.v q 12800):
  MxI (puts W (R i).b (j*6) e.cells) G m n P R (upd X i (upd (X i) j q))/\Mod (fun k=>k=(R i).b) W (puts W (R i).b (j*6) e.cells)/\Far (fun k=>k=(R i).b) W/\W.there (R i).b (j*6) 6:=by
 have hn:0<n:=aa;obtain⟨f,hb,J⟩:=(h.row i hi hn).2;have hp:=dQ.put hb J F O;have C:=(h.row i hi hn).2.far;refine⟨h.U7 hp.2 C (fun e=> ?_) (fun k D B _ e=>B (h.inj k i D hi hn e)) (fun _=>hp.1),hp.2,C,hb.there (by simp[bM];omega)⟩;exact h.o.fw hb aj e
end
structure BrV where
 a:Nat
 b:Nat
 z0:En
 z1:En
 e:En
def BrV.z (b:BrV) (sq:Nat):En:=if sq=0 then b.z0 else b.z1
def BrV.cs (b:BrV):List Value:=[.int .i64 (b.a:Int),.int .i64 (b.b:Int),.bool b.z0.s1,.slice b.z0.A1 b.z0.n1 b.z0.c1,.bool b.z0.s2,.slice b.z0.A2 b.z0.n2 b.z0.c2,.bool b.z0.s3,.slice b.z0.A3 b.z0.n3 b.z0.c3,.bool b.z1.s1,.slice b.z1.A1 b.z1.n1 b.z1.c1,.bool b.z1.s2,.slice b.z1.A2 b.z1.n2 b.z1.c2,.bool b.z1.s3,.slice b.z1.A3 b.z1.n3 b.z1.c3,.bool b.e.s1,.slice b.e.A1 b.e.n1 b.e.c1,.bool b.e.s2,.slice b.e.A2 b.e.n2 b.e.c2,.bool b.e.s3,.slice b.e.A3 b.e.n3 b.e.c3]
theorem BrV.zat(b:BrV){sq}(h:sq<=1){t v}(hv:(b.z sq).cells[t]? =γ v):b.cs[2+sq*6+t]? =γ v:=by
 have j:t<6:=(μ.1 hv).1;have B:sq=0\/sq=1:=aa;rcases B with rfl|rfl
 .unfold BrV.z at hv;rw[ι rfl] at hv
  match t,j with
  |0,_=>exact hv
  |1,_=>exact hv
  |2,_=>exact hv
  |3,_=>exact hv
  |4,_=>exact hv
  |5,_=>exact hv
 .unfold BrV.z at hv;rw[θ aa] at hv
  match t,j with
  |0,_=>exact hv
  |1,_=>exact hv
  |2,_=>exact hv
  |3,_=>exact hv
  |4,_=>exact hv
  |5,_=>exact hv
structure StI (w W:World) (gf Ga Gb n:Nat) (Pa Pb:Nat->Prop) (Ra Rb:Nat->Rw) (X Y:Nat->Nat->GQ) (gy q1 q2:Nat) (ey:En) (y:GQ) (Ny:Nat) (em:GQ) (Ne:Nat) (rwf:Nat->Nat) (bv:BrV):Prop where
 a:MxI W Ga n n Pa Ra X
 b:MxI W Gb n 1 Pb Rb Y
 c:dz W gf
 y:GV W ey.v y Ny
 by_:Blk W gy 42 #[ey.s1,aO ey.A1 ey.n1 ey.c1,ey.s2,aO ey.A2 ey.n2 ey.c2,ey.s3,aO ey.A3 ey.n3 ey.c3]
 r1:fU W q1 222 18 (fun k=> .int .i64 (rwf k:Int))
 r2:Blk W q2 167 bv.cs.toArray
 em:GV W bv.e.v em Ne
 mod:Mod (fun k=>Pa k\/Pb k) w W
 hp:∀k,Pa k\/Pb k->k≠gf/\k≠Ga/\k≠Gb
 dj:∀k,Pa k->¬Pb k
 la:∀i,i<n->(Ra i).b<w.heap.size
 lb:∀i,i<n->(Rb i).b<w.heap.size
 lg:w.heap.size<=gy/\w.heap.size<=q1/\w.heap.size<=q2
section
variable {w W W':World} {gf Ga Gb n:Nat} {Pa Pb:Nat->Prop} {Ra Rb:Nat->Rw} {X Y:Nat->Nat->GQ} {gy q1 q2:Nat} {ey:En} {y:GQ} {Ny:Nat} {em:GQ} {Ne:Nat} {rwf:Nat->Nat} {b:BrV}
def StI.ext(h:StI w W gf Ga Gb n Pa Pb Ra Rb X Y gy q1 q2 ey y Ny em Ne rwf b)(x:Ext W W'):StI w W' gf Ga Gb n Pa Pb Ra Rb X Y gy q1 q2 ey y Ny em Ne rwf b:=
 ⟨h.a.ext x,h.b.ext x,h.c.ext x,h.y.ext x,h.by_.ext x,h.r1.ext x,h.r2.ext x,h.em.ext x,h.mod.trans (ae0 x),h.hp,h.dj,h.la,h.lb,h.lg⟩
def StI.UJ(h:StI w W gf Ga Gb n Pa Pb Ra Rb X Y gy q1 q2 ey y Ny em Ne rwf b){i j}(hi:i<n)(I:j<n){e:En}{q}(O:GV W e.v q 12800):
  StI w (puts W (Ra i).b (j*6) e.cells) gf Ga Gb n Pa Pb Ra Rb (upd X i (upd (X i) j q)) Y gy q1 q2 ey y Ny em Ne rwf b/\W.there (Ra i).b (j*6) 6:=by
 obtain⟨K,B,H,J⟩:=h.a.put hi I O;have D:=h.a.mem i hi aa;have Z:=h.la i hi;have G:=h.lg;have C (k:Nat) (L:w.heap.size<=k):¬(fun k=>k=(Ra i).b) k:=fun e=>by have e:k=(Ra i).b:=e;omega
 have F:=h.hp _ (Or.inl D);refine⟨⟨K,h.b.mod B H (fun e=>F.2.2 e.symm) (fun j I _ e=>h.dj _ D (by have e:(Rb j).b=(Ra i).b:=e;rw[<-e];exact h.b.mem j I aa)),Blk.mod h.c B (fun e=>F.1 e.symm),h.y.mod B H,h.by_.mod B (C _ G.1),h.r1.mod B (C _ G.2.1),h.r2.mod B (C _ G.2.2),h.em.mod B H,h.mod.trans (B.mono (fun k e=>by rw[show k=(Ra i).b from e];exact Or.inl D)),h.hp,h.dj,h.la,h.lb,h.lg⟩,J⟩
def StI.X8(h:StI w W gf Ga Gb n Pa Pb Ra Rb X Y gy q1 q2 ey y Ny em Ne rwf b){i}(hi:i<n){e:En}{q}(O:GV W e.v q 12800):
  StI w (puts W (Rb i).b 0 e.cells) gf Ga Gb n Pa Pb Ra Rb X (upd Y i (upd (Y i) 0 q)) gy q1 q2 ey y Ny em Ne rwf b/\W.there (Rb i).b 0 6:=by
 obtain⟨J,B,H,I⟩:=h.b.put hi (show 0<1 by omega) O;rw[aaV] at J B I;have C:=h.b.mem i hi aa;have Z:=h.lb i hi;have G:=h.lg;have D (k:Nat) (L:w.heap.size<=k):¬(fun k=>k=(Rb i).b) k:=fun e=>by have e:k=(Rb i).b:=e;omega
 have F:=h.hp _ (Or.inr C);refine⟨⟨h.a.mod B H (fun e=>F.2.1 e.symm) (fun j K _ e=>h.dj _ (h.a.mem j K aa) (by have e:(Ra j).b=(Rb i).b:=e;rw[e];exact C)),J,Blk.mod h.c B (fun e=>F.1 e.symm),h.y.mod B H,h.by_.mod B (D _ G.1),h.r1.mod B (D _ G.2.1),h.r2.mod B (D _ G.2.2),h.em.mod B H,h.mod.trans (B.mono (fun k e=>by rw[show k=(Rb i).b from e];exact Or.inr C)),h.hp,h.dj,h.la,h.lb,h.lg⟩,I⟩
def MxI.en(h:MxI W Ga n n Pa Ra X){i j}(hi:i<n)(B:j<n):∃e:En,GV W e.v (X i j) 12800/\∀t u,e.cells[t]? =γ u->W.cell? (aM ((Ra i).b) (j*6+t))=γ u:=by
 obtain⟨f,hb,J⟩:=(h.row i hi aa).2;refine⟨f j,J j B,fun t u C=> ?_⟩;have D:t<6:=(μ.1 C).1;rw[hb.cell,Γ,dY D B];exact C
def MxI.en1(h:MxI W Gb n 1 Pb Rb Y){i}(hi:i<n):∃e:En,GV W e.v (Y i 0) 12800/\∀t u,e.cells[t]? =γ u->W.cell? (aM ((Rb i).b) t)=γ u:=by
 obtain⟨f,hb,J⟩:=(h.row i hi aa).2;refine⟨f 0,J 0 aa,fun t u j=> ?_⟩;have B:t<6:=(μ.1 j).1;have:=dY (f:=f) B (show 0<1 by omega);exact Abt
end
theorem Wx{n}(X){i k}(y):∀p q,p<n->q<n->upd X i (upd (X i) i (X i i+y)) p q=stm X ⟨i,k,ε,y⟩ p q:=by
 intro p q _ _;show _=X p q+j6 i i y p q;unfold j6;by_cases hp:p=i
 .subst hp;rw[upd_same];by_cases hq:q=p
  .subst hq;rw[upd_same,ι ⟨rfl,rfl⟩]
  .rw[upd_ne hq,θ (fun e=>hq e.2),GQ.add_zero']
 .rw[upd_ne hp,θ (fun e=>hp e.1),GQ.add_zero']
theorem UO{n}(X){i j}(L:i≠j)(y):∀p q,p<n->q<n->
  (fun X=>upd X j (upd (X j) i (X j i-y))) ((fun X=>upd X i (upd (X i) j (X i j-y))) ((fun X=>upd X j (upd (X j) j (X j j+y))) (upd X i (upd (X i) i (X i i+y))))) p q=stm X ⟨i,j,ζ,y⟩ p q:=by
 intro p q _ _;show _=X p q+j6 i i y p q+j6 j j y p q+j6 i j (-y) p q+j6 j i (-y) p q;unfold j6 upd;by_cases p1:p=i<;>by_cases p2:p=j<;>by_cases r1:q=i<;>by_cases r2:q=j<;>simp only[p1,p2,r1,r2,L,abk L,aad,abA,and_self,ac3,true_and,and_false,false_and]
 (all_goals (try omega));all_goals (ext<;>simp only[GQ.bT,GQ.bS,GQ.dJ,GQ.dK,GQ.lL,GQ.lT,GQ.dH,GQ.dC]<;>grind)
def UX(gx gf Ga Gb n sq Z Ny Nz Nb Ne:Nat)(Pa Pb:Nat->Prop)(Ra Rb:Nat->Rw)(X Y:Nat->Nat->GQ)(rwf:Nat->Nat)(b:BrV)(z em:GQ)(w:World)(hc:dz w gf)(ha:MxI w Ga n n Pa Ra X)(hb:MxI w Gb n 1 Pb Rb Y)(hP:∀k,Pa k\/Pb k->k≠gf/\k≠Ga/\k≠Gb)(hd:∀k,Pa k->¬Pb k)(Zz:sq<=1)(hz:GV w (b.z sq).v z Nz)(YP:z≠GQ.i 0 0)(O:GV w b.e.v em Ne)(YL:b.a<17)(Q:rwf b.a<n)(YJ:b.b=17\/b.b<17/\rwf b.b<n/\rwf b.a≠rwf b.b)(by_:Bd (GQ.i 1 0/z) Ny)(bx:∀i j,i<n->j<n->Bd (X i j) Z)(bb:∀i,i<n->Bd (Y i 0) Nb)(n1:64+Nz+1<=12800)(n2:Nz+Nz+1<=12800)(n3:2*max Z Ny+65<=12800)(n4:2*max Ny Ne+1<=12800)(n5:2*max Nb (Ny+Ne+1)+65<=12800):
  Calls prog 158 #[aN gx 0,aN gf 0,aO (γ (aM Ga 0)) n n,aO (γ (aM Gb 0)) n n,.agg (ofC 18 (fun k=> .int .i64 (rwf k:Int))),.agg #[(b.a:Int),(b.b:Int),b.z0.s1,aO b.z0.A1 b.z0.n1 b.z0.c1,b.z0.s2,aO b.z0.A2 b.z0.n2 b.z0.c2,b.z0.s3,aO b.z0.A3 b.z0.n3 b.z0.c3,b.z1.s1,aO b.z1.A1 b.z1.n1 b.z1.c1,b.z1.s2,aO b.z1.A2 b.z1.n2 b.z1.c2,b.z1.s3,aO b.z1.A3 b.z1.n3 b.z1.c3,b.e.s1,aO b.e.A1 b.e.n1 b.e.c1,b.e.s2,aO b.e.A2 b.e.n2 b.e.c2,b.e.s3,aO b.e.A3 b.e.n3 b.e.c3],(sq:Int)] w fun e w'=>e=.returned (.tuple #[])/\
   MxI w' Ga n n Pa Ra (stm X ⟨rwf b.a,rwf b.b,decide (b.b=17),GQ.i 1 0/z⟩)/\MxI w' Gb n 1 Pb Rb (fun i j=>if b.b=17/\i=rwf b.a then Y i j+GQ.i 1 0/z*em else Y i j)/\Mod (fun k=>Pa k\/Pb k) w w':=by
 have Zf:0<n:=aa;have x2:Ext w (aL (w.alloc (.cells (ofC 18 (fun k=> .int .i64 (rwf k:Int))) 222)) #[b.a,b.b,b.z0.s1,aO b.z0.A1 b.z0.n1 b.z0.c1,b.z0.s2,aO b.z0.A2 b.z0.n2 b.z0.c2,b.z0.s3,aO b.z0.A3 b.z0.n3 b.z0.c3,b.z1.s1,aO b.z1.A1 b.z1.n1 b.z1.c1,b.z1.s2,aO b.z1.A2 b.z1.n2 b.z1.c2,b.z1.s3,aO b.z1.A3 b.z1.n3 b.z1.c3,b.e.s1,aO b.e.A1 b.e.n1 b.e.c1,b.e.s2,aO b.e.A2 b.e.n2 b.e.c2,b.e.s3,aO b.e.A3 b.e.n3 b.e.c3] 167):=(Ext.new _ _).alloc _;have b1:fU (aL (w.alloc (.cells (ofC 18 (fun k=> .int .i64 (rwf k:Int))) 222)) #[b.a,b.b,b.z0.s1,aO b.z0.A1 b.z0.n1 b.z0.c1,b.z0.s2,aO b.z0.A2 b.z0.n2 b.z0.c2,b.z0.s3,aO b.z0.A3 b.z0.n3 b.z0.c3,b.z1.s1,aO b.z1.A1 b.z1.n1 b.z1.c1,b.z1.s2,aO b.z1.A2 b.z1.n2 b.z1.c2,b.z1.s3,aO b.z1.A3 b.z1.n3 b.z1.c3,b.e.s1,aO b.e.A1 b.e.n1 b.e.c1,b.e.s2,aO b.e.A2 b.e.n2 b.e.c2,b.e.s3,aO b.e.A3 b.e.n3 b.e.c3] 167) w.heap.size 222 18 (fun k=> .int .i64 (rwf k:Int)):=(Blk.new _ _ _).alloc _;have b2:Blk (aL (w.alloc (.cells (ofC 18 (fun k=> .int .i64 (rwf k:Int))) 222)) #[b.a,b.b,b.z0.s1,aO b.z0.A1 b.z0.n1 b.z0.c1,b.z0.s2,aO b.z0.A2 b.z0.n2 b.z0.c2,b.z0.s3,aO b.z0.A3 b.z0.n3 b.z0.c3,b.z1.s1,aO b.z1.A1 b.z1.n1 b.z1.c1,b.z1.s2,aO b.z1.A2 b.z1.n2 b.z1.c2,b.z1.s3,aO b.z1.A3 b.z1.n3 b.z1.c3,b.e.s1,aO b.e.A1 b.e.n1 b.e.c1,b.e.s2,aO b.e.A2 b.e.n2 b.e.c2,b.e.s3,aO b.e.A3 b.e.n3 b.e.c3] 167) (w.heap.size+1) 167 b.cs.toArray:=aeV _ _ ag;have HX:=aW x2;have YD:=aW b1;have YG:=aW b2;have HA:=aW (ha.ext x2);have HB:=aW (hb.ext x2);have HC:=aW (hc.ext x2);have L:=aW (hz.ext x2);have YI:=aW (O.ext x2);have Zl:Hid (∀k,Pa k\/Pb k->k≠gf/\k≠Ga/\k≠Gb):=aW hP;have HD:=aW hd;have YS:=aW YP;have YU:=aW by_;have YB:=aW bx;have Zc:=aW bb;have Yw:=aW YJ;have ZT:=aW Zz;have ZE:Hid (∀i,i<n->(Ra i).b<w.heap.size):=aW fun i hi=>ha.rb hi Zf;have Za:Hid (∀i,i<n->(Rb i).b<w.heap.size):=aW fun i hi=>hb.rb hi aa;clear x2 b1 b2 ha hb hc hz O hP hd YP by_ bx bb YJ;go_enter func158,ntmps158;go_wp2_with fail;have YR:Hid (∀t v,(b.z sq).cells[t]? =γ v->((w.alloc (.cells (ofC 18 (fun k=> .int .i64 (rwf k:Int))) 222)).alloc (.cells #[b.a,b.b,b.z0.s1,aO b.z0.A1 b.z0.n1 b.z0.c1,b.z0.s2,aO b.z0.A2 b.z0.n2 b.z0.c2,b.z0.s3,aO b.z0.A3 b.z0.n3 b.z0.c3,b.z1.s1,aO b.z1.A1 b.z1.n1 b.z1.c1,b.z1.s2,aO b.z1.A2 b.z1.n2 b.z1.c2,b.z1.s3,aO b.z1.A3 b.z1.n3 b.z1.c3,b.e.s1,aO b.e.A1 b.e.n1 b.e.c1,b.e.s2,aO b.e.A2 b.e.n2 b.e.c2,b.e.s3,aO b.e.A3 b.e.n3 b.e.c3] 167)).cell? (aM (w.heap.size+1) (2+sq*6+t))=γ v):=aW fun t v hv=>(YG.cell _).trans (by
  have:=b.zat ZT.o hv;simpa using this)
 generalize aU _ _=w5 at HX YD YG HA HB HC L YI YR⊢;generalize Zt:w.heap.size+1=q2 at YG YR⊢;generalize T:w.heap.size=q1 at YD⊢;have YV:Hid (w.heap.size<=q1/\w.heap.size<=q2):=aW ⟨aa,aa⟩;clear T Zt;generalize b.z sq=zE at L YR;have YN:w.heap.size<=w5.heap.size:=HX.size;have E6:=six YR.o;refine tN 9 [(2,.gv (GQ.i 1 0) (64)),(7,.gv ((GQ.i 1 0)/z) (Ny)),(8,.box 42 aQ3)] ?_;refine Qs ?_;refine Ee (fun R I=>dR gf 1 _ (HC.ext I.1) aa aa) ?_;intro Ze af ac;refine Qs ?_;refine Ee (fun R I=>nR gf Ze.v zE.v (GQ.i 1 0) z (64) (Nz) _ (HC.ext I.1) (ae5 (I.f 2 (Ze.v,af,ac))) (L.ext I.1) YS.o (Ny) aa aa YU.o aa) ?_;intro K ao am;refine Eb ?_;intro YY Zk YK;refine bN ?_;intro w6 I;have F:=I.ext;have S:=I.hV 2;have P:=I.hV 7;have Yv:=I.hB 8;have Zn:=aW (I.lw 8);clear I YK E6;have N:=aW (Yv.there (o:=0) (n:=6) ag);refine bG rfl 42 (.tmp 14) (.tmp 24) rfl YY 0 K.cells rf rf N.o cO (eP K) ?_;intro w7 B;refine Qp ?_;obtain⟨F,Yy,M,YH⟩:=ni K F Zn.o Yv.o B;clear B N;replace S:=aW (M _ _ _ S.o);replace P:=aW (M _ _ _ P.o);replace Yv:=aW Yy;clear Yy M YH;replace HA:=HA.aA F;replace HB:=HB.aA F;replace HC:=HC.aA F;replace YD:=YD.aA F;replace YG:=YG.aA F;replace YI:=YI.aA F;replace L:=L.aA F;replace HX:=HX.aC F;clear F;have YW:Hid (w.heap.size<=w5.heap.size):=aW YN;clear YN;have Yz:Hid (StI w w7 gf Ga Gb n Pa Pb Ra Rb (X) (Y) YY q1 q2 K (GQ.i 1 0/z) Ny em Ne rwf b):=aW ⟨HA.o,HB.o,HC.o,P.o,Yv.o,YD.o,YG.o,YI.o,ae0 HX.o,Zl.o,HD.o,ZE.o,Za.o,Θ YW.o Zn.o,YV.o⟩;clear HA HB HC YD YG YI Zl HD ZE Za YV P Yv L S YR Zn YW HX;have kq:w7.cell? (aM q2 0)=γ (.int .i64 (b.a:Int)):=(Blk.cell Yz.r2 0).trans rfl;have kr:=Yz.r1.cell (k:=b.a) aa;go_wp2_with fail;clear kq kr;obtain⟨eA,M,H⟩:=Yz.a.en Q Q;have G:=M.to (show Bd (X (rwf b.a) (rwf b.a)) Z by exact YB.o _ _ Q Q);have Zm:=aW G;clear G M;have K6:=six H;have KH:=aX.cell (Yz.a.hd Q Zf);have KY:=aX.blk Yz.by_;clear H;refine tN 16 [(14,.gv (X (rwf b.a) (rwf b.a)+GQ.i 1 0/z) (Z+Ny+65))] ?_;refine Qs ?_;refine Ee (fun R I=>nO gf eA.v K.v (X (rwf b.a) (rwf b.a)) (GQ.i 1 0/z) Z Ny _ (Yz.c.ext I.1) (Zm.ext I.1) (Yz.y.ext I.1) aa) ?_;intro eN V YT;refine Qs ?_;refine bN ?_;intro w8 I;have F:=I.ext;have J:=aW (ae5 (I.at_ 14 (e:=(eN.v,V,YT)) rf));have C:=(Yz.ext F).UJ Q Q (J.up (show Z+Ny+65<=12800 by omega));clear I F K6 KH KY Zm J;have N:=aW C.2;replace Yz:=aW C.1;clear C;refine bG rfl 42 (.tmp 44) (.tmp 43) rfl (Ra ((rwf b.a))).b (((rwf b.a))*6) eN.cells rf rf N.o cO (eP eN) ?_;intro w9 B;refine Qp ?_;obtain⟨X1,YE,YF⟩:∃x,x=(upd X (rwf b.a) (upd (X (rwf b.a)) (rwf b.a) (X (rwf b.a) (rwf b.a)+GQ.i 1 0/z)))/\StI w w9 gf Ga Gb n Pa Pb Ra Rb x (Y) YY q1 q2 K (GQ.i 1 0/z) Ny em Ne rwf b:=⟨_,rfl,by rw[B];exact Yz.o⟩;have YC:=aW YE;replace Yz:=aW YF;clear B N YE YF;rcases Yw.o with D|⟨Yu,hr,Yx⟩
 .have YQ:((b.b:Int)==17)=ε:=by simp[D]
  have HH:=aW D;clear D;have kq:w9.cell? (aM q2 1)=γ (.int .i64 (b.b:Int)):=(Blk.cell Yz.r2 1).trans rfl;go_wp2_with fail;clear kq YQ;obtain⟨eA,M,H⟩:=Yz.b.en1 Q;have G:=M.to (Zc.o _ Q);have Zm:=aW G;clear G M;have K0:=aX.cell (H 0 _ rfl);have K1:=aX.cell (H 1 _ rfl);have U:=aX.cell (H 2 _ rfl);have K3:=aX.cell (H 3 _ rfl);have K4:=aX.cell (H 4 _ rfl);have K5:=aX.cell (H 5 _ rfl);have KH:=aX.cell (Yz.b.hd Q aa);have KY:=aX.blk Yz.by_;clear H;have YM:∀t v,b.e.cells[t]? =γ v->w9.cell? (aM q2 (14+t))=γ v:=fun t v hv=>(Blk.cell Yz.r2 (14+t)).trans (by have ht:t<6:=(μ.1 hv).1;match t,ht with|0,_=>exact hv|1,_=>exact hv|2,_=>exact hv|3,_=>exact hv|4,_=>exact hv|5,_=>exact hv);have J6:=six YM;clear YM;refine tN 18 [(15,.gv (GQ.i 1 0/z*em) (Ny+Ne+1)),(16,.gv (Y (rwf b.a) 0+GQ.i 1 0/z*em) (Nb+(Ny+Ne+1)+65))] ?_;refine Qs ?_;refine Ee (fun R I=>vo gf K.v b.e.v (GQ.i 1 0/z) em Ny Ne _ (Yz.c.ext I.1) (Yz.y.ext I.1) (Yz.em.ext I.1) aa) ?_;intro eM V YT;refine Ee (fun R I=>nO gf eA.v eM.v (Y (rwf b.a) 0) (GQ.i 1 0/z*em) Nb (Ny+Ne+1) _ (Yz.c.ext I.1) (Zm.ext I.1) (ae5 (I.f 15 (eM.v,V,YT))) aa) ?_;intro eN YZ Zd;refine Qs ?_;refine bN ?_;intro ZN I;have F:=I.ext;have J:=aW (ae5 (I.at_ 16 (e:=(eN.v,YZ,Zd)) rf));have C:=(Yz.ext F).X8 Q (J.up (show Nb+(Ny+Ne+1)+65<=12800 by omega));clear I F K0 K1 U K3 K4 K5 J6 KH KY Zm J;have N:=aW C.2;replace Yz:=aW C.1;clear C;refine bG rfl 42 (.tmp 65) (.tmp 64) rfl (Rb (rwf b.a)).b 0 eN.cells rf rf N.o cO (eP eN) ?_;intro ZF B;refine Qp ?_;replace Yz:=aW (show StI w ZF gf Ga Gb n Pa Pb Ra Rb X1 (upd Y (rwf b.a) (upd (Y (rwf b.a)) 0 (Y (rwf b.a) 0+GQ.i 1 0/z*em))) YY q1 q2 K (GQ.i 1 0/z) Ny em Ne rwf b from by rw[B];exact Yz.o);clear B N;go_wp2_with fail;refine aai (v:=.tuple #[]) (aas rfl _ _ _) rfl ⟨rfl,?_,?_,Yz.mod⟩
  .rw[show decide (b.b=17)=ε from Λ HH.o];exact Yz.a.congr (fun i j hi hj=>by rw[YC.o];exact Wx (n:=n) X _ i j hi hj)
  .refine Yz.b.congr (fun i j hi hj=> ?_);obtain rfl:j=0:=aa;by_cases YO:i=rwf b.a
   .subst YO;rw[upd_same,upd_same,ι ⟨HH.o,rfl⟩]
   .rw[upd_ne YO,θ (fun e=>YO e.2)]
 .have YQ:((b.b:Int)==17)=ζ:=ae;have Zp:=aW Yu;clear Yu;have kq:w9.cell? (aM q2 1)=γ (.int .i64 (b.b:Int)):=(Blk.cell Yz.r2 1).trans rfl;have kr:=Yz.r1.cell (k:=b.b) (ο Zp.o aa);have ad:b.b<18:=ο Zp.o aa;go_wp2_with fail;clear kq YQ kr ad;have YX:=aW Yx;clear Yx;obtain⟨eA,M,H⟩:=Yz.a.en hr hr;have G:=M.to (show Bd (X1 (rwf b.b) (rwf b.b)) Z by rw[YC.o,upd_ne (YX.o.symm)];exact YB.o _ _ hr hr);have Zm:=aW G;clear G M;have K6:=six H;have KH:=aX.cell (Yz.a.hd hr Zf);have KY:=aX.blk Yz.by_;clear H;refine tN 16 [(14,.gv (X1 (rwf b.b) (rwf b.b)+GQ.i 1 0/z) (Z+Ny+65))] ?_;refine Qs ?_;refine Ee (fun R I=>nO gf eA.v K.v (X1 (rwf b.b) (rwf b.b)) (GQ.i 1 0/z) Z Ny _ (Yz.c.ext I.1) (Zm.ext I.1) (Yz.y.ext I.1) aa) ?_;intro eN V YT;refine Qs ?_;refine bN ?_;intro ZN I;have F:=I.ext;have J:=aW (ae5 (I.at_ 14 (e:=(eN.v,V,YT)) rf));have C:=(Yz.ext F).UJ hr hr (J.up (show Z+Ny+65<=12800 by omega));clear I F K6 KH KY Zm J;have N:=aW C.2;replace Yz:=aW C.1;clear C;refine bG rfl 42 (.tmp 85) (.tmp 84) rfl (Ra ((rwf b.b))).b (((rwf b.b))*6) eN.cells rf rf N.o cO (eP eN) ?_;intro ZF B;refine Qp ?_;obtain⟨X2,YE,YF⟩:∃x,x=(upd X1 (rwf b.b) (upd (X1 (rwf b.b)) (rwf b.b) (X1 (rwf b.b) (rwf b.b)+GQ.i 1 0/z)))/\StI w ZF gf Ga Gb n Pa Pb Ra Rb x (Y) YY q1 q2 K (GQ.i 1 0/z) Ny em Ne rwf b:=⟨_,rfl,by rw[B];exact Yz.o⟩;have W:=aW YE;replace Yz:=aW YF;clear B N YE YF;go_wp2_with fail;obtain⟨eA,M,H⟩:=Yz.a.en Q hr;have G:=M.to (show Bd (X2 (rwf b.a) (rwf b.b)) Z by rw[W.o,upd_ne YX.o,YC.o,upd_same,upd_ne (YX.o.symm)];exact YB.o _ _ Q hr);have Zm:=aW G;clear G M;have K6:=six H;have KH:=aX.cell (Yz.a.hd Q Zf);have KY:=aX.blk Yz.by_;clear H;refine tN 16 [(14,.gv (X2 (rwf b.a) (rwf b.b)-GQ.i 1 0/z) (Z+Ny+65))] ?_;refine Qs ?_;refine Ee (fun R I=>uX gf eA.v K.v (X2 (rwf b.a) (rwf b.b)) (GQ.i 1 0/z) Z Ny _ (Yz.c.ext I.1) (Zm.ext I.1) (Yz.y.ext I.1) aa) ?_;intro eN V YT;refine Qs ?_;refine bN ?_;intro aq I;have F:=I.ext;have J:=aW (ae5 (I.at_ 14 (e:=(eN.v,V,YT)) rf));have C:=(Yz.ext F).UJ Q hr (J.up (show Z+Ny+65<=12800 by omega));clear I F K6 KH KY Zm J;have N:=aW C.2;replace Yz:=aW C.1;clear C;refine bG rfl 42 (.tmp 101) (.tmp 100) rfl (Ra ((rwf b.a))).b (((rwf b.b))*6) eN.cells rf rf N.o cO (eP eN) ?_;intro ZL B;refine Qp ?_;obtain⟨X3,YE,YF⟩:∃x,x=(upd X2 (rwf b.a) (upd (X2 (rwf b.a)) (rwf b.b) (X2 (rwf b.a) (rwf b.b)-GQ.i 1 0/z)))/\StI w ZL gf Ga Gb n Pa Pb Ra Rb x (Y) YY q1 q2 K (GQ.i 1 0/z) Ny em Ne rwf b:=⟨_,rfl,by rw[B];exact Yz.o⟩;have YA:=aW YE;replace Yz:=aW YF;clear B N YE YF;go_wp2_with fail;obtain⟨eA,M,H⟩:=Yz.a.en hr Q;have G:=M.to (show Bd (X3 (rwf b.b) (rwf b.a)) Z by rw[YA.o,upd_ne (YX.o.symm),W.o,upd_same,upd_ne YX.o,YC.o,upd_ne (YX.o.symm)];exact YB.o _ _ hr Q);have Zm:=aW G;clear G M;have K6:=six H;have KH:=aX.cell (Yz.a.hd hr Zf);have KY:=aX.blk Yz.by_;clear H;refine tN 16 [(14,.gv (X3 (rwf b.b) (rwf b.a)-GQ.i 1 0/z) (Z+Ny+65))] ?_;refine Qs ?_;refine Ee (fun R I=>uX gf eA.v K.v (X3 (rwf b.b) (rwf b.a)) (GQ.i 1 0/z) Z Ny _ (Yz.c.ext I.1) (Zm.ext I.1) (Yz.y.ext I.1) aa) ?_;intro eN V YT;refine Qs ?_;refine bN ?_;intro ap I;have F:=I.ext;have J:=aW (ae5 (I.at_ 14 (e:=(eN.v,V,YT)) rf));have C:=(Yz.ext F).UJ hr Q (J.up (show Z+Ny+65<=12800 by omega));clear I F K6 KH KY Zm J;have N:=aW C.2;replace Yz:=aW C.1;clear C;refine bG rfl 42 (.tmp 117) (.tmp 116) rfl (Ra ((rwf b.b))).b (((rwf b.a))*6) eN.cells rf rf N.o cO (eP eN) ?_;intro ai B;refine Qp ?_;replace Yz:Hid (StI w ai gf Ga Gb n Pa Pb Ra Rb (upd X3 (rwf b.b) (upd (X3 (rwf b.b)) (rwf b.a) (X3 (rwf b.b) (rwf b.a)-GQ.i 1 0/z))) (Y) YY q1 q2 K (GQ.i 1 0/z) Ny em Ne rwf b):=aW (by rw[B];exact Yz.o);clear B N;go_wp2_with fail;refine aaY (aas rfl _ _ _) rfl ⟨rfl,?_,?_,Yz.mod⟩
  .rw[show decide (b.b=17)=ζ from ρ Ac7];exact Yz.a.congr (fun i j hi hj=>by rw[YA.o,W.o,YC.o];exact UO (n:=n) X YX.o _ i j hi hj)
  .refine Yz.b.congr (fun i j hi hj=> ?_);rw[θ (fun e=>by have:=Zp.o;omega)]
def Si{a b}(h:a<=b):2^a<=2^b:=Ad aa h
def dlt (i k:Nat):GQ:=if i=k then GQ.i 1 0 else GQ.i 0 0
theorem Jb(D H y i j):j6 D H y i j=y*(dlt i D*dlt j H):=by
 unfold j6 dlt;by_cases h:i=D<;>by_cases B:j=H
 .rw[ι ⟨h,B⟩,ι h,ι B];ext<;>simp only[GQ.bL,GQ.bK,GQ.dH,GQ.dC]<;>grind
 .rw[θ (fun e=>B e.2),θ B,GQ.bY,GQ.bY]
 .rw[θ (fun e=>h e.1),θ h,GQ.fq,GQ.bY]
 .rw[θ (fun e=>h e.1),θ h,GQ.fq,GQ.bY]
def Br.al (b:Br) (i:Nat):GQ:=dlt i b.p-(if b.nt then GQ.i 0 0 else dlt i b.q)
theorem Nu(X)(b:Br)(i j):stm X b i j=X i j+b.y*(b.al i*b.al j):=by
 unfold stm Br.al;cases hb:b.nt
 .simp only[NK,abA,Jb];generalize dlt i b.p=c1;generalize dlt i b.q=c2;generalize dlt j b.p=c3;generalize dlt j b.q=c4;ext<;>simp only[GQ.bT,GQ.bS,GQ.bL,GQ.bK,GQ.lL,GQ.lT,GQ.dJ,GQ.dK]<;>grind
 .simp only[aad,Jb];generalize dlt i b.p=c1;generalize dlt j b.p=c3;ext<;>simp only[GQ.bT,GQ.bS,GQ.bL,GQ.bK,GQ.dJ,GQ.dK,GQ.dH,GQ.dC]<;>grind
def Jo:∀(bs:List Br) (X:Nat->Nat->GQ) (i j:Nat),fM X bs i j=X i j+il (fun b=>b.y*(b.al i*b.al j)) bs
 |[],X,i,j=>(GQ.add_zero' _).symm
 |b::bs,X,i,j=>by
  show fM (stm X b) bs i j=X i j+(il (fun b=>b.y*(b.al i*b.al j)) bs+b.y*(b.al i*b.al j));rw[Jo bs (stm X b) i j,Nu];generalize il _ bs=t;generalize b.y*(b.al i*b.al j)=u;generalize X i j=v;ext<;>simp only[GQ.bT,GQ.bS]<;>grind
def IZ(r0):∀(bs:List Bu) (i c:Nat),oU r0 bs i c=r0 i c+il (fun b=>b.y*(b.al i*b.u c)) bs
 |[],i,c=>(GQ.add_zero' _).symm
 |b::bs,i,c=>by
  show oU r0 bs i c+b.y*(b.al i*b.u c)=r0 i c+(il (fun b=>b.y*(b.al i*b.u c)) bs+b.y*(b.al i*b.u c));rw[IZ r0 bs i c];generalize il _ bs=t;generalize b.y*(b.al i*b.u c)=u;generalize r0 i c=v;ext<;>simp only[GQ.bT,GQ.bS]<;>grind
def rhs (rw_:Nat->Nat) (us:List Nb) (f:Nat) (al be:Nat->GQ):Nat->Nat->GQ:=fun i j=>al j*feed rw_ us i+be j*unit f i
def afx (n:Nat) (rw_:Nat->Nat) (al:Nat->GQ) (b:Nb):Bu:=⟨b.y,(b.br rw_).al,fun c=>if c<n then (b.br rw_).al c else if b.b=17 then al (c-n)*b.e else GQ.i 0 0⟩
def r0u (n f:Nat) (be:Nat->GQ):Nat->Nat->GQ:=fun i c=>if c<n then GQ.i 0 0 else be (c-n)*unit f i
theorem OM{n f rw_ al be}(us i):side n (fM zmx (us.map (Nb.br rw_))) (rhs rw_ us f al be) i=oU (r0u n f be) (us.map (afx n rw_ al)) i:=by
 funext c;rw[IZ,sF];unfold side r0u;by_cases hc:c<n
 .rw[ι hc,ι hc,Jo,sF];show zmx i c+_=_;congr 1;refine qj us fun b hb=> ?_;show _=b.y*((b.br rw_).al i*(if c<n then (b.br rw_).al c else _));rw[ι hc];rfl
 .rw[θ hc,θ hc];unfold rhs feed;rw[<-Ju];have e:il (fun b=>al (c-n)*if b.b=17/\i=rw_ b.a then b.y*b.e else GQ.i 0 0) us=il (fun a=>(afx n rw_ al a).y*((afx n rw_ al a).al i*(afx n rw_ al a).u c)) us:=by
   refine qj us fun b hb=> ?_;show _=b.y*((b.br rw_).al i*(if c<n then (b.br rw_).al c else if b.b=17 then al (c-n)*b.e else GQ.i 0 0));rw[θ hc];by_cases D:b.b=17
   .have e1:(if b.b=17/\i=rw_ b.a then b.y*b.e else GQ.i 0 0)=if i=rw_ b.a then b.y*b.e else GQ.i 0 0:=by
     by_cases hi:i=rw_ b.a
     .rw[ι ⟨D,hi⟩,ι hi]
     .rw[θ (fun e=>hi e.2),θ hi]
    have j:(b.br rw_).al i=dlt i (rw_ b.a):=by
     unfold Br.al;show dlt i (rw_ b.a)-(if decide (b.b=17)=ε then GQ.i 0 0 else dlt i (rw_ b.b))=_;rw[ι (show decide (b.b=17)=ε by simp[D])];generalize dlt i (rw_ b.a)=z;ext<;>simp only[GQ.dJ,GQ.dK,GQ.dH,GQ.dC]<;>grind
    rw[e1,j,ι (show b.b=17 from D)];unfold dlt;by_cases hi:i=rw_ b.a
    .rw[ι hi,ι hi];ext<;>simp only[GQ.bL,GQ.bK,GQ.dH,GQ.dC]<;>grind
    .rw[θ hi,θ hi];ext<;>simp only[GQ.bL,GQ.bK,GQ.dH,GQ.dC]<;>grind
   .rw[θ D,θ (fun e=>D e.1),GQ.bY,GQ.bY,GQ.bY]
  rw[e];generalize il _ us=t;generalize be (c-n)*unit f i=u;ext<;>simp only[GQ.bT,GQ.bS]<;>grind
structure TN (b:Nb):Prop where
 z:∃(zn:GQ) (zd:Nat),zn≠GQ.i 0 0/\Wh zn 32000/\b.y*zn=GQ.i zd 0/\zd<=16
 e:Wh b.e 1000000
theorem Bh(b:Br)(i):Wh (b.al i) 1:=by
 have j (i k:Nat):dlt i k=GQ.i 1 0\/dlt i k=GQ.i 0 0:=by
  unfold dlt;split
  .exact Or.inl rfl
  .exact Or.inr rfl
 have C:(if b.nt then GQ.i 0 0 else dlt i b.q)=GQ.i 1 0\/(if b.nt then GQ.i 0 0 else dlt i b.q)=GQ.i 0 0:=by
  split
  .exact Or.inr rfl
  .exact j _ _
 unfold Br.al;rcases j i b.p with e|e<;>rcases C with B|B<;>rw[e,B]
 .exact AbI
 .exact⟨1,0,by ext<;>simp only[GQ.dJ,GQ.dK,GQ.dH,GQ.dC]<;>grind,aj⟩
 .exact⟨-1,0,by ext<;>simp only[GQ.dJ,GQ.dK,GQ.dH,GQ.dC]<;>grind,aj⟩
 .exact AbI
theorem TI(f i):Wh (unit f i) 1:=by
 unfold unit;split
 .exact ww
 .exact iH _
def BD:Nat:=2^420
def VK{m}(C:m<=17):∀(bs:List Bu),cz (fun _=>32000) 16 m 1000000 bs<=2^(15*bs.length)*(2^49*2^20)
 |[]=>by
  show fct m*1000000<=2^(15*0)*_;have B:fct m<=fct 17:=Jh C;have j:fct 17<=2^49:=aj;have:=aaa (Θ B j) (show 1000000<=2^20 by decide);simpa using this
 |b::bs=>by
  show(32000+m*16)*cz _ 16 m 1000000 bs<=_;have B:32000+m*16<=2^15:=aa;have j:=aaa B (VK C bs);rw[nV,show 15*(bs.length+1)=15+15*bs.length by omega,aao,φ];exact j
def sJ.mono{Z0 m W B C Q}(h:sJ Z0 m W Q B)(D:B<=C):sJ Z0 m W Q C:=
 ⟨h.q0,fun P j cs H hc=>⟨fun G F=>((h.min P j cs H hc).1 G F).mono D,fun G F I=>((h.min P j cs H hc).2 G F I).mono D⟩⟩
section
variable {L:Nat->Bool} {rw_:Nat->Nat} {n:Nat} {us:List Nb}
theorem BP{f W al be}(hs:∀b∈us,TN b)(hn:n<=17)(Z:us.length<=23)(C:n<=W)(ha:∀j,Wh (al j) 1)(hb:∀j,Wh (be j) 1):
  ∃Q,sJ (side n (fM zmx (us.map (Nb.br rw_))) (rhs rw_ us f al be)) n W Q BD:=by
 obtain⟨Q,B⟩:=agB (r0:=r0u n f be) (w:=fun c=>if c<n then 1 else 1000000) (f:=fun _=>32000) (K:=16) (m:=n) (W:=W) (B0:=1000000) (bs:=us.map (afx n rw_ al)) (Z0:=side n (fM zmx (us.map (Nb.br rw_))) (rhs rw_ us f al be))
  (fun b hb=>by
   obtain⟨c,hc,rfl⟩:=aab.1 hb;exact⟨(hs c hc).z,fun i=>Bh _ i⟩)
  (fun c hc=>show(if c<n then 1 else 1000000)=1 from ι hc) (fun c _=>by show(if c<n then 1 else 1000000)<=1000000;split<;>omega) aa
  (fun b hb c hc=>by
   obtain⟨d,hd,rfl⟩:=aab.1 hb;show Wh (if c<n then _ else _) (if c<n then 1 else 1000000);by_cases h:c<n
   .rw[ι h,ι h];exact Bh _ c
   .rw[θ h,θ h];split
    .exact((ha (c-n)).mul (hs d hd).e).mono aa
    .exact iH _)
  (fun i c hc=>by
   show Wh (if c<n then _ else _) (if c<n then 1 else 1000000);by_cases h:c<n
   .rw[ι h,ι h];exact iH _
   .rw[θ h,θ h];exact((hb (c-n)).mul (TI f i)).mono aa)
  C (fun i hi=>OM us i)
 refine⟨Q,B.mono (Θ (VK hn _) ?_)⟩;rw[aaB];unfold BD;rw[<-aao,<-aao];exact Si (a:=15*us.length+(49+20)) (b:=420) aa
def TJ{f}:rhs rw_ us f (fun _=>GQ.i 1 0) (fun _=>GQ.i 0 0)=col (feed rw_ us):=by
 funext i j;show GQ.i 1 0*feed rw_ us i+GQ.i 0 0*unit f i=feed rw_ us i;rw[GQ.kJ,GQ.fq,GQ.add_zero']
def Qv{f}:rhs rw_ us f (fun _=>GQ.i 0 0) (fun _=>GQ.i 1 0)=col (unit f):=by
 funext i j;show GQ.i 0 0*feed rw_ us i+GQ.i 1 0*unit f i=unit f i;rw[GQ.kJ,GQ.fq];generalize unit f i=u;ext<;>simp only[GQ.bT,GQ.bS,GQ.dH,GQ.dC]<;>grind
def SN{f}:rhs rw_ us f (fun j=>if j=0 then GQ.i 1 0 else GQ.i 0 0) (fun j=>if j=0 then GQ.i 0 0 else GQ.i 1 0)=Gp (feed rw_ us) (unit f):=by
 funext i j;show(if j=0 then GQ.i 1 0 else GQ.i 0 0)*feed rw_ us i+(if j=0 then GQ.i 0 0 else GQ.i 1 0)*unit f i=if j=0 then feed rw_ us i else unit f i;by_cases h:j=0
 .rw[ι h,ι h,ι h,GQ.kJ,GQ.fq,GQ.add_zero']
 .rw[θ h,θ h,θ h,GQ.kJ,GQ.fq];generalize unit f i=u;ext<;>simp only[GQ.bT,GQ.bS,GQ.dH,GQ.dC]<;>grind
def zo.den(h:zo L rw_ n us)(hs:∀b∈us,TN b)(hn:n<=17)(Z:us.length<=23)(f):
  ∃M,M≠GQ.i 0 0/\Wh M BD/\(∀k,Wh (M*nE L rw_ n us (feed rw_ us) k) BD)/\∀k,Wh (M*nE L rw_ n us (unit f) k) BD:=by
 obtain⟨Q,G⟩:=BP (rw_:=rw_) (f:=f) (W:=n+2) (al:=fun j=>if j=0 then GQ.i 1 0 else GQ.i 0 0) (be:=fun j=>if j=0 then GQ.i 0 0 else GQ.i 1 0) hs hn Z aa (fun j=>by split;exact ww;exact iH _) (fun j=>by split;exact iH _;exact ww);rw[SN] at G;have D:(ech n (side n (fM zmx (us.map (Nb.br rw_))) (Gp (feed rw_ us) (unit f))) n).r=n:=Cj h.psv.full;obtain⟨o,P,I⟩:=lX n (side n (fM zmx (us.map (Nb.br rw_))) (Gp (feed rw_ us) (unit f))) n;obtain⟨M,m0,H,F⟩:=wU I D G;refine⟨M,m0,H,fun k=> ?_,fun k=> ?_⟩
 .cases C:L k with
  |false=>rw[mG C,GQ.bY];exact iH _
  |true=>
   have B:=h.r.lt k C;rw[tK C,(h.psv.NL (v:=feed rw_ us) (u:=unit f) B).1,F9 D B];exact F _ _ B aa
 .cases C:L k with
  |false=>rw[mG C,GQ.bY];exact iH _
  |true=>
   have B:=h.r.lt k C;rw[tK C,(h.psv.NL (v:=feed rw_ us) (u:=unit f) B).2,F9 D B];exact F _ _ B aa
end
def q2 (n:Nat):Nat:=2^n
def VX{a b}(h:a<=b):q2 a<=q2 b:=Si h
def qh(a b):q2 (a+b)=q2 a*q2 b:=aao 2 a b
def qQ(a):q2 (a+1)=q2 a*2:=wN 2 a
def Ew{a b}(h:a<b):q2 a<2^b:=Nat.pow_lt_pow_right aa h
def p2 (h:Nat):GQ:=GQ.i ((2^h:Nat):Int) 0
def M9:p2 0=GQ.i 1 0:=rfl
theorem FM(h):p2 (h+1)=GQ.i 2 0*p2 h:=by
 unfold p2;rw[wN];ext<;>simp only[GQ.bL,GQ.bK,GQ.dH,GQ.dC]<;>push_cast<;>grind
def XN(h):p2 h≠GQ.i 0 0:=by
 induction h with
 |zero=>rw[M9];decide
 |succ h ih=>rw[FM];exact GQ.jd aj ih
theorem X6(h):Wh (p2 h) (q2 h):=oZ (by unfold q2;simp)
def Fr (D:GQ) (h e:Nat) (x:GQ):Prop:=Wh (p2 h*(D*x)) (q2 e)
section
variable {D:GQ} {h e:Nat} {x y:GQ}
theorem afu(J:Wh (D*x) (q2 e)):Fr D 0 e x:=by unfold Fr;rw[M9,GQ.kJ];exact J
def Fr.le{T}(J:Fr D h e x)(O:e<=T):Fr D h T x:=Wh.mono J (VX O)
theorem Fr.up(J:Fr D h e x):Fr D (h+1) (e+1) x:=by
 unfold Fr at*
 rw[FM,GQ.dE,qQ,nH];exact Wh.mul (B:=2) ⟨2,0,rfl,aj⟩ J
theorem Fr.add(J:Fr D h e x)(R:Fr D h e y):Fr D h (e+1) (x+y):=by
 unfold Fr at*
 rw[GQ.qB,GQ.qB,qQ,abT];exact J.add R
theorem Fr.sub(J:Fr D h e x)(R:Fr D h e y):Fr D h (e+1) (x-y):=by
 unfold Fr at*
 rw[GQ.mI,GQ.mI,qQ,abT];exact J.sub R
theorem Fr.OT{c k}(J:Fr D h e x)(hc:Wh c (q2 k)):Fr D h (e+k) (x*c):=by
 unfold Fr at*
 have j:p2 h*(D*(x*c))=p2 h*(D*x)*c:=by ext<;>simp only[GQ.bL,GQ.bK]<;>grind
 rw[j,qh];exact J.mul hc
def Fr.Yc{c k}(J:Fr D h e x)(hc:Wh c (q2 k)):Fr D h (e+k) (c*x):=by rw[GQ.dZ];exact J.OT hc
theorem Fr.zero:Fr D h e (GQ.i 0 0):=by unfold Fr;rw[GQ.bY,GQ.bY];exact iH _
theorem Fr.half(J:Fr D h e x):Fr D (h+1) e (x*⟨1/2,0⟩):=by
 unfold Fr at*
 have j:p2 (h+1)*(D*(x*⟨1/2,0⟩))=p2 h*(D*x):=by
  rw[FM];ext<;>simp only[GQ.bL,GQ.bK,GQ.dH,GQ.dC]<;>grind
 rw[j];exact J
def qo{x N M a b n}(F:Wh N (q2 a))(B:Wh M (q2 b))(D:M≠GQ.i 0 0)(J:x*M=N)(C:a+b<n)(j:b+b<n):Bd x n:=by
 refine xZ F B D J ?_ ?_
 .rw[<-qh];exact Ew C
 .rw[<-qh];exact Ew j
def Fr.bd{d n}(J:Fr D h e x)(F:Wh D (q2 d))(C:D≠GQ.i 0 0)(B:e+(h+d)<n)(j:h+d+(h+d)<n):Bd x n:=by
 have hq:=(X6 h).mul F;rw[<-qh] at hq;refine xZ (N:=p2 h*(D*x)) (M:=p2 h*D) J hq (GQ.jd (XN h) C) ?_ ?_ ?_
 .ext<;>simp only[GQ.bL,GQ.bK]<;>grind
 .rw[<-qh];exact Ew B
 .rw[<-qh];exact Ew j
end
def oW (kind:Int) (v z1 z0 r:GQ) (k:Nat):GQ:=
 if kind<=3 then v/(z1*GQ.i 2 0+z0+r*GQ.i 3 0)
 else if kind<=6 then
  if k=0 then GQ.i 0 0 else if k=1 then v/(z1*GQ.i 2 0+r) else GQ.i 0 0-v/(z1*GQ.i 2 0+r)
 else if kind<=9 then
  if k=0 then GQ.i 0 0-v/(z1+z1*(z0+r*GQ.i 3 0)/(z1+(z0+r*GQ.i 3 0)))*z1/(z1+(z0+r*GQ.i 3 0))
  else if k=1 then v/(z1+z1*(z0+r*GQ.i 3 0)/(z1+(z0+r*GQ.i 3 0)))
  else GQ.i 0 0-v/(z1+z1*(z0+r*GQ.i 3 0)/(z1+(z0+r*GQ.i 3 0)))*(z0+r*GQ.i 3 0)/(z1+(z0+r*GQ.i 3 0))
 else if k=1 then v/(z1+r) else GQ.i 0 0
structure Seen (M0 M1 v z1 z0:GQ):Prop where
 m0:M0≠GQ.i 0 0
 m1:M1≠GQ.i 0 0
 w0:Wh M0 (q2 420)
 w1:Wh M1 (q2 420)
 wv:Wh (M1*v) (q2 420)
 wz1:Wh (M1*z1) (q2 420)
 wz0:Wh (M0*z0) (q2 420)
 i1:0<z1.im
 i0:0<z0.im
structure IE (K:GQ) (A:Nat->GQ):Prop where
 k0:K≠GQ.i 0 0
 wk:Wh K (q2 1278)
 wa:∀k,Wh (K*A k) (q2 1278)
def iL{x a b}(h:Wh x (q2 a))(j:a<=b):Wh x (q2 b):=h.mono (VX j)
def eZ{x y a b}(J:Wh x (q2 a))(R:Wh y (q2 b)):Wh (x*y) (q2 (a+b)):=by rw[qh];exact J.mul R
def NE{x y a}(J:Wh x (q2 a))(R:Wh y (q2 a)):Wh (x+y) (q2 (a+1)):=by rw[qQ,abT];exact J.add R
def M7{x a}(J:Wh x (q2 a)):Wh (GQ.i 0 0-x) (q2 (a+1)):=by rw[qQ,abT];exact(iH (q2 a)).sub J
def TE{m a}(h:m.natAbs<=2^a):Wh (GQ.i m 0) (q2 a):=oZ h
def afg{a b c}(h:a*c=b*c)(hc:c≠GQ.i 0 0):a=b:=by
 refine aff ?_;have B:(a-b)*c=GQ.i 0 0:=by
  have:(a-b)*c=a*c-b*c:=by ext<;>simp only[GQ.bL,GQ.bK,GQ.dJ,GQ.dK]<;>grind
  rw[this,h];ext<;>simp only[GQ.dJ,GQ.dK,GQ.dH,GQ.dC]<;>grind
 by_cases j:a-b=GQ.i 0 0
 .exact j
 .exact absurd B (GQ.jd j hc)
section
variable {M0 M1 v z1 z0:GQ}
def Seen.lin(h:Seen M0 M1 v z1 z0){a b c}(ha:a.natAbs<=2^12)(hb:b.natAbs<=2^12)(hc:c.natAbs<=2^13):Wh (M0*(M1*(z1*GQ.i a 0+z0*GQ.i b 0+GQ.i c 0))) (q2 854):=by
 have e:M0*(M1*(z1*GQ.i a 0+z0*GQ.i b 0+GQ.i c 0))=M0*(M1*z1)*GQ.i a 0+M1*(M0*z0)*GQ.i b 0+M0*M1*GQ.i c 0:=by
  ext<;>simp only[GQ.bL,GQ.bK,GQ.bT,GQ.bS]<;>grind
 rw[e];exact NE (a:=853) (NE (a:=852) (iL (eZ (eZ h.w0 h.wz1) (TE ha)) aa) (iL (eZ (eZ h.w1 h.wz0) (TE hb)) aa)) (iL (eZ (eZ h.w0 h.w1) (TE hc)) aa)
def Seen.num(h:Seen M0 M1 v z1 z0):Wh (M0*(M1*v)) (q2 854):=iL (eZ h.w0 h.wv) aa
def Seen.mm(h:Seen M0 M1 v z1 z0){x}(J:x≠GQ.i 0 0):M0*(M1*x)≠GQ.i 0 0:=GQ.jd h.m0 (GQ.jd h.m1 J)
def Seen.ne(h:Seen M0 M1 v z1 z0){a b c}(ha:0<=a)(hb:0<=b)(C:1<=a\/1<=b):z1*GQ.i a 0+z0*GQ.i b 0+GQ.i c 0≠GQ.i 0 0:=by
 refine M4 ?_;simp only[GQ.bS,GQ.bK,GQ.dH,GQ.dC];have D:=h.i1;have F:=h.i0;have j:(0:Rat)<=(a:Rat):=by exact_mod_cast ha
 have B:(0:Rat)<=(b:Rat):=by exact_mod_cast hb
 have p1:0<=z1.im*(a:Rat):=aaR (Rat.le_of_lt D) j;have P:0<=z0.im*(b:Rat):=aaR (Rat.le_of_lt F) B;rcases C with h|h
 .have:(0:Rat)<(a:Rat):=by exact_mod_cast (show 0<a by omega)
  have:=aeM D this
  push_cast
  grind
 .have:(0:Rat)<(b:Rat):=by exact_mod_cast (show 0<b by omega)
  have:=aeM F this
  push_cast
  grind
def IE.one{S}(h:Seen M0 M1 v z1 z0)(hS:Wh (M0*(M1*S)) (q2 854))(B:S≠GQ.i 0 0){A}(C:∀k,A k=v/S\/A k=GQ.i 0 0\/A k=GQ.i 0 0-v/S):IE (M0*(M1*S)) A:=by
 have hc:=ae8 (x:=v) B;have j:Wh (M0*(M1*S)*(v/S)) (q2 854):=by
  have e:M0*(M1*S)*(v/S)=M0*(M1*v):=by
   rw[GQ.dE,GQ.dE,GQ.dZ S,hc]
  rw[e];exact h.num
 refine⟨h.mm B,iL hS aa,fun k=> ?_⟩;rcases C k with e|e|e<;>rw[e]
 .exact iL j aa
 .rw[GQ.bY];exact iH _
 .rw[GQ.mI,GQ.bY];exact iL (M7 j) aa
def Seen.bcg(h:Seen M0 M1 v z1 z0){r}(W:0<=r)(Y:r<=1000):∃K,K≠GQ.i 0 0/\Wh K (q2 1274)/\
  Wh (K*(v/(z1+z1*(z0+GQ.i r 0*GQ.i 3 0)/(z1+(z0+GQ.i r 0*GQ.i 3 0))))) (q2 1274)/\
  Wh (K*(v/(z1+z1*(z0+GQ.i r 0*GQ.i 3 0)/(z1+(z0+GQ.i r 0*GQ.i 3 0)))*(z0+GQ.i r 0*GQ.i 3 0)/(z1+(z0+GQ.i r 0*GQ.i 3 0)))) (q2 1274)/\
  Wh (K*(v/(z1+z1*(z0+GQ.i r 0*GQ.i 3 0)/(z1+(z0+GQ.i r 0*GQ.i 3 0)))*z1/(z1+(z0+GQ.i r 0*GQ.i 3 0)))) (q2 1274)/\
  Bd (z1*(z0+GQ.i r 0*GQ.i 3 0)/(z1+(z0+GQ.i r 0*GQ.i 3 0))) 2600/\z1+(z0+GQ.i r 0*GQ.i 3 0)≠GQ.i 0 0/\z1+z1*(z0+GQ.i r 0*GQ.i 3 0)/(z1+(z0+GQ.i r 0*GQ.i 3 0))≠GQ.i 0 0:=by
 have I:z0+GQ.i r 0*GQ.i 3 0=z1*GQ.i 0 0+z0*GQ.i 1 0+GQ.i (r*3) 0:=by
  ext<;>simp only[GQ.bL,GQ.bK,GQ.bT,GQ.bS,GQ.dH,GQ.dC]<;>push_cast<;>grind
 have T:z1+(z0+GQ.i r 0*GQ.i 3 0)=z1*GQ.i 1 0+z0*GQ.i 1 0+GQ.i (r*3) 0:=by
  ext<;>simp only[GQ.bL,GQ.bK,GQ.bT,GQ.bS,GQ.dH,GQ.dC]<;>push_cast<;>grind
 have G:z1+(z0+GQ.i r 0*GQ.i 3 0)+(z0+GQ.i r 0*GQ.i 3 0)=z1*GQ.i 1 0+z0*GQ.i 2 0+GQ.i (r*3+r*3) 0:=by
  ext<;>simp only[GQ.bL,GQ.bK,GQ.bT,GQ.bS,GQ.dH,GQ.dC]<;>push_cast<;>grind
 have w1:=h.lin (a:=0) (b:=1) (c:=r*3) aj aj aa;have w2:=h.lin (a:=1) (b:=1) (c:=r*3) aj aj aa;have J:=h.lin (a:=1) (b:=2) (c:=r*3+r*3) aj aj aa;have n1:=h.ne (a:=0) (b:=1) (c:=r*3) aj aj (Or.inr aj);have n2:=h.ne (a:=1) (b:=1) (c:=r*3) aj aj (Or.inl aj);have n3:=h.ne (a:=1) (b:=2) (c:=r*3+r*3) aj aj (Or.inl aj);rw[<-I] at w1 n1;rw[<-T] at w2 n2;rw[<-G] at J n3;have P:z1≠GQ.i 0 0:=M4 h.i1;generalize z0+GQ.i r 0*GQ.i 3 0=w at w1 n1 w2 n2 J n3⊢;generalize R:z1+w=both at w2 n2 J n3⊢;have L:=ae8 (x:=z1*w) n2;generalize z1*w/both=t at L⊢;have Q:Bd t 2600:=by
  refine qo (N:=M1*z1*(M0*(M1*w))) (M:=M1*(M0*(M1*both))) (eZ h.wz1 w1) (eZ h.w1 w2) (GQ.jd h.m1 (h.mm n2)) ?_ aa aa
  .have e1:t*(M1*(M0*(M1*both)))=M1*(M0*M1)*(t*both):=by ext<;>simp only[GQ.bL,GQ.bK]<;>grind
   rw[e1,L];ext<;>simp only[GQ.bL,GQ.bK]<;>grind
 have j:(z1+t)*both=z1*(both+w):=by
  have:(z1+t)*both=z1*both+t*both:=by ext<;>simp only[GQ.bL,GQ.bK,GQ.bT,GQ.bS]<;>grind
  rw[this,L,GQ.qB]
 have D:z1+t≠GQ.i 0 0:=by
  intro e;rw[e,GQ.fq] at j;exact GQ.jd P n3 j.symm
 have i1:=ae8 (x:=v) D;have H:=D;generalize z1+t=S at i1 j D H⊢;generalize v/S=i at i1⊢;have hi:i*(z1*(both+w))=v*both:=by rw[<-j,<-GQ.dE,i1]
 have o1:=ae8 (x:=i*w) n2;have O:=ae8 (x:=i*z1) n2;generalize i*w/both=o at o1⊢;generalize i*z1/both=q at O⊢;have V:o*(z1*(both+w))=v*w:=by
  refine afg (c:=both) ?_ n2;have e1:o*(z1*(both+w))*both=o*both*(z1*(both+w)):=by rw[GQ.dE,GQ.dZ (z1*(both+w)),<-GQ.dE]
  have U:v*w*both=v*both*w:=by rw[GQ.dE,GQ.dZ w,<-GQ.dE]
  rw[e1,o1,U,<-hi,GQ.dE,GQ.dE,GQ.dZ w]
 have hq:q*(both+w)=v:=by
  refine afg (c:=both) ?_ n2;have e1:q*(both+w)*both=q*both*(both+w):=by rw[GQ.dE,GQ.dZ (both+w),<-GQ.dE]
  rw[e1,O,GQ.dE,hi]
 have C:Wh (M1*z1*(M0*(M1*(both+w)))*i) (q2 1274):=by
  have e:M1*z1*(M0*(M1*(both+w)))*i=M1*v*(M0*(M1*both)):=by
   have e1:M1*z1*(M0*(M1*(both+w)))*i=M1*(M0*M1)*(i*(z1*(both+w))):=by
    generalize both+w=s;ext<;>simp only[GQ.bL,GQ.bK]<;>grind
   rw[e1,hi];ext<;>simp only[GQ.bL,GQ.bK]<;>grind
  rw[e];exact iL (eZ h.wv w2) aa
 have F:Wh (M1*z1*(M0*(M1*(both+w)))*o) (q2 1274):=by
  have e:M1*z1*(M0*(M1*(both+w)))*o=M1*v*(M0*(M1*w)):=by
   have e1:M1*z1*(M0*(M1*(both+w)))*o=M1*(M0*M1)*(o*(z1*(both+w))):=by
    generalize both+w=s;ext<;>simp only[GQ.bL,GQ.bK]<;>grind
   rw[e1,V];ext<;>simp only[GQ.bL,GQ.bK]<;>grind
  rw[e];exact iL (eZ h.wv w1) aa
 have B:Wh (M1*z1*(M0*(M1*(both+w)))*q) (q2 1274):=by
  have e:M1*z1*(M0*(M1*(both+w)))*q=M1*z1*(M0*(M1*v)):=by
   have e1:M1*z1*(M0*(M1*(both+w)))*q=M1*z1*(M0*M1)*(q*(both+w)):=by
    generalize both+w=s;ext<;>simp only[GQ.bL,GQ.bK]<;>grind
   rw[e1,hq];ext<;>simp only[GQ.bL,GQ.bK]<;>grind
  rw[e];exact iL (eZ h.wz1 h.num) aa
 exact⟨M1*z1*(M0*(M1*(both+w))),GQ.jd (GQ.jd h.m1 P) (h.mm n3),iL (eZ h.wz1 J) aa,C,F,B,Q,n2,H⟩
theorem Seen.cur(h:Seen M0 M1 v z1 z0)(kind){r}(H:0<=r)(I:r<=1000):∃K,IE K (oW kind v z1 z0 (GQ.i r 0)):=by
 by_cases j:kind<=3
 .have e:z1*GQ.i 2 0+z0+GQ.i r 0*GQ.i 3 0=z1*GQ.i 2 0+z0*GQ.i 1 0+GQ.i (r*3) 0:=by
   ext<;>simp only[GQ.bL,GQ.bK,GQ.bT,GQ.bS,GQ.dH,GQ.dC]<;>push_cast<;>grind
  refine⟨_,IE.one h (h.lin (a:=2) (b:=1) (c:=r*3) aj aj aa) (h.ne aj aj (Or.inl aj)) (fun k=> ?_)⟩
  left;unfold oW;rw[ι j,e]
 by_cases D:kind<=6
 .have e:z1*GQ.i 2 0+GQ.i r 0=z1*GQ.i 2 0+z0*GQ.i 0 0+GQ.i r 0:=by
   ext<;>simp only[GQ.bL,GQ.bK,GQ.bT,GQ.bS,GQ.dH,GQ.dC]<;>push_cast<;>grind
  refine⟨_,IE.one h (h.lin (a:=2) (b:=0) (c:=r) aj aj aa) (h.ne aj aj (Or.inl aj)) (fun k=> ?_)⟩;unfold oW;rw[θ j,ι D,e];split
  .right;left;rfl
  .split
   .left;rfl
   .right;right;rfl
 by_cases G:kind<=9
 .obtain⟨K,k0,L,C,F,B,_⟩:=h.bcg H I;unfold oW;simp only[θ j,θ D,ι G];have neg {x y:GQ} (J:Wh (x*y) (q2 1274)):Wh (x*(GQ.i 0 0-y)) (q2 1278):=by
   rw[GQ.mI,GQ.bY];exact iL (M7 J) aa
  refine⟨K,k0,iL L aa,fun k=> ?_⟩;split
  .exact neg B
  .split
   .exact iL C aa
   .exact neg F
 .have e:z1+GQ.i r 0=z1*GQ.i 1 0+z0*GQ.i 0 0+GQ.i r 0:=by
   ext<;>simp only[GQ.bL,GQ.bK,GQ.bT,GQ.bS,GQ.dH,GQ.dC]<;>push_cast<;>grind
  refine⟨_,IE.one h (h.lin (a:=1) (b:=0) (c:=r) aj aj aa) (h.ne aj aj (Or.inl aj)) (fun k=> ?_)⟩;unfold oW;rw[θ j,θ D,θ G,e];split
  .left;rfl
  .right;left;rfl
def IE.bd{K A}(h:IE K A)(k):Bd (A k) 2600:=qo (N:=K*A k) (M:=K) (h.wa k) h.wk h.k0 (GQ.dZ _ _) aa aa
def Seen.bd(h:Seen M0 M1 v z1 z0)(kind){r}(B:0<=r)(j:r<=1000)(k):Bd (oW kind v z1 z0 (GQ.i r 0) k) 2600:=by
 obtain⟨K,I⟩:=h.cur kind B j;exact I.bd k
def Seen.neA(h:Seen M0 M1 v z1 z0)(r):z1*GQ.i 2 0+z0+GQ.i r 0*GQ.i 3 0≠GQ.i 0 0:=by
 have e:z1*GQ.i 2 0+z0+GQ.i r 0*GQ.i 3 0=z1*GQ.i 2 0+z0*GQ.i 1 0+GQ.i (r*3) 0:=by
  ext<;>simp only[GQ.bL,GQ.bK,GQ.bT,GQ.bS,GQ.dH,GQ.dC]<;>push_cast<;>grind
 rw[e];exact h.ne aj aj (Or.inl aj)
def Seen.neB(h:Seen M0 M1 v z1 z0)(r):z1*GQ.i 2 0+GQ.i r 0≠GQ.i 0 0:=by
 have e:z1*GQ.i 2 0+GQ.i r 0=z1*GQ.i 2 0+z0*GQ.i 0 0+GQ.i r 0:=by
  ext<;>simp only[GQ.bL,GQ.bK,GQ.bT,GQ.bS,GQ.dH,GQ.dC]<;>push_cast<;>grind
 rw[e];exact h.ne aj aj (Or.inl aj)
def Seen.neD(h:Seen M0 M1 v z1 z0)(r):z1+GQ.i r 0≠GQ.i 0 0:=by
 have e:z1+GQ.i r 0=z1*GQ.i 1 0+z0*GQ.i 0 0+GQ.i r 0:=by
  ext<;>simp only[GQ.bL,GQ.bK,GQ.bT,GQ.bS,GQ.dH,GQ.dC]<;>push_cast<;>grind
 rw[e];exact h.ne aj aj (Or.inl aj)
def Seen.Yr(h:Seen M0 M1 v z1 z0){r}(C:0<=r)(B:r<=1000):
  Bd (v/(z1+z1*(z0+GQ.i r 0*GQ.i 3 0)/(z1+(z0+GQ.i r 0*GQ.i 3 0)))) 2600/\
  Bd (v/(z1+z1*(z0+GQ.i r 0*GQ.i 3 0)/(z1+(z0+GQ.i r 0*GQ.i 3 0)))*(z0+GQ.i r 0*GQ.i 3 0)/(z1+(z0+GQ.i r 0*GQ.i 3 0))) 2600/\
  Bd (v/(z1+z1*(z0+GQ.i r 0*GQ.i 3 0)/(z1+(z0+GQ.i r 0*GQ.i 3 0)))*z1/(z1+(z0+GQ.i r 0*GQ.i 3 0))) 2600/\
  Bd (z1*(z0+GQ.i r 0*GQ.i 3 0)/(z1+(z0+GQ.i r 0*GQ.i 3 0))) 2600/\z1+(z0+GQ.i r 0*GQ.i 3 0)≠GQ.i 0 0/\z1+z1*(z0+GQ.i r 0*GQ.i 3 0)/(z1+(z0+GQ.i r 0*GQ.i 3 0))≠GQ.i 0 0:=by
 obtain⟨K,k0,j,a,b,c,d,e,f⟩:=h.bcg C B;exact⟨qo a j k0 (GQ.dZ _ _) aa aa,qo b j k0 (GQ.dZ _ _) aa aa,qo c j k0 (GQ.dZ _ _) aa aa,d,e,f⟩
end
structure mR (nb nl:Nat) (f:eD):Prop where
 r:0<=f.r/\f.r<=1000
 kind:0<=f.kind/\f.kind<=10
 lk:f.line=ε->1<=f.kind
 line:f.line=ε->(0<=f.obj/\f.obj<nl)/\(2<=f.den/\f.den<=16)/\1<=f.num/\f.num<=f.den-1
 bus:f.line=ζ->1<=f.kind->0<=f.obj/\f.obj<nb
theorem afz{nb nl f}(h:fD nb nl f=0):mR nb nl f:=by
 unfold fD at h;by_cases F:f=⟨0,ζ,0,0,0,0⟩
 .subst F;exact⟨⟨aj,aj⟩,⟨aj,aj⟩,(fun e=>by cases e),(fun e=>by cases e),fun _ e=>absurd e (show ¬(1:Int)<=0 by decide)⟩
 rw[θ F] at h;by_cases B:btw f.kind 1 10=ε
 .rw[ι B] at h;rw[fJ] at B;generalize hc:(if f.line=ε then (nl:Int) else (nb:Int))=j at h;by_cases C:btw f.obj 0 (j-1)=ε
  .rw[ι C] at h;rw[fJ] at C;by_cases Z:f.line=ε/\(f.den<2\/16<f.den\/f.num<1\/f.den-1<f.num)
   .rw[ι Z] at h;exact absurd h aj
   rw[θ Z] at h;by_cases hb:f.line=ζ/\(f.num≠0\/f.den≠0)
   .rw[ι hb] at h;exact absurd h aj
   rw[θ hb] at h;by_cases D:btw f.r 0 1000=ε
   .rw[fJ] at D;refine⟨D,aa,fun _=>B.1,fun e=> ?_,fun e _=> ?_⟩
    .rw[ι e] at hc;have:¬(f.den<2\/16<f.den\/f.num<1\/f.den-1<f.num):=fun x=>Z ⟨e,x⟩;omega
    .rw[θ (by rw[e];decide)] at hc;omega
   .rw[θ D] at h;exact absurd h aj
  .rw[θ C] at h;exact absurd h aj
 .rw[θ B] at h;exact absurd h aj
structure iD (x:BrD):Prop where
 a:x.a<17
 b:x.b<=17
 n:1<=x.n/\x.n<=15
 d:1<=x.d/\x.d<=16
 z0:okZ x.z0=ε
 z1:okZ x.z1=ε
 emf:0<=x.emf/\x.emf<=1000000
section
variable {s:StD} {p:dM} {f:eD}
def lC(h:jC s)(p){k}(j:k<s.buses.length):0<=(groups s p).getD k 0/\((groups s p).getD k 0).toNat<4:=by
 have B:=h.groups p k (by rw[lJ];exact j);have:=h.nb;omega
theorem Mt(h:jC s)(p){i}(hi:i<s.bays.length)(j:(sides s p i).1.1=1):(sides s p i).1.2.toNat<4:=by
 have G:=h.link hi;unfold sides at j⊢;by_cases B:(s.bays.getD i η).kind=3
 .rw[ι B];exact(lC h p (h.bus hi (k:=0) aa).2).2
 .rw[θ B] at j⊢;simp only[] at j⊢;unfold sD at j⊢;split
  .exact(lC h p (h.bus hi (k:=0) aa).2).2
  .split
   .rename_i C
    exact(lC h p (h.bus hi (k:=1) C.1).2).2
   .decide
theorem wO(h:jC s)(p){i}(hi:i<s.bays.length)(j:nN s p i=ε):13<=jg s p i/\jg s p i<17:=by
 unfold nN at j;simp only[υ,Δ] at j;have:=Mt h p hi j.2;unfold jg;omega
theorem QH{x}(h:dA x=ε)(j:x.kind=3):okZ x.z=ε:=by
 unfold dA at h;rw[ι j] at h;simp only[υ] at h;exact h.1.1
theorem Tm{nl ns x}(h:jK nl ns x=0)(j:x.kind=2):0<=x.obj/\x.obj<ns:=by
 unfold jK at h;rw[θ aa,ι j] at h;exact AdT
theorem O8{nl ns x}(h:jK nl ns x=0)(j:x.kind=1):0<=x.obj/\x.obj<nl:=by
 unfold jK at h;rw[ι j] at h;exact AdT
theorem QP{x}(h:dA x=ε):0<=x.en/\x.en<=1:=by
 unfold dA at h;simp only[υ] at h;have j:=h.2.1.1.1;rw[fJ] at j;split at j<;>omega
theorem yF(h:jC s){i}(hi:i<s.bays.length){b}(hb:iq s p i=γ b):iD b/\13<=b.a/\(b.b=17\/13<=b.b):=by
 unfold iq at hb;simp only[] at hb;split at hb
 .rename_i D
  have hn:=wO h p hi D;split at hb
  .rename_i j
   injection hb with hb;subst hb;have F:=Tm (h.obj i hi) j;have hs:=h.src (s.bays.getD i η).obj.toNat aa;unfold ky at hs;simp only[υ] at hs;have O:=fJ.1 hs.1.1;exact⟨⟨hn.2,ag,ag,ag,hs.2,hs.1.2,⟨by simp only[];omega,by simp only[];omega⟩⟩,hn.1,Or.inl rfl⟩
  .split at hb
   .rename_i j
    injection hb with hb;subst hb;have C:=QH (h.rng i hi) j.1;have G:=h.link hi;have H:=G.2.1 j.1;have I:=lC h p (h.bus hi (k:=1) aa).2;have B:(sides s p i).2.2=(groups s p).getD (ic s i 1) 0:=by unfold sides;rw[ι j.1];rfl
    refine⟨⟨hn.2,?_,ag,ag,C,C,ag⟩,hn.1,Or.inr ?_⟩
    .simp only[B];omega
    .simp only[B];omega
   .cases hb
 .cases hb
theorem tq(h:jC s){l e}(Z:l<6)(O:e<=1):∀n,n<=s.bays.length->wZ s p l e n<17/\wZ s p l e n≠12
 |0,_=>by
  show 2*l+e<17/\2*l+e≠12;omega
 |n+1,hn=>by
  show(if oh s p l e n=ε then jg s p n else wZ s p l e n)<17/\(if oh s p l e n=ε then jg s p n else wZ s p l e n)≠12;split
  .rename_i J
   unfold oh at J;simp only[υ] at J;have:=wO h p (i:=n) aa J.1.1.1;omega
  .exact tq h Z O n aa
theorem yg(h:jC s)(C:mR s.buses.length s.lines.length f){l e}(Z:l<s.lines.length)(O:e<=1):iD (half s p f l e):=by
 have D:=h.nl;have j:=h.line l Z;have e0:=tq (p:=p) h (l:=l) (e:=e) aa O _ (κ _);have e1:=tq (p:=p) h (l:=l) (e:=1-e) aa aa _ (κ _);unfold half;simp only[];split
 .rename_i B
  unfold iC at B;simp only[υ,Δ] at B;have:=C.line B.1;refine⟨e0.1,ag,?_,by simp only[];omega,j.2,j.1,ag⟩;simp only[];split<;>omega
 .exact⟨e0.1,aah e1.1,ag,ag,j.2,j.1,ag⟩
def Fh(h:jC s):∀n,n<=s.bays.length->(gm s p n).length<=n/\∀b∈gm s p n,iD b
 |0,_=>⟨κ _,by simp[gm]⟩
 |n+1,hn=>by
  have B:=Fh h n aa;show(gm s p n++(iq s p n).toList).length<=n+1/\∀b∈gm s p n++(iq s p n).toList,iD b;cases hb:iq s p n with
  |none=>exact⟨ae,by simpa using B.2⟩
  |some c=>
   refine⟨ae,fun b j=> ?_⟩;rw[aae] at j;rcases j with C|C
   .exact B.2 b C
   .simp only[Option.toList_some,acL] at C;subst C;exact(yF h aa hb).1
theorem JW(l):(jP s p f l).length=if iC f l=ε then 2 else 1:=by
 unfold jP;split<;>rfl
theorem L9{l G}(h:iC f l=ε)(D:iC f G=ε):l=G:=by
 unfold iC at h D;simp only[υ,Δ] at h D;omega
theorem Ct(h:jC s)(j:mR s.buses.length s.lines.length f):∀n,n<=s.lines.length->((fE s p f n).length<=n+1/\((∀l,l<n->iC f l=ζ)->(fE s p f n).length<=n))/\∀b∈fE s p f n,iD b
 |0,_=>⟨⟨by simp[fE],by simp[fE]⟩,by simp[fE]⟩
 |n+1,hn=>by
  have B:=Ct h j n aa;have D:=JW (s:=s) (p:=p) (f:=f) n;show((fE s p f n++jP s p f n).length<=n+1+1/\(_->(fE s p f n++jP s p f n).length<=n+1))/\∀b∈fE s p f n++jP s p f n,iD b;rw[pz,D];refine⟨⟨?_,fun C=> ?_⟩,fun b hb=> ?_⟩
  .split
   .rename_i C
    have:=B.1.2 (fun l Z=>by
     cases J:iC f l with
     |false=>rfl
     |true=>have:=L9 C J;omega)
    omega
   .have:=B.1.1;omega
  .rw[θ (by rw[C n aa];decide)];have:=B.1.2 (fun l Z=>C l aa);omega
  .rw[aae] at hb;rcases hb with hb|hb
   .exact B.2 b hb
   .unfold jP at hb;split at hb
    .simp only[kC,Ha,aaH] at hb;rcases hb with rfl|rfl
     .exact yg h j aa aa
     .exact yg h j aa aa
    .simp only[kC,Ha,aaH] at hb;subst hb;exact yg h j aa aa
theorem r9(h:jC s)(j:mR s.buses.length s.lines.length f):(bU s p f).length<=23/\∀b∈bU s p f,iD b:=by
 have C:=Fh (p:=p) h _ (κ _);have B:=Ct (p:=p) h j _ (κ _);have:=h.nq;have:=h.nl;refine⟨by unfold bU;rw[pz];omega,fun b hb=> ?_⟩;rw[bU,aae] at hb;rcases hb with hb|hb
 .exact C.2 b hb
 .exact B.2 b hb
theorem Hw(h:jC s)(j:mR s.buses.length s.lines.length f)(p):eO s p f<=17/\(f.kind≠0->eO s p f<17):=by
 unfold eO;split
 .omega
 .rename_i Z
  split
  .rename_i B;exact⟨aa,fun e=>absurd B e⟩
  .rename_i B
   have hb:=j.bus (by simpa using Z) (by have:=j.kind;omega);have:=lC h p (k:=f.obj.toNat) aa;omega
end
inductive JoinD (bs:List BrD):Nat->Prop
 |neutral (b:BrD) (h:b∈bs) (hn:b.b=17):JoinD bs b.a
 |fro (b:BrD) (h:b∈bs) (hn:b.b≠17) (hq:JoinD bs b.b):JoinD bs b.a
 |fwd (b:BrD) (h:b∈bs) (hn:b.b≠17) (hp:JoinD bs b.a):JoinD bs b.b
noncomputable def lv (bs:List BrD) (k:Nat):Bool:= @decide (JoinD bs k) (Classical.propDecidable _)
section
variable {bs:List BrD}
theorem qD{k}:lv bs k=ε↔JoinD bs k:=by
 unfold lv;exact @decide_eq_true_iff _ (Classical.propDecidable _)
def JoinD.lt{k}(hb:∀b∈bs,iD b)(h:JoinD bs k):k<17:=by
 cases h with
 |neutral b h hn=>exact(hb b h).a
 |fro b h hn hq=>exact(hb b h).a
 |fwd b h hn hp=>have:=(hb b h).b;omega
def JoinD.live{L}(j:yX bs L)(hb:∀b∈bs,iD b){k}(h:JoinD bs k):L k=ε:=by
 induction h with
 |neutral b h hn=>exact(j.closed b h (Or.inl hn)).1 AbJ
 |fro b h hn _ ih=>exact(j.closed b h (Or.inr (Or.inr ih))).1 AbJ
 |fwd b h hn _ ih=>exact(j.closed b h (Or.inr (Or.inl ih))).2 hn
def XW{L}(hb:∀b∈bs,iD b)(C:yX bs L)(j:∀k,L k=ε->JoinD bs k):L=lv bs:=by
 funext k;cases h:L k with
 |true=>exact(qD.2 (j k h)).symm
 |false=>
  cases B:lv bs k with
  |false=>rfl
  |true=>rw[(qD.1 B).live C hb] at h;cases h
def vP(hb:∀b∈bs,iD b){k}(h:lv bs k=ε):k<17:=(qD.1 h).lt hb
def yG(hb:∀b∈bs,iD b):yX bs (lv bs):=by
 refine⟨fun b h Z=> ?_,?_⟩
 .rcases Z with Z|Z|Z
  .exact⟨fun _=>qD.2 (.neutral b h Z),fun hn=>absurd Z hn⟩
  .refine⟨fun _=>Z,fun hn=>qD.2 (.fwd b h hn (qD.1 Z))⟩
  .have:b.b≠17:=by have:=vP hb Z;omega
   exact⟨fun _=>qD.2 (.fro b h this (qD.1 Z)),fun _=>Z⟩
 .cases h:lv bs 17 with
  |false=>rfl
  |true=>have:=vP hb h;omega
end
def cnt (L:Nat->Bool):Nat->Nat
 |0=>0
 |k+1=>cnt L k+(if L k=ε then 1 else 0)
def rwx (L:Nat->Bool) (k:Nat):Nat:=if L k=ε then cnt L k else 0
section
variable {L:Nat->Bool}
def cnt_mono:∀{j k:Nat},j<=k->cnt L j<=cnt L k
 |j,0,h=>by rw[show j=0 by omega];exact κ _
 |j,k+1,h=>by
  by_cases e:j=k+1
  .rw[e];exact κ _
  .have:=cnt_mono (j:=j) (k:=k) aa;show _<=cnt L k+_;omega
def cnt_lt{j k}(B:L j=ε)(h:j<k):cnt L j<cnt L k:=by
 have D:cnt L (j+1)<=cnt L k:=cnt_mono h;have C:cnt L (j+1)=cnt L j+(if L j=ε then 1 else 0):=rfl;rw[ι B] at C;omega
def LM(k):cnt L k<=k:=by
 induction k with
 |zero=>exact κ _
 |succ k ih=>
  show cnt L k+_<=_;split<;>omega
def IV:∀{k i:Nat},i<cnt L k->∃j,j<k/\L j=ε/\cnt L j=i
 |0,i,h=>absurd h (by show ¬i<0;omega)
 |k+1,i,h=>by
  have D:i<cnt L k+(if L k=ε then 1 else 0):=h;by_cases C:i<cnt L k
  .obtain⟨j,H,F,G⟩:=IV C;exact⟨j,aa,F,G⟩
  .by_cases B:L k=ε
   .rw[ι B] at D;exact⟨k,aa,B,aa⟩
   .rw[θ B] at D;omega
theorem afe(h:∀k,L k=ε->k<17):Rwx L (rwx L) (cnt L 18):=by
 refine⟨fun k B=> ?_,fun j k D B e=> ?_,fun i hi=> ?_⟩
 .unfold rwx;rw[ι B];exact cnt_lt B (by have:=h k B;omega)
 .unfold rwx at e;rw[ι D,ι B] at e;by_cases F:j<k
  .have:=cnt_lt D F;omega
  .by_cases C:k<j
   .have:=cnt_lt B C;omega
   .omega
 .obtain⟨j,_,C,G⟩:=IV hi;exact⟨j,C,by unfold rwx;rw[ι C];exact G⟩
def GR(h:L 17=ζ):cnt L 18<=17:=by
 show cnt L 17+(if L 17=ε then 1 else 0)<=17;rw[h];have:=LM (L:=L) 17;simpa using this
end
def BrD.zs (b:BrD) (sq:Nat):GQ:=zq (if sq=0 then b.z0 else b.z1) b.n b.d
def BrD.nb (sq:Nat) (b:BrD):Nb:=⟨b.a,b.b,GQ.i 1 0/b.zs sq,GQ.i b.emf 0⟩
def used (L:Nat->Bool) (b:BrD):Bool:=L b.a&&decide (b.a≠b.b)
def usd (L:Nat->Bool) (sq:Nat) (bs:List BrD):List Nb:=(bs.filter (used L)).map (BrD.nb sq)
def zN{a b:Rat}(ha:0<a)(hb:0<b):0<a/b:=by rw[Rat.div_def];exact aeM ha (Rat.inv_pos.2 hb)
theorem NI(z:Imp){n d}(F:okZ z=ε)(hn:1<=n/\n<=15)(hd:1<=d/\d<=16):0<(zq z n d).im/\∃j:GQ,j≠GQ.i 0 0/\Wh j 32000/\zq z n d*GQ.i d 0=j:=by
 have B:=qW.1 F;have C:(0:Rat)<(d:Rat):=by exact_mod_cast (show 0<d by omega)
 have J:1<=n*z.x:=by have:=ab5 hn.1 B.2.1 aa aa;omega
 have P:n*z.x<=15000:=by have:=ab5 hn.2 B.2.2 aa aa;omega
 have G:0<=n*z.r:=ab3 aa B.1.1;have H:n*z.r<=15000:=by have:=ab5 hn.2 B.1.2 B.1.1 aa;omega
 refine⟨?_,GQ.i (n*z.r) (n*z.x),?_,⟨_,_,rfl,aa⟩,?_⟩
 .show 0<((n*z.x:Int):Rat)/(d:Rat);have:(0:Rat)<((n*z.x:Int):Rat):=by exact_mod_cast (show 0<n*z.x by omega)
  exact zN this C
 .intro e;have D:((n*z.x:Int):Rat)=((0:Int):Rat):=congrArg GQ.im e;have I:n*z.x=0:=by exact_mod_cast D
  omega
 .unfold zq;ext<;>simp only[GQ.bL,GQ.bK,GQ.dH,GQ.dC]<;>grind
section
variable {b:BrD}
def iD.zi(h:iD b)(sq):okZ (if sq=0 then b.z0 else b.z1)=ε:=by split;exact h.z0;exact h.z1
def iD.ne(h:iD b)(sq):b.zs sq≠GQ.i 0 0:=M4 (NI _ (h.zi sq) h.n h.d).1
def MC{z}(h:z≠GQ.i 0 0):GQ.i 1 0/z*z=GQ.i 1 0:=ae8 h
def wR{z}(h:0<z.im):(GQ.i 1 0/z).im<0:=by
 have j:=M4 h;have hn:=Ul j;show(((0:Int):Rat)*z.re-((1:Int):Rat)*z.im)/z.nrm<0;have e:(((0:Int):Rat)*z.re-((1:Int):Rat)*z.im)/z.nrm= -(z.im/z.nrm):=ak;rw[e];have:=zN h hn;grind
def iD.sz(h:iD b)(sq):TN (b.nb sq):=by
 obtain⟨F,j,B,D,C⟩:=NI _ (h.zi sq) h.n h.d;have hd:=h.d;refine⟨⟨j,b.d.toNat,B,D,?_,aa⟩,oZ (by have:=h.emf;show b.emf.natAbs<=_;omega)⟩;show GQ.i 1 0/b.zs sq*j=_;rw[<-C,<-GQ.dE];show GQ.i 1 0/b.zs sq*b.zs sq*_=_;rw[MC (h.ne sq),GQ.kJ,show((b.d.toNat:Nat):Int)=b.d by omega]
def iD.im(h:iD b)(sq):(b.nb sq).y.im<0:=wR (NI _ (h.zi sq) h.n h.d).1
end
theorem uK{bs}(hb:∀b∈bs,iD b)(sq):zo (lv bs) (rwx (lv bs)) (cnt (lv bs) 18) (usd (lv bs) sq bs):=by
 have F:=yG hb;refine⟨afe (fun k j=>vP hb j),⟨F.none,fun c hc=> ?_⟩,fun c hc=> ?_,fun k j=> ?_⟩
 .obtain⟨b,D,rfl⟩:=aab.1 hc;obtain⟨G,B⟩:=aba.1 D;unfold used at B;simp only[υ,Δ] at B;refine⟨B.1,?_,B.2⟩;by_cases e:b.b=17
  .exact Or.inl e
  .exact Or.inr ((F.closed b G (Or.inr (Or.inl B.1))).2 e)
 .obtain⟨b,D,rfl⟩:=aab.1 hc;exact(hb b (aba.1 D).1).im sq
 .replace j:=qD.1 j;have mem {b:BrD} (h:b∈bs) (ha:JoinD bs b.a) (C:b.a≠b.b):b.nb sq∈usd (lv bs) sq bs:=
   aaK (aba.2 ⟨h,by unfold used;simp[qD.2 ha,C]⟩)
  induction j with
  |neutral b h hn=>exact JoinN.neutral (b.nb sq) (mem h (.neutral b h hn) AbJ) hn
  |fro b h hn hq ih=>
   by_cases e:b.a=b.b
   .rw[e];exact ih
   .exact JoinN.fro (b.nb sq) (mem h (.fro b h hn hq) e) hn ih
  |fwd b h hn hp ih=>
   by_cases e:b.a=b.b
   .rw[<-e];exact ih
   .exact JoinN.fwd (b.nb sq) (mem h hp e) hn ih
theorem QD{bs}(hb:∀b∈bs,iD b)(Z:bs.length<=23)(L sq):(usd L sq bs).length<=23/\∀b∈usd L sq bs,TN b:=by
 refine⟨?_,fun c hc=> ?_⟩
 .unfold usd;rw[aaB];have:=List.length_filter_le (used L) bs;omega
 .obtain⟨b,j,rfl⟩:=aab.1 hc;exact(hb b (aba.1 j).1).sz sq
def IY{α:Type}(f:α->GQ)(l2:List α):∀l1:List α,il f (l1++l2)=il f l2+il f l1
 |[]=>(GQ.add_zero' _).symm
 |a::l1=>by
  show il f (l1++l2)+f a=il f l2+(il f l1+f a);rw[IY f l2 l1];generalize il f l2=x;generalize il f l1=y;generalize f a=z;ext<;>simp only[GQ.bT,GQ.bS]<;>grind
theorem RY(X)(l:List Br)(b:Br):fM X (l++[b])=stm (fM X l) b:=by
 unfold fM;rw[acW];rfl
section
variable {L:Nat->Bool} {sq:Nat} {brs:List BrD} {k:Nat}
def eqA (L:Nat->Bool) (sq:Nat) (brs:List BrD) (k:Nat):Nat->Nat->GQ:=fM zmx ((usd L sq (brs.take k)).map (Nb.br (rwx L)))
def eqB (L:Nat->Bool) (sq:Nat) (brs:List BrD) (k:Nat):Nat->Nat->GQ:=fun i _=>feed (rwx L) (usd L sq (brs.take k)) i
def Jy(j:k<brs.length):brs.take (k+1)=brs.take k++[brs.getD k η]:=by
 rw[acV,π,ν j];rfl
theorem Rx(B:k<brs.length)(j:used L (brs.getD k η)=ε):usd L sq (brs.take (k+1))=usd L sq (brs.take k)++[(brs.getD k η).nb sq]:=by
 unfold usd;rw[Jy B,List.filter_append,aaq];congr 1;rw[List.filter_cons_of_pos j];rfl
theorem NY(B:k<brs.length)(j:used L (brs.getD k η)=ζ):usd L sq (brs.take (k+1))=usd L sq (brs.take k):=by
 unfold usd;rw[Jy B,List.filter_append,aaq,List.filter_cons_of_neg (by rw[j];decide)];simp
theorem Ri(B:k<brs.length)(j:used L (brs.getD k η)=ε):eqA L sq brs (k+1)=stm (eqA L sq brs k) (((brs.getD k η).nb sq).br (rwx L)):=by
 unfold eqA;rw[Rx B j,aaq,<-RY];rfl
theorem Sy(B:k<brs.length)(C:used L (brs.getD k η)=ε)(i j):eqB L sq brs (k+1) i j=
  if (brs.getD k η).b=17/\i=rwx L (brs.getD k η).a then eqB L sq brs k i j+GQ.i 1 0/(brs.getD k η).zs sq*GQ.i (brs.getD k η).emf 0 else eqB L sq brs k i j:=by
 unfold eqB feed;rw[Rx B C,IY];show GQ.i 0 0+(if (brs.getD k η).b=17/\i=rwx L (brs.getD k η).a then GQ.i 1 0/(brs.getD k η).zs sq*GQ.i (brs.getD k η).emf 0 else GQ.i 0 0)+il (fun b=>if b.b=17/\i=rwx L b.a then b.y*b.e else GQ.i 0 0) (usd L sq (brs.take k))=_;generalize il (fun b=>if b.b=17/\i=rwx L b.a then b.y*b.e else GQ.i 0 0) (usd L sq (brs.take k))=x;split
 .generalize GQ.i 1 0/(brs.getD k η).zs sq*GQ.i (brs.getD k η).emf 0=y;ext<;>simp only[GQ.bT,GQ.bS,GQ.dH,GQ.dC]<;>grind
 .ext<;>simp only[GQ.bT,GQ.bS,GQ.dH,GQ.dC]<;>grind
theorem FK(B:k<brs.length)(j:used L (brs.getD k η)=ζ):eqA L sq brs (k+1)=eqA L sq brs k:=by unfold eqA;rw[NY B j]
theorem Gu(B:k<brs.length)(j:used L (brs.getD k η)=ζ):eqB L sq brs (k+1)=eqB L sq brs k:=by unfold eqB;rw[NY B j]
def XX:eqA L sq brs 0=zmx:=rfl
def XC(i j):eqB L sq brs 0 i j=GQ.i 0 0:=rfl
theorem U9:eqA L sq brs brs.length=fM zmx ((usd L sq brs).map (Nb.br (rwx L))):=by unfold eqA;rw[aci]
theorem Vs:eqB L sq brs brs.length=col (feed (rwx L) (usd L sq brs)):=by unfold eqB col;rw[aci]
def Wt{b}(h:iD b)(sq):Bd (GQ.i 1 0/b.zs sq) 40:=by
 obtain⟨j,M,z0,B,e,hd⟩:=(h.sz sq).z;exact qo (a:=4) (b:=15) (oZ (D:=M) (by show M<=2^4;omega)) (B.mono (by show 32000<=2^15;omega)) z0 e aa aa
def Rm(hb:∀b∈brs,iD b):∀k,k<=brs.length->∀i j,Bd (eqA L sq brs k i j) (64+110*k)
 |0,_,i,j=>by rw[XX];exact⟨0,0,1,L8 0 0,U0 aa⟩
 |k+1,hk,i,j=>by
  have B:=Rm hb k aa i j;cases C:used L (brs.getD k η) with
  |false=>rw[FK aa C];exact B.mono aa
  |true=>
   rw[Ri aa C,Nu];have R:=Wt (hb (brs.getD k η) (by rw[π,ν aa];exact abt _)) sq;have al (x:Nat):Bd ((((brs.getD k η).nb sq).br (rwx L)).al x) 2:=by
    have h:=Bh (((brs.getD k η).nb sq).br (rwx L)) x;exact qo (a:=0) (b:=0) (M:=GQ.i 1 0) h (ww.mono (κ _)) aj (by ext<;>simp only[GQ.bL,GQ.bK,GQ.dH,GQ.dC]<;>grind) aa aa
   exact(Bd.add B (Bd.mul R (Bd.mul (al i) (al j)))).mono aa
def QO(hb:∀b∈brs,iD b):∀k,k<=brs.length->∀i j,Bd (eqB L sq brs k i j) (64+110*k)
 |0,_,i,j=>by rw[XC];exact⟨0,0,1,L8 0 0,U0 aa⟩
 |k+1,hk,i,j=>by
  have B:=QO hb k aa i j;cases D:used L (brs.getD k η) with
  |false=>rw[Gu aa D];exact B.mono aa
  |true=>
   rw[Sy aa D];have C:brs.getD k η∈brs:=by rw[π,ν aa];exact abt _
   have R:=Wt (hb _ C) sq;split
   .have O:Bd (GQ.i (brs.getD k η).emf 0) 64:=by
     have:=(hb _ C).emf;exact⟨_,0,1,L8 _ 0,XH aa aa aa aa⟩
    exact(Bd.add B (Bd.mul R O)).mono aa
   .exact B.mono aa
end
def MxI.out'{W G m n P R X}(h:MxI W G m n P R X)(hn:0<m->0<n):Out W G m n R X:=
 ⟨h.o,fun i hi=>⟨(h.row i hi (hn aa)).1,(h.len i hi).1,(h.len i hi).2,(h.row i hi (hn aa)).2⟩⟩
def Q8:BD=q2 420:=rfl
def R8:BD*BD<2^841:=by
 rw[Q8,<-qh];exact Ew (a:=420+420) (b:=841) aa
def TQ{m}(j:m<=17):(BD*BD+m*(BD*BD))*(BD*BD)<2^1690:=by
 have C:BD*BD+m*(BD*BD)<=q2 5*(BD*BD):=by
  have:m*(BD*BD)<=17*(BD*BD):=aaa j (κ _);have D:q2 5=32:=rfl;rw[D];omega
 have B:=aaa C (κ (BD*BD));refine ψ B ?_;rw[Q8,<-qh,<-qh,<-qh];exact Ew (a:=5+(420+420)+(420+420)) (b:=1690) aa
theorem VW{m n R}(h:∀i,i<m->(R i).n=n)(hn:n<=24):wd m R<=24/\∀i,i<m->(R i).n=wd m R:=by
 unfold wd;by_cases e:m=0
 .rw[ι e];exact⟨aa,fun i hi=>aa⟩
 .rw[θ e,h 0 aa];exact⟨hn,h⟩
def D6 (rw_:Nat->Nat) (us:List Nb) (v:Nat->GQ):Prop:=v=feed rw_ us\/∃f,v=unit f
section
variable {brs:List BrD} {sq n:Nat} {v:Nat->GQ}
def MZ(hb:∀b∈brs,iD b)(Z:brs.length<=23)(hv:D6 (rwx (lv brs)) (usd (lv brs) sq brs) v)(S:cnt (lv brs) 18=n):∃Q,sJ (side n (fM zmx ((usd (lv brs) sq brs).map (Nb.br (rwx (lv brs))))) (col v)) n (n+1) Q BD:=by
 have hs:=QD hb Z (lv brs) sq;have hn:n<=17:=S ▸ GR (yG hb).none;rcases hv with rfl|⟨f,rfl⟩
 .have:=BP (rw_:=rwx (lv brs)) (n:=n) (us:=usd (lv brs) sq brs) (f:=0) (W:=n+1) (al:=fun _=>GQ.i 1 0) (be:=fun _=>GQ.i 0 0) hs.2 hn hs.1 aa (fun _=>ww) (fun _=>iH _);rwa[TJ] at this
 .have:=BP (rw_:=rwx (lv brs)) (n:=n) (us:=usd (lv brs) sq brs) (f:=f) (W:=n+1) (al:=fun _=>GQ.i 0 0) (be:=fun _=>GQ.i 1 0) hs.2 hn hs.1 aa (fun _=>iH _) (fun _=>ww);rwa[Qv] at this
def Ib(hb:∀b∈brs,iD b)(S:cnt (lv brs) 18=n)(Y):(ech n (side n (fM zmx ((usd (lv brs) sq brs).map (Nb.br (rwx (lv brs))))) Y) n).r=n:=by
 subst S;exact Cj (uK hb sq).psv.full
def LY(hb:∀b∈brs,iD b)(Z:brs.length<=23)(hv:D6 (rwx (lv brs)) (usd (lv brs) sq brs) v)(S:cnt (lv brs) 18=n){i}(hi:i<n):Bd (sol n (fM zmx ((usd (lv brs) sq brs).map (Nb.br (rwx (lv brs))))) (col v) i 0) 841:=by
 obtain⟨Q,B⟩:=MZ hb Z hv S;have j:=Ib (sq:=sq) hb S (col v);rw[F9 j hi 0];exact Mh j B R8 hi aa
def EU{w Ga Gb Pa Pb Ra Rb}(hb:∀b∈brs,iD b)(Z:brs.length<=23)(hv:D6 (rwx (lv brs)) (usd (lv brs) sq brs) v)(S:cnt (lv brs) 18=n)(ha:MxI w Ga n n Pa Ra (fM zmx ((usd (lv brs) sq brs).map (Nb.br (rwx (lv brs))))))(B:MxI w Gb n 1 Pb Rb (col v)):
  Calls prog 159 #[aO (γ (aM Ga 0)) n n,aO (γ (aM Gb 0)) n n] w fun e w'=>∃G RX,e=.returned (.tuple #[aO (γ (aM G 0)) n n,aJ])/\Out w' G n 1 RX (sol n (fM zmx ((usd (lv brs) sq brs).map (Nb.br (rwx (lv brs))))) (col v))/\Ext w w':=by
 obtain⟨Q,I⟩:=MZ hb Z hv S;have T:=Ib (sq:=sq) hb S (col v);have hn:n<=17:=S ▸ GR (yG hb).none;obtain⟨R,E,M,F,L⟩:=(ha.out' (fun h=>h)).mem aa aa;obtain⟨R2,E2,C,H,K⟩:=(B.out' (fun _=>aa)).mem aa aa;have w1:=VW F aa;have w2:=VW H aa;refine(Vq (N:=841) (Ns:=1690) (Nd:=1690) (Nx:=841) (vb:=fun _ _=>ε) (vb2:=fun _ _=>ε) M C (fun i j hi D=>(L i j hi (by rw[F i hi] at D;exact D)).vb aa) (fun i j hi D=>(K i j hi (by rw[H i hi] at D;exact D)).vb aa)
  ⟨aa,w1.1,w1.2,fun _ _ _ _=>rfl⟩ ⟨aa,w2.1,w2.2,fun _ _ _ _=>rfl⟩ F H aa L K aa (XP I R8) (fun _=>Xl T I R8 (TQ hn) aa aa)).mono ?_
 rintro e w' ⟨h|⟨_,G,RX,O,P⟩,J⟩
 .omega
 .exact⟨G,RX,O,P,J⟩
end
def EA(g A n c w)(hc:dz w g):
  CE 160 #[aN g 0,aO A n c,aJ] w (.slice A n c):=by
 have D:=Blk.cell hc;have B:=Blk.frozen hc;have j:Ext w (w.setCell ⟨g,0,δ⟩ (.int .i64 0)):=(Ext.refl w).stay hc rfl;have O:=hc.ext j;have C:=Blk.cell O;go_enter func160,ntmps160;go_wp2
 first
  |exact⟨rfl,j⟩
  |(go_ret;exact⟨rfl,j⟩)
def DT{P}(w F cs u)(j:(P.info? F).map (·.zero)=γ (γ (.agg cs))):(Instr.alloc F ε u).run P w=.ok (.pointer (γ (aM w.heap.size 0))) (w.alloc (.cells cs F)):=by
 cases hq:P.info? F with
 |none=>simp[hq] at j
 |some i=>
  have B:i.zero=γ (.agg cs):=by simpa[hq] using j
  simp[Instr.alloc,zeroValue,typeInfo,hq,B,aaD,newVar,newRow,Value.cells]
theorem gD{P ops rest op a w Q}(H:op.guard=δ)(F)(j:op.op=.alloc F)(cs)(B:(P.info? F).map (·.zero)=γ (γ (.agg cs)))(h:∀w',w'=w.alloc (.cells cs F)->wpList P ops Q rest (a.put op.dst (.pointer (γ (aM w.heap.size 0)))) w'):wpList P ops Q (op::rest) a w:=
 adP H fun K I=>by
  unfold Oper.wp execOp;simp only[j,aaD,aa4,DT w F cs _ B,aaw];exact I _ _ (h _ rfl)
def Dz:(prog.info? 100).map (·.zero)=γ (γ (.agg (bz 18 fun _=>zEn).toArray)):=ah
def KL:(prog.info? 222).map (·.zero)=γ (γ (.agg (ofC 18 fun _=> .int .i64 0))):=ah
structure tY (w:World) (C:Nat->Value) (A:Option Addr) (nb cb:Nat) (Bv:Nat->BrV) (brs:List BrD) (L:Nat->Bool):Prop where
 br:C 0=.slice A nb cb
 arr:Arr w A nb 20 (fun i=>(Bv i).cs)
 len:brs.length=nb
 ab:∀i,i<nb->(Bv i).a=(brs.getD i η).a/\(Bv i).b=(brs.getD i η).b
 z0:∀i,i<nb->GV w (Bv i).z0.v ((brs.getD i η).zs 0) 64
 z1:∀i,i<nb->GV w (Bv i).z1.v ((brs.getD i η).zs 1) 64
 e:∀i,i<nb->GV w (Bv i).e.v (GQ.i (brs.getD i η).emf 0) 64
 live:∀k,k<18->C (15+k)=.bool (L k)
 ok:∀b∈brs,iD b
 l23:brs.length<=23
structure Lp1 (w wr:World) (g8 g9 g10:Nat) (L:Nat->Bool) (i j:Nat):Prop where
 b8:Blk wr g8 100 (bz 18 fun _=>zEn).toArray
 b9:∃f:Nat->En,Blk wr g9 100 (bz 18 f).toArray/\∀k,k<i->GV wr (f k).v (GQ.i 0 0) 64
 b10:fU wr g10 222 18 (fun k=> .int .i64 (if k<j then (rwx L k:Nat) else 0:Int))
 x:Ext w wr
 l8:w.heap.size<=g8
 l9:w.heap.size<=g9/\g8<g9
 l10:w.heap.size<=g10/\g9<g10
section
variable {w wr wr':World} {g8 g9 g10:Nat} {L:Nat->Bool} {i j:Nat}
def Lp1.ext(h:Lp1 w wr g8 g9 g10 L i j)(x:Ext wr wr'):Lp1 w wr' g8 g9 g10 L i j:=by
 obtain⟨f,D,C⟩:=h.b9;exact⟨h.b8.ext x,⟨f,D.ext x,fun k B=>(C k B).ext x⟩,h.b10.ext x,h.x.trans x,h.l8,h.l9,h.l10⟩
def Lp1.there(h:Lp1 w wr g8 g9 g10 L i j){k}(C:k<18):wr.there g9 (k*6) 6:=by
 obtain⟨f,B,_⟩:=h.b9;exact B.there AbX
def Lp1.put(h:Lp1 w wr g8 g9 g10 L i j)(hi:i<18){e:En}(O:GV wr e.v (GQ.i 0 0) 64)(G:wr'=puts wr g9 (i*6) e.cells):Lp1 w wr' g8 g9 g10 L (i+1) j:=by
 subst G;obtain⟨f,F,H⟩:=h.b9;have B:Mod (fun k=>k=g9) wr (puts wr g9 (i*6) e.cells):=Mod.only (gV _ _ _ _) rfl;have hS:Far (fun k=>k=g9) wr:=fun k C _=>by
  obtain rfl:k=g9:=C;exact⟨_,_,F,dD _ _⟩
 have l9:=h.l9;have l10:=h.l10;refine⟨h.b8.mod B (by show ¬g8=g9;omega),⟨upd f i e,?_,fun k C=> ?_⟩,h.b10.mod B (by show ¬g10=g9;omega),fG h.x B (fun k C=>by have C:k=g9:=C;omega),h.l8,h.l9,h.l10⟩
 .rw[<-oo e hi];exact dm _ _ F
 .by_cases D:k=i
  .subst D;rw[upd_same];exact O.mod B hS
  .rw[upd_ne D];exact(H k aa).mod B hS
theorem Lp1.skip(h:Lp1 w wr g8 g9 g10 L i j)(D:L j=ζ):Lp1 w wr g8 g9 g10 L i (j+1):=
 ⟨h.b8,h.b9,h.b10.congr (fun k _=>by
  by_cases B:k<j
  .rw[ι B,ι aa]
  .by_cases C:k=j
   .subst C;rw[θ aa,ι aa];unfold rwx;rw[D];rfl
   .rw[θ B,θ aa]),h.x,h.l8,h.l9,h.l10⟩
theorem Lp1.row(h:Lp1 w wr g8 g9 g10 L i j)(G:j<18)(H:L j=ε):Lp1 w (wr.setCell ⟨g10,j,δ⟩ (.int .i64 (cnt L j:Nat))) g8 g9 g10 L i (j+1):=by
 have C:Mod (fun k=>k=g10) wr (wr.setCell ⟨g10,j,δ⟩ (.int .i64 (cnt L j:Nat))):=Mod.set _ _ _ _ rfl;have l9:=h.l9;have l10:=h.l10;have hS:iB (fun k=>k=g10) wr:=afm h.b10 (fun k _=>rfl) (fun k B=>B);obtain⟨f,F,D⟩:=h.b9;refine⟨h.b8.mod C (by show ¬g8=g10;omega),⟨f,F.mod C (by show ¬g9=g10;omega),fun k B=>(D k B).fQ C hS⟩,(h.b10.set _ G).congr (fun k _=> ?_),fG h.x C (fun k B=>by have B:k=g10:=B;omega),h.l8,h.l9,h.l10⟩;by_cases D:k=j
 .subst D;rw[upd_same,ι aa];unfold rwx;rw[ι H]
 .rw[upd_ne D];by_cases F:k<j
  .rw[ι F,ι aa]
  .rw[θ F,θ aa]
end
def Xf{L i}(h:L i=ε):((cnt L (i+1):Nat):Int)=(cnt L i:Nat)+1:=by
 show((cnt L i+(if L i=ε then 1 else 0):Nat):Int)=_;rw[ι h];rfl
def Tk{L i}(h:L i=ζ):cnt L (i+1)=cnt L i:=by
 show cnt L i+(if L i=ε then 1 else 0)=_;rw[h];rfl
def jM (L:Nat->Bool):List Value:=(List.range 18).map fun k=>Value.bool (L k)
def vk{w C A nb D Bv brs L}(h:tY w C A nb D Bv brs L){j v}(hv:(jM L)[j]? =γ v):C (15+j)=v:=by
 have B:j<18:=by have:=(μ.1 hv).1;simpa[jM] using this
 rw[h.live j B];have e:(jM L)[j]? =γ (.bool (L j)):=by simp[jM,Aa,aaz B]
 rw[e] at hv;injection hv
def vK:(prog.info? 99).map (·.size)=γ (18:Nat):=ah
def RN{L}{k:Nat}(j:k<18)(w):Sem.run prog (Instr.index 99 (.agg (jM L).toArray) (.int .i64 (k:Int))) w=.ok (.bool (L k)) w:=by
 have C:(0:Int)<=k:=aa;have B:(k:Int)<18:=aa;have h:(jM L)[k]? =γ (.bool (L k)):=by simp[jM,Aa,aaz j]
 simp[Instr.index,abl abG,asIntOf,go_sem,isAgg4,sizeOf4,part,h,j]
def x9:(prog.info? 167).map (·.size)=γ (20:Nat):=ah
def WN:List Value:=[.int .i64 0,.int .i64 0,.bool ζ,.slice δ 0 0,.bool ζ,.slice δ 0 0,.bool ζ,.slice δ 0 0,.bool ζ,.slice δ 0 0,.bool ζ,.slice δ 0 0,.bool ζ,.slice δ 0 0,.bool ζ,.slice δ 0 0,.bool ζ,.slice δ 0 0,.bool ζ,.slice δ 0 0]
def zBr:Array Value:=WN.toArray
def MN:(prog.info? 167).map (·.zero)=γ (γ (.agg zBr)):=ah
theorem yY(b:BrV):∀v∈b.cs,v.oneCell'=ε:=by
 intro v hv;unfold BrV.cs at hv;simp only[kC,Ha,aaH] at hv;rcases hv with rfl|rfl|rfl|rfl|rfl|rfl|rfl|rfl|rfl|rfl|rfl|rfl|rfl|rfl|rfl|rfl|rfl|rfl|rfl|rfl<;>rfl
def iF(l B:List Value)(h:l.length=B.length):gJ l.toArray 0 B=B.toArray:=by
 rw[jR,abm,aa8,χ aa,adk aa,Z6]
def Rz{w g}{b:BrV}(h:Blk w g 167 zBr):Blk (puts w g 0 b.cs) g 167 b.cs.toArray:=by
 have j:Blk (puts w g 0 b.cs) g 167 (gJ WN.toArray 0 b.cs):=dm 0 b.cs h;rw[iF WN b.cs rfl] at j;exact j
def CP{α:Type}[Inhabited α]{l:List α}{i}(h:i<l.length):l.getD i η∈l:=by
 rw[π,ν h];exact abt _
def Lp:(prog.info? 222).map (·.size)=γ (18:Nat):=ah
def Lp1.rng{w wr g8 g9 g10 L i}(h:Lp1 w wr g8 g9 g10 L i 18):wr.rangeAt g10 0 ((List.range 18).map fun k=>Value.int .i64 (rwx L k:Nat)):=by
 intro j v hv;have B:j<18:=by have:=(μ.1 hv).1;simpa using this
 rw[aaC];refine h.b10.cell_ B ?_;have e:((List.range 18).map fun k=>Value.int .i64 ((rwx L k:Nat):Int))[j]? =γ (.int .i64 (rwx L j:Nat)):=by simp[Aa,aaz B]
 rw[e] at hv;injection hv with hv;rw[<-hv];simp only[ι B]
def Rws (n:Nat) (R:Nat->Rw):Nat->Prop:=fun g=>∃i,i<n/\g=(R i).b
structure Lp2 (w wr:World) (g8 g9 g10 Ga Gb:Nat) (L:Nat->Bool) (n:Nat) (Ra Rb:Nat->Rw) (X Y:Nat->Nat->GQ):Prop where
 p1:Lp1 w wr g8 g9 g10 L 18 18
 a:MxI wr Ga n n (Rws n Ra) Ra X
 b:MxI wr Gb n 1 (Rws n Rb) Rb Y
 own:∀k,Rws n Ra k\/Rws n Rb k->w.heap.size<=k/\g10<k/\k≠Ga/\k≠Gb
 dj:∀k,Rws n Ra k->¬Rws n Rb k
section
variable {w wr wr':World} {g8 g9 g10 Ga Gb:Nat} {L:Nat->Bool} {n i j:Nat} {Ra Rb:Nat->Rw} {X Y X' Y':Nat->Nat->GQ}
def Lp1.mod{S}(h:Lp1 w wr g8 g9 g10 L i j)(m:Mod S wr wr')(hS:Far S wr)(B:∀k,S k->w.heap.size<=k/\g10<k):Lp1 w wr' g8 g9 g10 L i j:=by
 obtain⟨f,F,D⟩:=h.b9;have l9:=h.l9;have l10:=h.l10;have H:¬S g8:=fun e=>by have:=(B _ e).2;omega
 have G:¬S g9:=fun e=>by have:=(B _ e).2;omega
 have P:¬S g10:=fun e=>by have:=(B _ e).2;omega
 exact⟨h.b8.mod m H,⟨f,F.mod m G,fun k C=>(D k C).mod m hS⟩,h.b10.mod m P,fG h.x m (fun k C=>(B k C).1),h.l8,h.l9,h.l10⟩
def Lp2.far(h:Lp2 w wr g8 g9 g10 Ga Gb L n Ra Rb X Y):Far (fun k=>Rws n Ra k\/Rws n Rb k) wr:=by
 intro g j _;rcases j with ⟨i,hi,rfl⟩|⟨i,hi,rfl⟩
 .obtain⟨f,hb,_⟩:=(h.a.row i hi aa).2;exact⟨_,_,hb,dD _ _⟩
 .obtain⟨f,hb,_⟩:=(h.b.row i hi aa).2;exact⟨_,_,hb,dD _ _⟩
def Lp2.ext(h:Lp2 w wr g8 g9 g10 Ga Gb L n Ra Rb X Y)(x:Ext wr wr'):Lp2 w wr' g8 g9 g10 Ga Gb L n Ra Rb X Y:=⟨h.p1.ext x,h.a.ext x,h.b.ext x,h.own,h.dj⟩
def Lp2.step(h:Lp2 w wr g8 g9 g10 Ga Gb L n Ra Rb X Y)(ha:MxI wr' Ga n n (Rws n Ra) Ra X')(hb:MxI wr' Gb n 1 (Rws n Rb) Rb Y')(B:Mod (fun k=>Rws n Ra k\/Rws n Rb k) wr wr'):Lp2 w wr' g8 g9 g10 Ga Gb L n Ra Rb X' Y':=
 ⟨h.p1.mod B h.far (fun k j=>⟨(h.own k j).1,(h.own k j).2.1⟩),ha,hb,h.own,h.dj⟩
def agu{D I}(h:Lp1 w wr g8 g9 g10 L 18 18)(ha:DI wr D Ga n n n (fun _ _=>GQ.i 0 0) Ra)(hb:DI D I Gb n 1 n (fun _ _=>GQ.i 0 0) Rb):Lp2 w I g8 g9 g10 Ga Gb L n Ra Rb zmx (fun _ _=>GQ.i 0 0):=by
 have M:=h.b10.lt;have J:=h.x.size;have la (i:Nat) (hi:i<n):(Ra i).b<D.heap.size:=by
  obtain⟨f,C,_⟩:=(ha.row i hi).2.1;exact C.lt
 have B:Ga<D.heap.size:=ha.o.lt;refine⟨(h.ext ha.ext).ext hb.ext,ha.mx hb.ext,hb.mx (Ext.refl _),fun k G=> ?_,fun k G F=> ?_⟩
 .rcases G with ⟨i,hi,rfl⟩|⟨i,hi,rfl⟩
  .have H:=(ha.row i hi).2.2;have K:=la i hi;have P:=hb.gx;refine⟨aa,aa,fun e=> ?_,aa⟩;obtain⟨f,C,_⟩:=(ha.row i hi).2.1;exact ha.o.fw C aj e.symm
  .have H:=(hb.row i hi).2.2;have O:=ha.ext.size;refine⟨aa,aa,aa,fun e=> ?_⟩;obtain⟨f,C,_⟩:=(hb.row i hi).2.1;exact hb.o.fw C aj e.symm
 .obtain⟨i,hi,rfl⟩:=G;obtain⟨j,N,e⟩:=F;have H:=la i hi;have K:=(hb.row j N).2.2;omega
end
theorem PU{w wq gx gf sq nb R C A Bv brs g8 g9 g10 Ga Gb n i Ra Rb}(hn:tY w C A nb R Bv brs (lv brs))(hc:dz wq gf)(h:Lp2 w wq g8 g9 g10 Ga Gb (lv brs) n Ra Rb (eqA (lv brs) sq brs i) (eqB (lv brs) sq brs i))(S:cnt (lv brs) 18=n)(hi:i<brs.length)(K:used (lv brs) (brs.getD i η)=ε)(H:sq<=1)(j:gf<w.heap.size):
  Calls prog 158 #[aN gx 0,aN gf 0,aO (γ (aM Ga 0)) n n,aO (γ (aM Gb 0)) n n,.agg (ofC 18 (fun k=> .int .i64 (rwx (lv brs) k:Nat))),.agg #[((Bv i).a:Int),((Bv i).b:Int),.bool (Bv i).z0.s1,aO (Bv i).z0.A1 (Bv i).z0.n1 (Bv i).z0.c1,.bool (Bv i).z0.s2,aO (Bv i).z0.A2 (Bv i).z0.n2 (Bv i).z0.c2,.bool (Bv i).z0.s3,aO (Bv i).z0.A3 (Bv i).z0.n3 (Bv i).z0.c3,.bool (Bv i).z1.s1,aO (Bv i).z1.A1 (Bv i).z1.n1 (Bv i).z1.c1,.bool (Bv i).z1.s2,aO (Bv i).z1.A2 (Bv i).z1.n2 (Bv i).z1.c2,.bool (Bv i).z1.s3,aO (Bv i).z1.A3 (Bv i).z1.n3 (Bv i).z1.c3,.bool (Bv i).e.s1,aO (Bv i).e.A1 (Bv i).e.n1 (Bv i).e.c1,.bool (Bv i).e.s2,aO (Bv i).e.A2 (Bv i).e.n2 (Bv i).e.c2,.bool (Bv i).e.s3,aO (Bv i).e.A3 (Bv i).e.n3 (Bv i).e.c3],(sq:Int)] wq
   fun e w'=>e=.returned (.tuple #[])/\Lp2 w w' g8 g9 g10 Ga Gb (lv brs) n Ra Rb (eqA (lv brs) sq brs (i+1)) (eqB (lv brs) sq brs (i+1)):=by
 have Y:=hn.len;have N:brs.getD i η∈brs:=CP hi;have F:=hn.ok _ N;have B:=hn.ab i aa;have P:=yG hn.ok;have D:=K;unfold used at D;simp only[υ,Δ] at D;have J:Rwx (lv brs) (rwx (lv brs)) n:=S ▸ afe (fun k G=>vP hn.ok G);have Q:GV wq ((Bv i).z sq).v ((brs.getD i η).zs sq) 64:=by
  have hs:sq=0\/sq=1:=aa;rcases hs with rfl|rfl
  .exact(hn.z0 i aa).ext h.p1.x
  .exact(hn.z1 i aa).ext h.p1.x
 have L:(Bv i).b=17\/(Bv i).b<17/\rwx (lv brs) (Bv i).b<n/\rwx (lv brs) (Bv i).a≠rwx (lv brs) (Bv i).b:=by
  by_cases e:(Bv i).b=17
  .exact Or.inl e
  .have hb:lv brs (brs.getD i η).b=ε:=(P.closed _ N (Or.inr (Or.inl D.1))).2 (by rw[<-B.2];exact e);refine Or.inr ⟨by rw[B.2];exact vP hn.ok hb,by rw[B.2];exact J.lt _ hb,fun M=> ?_⟩;rw[B.1,B.2] at M;exact D.2 (J.inj _ _ D.1 hb M)
 have Z:=hn.l23;refine(UX gx gf Ga Gb n sq (64+110*i) 40 64 (64+110*i) 64 (Rws n Ra) (Rws n Rb) Ra Rb (eqA (lv brs) sq brs i) (eqB (lv brs) sq brs i) (rwx (lv brs)) (Bv i) ((brs.getD i η).zs sq) (GQ.i (brs.getD i η).emf 0) wq hc h.a h.b
  (fun k G=>⟨by have:=(h.own k G).1;omega,(h.own k G).2.2.1,(h.own k G).2.2.2⟩) h.dj H Q (F.ne sq) ((hn.e i aa).ext h.p1.x) (by rw[B.1];exact F.a) (by rw[B.1];exact J.lt _ D.1) L (Wt F sq)
  (fun p q _ _=>Rm hn.ok i aa p q) (fun p _=>QO hn.ok i aa p 0) aa aa aa aa aa).mono ?_
 rintro e w' ⟨O,ha,hb,I⟩;refine⟨O,h.step ?_ ?_ I⟩
 .rw[Ri hi K];rw[B.1,B.2] at ha;exact ha
 .refine hb.congr (fun p q _ _=> ?_);rw[Sy hi K,B.1,B.2]
def LA{F wd j C n r Rc}(hd:DI F wd C n 1 n (fun _ _=>GQ.i 0 0) Rc)(x:Ext wd j)(D:r<n):j.there (Rc r).b 0 6:=by
 obtain⟨f,B,_⟩:=(hd.row r D).2.1;exact(B.ext x).there AbX
def SE{w F wd G C g8 g9 g10 Ga H n r L Pa Ra Rc X}(p1:Lp1 w F g8 g9 g10 L 18 18)(ha:MxI F Ga n n Pa Ra X)(hd:DI F wd H n 1 n (fun _ _=>GQ.i 0 0) Rc)(x:Ext wd G)(J:r<n){e:En}(O:GV G e.v (GQ.i 1 0) 64)(P:C=puts G (Rc r).b 0 e.cells):Lp1 w C g8 g9 g10 L 18 18/\MxI C Ga n n Pa Ra X/\MxI C H n 1 (Rws n Rc) Rc (col (unit r)):=by
 have Q:=hd.mx x;have N:=hd.ext.trans x;obtain⟨I,D,K,_⟩:=Q.put (j:=0) J aa (O.up aa);rw[aaV,<-P] at I D;have R:=(hd.row r J).2.2;have l10:=p1.b10.lt;have lx:=p1.x.size;refine⟨(p1.ext N).mod D K (fun k B=> ?_),(ha.ext N).mod D K (fun B=> ?_) (fun j M hn B=> ?_),I.congr (fun i j hi M=> ?_)⟩
 .have B:k=(Rc r).b:=B;omega
 .have B:Ga=(Rc r).b:=B;have:=ha.o.lt;omega
 .have B:(Ra j).b=(Rc r).b:=B;have:=ha.rb M hn;omega
 .obtain rfl:j=0:=aa;by_cases e:i=r
  .subst e;rw[upd_same,upd_same];simp[col,unit]
  .rw[upd_ne e];simp[col,unit,e]
structure Lp3 (w wr:World) (g8 g9 g10 G:Nat) (L:Nat->Bool) (n:Nat) (RX:Nat->Rw) (X:Nat->Nat->GQ) (i:Nat):Prop where
 b8:Blk wr g8 100 (bz 18 fun _=>zEn).toArray
 b9:∃f:Nat->En,Blk wr g9 100 (bz 18 f).toArray/\∀k,k<18->GV wr (f k).v (if k<i then (if L k=ε then X (rwx L k) 0 else GQ.i 0 0) else GQ.i 0 0) 12800
 b10:fU wr g10 222 18 (fun k=> .int .i64 (if k<18 then (rwx L k:Nat) else 0:Int))
 x:Ext w wr
 l8:w.heap.size<=g8
 l9:w.heap.size<=g9/\g8<g9
 l10:w.heap.size<=g10/\g9<g10
 o:Out wr G n 1 RX X
section
variable {w wr wr':World} {g8 g9 g10 G n i:Nat} {L:Nat->Bool} {RX:Nat->Rw} {X:Nat->Nat->GQ}
def afP(h:Lp1 w wr g8 g9 g10 L 18 18)(B:Out wr G n 1 RX X):Lp3 w wr g8 g9 g10 G L n RX X 0:=by
 obtain⟨f,D,C⟩:=h.b9;exact⟨h.b8,⟨f,D,fun k j=>by rw[θ aa];exact(C k j).up aa⟩,h.b10,h.x,h.l8,h.l9,h.l10,B⟩
def Lp3.skip(h:Lp3 w wr g8 g9 g10 G L n RX X i)(H:L i=ζ):Lp3 w wr g8 g9 g10 G L n RX X (i+1):=by
 obtain⟨f,F,D⟩:=h.b9;refine⟨h.b8,⟨f,F,fun k C=> ?_⟩,h.b10,h.x,h.l8,h.l9,h.l10,h.o⟩;have j:=D k C;by_cases e:k=i
 .subst e;rw[θ aa] at j;rw[ι aa,H];exact j
 .by_cases B:k<i
  .rw[ι B] at j;rw[ι aa];exact j
  .rw[θ B] at j;rw[θ aa];exact j
theorem Lp3.hd(h:Lp3 w wr g8 g9 g10 G L n RX X i){r}(j:r<n):wr.cell? (aM G r)=γ (.slice (γ (aM ((RX r).b) 0)) (1:Nat) (1:Nat)):=by
 obtain⟨C,B,D,_⟩:=h.o.row r j;rw[h.o.x.cell,jq j];unfold Rw.v;rw[C,B,D]
def Lp3.en(h:Lp3 w wr g8 g9 g10 G L n RX X i){r}(B:r<n):∃e:En,GV wr e.v (X r 0) 12800/\∀t u,e.cells[t]? =γ u->wr.cell? (aM ((RX r).b) t)=γ u:=by
 obtain⟨f,hb,J⟩:=(h.o.row r B).2.2.2;refine⟨f 0,J 0 aa,fun t u j=> ?_⟩;have C:t<6:=(μ.1 j).1;have:=dY (f:=f) C (show 0<1 by omega);exact Abt
def Lp3.there(h:Lp3 w wr g8 g9 g10 G L n RX X i){k}(B:k<18):wr.there g9 (k*6) 6:=by
 obtain⟨f,j,_⟩:=h.b9;exact j.there AbX
def Lp3.put(h:Lp3 w wr g8 g9 g10 G L n RX X i)(hi:i<18)(N:L i=ε){e:En}(O:GV wr e.v (X (rwx L i) 0) 12800)(P:wr'=puts wr g9 (i*6) e.cells):Lp3 w wr' g8 g9 g10 G L n RX X (i+1):=by
 subst P;obtain⟨f,F,K⟩:=h.b9;have j:Mod (fun k=>k=g9) wr (puts wr g9 (i*6) e.cells):=Mod.only (gV _ _ _ _) rfl;have hS:Far (fun k=>k=g9) wr:=fun k B _=>by
  obtain rfl:k=g9:=B;exact⟨_,_,F,dD _ _⟩
 have l9:=h.l9;have l10:=h.l10;refine⟨h.b8.mod j (by show ¬g8=g9;omega),⟨upd f i e,?_,fun k B=> ?_⟩,h.b10.mod j (by show ¬g10=g9;omega),fG h.x j (fun k B=>by have B:k=g9:=B;omega),h.l8,h.l9,h.l10,h.o.x.mod j (fun C=>h.o.x.fw F aj C),fun r Q=> ?_⟩
 .rw[<-oo e hi];exact dm _ _ F
 .by_cases D:k=i
  .subst D;rw[upd_same,ι aa,ι N];exact O.mod j hS
  .rw[upd_ne D];have H:=(K k B).mod j hS;by_cases C:k<i
   .rw[ι C] at H;rw[ι aa];exact H
   .rw[θ C] at H;rw[θ aa];exact H
 .obtain⟨R,S,M,J⟩:=h.o.row r Q;refine⟨R,S,M,J.mod j hS (fun C=> ?_)⟩;obtain⟨T,I,_⟩:=J;exact I.fw F aj C
def uo(f):(prog.info? 100).map (·.size)=γ (bz 18 f).length:=by rw[bM];kernel_rfl
def N9(f):(prog.info? 100).map (·.size)=γ (bz 18 f).toArray.size:=by rw[xx];exact uo f
def Lp3.fin(h:Lp3 w wr g8 g9 g10 G L n RX X 18){f}(hb:Blk wr g9 100 (bz 18 f).toArray)(hv:∀k,k<18->GV wr (f k).v (if k<18 then (if L k=ε then X (rwx L k) 0 else GQ.i 0 0) else GQ.i 0 0) 12800)(D:wr'=puts wr g8 0 (bz 18 f)):
  Blk wr' g8 100 (bz 18 f).toArray/\Ext w wr'/\∀k,k<18->GV wr' (f k).v (if L k=ε then X (rwx L k) 0 else GQ.i 0 0) 12800:=by
 subst D;have B:Mod (fun k=>k=g8) wr (puts wr g8 0 (bz 18 f)):=Mod.only (gV _ _ _ _) rfl;have hS:Far (fun k=>k=g8) wr:=fun k j _=>by
  obtain rfl:k=g8:=j;exact⟨_,_,h.b8,dD _ _⟩
 have l8:=h.l8;refine⟨?_,fG h.x B (fun k j=>by have j:k=g8:=j;omega),fun k j=> ?_⟩
 .have:=dm 0 (bz 18 f) h.b8;exact Abw
 .have C:=(hv k j).mod B hS;rw[ι j] at C;exact C
end
def TT{brs sq n k v}(hb:∀b∈brs,iD b)(Z:brs.length<=23)(hv:D6 (rwx (lv brs)) (usd (lv brs) sq brs) v)(S:cnt (lv brs) 18=n)(j:k<18):
  Bd (if lv brs k=ε then sol n (fM zmx ((usd (lv brs) sq brs).map (Nb.br (rwx (lv brs))))) (col v) (rwx (lv brs) k) 0 else GQ.i 0 0) 841:=by
 by_cases h:lv brs k=ε
 .rw[ι h];exact LY hb Z hv S (by rw[<-S];exact(afe (fun k j=>vP hb j)).lt _ h)
 .rw[θ h];exact Aa7
def fT (C:Nat->Value) (E:Nat->En) (i:Nat):Value:=if i<33 then C i else ((E ((i-33)/6)).cells[(i-33)%6]?).getD undef
theorem dU{C E i}(h:i<33):fT C E i=C i:=by unfold fT;rw[ι h]
theorem rE{C E e t u}(h:(E e).cells[t]? =γ u):fT C E (33+e*6+t)=u:=by
 have j:t<6:=(μ.1 h).1;unfold fT;rw[θ aa,show(33+e*6+t-33)/6=e by omega,show(33+e*6+t-33)%6=t by omega,h];rfl
def sS(e:En):e.cells.length=6:=rfl
theorem LK{C E e}(x i):Gf (fT C E) (33+e*6) x.cells i=fT C (upd E e x) i:=by
 by_cases h:33+e*6<=i/\i<33+e*6+6
 .obtain⟨t,rfl⟩:∃t,i=33+e*6+t:=⟨i-(33+e*6),aa⟩;have D:t<6:=aa;have B:x.cells[t]? =γ (x.cells[t]'Abo):=ν _;rw[rE (E:=upd E e x) (u:=x.cells[t]'Abo) (by rw[upd_same];exact B)];exact Nj _ B
 .rw[F8 _ Abo];unfold fT;by_cases j:i<33
  .rw[ι j,ι j]
  .rw[θ j,θ j,upd_ne aa]
theorem p9{C E}(T:∀i,i<33->nX (C i)=ε)(i):nX (fT C E i)=ε:=by
 unfold fT;by_cases h:i<33
 .rw[ι h];exact T i h
 .rw[θ h];have:(i-33)%6<6:=pu _ aa;generalize (i-33)%6=t at this
  match t,this with
  |0,_=>rfl
  |1,_=>rfl
  |2,_=>rfl
  |3,_=>rfl
  |4,_=>rfl
  |5,_=>rfl
structure GrS (w0 w:World) (gx gf:Nat) (C:Nat->Value) (E:Nat->En) (D:Nat->Prop) (Q:Nat->GQ) (N:Nat):Prop where
 b:fU w gx 105 393 (fT C E)
 v:∀e,e<60->D e->GV w (E e).v (Q e) N
 m:Mod (fun k=>k=gx) w0 w
 f:dz w gf
 n:∀i,i<33->nX (C i)=ε
section
variable {w0 w w':World} {gx gf N:Nat} {C:Nat->Value} {E:Nat->En} {D D':Nat->Prop} {Q Q':Nat->GQ}
def GrS.ext(h:GrS w0 w gx gf C E D Q N)(x:Ext w w'):GrS w0 w' gx gf C E D Q N:=⟨h.b.ext x,fun e O hd=>(h.v e O hd).ext x,h.m.trans (ae0 x),h.f.ext x,h.n⟩
def GrS.far(h:GrS w0 w gx gf C E D Q N):iB (fun k=>k=gx) w:=afm h.b (fun k _=>p9 h.n k) (fun k j=>j)
def GrS.there(h:GrS w0 w gx gf C E D Q N){e}(O:e<60):w.there gx (33+e*6) 6:=h.b.there aa
def GrS.to(h:GrS w0 w gx gf C E D Q N)(hd:∀e,e<60->D' e->D e/\Q e=Q' e):GrS w0 w gx gf C E D' Q' N:=
 ⟨h.b,fun e O hd'=>by rw[<-(hd e O hd').2];exact h.v e O (hd e O hd').1,h.m,h.f,h.n⟩
def GrS.Jk(h:GrS w0 w gx gf C E D Q N)(j:Mod (fun k=>k=gx) w w'){v q n}(hv:GV w v q n):GV w' v q n:=hv.fQ j h.far
def GrS.put(h:GrS w0 w gx gf C E D Q N){e x q}(O:e<60)(J:GV w x.v q N)(G:w'=puts w gx (33+e*6) x.cells):
  GrS w0 w' gx gf C (upd E e x) (fun k=>k=e\/D k) (upd Q e q) N/\Mod (fun k=>k=gx) w w':=by
 have B:Mod (fun k=>k=gx) w w':=by rw[G];exact Mod.puts _ _ _ _ rfl
 have F:gf≠gx:=Blk.fw h.f h.b aj;refine⟨⟨?_,fun k H hd=> ?_,h.m.trans B,Blk.mod h.f B F,h.n⟩,B⟩
 .rw[G];exact(h.b.puts x.cells Abo).congr (fun k _=>LK x k)
 .by_cases j:k=e
  .subst j;rw[upd_same,upd_same];exact J.fQ B h.far
  .rw[upd_ne j,upd_ne j];exact(h.v k H (hd.resolve_left j)).fQ B h.far
end
theorem Arr.mod{S w w' A n k f}(h:Arr w A n k f)(m:Mod S w w')(B:∀b o,A=γ ⟨b,o,δ⟩->¬S b):Arr w' A n k f:=fun hn=>by
 obtain⟨b,o,e,hb,hc⟩:=h hn;exact⟨b,o,e,ο hb m.size,fun i hi t u C=>(by
  have j:=hc i hi t u C;unfold World.cell? at j⊢;simp only[m.block b hb (B b o e)];exact j)⟩
def tY.mod{w w' gx C C' A nb B Bv brs L}(h:tY w C A nb B Bv brs L)(m:Mod (fun k=>k=gx) w w')(j:iB (fun k=>k=gx) w)(F:∀b o,A=γ ⟨b,o,δ⟩->b≠gx)(T:∀i,i<33->C' i=C i):tY w' C' A nb B Bv brs L:=
 ⟨by rw[T 0 aa];exact h.br,h.arr.mod m F,h.len,h.ab,fun i hi=>(h.z0 i hi).fQ m j,fun i hi=>(h.z1 i hi).fQ m j,fun i hi=>(h.e i hi).fQ m j,fun k D=>by rw[T _ aa];exact h.live k D,h.ok,h.l23⟩
def bF{P ops rest op a w Q}(H:op.guard=δ)(F)(j:op.op=.alloc F)(cs)(B:(P.info? F).map (·.zero)=γ (γ (.agg cs)))(h:∀w',Hid (w'=w.alloc (.cells cs F))->wpList P ops Q rest (a.put op.dst (.pointer (γ (aM w.heap.size 0)))) w'):wpList P ops Q (op::rest) a w:=gD H F j cs B (fun w' e=>h w' (aW e))
def aY{P ops rest op a w Q}(H:op.guard=δ)(F)(x y:Operand)(C:op.op=.store F x y)(b o cells)(J:a.eval x=.pointer (γ (aM b o)))(R:a.eval y=.agg cells.toArray)(j:w.there b o cells.length)(hi:(P.info? F).map (·.size)=γ cells.length)(B:∀v∈cells,v.oneCell'=ε)(h:∀w',Hid (w'=puts w b o cells)->wpList P ops Q rest (a.put op.dst undef) w'):wpList P ops Q (op::rest) a w:=bG H F x y C b o cells J R j hi B (fun w' e=>h w' (aW e))
def eU(w:World)(o:Obj):(w.alloc o).heap.size=w.heap.size+1:=ag
def uY:(prog.info? 102).map (·.zero)=γ (γ (.agg (bz 3 fun _=>zEn).toArray)):=ah
def j3(f):(prog.info? 102).map (·.size)=γ (bz 3 f).length:=by rw[bM];kernel_rfl
def pF(f):(prog.info? 102).map (·.size)=γ (bz 3 f).toArray.size:=by rw[xx];exact j3 f
def Blk.rng{w g t cs}(h:Blk w g t cs.toArray):w.rangeAt g 0 cs:=fun t v hv=>by
 rw[aaC];exact(h.cell t).trans (by rw[Γ];exact hv)
def fU.en{w gx e C E}(h:fU w gx 105 393 (fT C E))(O:e<60){a}(ha:a=33+e*6):w.rangeAt gx a (E e).cells:=fun t v hv=>by
 subst ha;exact h.cell_ (by have:=(μ.1 hv).1;rw[sS] at this;omega) (rE hv)
structure AtS (w wr:World) (n:Nat) (t:TypeId) (g4 g5:Nat) (f:Nat->En):Prop where
 b4:Blk wr g4 t (bz n fun _=>zEn).toArray
 b5:Blk wr g5 t (bz n f).toArray
 x:Ext w wr
 l4:w.heap.size<=g4
 l5:g4<g5
section
variable {w w1 w2 wr wr':World} {g4 g5 n:Nat} {t:TypeId} {f f':Nat->En}
def afQ(x:Ext w w1)(j:w2=(w1.alloc (.cells (bz n fun _=>zEn).toArray t)).alloc (.cells (bz n fun _=>zEn).toArray t)):AtS w w2 n t w1.heap.size (w1.heap.size+1) (fun _=>zEn):=by
 subst j;exact⟨(Blk.new _ _ _).alloc _,by have:=Blk.new (w1.alloc (.cells (bz n fun _=>zEn).toArray t)) t (bz n fun _=>zEn).toArray;simpa using this,(x.trans (Ext.new _ _)).trans (Ext.new _ _),x.size,abr _⟩
def AtS.ext(h:AtS w wr n t g4 g5 f)(x:Ext wr wr'):AtS w wr' n t g4 g5 f:=⟨h.b4.ext x,h.b5.ext x,h.x.trans x,h.l4,h.l5⟩
def AtS.to(h:AtS w wr n t g4 g5 f)(j:∀k,k<n->f k=f' k):AtS w wr n t g4 g5 f':=⟨h.b4,by rw[<-BL j];exact h.b5,h.x,h.l4,h.l5⟩
def AtS.there(h:AtS w wr n t g4 g5 f){i}(hi:i<n):wr.there g5 (i*6) 6:=h.b5.there AbX
def AtS.far(h:AtS w wr n t g4 g5 f):Far (fun k=>k=g5) wr:=fun k j _=>by
 obtain rfl:k=g5:=j;exact⟨_,_,h.b5,dD _ _⟩
def AtS.put(h:AtS w wr n t g4 g5 f){i a}(hi:i<n)(e)(ha:a=i*6)(C:wr'=puts wr g5 a e.cells):AtS w wr' n t g4 g5 (upd f i e)/\Mod (fun k=>k=g5) wr wr':=by
 subst C;subst ha;have j:Mod (fun k=>k=g5) wr (puts wr g5 (i*6) e.cells):=Mod.puts _ _ _ _ rfl;have l4:=h.l4;have l5:=h.l5;refine⟨⟨h.b4.mod j (by show ¬g4=g5;omega),?_,fG h.x j (fun k B=>by have B:k=g5:=B;omega),h.l4,h.l5⟩,j⟩;have:=dm (i*6) e.cells h.b5;rw[oo e hi] at this;exact this
def AtS.fin(h:AtS w wr n t g4 g5 f)(C:wr'=puts wr g4 0 (bz n f)):Blk wr' g4 t (bz n f).toArray/\Ext w wr'/\∀v q m,GV wr v q m->GV wr' v q m:=by
 subst C;have B:Mod (fun k=>k=g4) wr (puts wr g4 0 (bz n f)):=Mod.puts _ _ _ _ rfl;have l4:=h.l4;refine⟨?_,fG h.x B (fun k j=>by have j:k=g4:=j;omega),fun v q m hv=>hv.mod B (fun k j _=>by
  obtain rfl:k=g4:=j;exact⟨_,_,h.b4,dD _ _⟩)⟩
 have:=dm 0 (bz n f) h.b4;exact Abw
end
def Xm(gx node:Nat)(C E w)(K:fU w gx 105 393 (fT C E))(hn:node<=17):
  CE 47 #[aN gx 0,(node:Int)] w (.agg (bz 3 fun k=>E (k*18+node)).toArray):=by
 have S:=aW K;have M:=aW hn;clear K hn;go_enter func47,ntmps47;(go_wp2_with (refine bF rfl 102 rfl _ uY (fun w1 G=>Hid.o ?_)));refine Qz ?_;replace G:=Hid.o G;subst G;(go_wp2_with (refine bF rfl 102 rfl _ uY (fun w2 G=>Hid.o ?_)));refine Qz ?_;replace G:=Hid.o G;have H:=aW (afQ (n:=3) (t:=102) (Ext.refl w) G);clear G;(try simp only[eU]);generalize w.heap.size+1=g5 at H⊢;generalize w.heap.size=g4 at H⊢;go_wp2_with fail
 go_loopw [7] (fun iv wr=>∃i:Nat,i<=3/\iv=.int .i64 i/\AtS w wr 3 102 g4 g5 (fun k=>if k<i then E (k*18+node) else zEn)) (aT 3)
 case atStart=>exact⟨0,aa,rfl,H.to (fun k _=>by rw[θ aa])⟩
 case round=>
  clear H;rename World=>wr;obtain⟨i,hi,rfl,P⟩:=hrel;have Q:=aW P;clear P;by_cases D:i<3
  .have hd:decide ((i:Int)<3)=ε:=ae;have q1:(0:Int)<=i:=aa;have q2:(i:Int)<3:=aa;have V:(0:Int)<=node:=aa;have W:(node:Int)<18:=by have:=M.o;omega
   obtain⟨e,O⟩:∃e,E (i*18+node)=e:=⟨_,rfl⟩;have U:=aW O;have B:Hid (wr.rangeAt gx (33+i*108+node*6) e.cells):=aW (by rw[<-O];exact(S.ext Q.x).en (e:=i*18+node) (by have:=M.o;omega) aa);have N:=aW (Q.there D);clear O;(go_wp2_with (refine σ rfl 42 _ rfl gx (33+i*108+node*6) rf (e.cells) _ B.o abH rfl cO (Hid.o ?_)));refine Qz ?_;(iterate 3 (try (first|go_values|go_skip|go_guarded|go_step|go_upon|go_in|go_back|go_simp)));refine aY rfl 42 (.tmp 19) (.tmp 18) rfl g5 (i*6) (e.cells) rf rf N.o cO (eP e) (fun T G=> ?_);refine Qp ?_;replace G:=Hid.o G;have j:=aW ((Q.put D e rfl G).1.to (f':=fun k=>if k<i+1 then E (k*18+node) else zEn) (fun k _=>by
    by_cases L:k=i
    .subst L;rw[upd_same,ι aa,U.o]
    .rw[upd_ne L];by_cases J:k<i
     .rw[ι J,ι aa]
     .rw[θ J,θ aa]))
   clear Q B N G;go_wp2_with fail
   go_roundw
   case rel=>exact⟨i+1,aa,au,j.o⟩
   case measure=>exact aV
  .obtain rfl:i=3:=aa;have hd:decide ((3:Int)<3)=ζ:=aj;obtain⟨f,I⟩:∃f:Nat->En,(fun k=>E (k*18+node))=f:=⟨_,rfl⟩;have j:=aW (Q.to (f':=f) (fun k R=>by rw[ι R,<-I]));have Y:=aW I;clear I Q;have B:=aW j.b5.rng;have N:Hid (wr.there g4 0 (bz 3 f).length):=aW (j.b4.there AbQ);(go_wp2_with (refine σ rfl 102 _ rfl g5 (0) rf (bz 3 f) _ B.o z8 rfl (j3 _) (Hid.o ?_)));refine Qz ?_;refine aY rfl 102 (.tmp 4) (.tmp 21) rfl g4 (0) (bz 3 f) rf rf N.o (j3 _) (dN 3 _) (fun T G=> ?_);refine Qp ?_;replace G:=Hid.o G;have F:=aW (j.fin G);clear G;go_wp2_with fail;exact jo rfl rfl rf F.o.1 z8 rfl (pF _) ⟨by rw[Y.o],F.o.2.1⟩
noncomputable def bef (bs:List BrD) (k:Nat):GQ:=nE (lv bs) (rwx (lv bs)) (cnt (lv bs) 18) (usd (lv bs) 1 bs) (feed (rwx (lv bs)) (usd (lv bs) 1 bs)) k
noncomputable def drp (bs:List BrD) (fN s k:Nat):GQ:=nE (lv bs) (rwx (lv bs)) (cnt (lv bs) 18) (usd (lv bs) s bs) (unit (rwx (lv bs) fN)) k
noncomputable def fcu (bs:List BrD) (fN:Nat) (kind r:Int) (n:Nat):GQ:=oW kind (bef bs fN) (drp bs fN 1 fN) (drp bs fN 0 fN) (GQ.i r 0) n
noncomputable def vbe (bs:List BrD) (n k:Nat):GQ:=if n=1 then bef bs k else GQ.i 0 0
noncomputable def vlt (bs:List BrD) (fN:Nat) (kind r:Int) (n k:Nat):GQ:=vbe bs n k-fcu bs fN kind r n*drp bs fN (min n 1) k
section
variable {bs:List BrD} {fN:Nat}
theorem PY(hb:∀b∈bs,iD b)(Z:bs.length<=23)(k):Bd (bef bs k) 841:=by
 unfold bef;by_cases h:lv bs k=ε
 .rw[tK h];exact LY hb Z (Or.inl rfl) rfl ((afe (fun k j=>vP hb j)).lt _ h)
 .rw[mG Ach];exact Aa7
theorem QT(hb:∀b∈bs,iD b)(Z:bs.length<=23)(s k):Bd (drp bs fN s k) 841:=by
 unfold drp;by_cases h:lv bs k=ε
 .rw[tK h];exact LY hb Z (Or.inr ⟨_,rfl⟩) rfl ((afe (fun k j=>vP hb j)).lt _ h)
 .rw[mG Ach];exact Aa7
def WJ(hb:∀b∈bs,iD b)(Z:bs.length<=23)(s fN):∃M,M≠GQ.i 0 0/\Wh M (q2 420)/\(∀k,s=1->Wh (M*bef bs k) (q2 420))/\∀k,Wh (M*drp bs fN s k) (q2 420):=by
 obtain⟨D,B⟩:=QD hb Z (lv bs) s;obtain⟨M,G,C,F,j⟩:=(uK hb s).den B (GR (yG hb).none) D (rwx (lv bs) fN);rw[<-Q8];exact⟨M,G,C,fun k hs=>by subst hs;exact F k,j⟩
def FT(hb:∀b∈bs,iD b)(Z:bs.length<=23)(B:lv bs fN=ε):∃M0 M1,Seen M0 M1 (bef bs fN) (drp bs fN 1 fN) (drp bs fN 0 fN)/\(∀k,Wh (M1*bef bs k) (q2 420))/\(∀k,Wh (M1*drp bs fN 1 k) (q2 420))/\∀k,Wh (M0*drp bs fN 0 k) (q2 420):=by
 obtain⟨M1,D,F,C,j⟩:=WJ hb Z 1 fN;obtain⟨M0,b1,b2,_,b4⟩:=WJ hb Z 0 fN;exact⟨M0,M1,⟨b1,D,b2,F,C fN rfl,j fN,b4 fN,(uK hb 1).drive B,(uK hb 0).drive B⟩,fun k=>C k rfl,j,b4⟩
def RQ(hb:∀b∈bs,iD b)(Z:bs.length<=23)(j:lv bs fN=ε)(kind){r}(C:0<=r)(B:r<=1000)(n):Bd (fcu bs fN kind r n) 2600:=by
 obtain⟨M0,M1,h,_⟩:=FT hb Z j;exact h.bd kind C B n
end
noncomputable def kE (bs:List BrD) (fN:Nat) (f:eD) (n k:Nat):GQ:=if f.kind≠0/\lv bs fN=ε then vlt bs fN f.kind f.r n k else vbe bs n k
noncomputable def xE (bs:List BrD) (fN:Nat) (f:eD) (n:Nat):GQ:=if f.kind≠0/\lv bs fN=ε then fcu bs fN f.kind f.r n else GQ.i 0 0
noncomputable def OE (bs:List BrD) (fN:Nat) (f:eD) (way:Option BrD) (n:Nat):GQ:=
 match way with
 |none=>GQ.i 0 0
 |some b=>if 13<=b.a/\lv bs b.a=ε then (kE bs fN f n b.a-kE bs fN f n b.b-(if n=1 then GQ.i b.emf 0 else GQ.i 0 0))/b.zs (min n 1) else GQ.i 0 0
noncomputable def jS (s:StD) (p:dM) (f:eD) (i n:Nat):GQ:=
 let x:=s.bays.getD i η
 if x.kind=1 then kE (bU s p f) (eO s p f) f n (eF s p x.obj.toNat x.en.toNat)
 else if x.kind=2 then
  match iq s p i with
  |some b=>kE (bU s p f) (eO s p f) f n b.a
  |none=>if n=1 then GQ.i (s.srcs.getD x.obj.toNat η).emf 0 else GQ.i 0 0
 else GQ.i 0 0
noncomputable def tC (s:StD) (p:dM) (f:eD) (i n:Nat):GQ:=OE (bU s p f) (eO s p f) f (way s p f i) n
section
variable {bs:List BrD} {fN:Nat} {f:eD}
theorem UD{s k}(h:lv bs k=ζ):drp bs fN s k=GQ.i 0 0:=by unfold drp;exact mG h
theorem Um{k}(h:lv bs k=ζ):bef bs k=GQ.i 0 0:=by unfold bef;exact mG h
theorem Jf{n k}(h:lv bs k=ζ):kE bs fN f n k=GQ.i 0 0:=by
 have hb:vbe bs n k=GQ.i 0 0:=by unfold vbe;rw[Um h,acD]
 unfold kE;split
 .unfold vlt;rw[hb,UD h,GQ.bY];ext<;>simp only[GQ.dJ,GQ.dK,GQ.dH,GQ.dC]<;>grind
 .exact hb
structure Den (bs:List BrD) (fN:Nat) (f:eD) (D:GQ):Prop where
 ne:D≠GQ.i 0 0
 wd:Wh D (q2 2200)
 v:∀n k,Wh (D*kE bs fN f n k) (q2 2200)
 i:∀n,Wh (D*xE bs fN f n) (q2 2200)
theorem afM(hb:∀b∈bs,iD b)(Z:bs.length<=23)(F:0<=f.r/\f.r<=1000):∃D,Den bs fN f D:=by
 by_cases h:f.kind≠0/\lv bs fN=ε
 .obtain⟨M0,M1,hS,B,j,C⟩:=FT hb Z h.2;obtain⟨K,I⟩:=hS.cur f.kind F.1 F.2;refine⟨M0*(M1*K),GQ.jd hS.m0 (GQ.jd hS.m1 I.k0),iL (eZ hS.w0 (eZ hS.w1 I.wk)) aa,fun n k=> ?_,fun n=> ?_⟩
  .unfold kE;rw[ι h];unfold vlt;have hv:Wh (M0*(M1*K)*vbe bs n k) (q2 2199):=by
    unfold vbe;split
    .have e:M0*(M1*K)*bef bs k=M0*(K*(M1*bef bs k)):=by ext<;>simp only[GQ.bL,GQ.bK]<;>grind
     rw[e];exact iL (eZ hS.w0 (eZ I.wk (B k))) aa
    .rw[GQ.bY];exact iH _
   have hd:Wh (M0*(M1*K)*(fcu bs fN f.kind f.r n*drp bs fN (min n 1) k)) (q2 2199):=by
    have ha:Wh (K*fcu bs fN f.kind f.r n) (q2 1278):=I.wa n;by_cases hn:n=0
    .have e:M0*(M1*K)*(fcu bs fN f.kind f.r n*drp bs fN (min n 1) k)=M1*((K*fcu bs fN f.kind f.r n)*(M0*drp bs fN (min n 1) k)):=by ext<;>simp only[GQ.bL,GQ.bK]<;>grind
     rw[e];have:=C k;rw[show min n 1=0 by omega];exact iL (eZ hS.w1 (eZ ha this)) aa
    .have e:M0*(M1*K)*(fcu bs fN f.kind f.r n*drp bs fN (min n 1) k)=M0*((K*fcu bs fN f.kind f.r n)*(M1*drp bs fN (min n 1) k)):=by ext<;>simp only[GQ.bL,GQ.bK]<;>grind
     rw[e];have:=j k;rw[show min n 1=1 by omega];exact iL (eZ hS.w0 (eZ ha this)) aa
   rw[GQ.mI,qQ 2199,abT];exact hv.sub hd
  .unfold xE;rw[ι h];have e:M0*(M1*K)*fcu bs fN f.kind f.r n=M0*(M1*(K*fcu bs fN f.kind f.r n)):=by ext<;>simp only[GQ.bL,GQ.bK]<;>grind
   rw[e];exact iL (eZ hS.w0 (eZ hS.w1 (I.wa n))) aa
 .obtain⟨M,B,j,C,_⟩:=WJ hb Z 1 fN;refine⟨M,B,iL j aa,fun n k=> ?_,fun n=> ?_⟩
  .unfold kE;rw[θ h];unfold vbe;split
   .exact iL (C k rfl) aa
   .rw[GQ.bY];exact iH _
  .unfold xE;rw[θ h,GQ.bY];exact iH _
end
def E8{α:Type}{f y:α->GQ}{d}{P:α->Prop}:∀l:List α,(∀a∈l,(¬P a/\f a=GQ.i 0 0)\/(P a/\f a=y a*d/\(y a).im<0))->∃Y:GQ,il f l=Y*d/\Y.im<=0/\((∃a∈l,P a)->Y.im<0)
 |[],_=>⟨GQ.i 0 0,(GQ.fq _).symm,by simp only[GQ.dC];grind,fun⟨a,h,_⟩=>absurd h ag⟩
 |a::l,h=>by
  obtain⟨Y,C,D,F⟩:=E8 l (fun x J=>h x (nC _ J));rcases h a qa with ⟨hn,B⟩|⟨hp,B,R⟩
  .refine⟨Y,?_,D,fun⟨b,hb,j⟩=> ?_⟩
   .show il f l+f a=_;rw[C,B,GQ.add_zero']
   .rcases kC.1 hb with rfl|hb
    .exact absurd j hn
    .exact F ⟨b,hb,j⟩
  .refine⟨Y+y a,?_,?_,fun _=> ?_⟩
   .show il f l+f a=_;rw[C,B];ext<;>simp only[GQ.bT,GQ.bS,GQ.bL,GQ.bK]<;>grind
   .simp only[GQ.bS];grind
   .simp only[GQ.bS];grind
theorem zo.Jl{L rw_ n us}(h:zo L rw_ n us){v k o}(I:L k=ε)(hv:v (rw_ k)=GQ.i 0 0)(B:k≠o)(G:∀b∈us,(b.a=k->b.b=o)/\(b.b=k->b.a=o))(J:∃b∈us,b.a=k\/b.b=k):
  nE L rw_ n us v k=nE L rw_ n us v o:=by
 have C:=h.kcl (v:=v) I;rw[hv] at C;obtain⟨Y,H,_,K⟩:=E8 (f:=fun b=>b.at_ k (nE L rw_ n us v)) (y:=Nb.y) (d:=nE L rw_ n us v k-nE L rw_ n us v o) (P:=fun b=>b.a=k\/b.b=k) us (fun b hb=>by
  by_cases hp:b.a=k\/b.b=k
  .refine Or.inr ⟨hp,?_,h.im b hb⟩;unfold Nb.at_;rcases hp with e|e
   .have D:=(G b hb).1 e;rw[ι e.symm,θ aa,e,D,GQ.add_zero']
   .have D:=(G b hb).2 e;rw[θ aa,ι e.symm,e,D];ext<;>simp only[GQ.bT,GQ.bS,GQ.dH,GQ.dC]<;>grind
  .refine Or.inl ⟨hp,?_⟩;unfold Nb.at_;rw[θ (fun e=>hp (Or.inl e.symm)),θ (fun e=>hp (Or.inr e.symm)),GQ.add_zero'])
 rw[H] at C;have M:=K J;have j:Y≠GQ.i 0 0:=fun e=>by rw[e] at M;simp only[GQ.dC] at M;grind
 exact aff (by
  by_cases F:nE L rw_ n us v k-nE L rw_ n us v o=GQ.i 0 0
  .exact F
  .exact absurd C (GQ.jd j F))
section
variable {s:StD} {p:dM} {f:eD}
theorem xh(h:jC s)(l e):∀n,n<=s.bays.length->wZ s p l e n=2*l+e\/13<=wZ s p l e n
 |0,_=>Or.inl rfl
 |n+1,hn=>by
  show(if oh s p l e n=ε then jg s p n else wZ s p l e n)=_\/13<=(if oh s p l e n=ε then jg s p n else wZ s p l e n);split
  .exact Or.inr (by unfold jg;omega)
  .exact xh h l e n aa
theorem wH(h:jC s){l e}(j:eF s p l e<13):eF s p l e=2*l+e:=by
 rcases xh (p:=p) h l e _ (κ _) with B|B
 .exact B
 .unfold eF at j;omega
def BF{b}:∀n,b∈gm s p n->∃i,i<n/\iq s p i=γ b
 |0,h=>absurd h (by simp[gm])
 |n+1,h=>by
  have D:b∈gm s p n++(iq s p n).toList:=h;rw[aae] at D;rcases D with D|D
  .obtain⟨i,hi,e⟩:=BF n D;exact⟨i,aa,e⟩
  .refine⟨n,aa,?_⟩;cases hb:iq s p n with
   |none=>rw[hb] at D;simp at D
   |some c=>rw[hb] at D;simp only[Option.toList_some,acL] at D;rw[D]
theorem zO{b}:∀n,b∈fE s p f n->∃l e,l<n/\e<=1/\b=half s p f l e
 |0,h=>absurd h (by simp[fE])
 |n+1,h=>by
  have D:b∈fE s p f n++jP s p f n:=h;rw[aae] at D;rcases D with D|D
  .obtain⟨l,e,Z,O,j⟩:=zO n D;exact⟨l,e,aa,O,j⟩
  .unfold jP at D;split at D
   .simp only[kC,Ha,aaH] at D;rcases D with rfl|rfl
    .exact⟨n,0,aa,aa,rfl⟩
    .exact⟨n,1,aa,aa,rfl⟩
   .simp only[kC,Ha,aaH] at D;exact⟨n,0,aa,aa,D⟩
def uq{b}:∀n l,l<n->b∈jP s p f l->b∈fE s p f n
 |0,l,h,_=>absurd h aa
 |n+1,l,h,hb=>by
  show b∈fE s p f n++jP s p f n;rw[aae];by_cases e:l=n
  .subst e;exact Or.inr hb
  .exact Or.inl (uq n l aa hb)
theorem qC(l e):(half s p f l e).a=eF s p l e:=by unfold half;simp only[];split<;>rfl
theorem RL(l e):(half s p f l e).emf=0:=by unfold half;simp only[];split<;>rfl
theorem Gx{l e}(h:iC f l=ε):(half s p f l e).b=12:=by unfold half;simp only[];rw[ι h]
theorem pI{l e}(h:iC f l=ζ):(half s p f l e).b=eF s p l (1-e):=by unfold half;simp only[];rw[θ (by rw[h];decide)]
theorem JM{l e}(Z:l<s.lines.length)(O:e<=1):half s p f l e∈bU s p f\/iC f l=ζ/\e=1/\half s p f l 0∈bU s p f:=by
 unfold bU;cases B:iC f l with
 |true=>
  refine Or.inl (aae.2 (Or.inr (uq _ l Z ?_)));unfold jP;rw[ι B];have j:e=0\/e=1:=aa;rcases j with rfl|rfl<;>simp
 |false=>
  have C:half s p f l 0∈gm s p s.bays.length++fE s p f s.lines.length:=by
   refine aae.2 (Or.inr (uq _ l Z ?_));unfold jP;rw[θ (by rw[B];decide)];simp
  have j:e=0\/e=1:=aa;rcases j with rfl|rfl
  .exact Or.inl C
  .exact Or.inr ⟨rfl,rfl,C⟩
def Oi(h:jC s)(J:mR s.buses.length s.lines.length f){l e}(Z:l<s.lines.length)(O:e<=1):lv (bU s p f) (half s p f l e).a=lv (bU s p f) (half s p f l e).b:=by
 have F:=(r9 (p:=p) h J).2;have H:=yG F;have Q:∀b∈bU s p f,b.a≠17->b.b≠17->lv (bU s p f) b.a=lv (bU s p f) b.b:=fun b hb ha C=>by
  cases B:lv (bU s p f) b.a with
  |true=>exact((H.closed b hb (Or.inr (Or.inl B))).2 C).symm
  |false=>
   cases I:lv (bU s p f) b.b with
   |false=>rfl
   |true=>rw[(H.closed b hb (Or.inr (Or.inr I))).1 ha] at B;cases B
 have Y (T:Nat) (D:T<=1):eF s p l T<17:=(tq h (by have:=h.nl;omega) D _ (κ _)).1;rcases JM (p:=p) (f:=f) Z O with G|⟨j,rfl,G⟩
 .refine Q _ G (by rw[qC];have:=Y e O;omega) ?_;cases j:iC f l with
  |true=>rw[Gx j];decide
  |false=>rw[pI j];have:=Y (1-e) aa;omega
 .have:=Q _ G (by rw[qC];have:=Y 0 aa;omega) (by rw[pI j];have:=Y (1-0) aa;omega);rw[qC,pI j] at this⊢;exact this.symm
theorem QM(h:jC s){l e}(Z:l<s.lines.length)(O:e<=1)(C:eF s p l e<13){b}(hb:b∈bU s p f):(b.a=eF s p l e->b.b=(half s p f l e).b)/\(b.b=eF s p l e->b.a=(half s p f l e).b):=by
 have L:=h.nl;have I:=wH (p:=p) h C;unfold bU at hb;rcases aae.1 hb with hb|hb
 .obtain⟨i,hi,F⟩:=BF _ hb;have:=yF h hi F;exact⟨fun e1=>aa,fun e1=>aa⟩
 .obtain⟨G,T,B,D,rfl⟩:=zO _ hb;rw[qC];have j (x:Nat) (J:x<=1) (e1:eF s p G x=eF s p l e):G=l/\x=e:=by
   have:=wH (p:=p) h (l:=G) (e:=x) aa;omega
  refine⟨fun e1=> ?_,fun e1=> ?_⟩
  .obtain⟨rfl,rfl⟩:=j T D e1;rfl
  .cases H:iC f G with
   |true=>
    rw[Gx H] at e1;have:=(tq (p:=p) h (l:=l) (e:=e) aa O _ (κ _)).2;unfold eF at e1;omega
   |false=>
    rw[pI H] at e1;obtain⟨rfl,K⟩:=j (1-T) aa e1;rw[pI H,show T=1-e by omega]
theorem OW(h:jC s)(R:mR s.buses.length s.lines.length f){l e}(Z:l<s.lines.length)(O:e<=1)(n):
  kE (bU s p f) (eO s p f) f n (half s p f l e).a-kE (bU s p f) (eO s p f) f n (half s p f l e).b=OE (bU s p f) (eO s p f) f (γ (half s p f l e)) n*(half s p f l e).zs (min n 1):=by
 have K:=(r9 (p:=p) h R).2;have Y:=yg (p:=p) h R Z O;have j:=Oi (p:=p) h R Z O;have h6:=h.nl;unfold OE;simp only[RL];by_cases P:13<=(half s p f l e).a/\lv (bU s p f) (half s p f l e).a=ε
 .rw[ι P,ae8 (Y.ne _),acD];ext<;>simp only[GQ.dJ,GQ.dK,GQ.dH,GQ.dC]<;>grind
 .rw[θ P,GQ.fq];have D:kE (bU s p f) (eO s p f) f n (half s p f l e).a=kE (bU s p f) (eO s p f) f n (half s p f l e).b:=by
   cases G:lv (bU s p f) (half s p f l e).a with
   |false=>rw[Jf G,Jf (j.symm.trans G)]
   |true=>
    have I:eF s p l e<13:=by
     have W:¬13<=(half s p f l e).a:=fun U=>P ⟨U,G⟩;rw[qC] at W;omega
    have N:=wH (p:=p) h I;have B:(half s p f l e).a≠(half s p f l e).b:=by
     rw[qC];cases M:iC f l with
     |true=>rw[Gx M];have:=(tq (p:=p) h (l:=l) (e:=e) aa O _ (κ _)).2;unfold eF;exact this
     |false=>
      rw[pI M];rcases xh (p:=p) h l (1-e) _ (κ _) with U|U
      .unfold eF at N⊢;omega
      .unfold eF at I⊢;omega
    have T:∀sq,∀b∈usd (lv (bU s p f)) sq (bU s p f),(b.a=(half s p f l e).a->b.b=(half s p f l e).b)/\(b.b=(half s p f l e).a->b.a=(half s p f l e).b):=fun sq b hb=>by
     obtain⟨c,hc,rfl⟩:=aab.1 hb;rw[qC];exact QM h Z O I (aba.1 hc).1
    have J:∀sq,∃b∈usd (lv (bU s p f)) sq (bU s p f),b.a=(half s p f l e).a\/b.b=(half s p f l e).a:=fun sq=>by
     rcases JM (p:=p) (f:=f) Z O with V|⟨M,rfl,V⟩
     .exact⟨(half s p f l e).nb sq,aaK (aba.2 ⟨V,by simp[used,G,B]⟩),Or.inl rfl⟩
     .have e1:(half s p f l 0).b=(half s p f l 1).a:=by rw[pI M,qC]
      have L:(half s p f l 1).b=(half s p f l 0).a:=by rw[pI M,qC]
      refine⟨(half s p f l 0).nb sq,aaK (aba.2 ⟨V,?_⟩),Or.inr e1⟩;rw[L] at j B;simp[used,<-j,G,e1,abk B]
    have C:bef (bU s p f) (half s p f l e).a=bef (bU s p f) (half s p f l e).b:=by
     have H:=uK K 1;refine H.Jl G ?_ B (T 1) (J 1);rw[H.NH G];refine ED _ fun b hb=> ?_;unfold Nb.src;refine θ fun hc=> ?_;have:=(T 1 b hb).1 hc.2.symm;rw[hc.1] at this;rw[<-this] at j;rw[(yG K).none,G] at j;cases j
    have F:∀sq,lv (bU s p f) (eO s p f)=ε->drp (bU s p f) (eO s p f) sq (half s p f l e).a=drp (bU s p f) (eO s p f) sq (half s p f l e).b:=fun sq Q=>by
     have H:=uK K sq;refine H.Jl G ?_ B (T sq) (J sq);show(if rwx (lv (bU s p f)) (half s p f l e).a=rwx (lv (bU s p f)) (eO s p f) then GQ.i 1 0 else GQ.i 0 0)=_;refine θ fun hc=> ?_;have L:=H.r.inj _ _ G Q hc;rw[qC,N] at L;unfold eO at L;split at L
     .omega
     .split at L<;>omega
    unfold kE;split
    .rename_i S
     unfold vlt vbe;rw[C,F _ S.2]
    .unfold vbe;rw[C]
  rw[D];ext<;>simp only[GQ.dJ,GQ.dK,GQ.dH,GQ.dC]<;>grind
end
def Fx {α:Type} (Q S R P M N K L O j J I B G C H D F:α):Nat->α
 |1=>Q
 |2=>S
 |3=>R
 |4=>P
 |5=>M
 |6=>N
 |7=>K
 |8=>L
 |9=>O
 |10=>j
 |11=>J
 |12=>I
 |13=>B
 |14=>G
 |15=>C
 |16=>H
 |17=>D
 |_=>F
def RA (w:World) (v:Value) (z1 F T O H R L Q P J B M V D K G I j:Int):Prop:=
 ∃(S:Nat->Bool) (A:Nat->Option Addr) (N C:Nat->Nat),v=.agg #[.bool (S 1),.slice (A 1) (N 1) (C 1),.bool (S 2),.slice (A 2) (N 2) (C 2),.bool (S 3),.slice (A 3) (N 3) (C 3),.bool (S 4),.slice (A 4) (N 4) (C 4),.bool (S 5),.slice (A 5) (N 5) (C 5),.bool (S 6),.slice (A 6) (N 6) (C 6),.bool (S 7),.slice (A 7) (N 7) (C 7),.bool (S 8),.slice (A 8) (N 8) (C 8),.bool (S 9),.slice (A 9) (N 9) (C 9),.bool (S 10),.slice (A 10) (N 10) (C 10),.bool (S 11),.slice (A 11) (N 11) (C 11),.bool (S 12),.slice (A 12) (N 12) (C 12),.bool (S 13),.slice (A 13) (N 13) (C 13),.bool (S 14),.slice (A 14) (N 14) (C 14),.bool (S 15),.slice (A 15) (N 15) (C 15),.bool (S 16),.slice (A 16) (N 16) (C 16),.bool (S 17),.slice (A 17) (N 17) (C 17),.bool (S 18),.slice (A 18) (N 18) (C 18)]/\RI w (iv (S 1) (A 1) (N 1) (C 1)) z1/\RI w (iv (S 2) (A 2) (N 2) (C 2)) F/\RI w (iv (S 3) (A 3) (N 3) (C 3)) T/\RI w (iv (S 4) (A 4) (N 4) (C 4)) O/\RI w (iv (S 5) (A 5) (N 5) (C 5)) H/\RI w (iv (S 6) (A 6) (N 6) (C 6)) R/\RI w (iv (S 7) (A 7) (N 7) (C 7)) L/\RI w (iv (S 8) (A 8) (N 8) (C 8)) Q/\RI w (iv (S 9) (A 9) (N 9) (C 9)) P/\RI w (iv (S 10) (A 10) (N 10) (C 10)) J/\RI w (iv (S 11) (A 11) (N 11) (C 11)) B/\RI w (iv (S 12) (A 12) (N 12) (C 12)) M/\RI w (iv (S 13) (A 13) (N 13) (C 13)) V/\RI w (iv (S 14) (A 14) (N 14) (C 14)) D/\RI w (iv (S 15) (A 15) (N 15) (C 15)) K/\RI w (iv (S 16) (A 16) (N 16) (C 16)) G/\RI w (iv (S 17) (A 17) (N 17) (C 17)) I/\RI w (iv (S 18) (A 18) (N 18) (C 18)) j
def RA.mk{w s1 A1 n1 c1 s2 A2 n2 c2 s3 A3 n3 c3 s4 A4 n4 c4 s5 A5 n5 c5 s6 A6 n6 c6 s7 A7 n7 Z s8 N n8 c8 s9 A9 n9 c9 W YC P S Y F U T YJ YO YE YK Yu YQ YP c13 YY Zh YX c14 Zf YZ Ze Zn Zo C Zp Zw YH j YF YG Zx Zd Zk Zq z1 z2 z3 O H R L Q z9 J B M V YI K G I Yx}(h1:RI w (iv s1 A1 n1 c1) z1)(h2:RI w (iv s2 A2 n2 c2) z2)(h3:RI w (iv s3 A3 n3 c3) z3)(h4:RI w (iv s4 A4 n4 c4) O)(h5:RI w (iv s5 A5 n5 c5) H)(h6:RI w (iv s6 A6 n6 c6) R)(h7:RI w (iv s7 A7 n7 Z) L)(h8:RI w (iv s8 N n8 c8) Q)(h9:RI w (iv s9 A9 n9 c9) z9)(Zv:RI w (iv W YC P S) J)(Yy:RI w (iv Y F U T) B)(ac:RI w (iv YJ YO YE YK) M)(YL:RI w (iv Yu YQ YP c13) V)(ZP:RI w (iv YY Zh YX c14) YI)(Yv:RI w (iv Zf YZ Ze Zn) K)(ZZ:RI w (iv Zo C Zp Zw) G)(D:RI w (iv YH j YF YG) I)(Yw:RI w (iv Zx Zd Zk Zq) Yx):RA w (.agg #[.bool s1,.slice A1 n1 c1,.bool s2,.slice A2 n2 c2,.bool s3,.slice A3 n3 c3,.bool s4,.slice A4 n4 c4,.bool s5,.slice A5 n5 c5,.bool s6,.slice A6 n6 c6,.bool s7,.slice A7 n7 Z,.bool s8,.slice N n8 c8,.bool s9,.slice A9 n9 c9,.bool W,.slice YC P S,.bool Y,.slice F U T,.bool YJ,.slice YO YE YK,.bool Yu,.slice YQ YP c13,.bool YY,.slice Zh YX c14,.bool Zf,.slice YZ Ze Zn,.bool Zo,.slice C Zp Zw,.bool YH,.slice j YF YG,.bool Zx,.slice Zd Zk Zq]) z1 z2 z3 O H R L Q z9 J B M V YI K G I Yx:=
 ⟨Fx s1 s2 s3 s4 s5 s6 s7 s8 s9 W Y YJ Yu YY Zf Zo YH Zx,Fx A1 A2 A3 A4 A5 A6 A7 N A9 YC F YO YQ Zh YZ C j Zd,Fx n1 n2 n3 n4 n5 n6 n7 n8 n9 P U YE YP YX Ze Zp YF Zk,Fx c1 c2 c3 c4 c5 c6 Z c8 c9 S T YK c13 c14 Zn Zw YG Zq,rfl,h1,h2,h3,h4,h5,h6,h7,h8,h9,Zv,Yy,ac,YL,ZP,Yv,ZZ,D,Yw⟩
def PK{cs:Array Value}(h:cs.size=36):(prog.info? 45).map (·.size)=γ cs.size:=by rw[h];kernel_rfl
def Xe{fn:Func}{R:Ending->World->Prop}{a:Act}{w:World}{t u g:Nat}{cs:Array Value}(B:fn.results= #[.cell t 45,.tmp u])(hd:a.defers=[])(hp:a.tmps[t]?.getD undef=.pointer (γ (aM g 0)))(hb:Blk w g 45 cs)(j:R (.returned (.tuple #[.agg cs,a.tmps.getD u undef])) w)(hs:cs.size=36:=by rfl):bodyPost prog fn R .ret a w:=
 aai (v:=.tuple #[.agg cs,a.tmps.getD u undef]) (by simp[results,B,hp,asAddr,adg w g 45 45 cs (0,0) _ hb Be rfl (PK hs)]) hd j
def St.row{w W:World}{bs bs':List Bk}{fs}(h:St w W bs fs)(i:Nat){g:Nat}{t cs cs'}(e:bs[i]? =γ (g,t,cs))(G:Own w g)(hn:lS cs=ε)(C:bs.set i (g,t,cs')=bs'):St w (W.setRow g cs') bs' fs:=by
 have hb:=h.blk i e;refine⟨(Only.setRow W g cs').ext h.ext G,fun p hp=> ?_,C ▸ J5 (p:=(g,t,cs)) e h.nd,fun q hq=> ?_⟩
 .obtain⟨j,B⟩:=abP hp;rw[<-C] at B;have Y:i<bs.length:=(μ.1 e).1;by_cases L:i=j
  .subst L;rw[abD Y] at B;injection B with B;subst B;exact aeL W g _ _ _ _ hb
  .rw[aaj L] at B;exact(Only.setRow W g cs').blk (h.blks p (wo B)) (BC h.nd (fun h=>L h.symm) B e)
 .obtain⟨A',n',c',F,D⟩:=h.nums q hq;exact⟨A',n',c',F,D.only (Only.setRow W g cs') hb (uj hn)⟩
def AV (w:World) (v:Value) (P p1 p2:PQ) (n:Nat):Prop:=∃z1 D N O H R L Q F J B M V C K G I j:Int,RA w v z1 D N O H R L Q F J B M V C K G I j/\Is P.u z1 D N/\Sz n z1 D N/\Is P.v O H R/\Sz n O H R/\Is p1.u L Q F/\Sz n L Q F/\Is p1.v J B M/\Sz n J B M/\Is p2.u V C K/\Sz n V C K/\Is p2.v G I j/\Sz n G I j
def ph0 (x y z:GQ):PQ:=⟨x+(y+z),GQ.i 0 0⟩
def ph1 (x y z:GQ):PQ:=⟨aeW 2 x (-1) (y+z) 2,aeW 1 z (-1) y 2*aeY 1⟩
def ph2 (x y z:GQ):PQ:=⟨aeW 2 x (-1) (y+z) 2,aeW 1 y (-1) z 2*aeY 1⟩
def PQ.sc (p:PQ) (c:GQ):PQ:=⟨p.u*c,p.v*c⟩
def phq (q:Nat->GQ) (m:Nat):PQ:=if m=0 then ph0 (q 0) (q 1) (q 2) else if m=1 then ph1 (q 0) (q 1) (q 2) else ph2 (q 0) (q 1) (q 2)
def phv (q:Nat->GQ) (sh m:Nat):PQ:=phq q ((m+3-sh)%3)*PQ.zp (8*sh%12)
def PQ.zero:PQ:=⟨GQ.i 0 0,GQ.i 0 0⟩
section
variable {q q' x y:Nat->GQ} {c z r:GQ} {m:Nat}
def Xc:phq q 0=ph0 (q 0) (q 1) (q 2):=rfl
def Xy:phq q 1=ph1 (q 0) (q 1) (q 2):=rfl
def XU:phq q 2=ph2 (q 0) (q 1) (q 2):=rfl
def afv(p t:PQ)(c):(p*t).sc c=p.sc c*t:=by
 ext<;>simp only[PQ.sc,PQ.vX,PQ.vS,GQ.bL,GQ.bK,GQ.bT,GQ.bS,GQ.dH,GQ.dC]<;>grind
def afb(p s t:PQ):(p+s)*t=p*t+s*t:=by
 ext<;>simp only[PQ.qR,PQ.qJ,PQ.vX,PQ.vS,GQ.bL,GQ.bK,GQ.bT,GQ.bS,GQ.dH,GQ.dC]<;>grind
theorem UR(h:∀n,n<3->q n=x n-y n)(m):phq q m=phq x m+(phq y m).sc (GQ.i (-1) 0):=by
 unfold phq;rw[h 0 aa,h 1 aa,h 2 aa];split
 .ext<;>simp only[ph0,ph1,ph2,aeW,aeY,PQ.sc,PQ.zero,PQ.qR,PQ.qJ,GQ.bL,GQ.bK,GQ.bT,GQ.bS,GQ.dJ,GQ.dK,GQ.dH,GQ.dC]<;>grind
 .split
  .ext<;>simp only[ph0,ph1,ph2,aeW,aeY,PQ.sc,PQ.zero,PQ.qR,PQ.qJ,GQ.bL,GQ.bK,GQ.bT,GQ.bS,GQ.dJ,GQ.dK,GQ.dH,GQ.dC]<;>grind
  .ext<;>simp only[ph0,ph1,ph2,aeW,aeY,PQ.sc,PQ.zero,PQ.qR,PQ.qJ,GQ.bL,GQ.bK,GQ.bT,GQ.bS,GQ.dJ,GQ.dK,GQ.dH,GQ.dC]<;>grind
theorem Ob(h:∀n,n<3->q n=c*x n)(m):phq q m=(phq x m).sc c:=by
 unfold phq;rw[h 0 aa,h 1 aa,h 2 aa];split
 .ext<;>simp only[ph0,ph1,ph2,aeW,aeY,PQ.sc,PQ.zero,PQ.qR,PQ.qJ,GQ.bL,GQ.bK,GQ.bT,GQ.bS,GQ.dJ,GQ.dK,GQ.dH,GQ.dC]<;>grind
 .split
  .ext<;>simp only[ph0,ph1,ph2,aeW,aeY,PQ.sc,PQ.zero,PQ.qR,PQ.qJ,GQ.bL,GQ.bK,GQ.bT,GQ.bS,GQ.dJ,GQ.dK,GQ.dH,GQ.dC]<;>grind
  .ext<;>simp only[ph0,ph1,ph2,aeW,aeY,PQ.sc,PQ.zero,PQ.qR,PQ.qJ,GQ.bL,GQ.bK,GQ.bT,GQ.bS,GQ.dJ,GQ.dK,GQ.dH,GQ.dC]<;>grind
def Tq:phq q 0+(phq q 1+phq q 2)=⟨GQ.i 3 0*q 0,GQ.i 0 0⟩:=by
 rw[Xc,Xy,XU];ext<;>simp only[ph0,ph1,ph2,aeW,aeY,PQ.sc,PQ.zero,PQ.qR,PQ.qJ,GQ.bL,GQ.bK,GQ.bT,GQ.bS,GQ.dJ,GQ.dK,GQ.dH,GQ.dC]<;>grind
def phx (q:Nat->GQ) (m:Nat):PQ:=phq (fun n=>if n=0 then GQ.i 0 0 else q n) m
theorem uV(m):phq q m=phx q m+⟨q 0,GQ.i 0 0⟩:=by
 unfold phx phq;simp only[aad,show ¬(1=0) by decide,show ¬(2=0) by decide,abA];split
 .ext<;>simp only[ph0,ph1,ph2,aeW,aeY,PQ.sc,PQ.zero,PQ.qR,PQ.qJ,GQ.bL,GQ.bK,GQ.bT,GQ.bS,GQ.dJ,GQ.dK,GQ.dH,GQ.dC]<;>grind
 .split
  .ext<;>simp only[ph0,ph1,ph2,aeW,aeY,PQ.sc,PQ.zero,PQ.qR,PQ.qJ,GQ.bL,GQ.bK,GQ.bT,GQ.bS,GQ.dJ,GQ.dK,GQ.dH,GQ.dC]<;>grind
  .ext<;>simp only[ph0,ph1,ph2,aeW,aeY,PQ.sc,PQ.zero,PQ.qR,PQ.qJ,GQ.bL,GQ.bK,GQ.bT,GQ.bS,GQ.dJ,GQ.dK,GQ.dH,GQ.dC]<;>grind
def ER(B:q 1=x 1*z)(j:q 2=x 2*z)(m):phx q m=(phx x m).sc z:=by
 refine Ob (c:=z) (fun n hn=> ?_) m;show(if n=0 then GQ.i 0 0 else q n)=z*(if n=0 then GQ.i 0 0 else x n);split
 .rw[GQ.bY]
 .have C:n=1\/n=2:=aa;rcases C with rfl|rfl
  .rw[B,GQ.dZ]
  .rw[j,GQ.dZ]
def SI(B:q 1=x 1*z)(j:q 2=x 2*z)(a b):phq q a+(phq q b).sc (GQ.i (-1) 0)=(phq x a+(phq x b).sc (GQ.i (-1) 0)).sc z:=by
 rw[uV (q:=q) a,uV (q:=q) b,uV (q:=x) a,uV (q:=x) b,ER B j a,ER B j b];generalize phx x a=p;generalize phx x b=t;generalize q 0=u;generalize x 0=v;ext<;>simp only[PQ.sc,PQ.qR,PQ.qJ,GQ.bL,GQ.bK,GQ.bT,GQ.bS,GQ.dH,GQ.dC]<;>grind
end
def oK (q:Nat->GQ) (D:GQ):Prop:=D≠GQ.i 0 0/\Wh D (q2 2250)/\∀n,Fr D 0 2250 (q n)
def FrP (D:GQ) (h e:Nat) (p:PQ):Prop:=Fr D h e p.u/\Fr D h e p.v
section
variable {D:GQ} {h e:Nat} {p t:PQ} {q:Nat->GQ}
def FrP.le{T}(J:FrP D h e p)(O:e<=T):FrP D h T p:=⟨J.1.le O,J.2.le O⟩
def FrP.add(J:FrP D h e p)(R:FrP D h e t):FrP D h (e+1) (p+t):=⟨J.1.add R.1,J.2.add R.2⟩
def FrP.sc{c k}(J:FrP D h e p)(hc:Wh c (q2 k)):FrP D h (e+k) (p.sc c):=⟨J.1.OT hc,J.2.OT hc⟩
def Sr{a b k}(h:a.natAbs+b.natAbs<=2^k):Wh (GQ.i a b) (q2 k):=⟨a,b,rfl,h⟩
def agC{x y}(J:Fr D h e x)(R:Fr D h e y):Fr D h (e+1) (aeW 1 x 1 y 1):=by
 have:aeW 1 x 1 y 1=x+y:=by ext<;>simp only[aeW,GQ.bT,GQ.bS]<;>grind
 rw[this];exact J.add R
def af2{x y}(J:Fr D h e x)(R:Fr D h e y):Fr D (h+1) (e+1) (aeW 1 x (-1) y 2):=by
 have:aeW 1 x (-1) y 2=(x-y)*⟨1/2,0⟩:=by ext<;>simp only[aeW,GQ.dJ,GQ.dK,GQ.bL,GQ.bK]<;>grind
 rw[this];exact(J.sub R).half
def agI{x y}(J:Fr D h e x)(R:Fr D h e y):Fr D (h+1) (e+2) (aeW 2 x (-1) y 2):=by
 have:aeW 2 x (-1) y 2=(x*GQ.i 2 0-y)*⟨1/2,0⟩:=by ext<;>simp only[aeW,GQ.dJ,GQ.dK,GQ.bL,GQ.bK,GQ.dH,GQ.dC]<;>grind
 rw[this];exact((J.OT (k:=1) (Sr aj)).sub (R.le aa)).half
def af5{x}(J:Fr D h e x):Fr D h e (x*aeY 1):=by
 have:=J.OT (c:=aeY 1) (k:=0) ⟨0,1,by ext<;>simp only[aeY,GQ.bL,GQ.bK,GQ.dH,GQ.dC]<;>grind,aj⟩;exact this
theorem afB(C:Fr D 0 e (q 0))(B:Fr D 0 e (q 1))(j:Fr D 0 e (q 2))(m:Nat):FrP D 1 (e+3) (phq q m):=by
 have hs:=B.add j;have z:∀h e,Fr D h e (GQ.i 0 0):=fun h e=>Fr.zero;have hb:=(agI (C.le (by omega:e<=e+1)) hs);unfold phq;split
 .exact⟨((C.le (by omega:e<=e+1)).add hs).up,z _ _⟩
 .split
  .exact⟨hb,(af5 (af2 j B)).le aa⟩
  .exact⟨hb,(af5 (af2 B j)).le aa⟩
def FrP.zp{sh}(hp:FrP D h e p)(hs:sh<3):FrP D (h+1) (e+4) (p*PQ.zp (8*sh%12)):=by
 have Q:∀(a b:GQ),Wh (a*GQ.i 2 0) (q2 1)->Wh (b*GQ.i 2 0) (q2 1)->FrP D (h+1) (e+4) (p*⟨a,b⟩):=fun a b ha hb=>by
  have e1 (x:GQ):x=x*GQ.i 2 0*⟨1/2,0⟩:=by ext<;>simp only[GQ.bL,GQ.bK,GQ.dH,GQ.dC]<;>grind
  have m1 {x c:GQ} (J:Fr D h e x) (hc:Wh (c*GQ.i 2 0) (q2 1)):Fr D (h+1) (e+1) (x*c):=by
   have:x*c=x*(c*GQ.i 2 0)*⟨1/2,0⟩:=by ext<;>simp only[GQ.bL,GQ.bK,GQ.dH,GQ.dC]<;>grind
   rw[this];exact(J.OT hc).half
  refine⟨?_,?_⟩
  .show Fr D (h+1) (e+4) (p.u*a+GQ.i 3 0*(p.v*b));exact((m1 hp.1 ha).le (by omega:e+1<=e+3)).add ((m1 hp.2 hb).Yc (k:=2) (Sr aj))
  .show Fr D (h+1) (e+4) (p.u*b+p.v*a);exact((m1 hp.1 hb).add (m1 hp.2 ha)).le aa
 have j:sh=0\/sh=1\/sh=2:=aa;rcases j with rfl|rfl|rfl
 .rw[show 8*0%12=0 by rfl,PQ.zp0];exact Q _ _ ⟨2,0,by ext<;>simp only[GQ.bL,GQ.bK,GQ.dH,GQ.dC]<;>grind,aj⟩ ⟨0,0,by ext<;>simp only[GQ.bL,GQ.bK,GQ.dH,GQ.dC]<;>grind,aj⟩
 .rw[show 8*1%12=8 by rfl,PQ.zp8];exact Q _ _ ⟨-1,0,by ext<;>simp only[GQ.bL,GQ.bK,GQ.dH,GQ.dC]<;>grind,aj⟩ ⟨0,-1,by ext<;>simp only[GQ.bL,GQ.bK,GQ.dH,GQ.dC]<;>grind,aj⟩
 .rw[show 8*2%12=4 by rfl,PQ.zp4];exact Q _ _ ⟨-1,0,by ext<;>simp only[GQ.bL,GQ.bK,GQ.dH,GQ.dC]<;>grind,aj⟩ ⟨0,1,by ext<;>simp only[GQ.bL,GQ.bK,GQ.dH,GQ.dC]<;>grind,aj⟩
def oK.phv(hq:oK q D){sh:Nat}(hs:sh<3)(m:Nat):FrP D 2 2257 (phv q sh m):=FrP.zp (afB (hq.2.2 0) (hq.2.2 1) (hq.2.2 2) _) hs
def FrP.bd(hp:FrP D h e p)(F:Wh D (q2 2250))(C:D≠GQ.i 0 0){n}(B:e+(h+2250)<n)(j:h+2250+(h+2250)<n):Bd p.u n/\Bd p.v n:=⟨hp.1.bd F C B j,hp.2.bd F C B j⟩
def oK.bd(hq:oK q D)(n):Bd (q n) 4600:=(hq.2.2 n).bd hq.2.1 hq.1 aa aa
def oK.sum(hq:oK q D):Bd (aeW 1 (q 1) 1 (q 2) 1) 4600:=(agC (hq.2.2 1) (hq.2.2 2)).bd hq.2.1 hq.1 aa aa
def oK.phq(hq:oK q D)(m:Nat):Bd (phq q m).u 4600/\Bd (phq q m).v 4600:=(afB (hq.2.2 0) (hq.2.2 1) (hq.2.2 2) m).bd hq.2.1 hq.1 aa aa
end
section
variable {bs:List BrD} {fN:Nat} {f:eD} {D:GQ}
def Den.JG(h:Den bs fN f D)(k):oK (fun n=>kE bs fN f n k) D:=⟨h.ne,iL h.wd aa,fun n=>(afu (h.v n k)).le aa⟩
def Den.X9(h:Den bs fN f D):oK (xE bs fN f) D:=⟨h.ne,iL h.wd aa,fun n=>(afu (h.i n)).le aa⟩
def iD.zw{b}(h:iD b)(sq):∃j:GQ,j≠GQ.i 0 0/\Wh j (q2 15)/\∀x:GQ,x/b.zs sq*j=x*GQ.i b.d 0:=by
 obtain⟨_,j,D,B,G⟩:=NI (if sq=0 then b.z0 else b.z1) (h.zi sq) h.n h.d;refine⟨j,D,B.mono (by show 32000<=2^15;decide),fun x=> ?_⟩;rw[<-G];have C:x/b.zs sq*b.zs sq=x:=ae8 (h.ne sq);have F:x/b.zs sq*(b.zs sq*GQ.i b.d 0)=x/b.zs sq*b.zs sq*GQ.i b.d 0:=(GQ.dE _ _ _).symm;exact F.trans (by rw[C])
def Den.WC(h:Den bs fN f D)(way:Option BrD)(G:∀b,way=γ b->iD b):∃E,oK (OE bs fN f way) E:=by
 cases way with
 |none=>exact⟨D,h.ne,iL h.wd aa,fun n=>Fr.zero⟩
 |some b=>
  have hb:=G b rfl;obtain⟨z0,n0,w0,e0⟩:=hb.zw 0;obtain⟨z1,n1,w1,e1⟩:=hb.zw 1;refine⟨D*(z0*z1),GQ.jd h.ne (GQ.jd n0 n1),iL (eZ h.wd (eZ w0 w1)) aa,fun n=> ?_⟩;refine afu ?_;show Wh (D*(z0*z1)*(if 13<=b.a/\lv bs b.a=ε then (kE bs fN f n b.a-kE bs fN f n b.b-(if n=1 then GQ.i b.emf 0 else GQ.i 0 0))/b.zs (min n 1) else GQ.i 0 0)) (q2 2250);split
  .have j:Wh (if n=1 then GQ.i b.emf 0 else GQ.i 0 0) (q2 20):=by
    split
    .exact oZ (by have:=hb.emf;show b.emf.natAbs<=2^20;omega)
    .exact iH _
   have J:Wh (D*(kE bs fN f n b.a-kE bs fN f n b.b-(if n=1 then GQ.i b.emf 0 else GQ.i 0 0))) (q2 2221):=by
    have H:=iL (h.v n b.a) (by omega:2200<=2219);have I:=iL (h.v n b.b) (by omega:2200<=2219);have F:=eZ h.wd j;rw[GQ.mI,GQ.mI,qQ 2220,abT];refine Wh.sub ?_ F;rw[qQ 2219,abT];exact H.sub I
   have hd:Wh (GQ.i b.d 0) (q2 4):=oZ (by have:=hb.d;show b.d.natAbs<=2^4;omega);generalize kE bs fN f n b.a-kE bs fN f n b.b-(if n=1 then GQ.i b.emf 0 else GQ.i 0 0)=X at J⊢;by_cases hn:n=0
   .rw[show min n 1=0 by omega];have B:D*(z0*z1)*(X/b.zs 0)=D*X*(GQ.i b.d 0*z1):=by
     have:=e0 X;have C:D*(z0*z1)*(X/b.zs 0)=D*(X/b.zs 0*z0)*z1:=by generalize X/b.zs 0=y;ext<;>simp only[GQ.bL,GQ.bK]<;>grind
     rw[C,this];ext<;>simp only[GQ.bL,GQ.bK]<;>grind
    rw[B];exact iL (eZ J (eZ hd w1)) aa
   .rw[show min n 1=1 by omega];have B:D*(z0*z1)*(X/b.zs 1)=D*X*(GQ.i b.d 0*z0):=by
     have:=e1 X;have C:D*(z0*z1)*(X/b.zs 1)=D*(X/b.zs 1*z1)*z0:=by generalize X/b.zs 1=y;ext<;>simp only[GQ.bL,GQ.bK]<;>grind
     rw[C,this];ext<;>simp only[GQ.bL,GQ.bK]<;>grind
    rw[B];exact iL (eZ J (eZ hd w0)) aa
  .rw[GQ.bY];exact iH _
def oK.const(m)(j:m.natAbs<=2^20):oK (fun n=>if n=1 then GQ.i m 0 else GQ.i 0 0) (GQ.i 1 0):=
 ⟨aj,iL (Sr (a:=1) (b:=0) (k:=0) aj) aa,fun n=>afu (by
  rw[GQ.kJ];show Wh (if n=1 then GQ.i m 0 else GQ.i 0 0) (q2 2250);split
  .exact iL (oZ (by exact j):Wh _ (q2 20)) aa
  .exact iH _)⟩
end
section
variable {s:StD} {p:dM} {f:eD} {D:GQ}
theorem Den.seqB(hs:jC s)(h:Den (bU s p f) (eO s p f) f D){i}(hi:i<s.bays.length):∃E,oK (jS s p f i) E:=by
 unfold jS;simp only[];by_cases C:(s.bays.getD i η).kind=1
 .simp only[ι C];exact⟨D,h.JG _⟩
 .simp only[θ C];by_cases j:(s.bays.getD i η).kind=2
  .simp only[ι j];cases hb:iq s p i with
   |some b=>exact⟨D,h.JG _⟩
   |none=>
    have F:=Tm (hs.obj i hi) j;have B:=hs.src (s.bays.getD i η).obj.toNat aa;unfold ky at B;simp only[υ] at B;have O:=fJ.1 B.1.1;exact⟨_,oK.const _ aa⟩
  .simp only[θ j];exact⟨D,h.ne,iL h.wd aa,fun n=>Fr.zero⟩
theorem CQ(h:jC s)(j:mR s.buses.length s.lines.length f){i}(hi:i<s.bays.length){b}(hb:way s p f i=γ b):iD b:=by
 unfold way at hb;split at hb
 .rename_i B
  injection hb with hb;subst hb;have C:=O8 (h.obj i hi) B;have O:=QP (h.rng i hi);exact yg h j aa aa
 .exact(yF h hi hb).1
end
structure sN (w:World) (bv:BrV) (b:BrD):Prop where
 pa:bv.a=b.a
 pb:bv.b=b.b
 z0:GV w bv.z0.v (b.zs 0) 64
 z1:GV w bv.z1.v (b.zs 1) 64
 e:GV w bv.e.v (GQ.i b.emf 0) 64
def sN.ext{w w' bv b}(h:sN w bv b)(x:Ext w w'):sN w' bv b:=⟨h.pa,h.pb,h.z0.ext x,h.z1.ext x,h.e.ext x⟩
def sN.fQ{S w w' bv b}(h:sN w bv b)(m:Mod S w w')(j:iB S w):sN w' bv b:=⟨h.pa,h.pb,h.z0.fQ m j,h.z1.fQ m j,h.e.fQ m j⟩
def ng (w:World) (k:Nat) (e:Nat->En) (f:Nat->GQ) (n:Nat):Prop:=∀j,j<k->GV w (e j).v (f j) n
def ng.ext{w w' k n e f}(h:ng w k e f n)(x:Ext w w'):ng w' k e f n:=fun j B=>(h j B).ext x
inductive NR where
 |any
 |gv (q:GQ) (n:Nat)
 |row (k:Nat) (f:Nat->GQ) (n:Nat)
 |box (t:TypeId) (cs:Array Value)
 |eq (u:Value)
 |br (b:BrD)
 |mk (n:Nat) (t:TypeId) (cs:Array Value)
def NR.holds:NR->Nat->Nat->Value->World->Prop
 | .any,_,_,_,_=>True
 | .gv q n,_,_,v,w=>∃e:En,v=e.v/\GV w e.v q n
 | .row k f n,_,_,v,w=>∃e:Nat->En,v=.agg (bz k e).toArray/\ng w k e f n
 | .box t cs,lo,hi,v,w=>v=.pointer (γ (aM lo 0))/\lo<hi/\Blk w lo t cs
 | .eq u,_,_,v,_=>v=u
 | .mk n t cs,lo,hi,v,w=>v=.slice (γ (aM lo 0)) n n/\lo<hi/\Blk w lo t cs
 | .br b,lo,hi,v,w=>v=.pointer (γ (aM lo 0))/\lo<hi/\∃bv:BrV,Blk w lo 167 bv.cs.toArray/\sN w bv b
def agL(f:NR){lo hi v w w'}(h:f.holds lo hi v w)(x:Ext w w'):f.holds lo hi v w':=by
 cases f with
 |any=>trivial
 |gv q n=>obtain⟨e,B,j⟩:=h;exact⟨e,B,j.ext x⟩
 |row k f n=>obtain⟨e,B,j⟩:=h;exact⟨e,B,j.ext x⟩
 |box t cs=>exact⟨h.1,h.2.1,h.2.2.ext x⟩
 |eq u=>exact h
 |br b=>obtain⟨B,j,bv,D,C⟩:=h;exact⟨B,j,bv,D.ext x,C.ext x⟩
 |mk n t cs=>exact⟨h.1,h.2.1,h.2.2.ext x⟩
def afG{q n lo hi v w}(h:NR.holds (.gv q n) lo hi v w):GV w v q n:=by
 obtain⟨e,rfl,j⟩:=h;exact j
def uI{k e T}(h:bz k e=bz k T){j}(B:j<k):e j=T j:=by
 have hc:(e j).cells=(T j).cells:=by
  apply aal;intro t;by_cases C:t<6
  .rw[<-dY (f:=e) C B,<-dY (f:=T) C B,h]
  .rw[qb Abo,qb Abo]
 generalize e j=a at hc⊢;generalize T j=b at hc⊢;cases a;cases b
 simpa[En.cells,and_assoc] using hc
def afc{k n lo hi e f w}(h:NR.holds (.row k f n) lo hi (.agg (bz k e).toArray) w):ng w k e f n:=by
 obtain⟨T,B,D⟩:=h;injection B with B;have F:bz k e=bz k T:=by simpa using congrArg Array.toList B
 exact fun j C=>by rw[uI F C];exact D j C
def VS:List (Nat×NR)->Nat->NR
 |[],_=> .any
 |p::r,i=>bif Nat.beq p.1 i then p.2 else VS r i
def Xh:List (Nat×NR)->Nat->Bool
 |[],_=>ζ
 |p::r,i=>Nat.beq p.1 i||Xh r i
def NRs (l:List (Nat×NR)):Nat->Nat->Nat->Value->World->Prop:=fun i lo hi v w=>(VS l i).holds lo hi v w
def Sg(l):∀i lo hi v w w',NRs l i lo hi v w->Ext w w'->NRs l i lo hi v w':=fun _ _ _ _ _ _ h x=>agL _ h x
def oN (w:World) (X:Nat) (v:Value) (o:Option BrD):Prop:=
 match o with
 |none=>v=.pointer δ
 |some b=>∃(g k:Nat) (bv:BrV),v=.pointer (γ (aM g k))/\g≠X/\g<w.heap.size/\(∀t u,bv.cs[t]? =γ u->w.cell? (aM g (k+t))=γ u)/\bv.a=b.a/\bv.b=b.b/\GV w bv.z0.v (b.zs 0) 64/\GV w bv.z1.v (b.zs 1) 64/\GV w bv.e.v (GQ.i b.emf 0) 64
def oN.ext{w w' X v}{o:Option BrD}(h:oN w X v o)(x:Ext w w'):oN w' X v o:=by
 cases o with
 |none=>exact h
 |some b=>
  obtain⟨g,k,bv,C,j,I,B,F,J,D,G,K⟩:=h;exact⟨g,k,bv,C,j,ο I x.size,fun t u H=>x.cell_ (B t u H),F,J,D.ext x,G.ext x,K.ext x⟩
theorem oN.mod{w w' X v}{o:Option BrD}(h:oN w X v o)(m:Mod (fun k=>k=X) w w')(B:iB (fun k=>k=X) w):oN w' X v o:=by
 cases o with
 |none=>exact h
 |some b=>
  obtain⟨g,k,bv,G,C,D,F,I,L,H,J,M⟩:=h;refine⟨g,k,bv,G,C,ο D m.size,fun t u K=> ?_,I,L,H.fQ m B,J.fQ m B,M.fQ m B⟩;have j:=F t u K;unfold World.cell? at j⊢;simp only[m.block g D C] at j⊢;exact j
def oN.new{w X Y v}{o:Option BrD}(h:oN w X v o)(M:w.heap.size<=Y):oN w Y v o:=by
 cases o with
 |none=>exact h
 |some b=>
  obtain⟨g,k,bv,B,D,C,j⟩:=h;exact⟨g,k,bv,B,aa,C,j⟩
structure oO (w:World) (X:Nat) (C:Nat->Value) (E:Nat->En) (s:StD) (p:dM) (f:eD):Prop where
 v:∀n k,n<3->k<18->GV w (E (n*18+k)).v (kE (bU s p f) (eO s p f) f n k) 4400
 i:∀n,n<3->GV w (E (54+n)).v (xE (bU s p f) (eO s p f) f n) 4400
 seen:f.kind≠0->lv (bU s p f) (eO s p f)=ε->GV w (E 57).v (bef (bU s p f) (eO s p f)) 4400/\GV w (E 58).v (drp (bU s p f) (eO s p f) 0 (eO s p f)) 4400/\GV w (E 59).v (drp (bU s p f) (eO s p f) 1 (eO s p f)) 4400
 live:∀k,k<18->C (15+k)=.bool (lv (bU s p f) k)
 ends:∀l e,l<6->e<2->C (1+2*l+e)=.int .i64 (eF s p l e:Nat)
 faulty:C 14=.int .i64 (eO s p f:Nat)
 c0:∃A n c,C 0=.slice A n c
 bays:∃(BA:Option Addr) (bc:Nat) (wv:Nat->Value),C 13=.slice BA s.bays.length bc/\Arr w BA s.bays.length 1 (fun i=>[wv i])/\∀i,i<s.bays.length->oN w X (wv i) (way s p f i)
def oO.ext{w w' X C E s p f}(h:oO w X C E s p f)(x:Ext w w'):oO w' X C E s p f:=by
 refine⟨fun n k hn F=>(h.v n k hn F).ext x,fun n hn=>(h.i n hn).ext x,fun B j=> ?_,h.live,h.ends,h.faulty,h.c0,?_⟩
 .obtain⟨a,b,c⟩:=h.seen B j;exact⟨a.ext x,b.ext x,c.ext x⟩
 .obtain⟨D,bc,wv,B,j,G⟩:=h.bays;exact⟨D,bc,wv,B,j.ext x,fun i hi=>(G i hi).ext x⟩
def oO.new{w X Y C E s p f}(h:oO w X C E s p f)(M:w.heap.size<=Y):oO w Y C E s p f:=by
 obtain⟨B,bc,wv,D,j,F⟩:=h.bays;exact⟨h.v,h.i,h.seen,h.live,h.ends,h.faulty,h.c0,B,bc,wv,D,j,fun i hi=>(F i hi).new M⟩
def oO.one{w X C E s p f}(h:oO w X C E s p f):∀i,i<33->(C i).oneCell'=ε:=fun i hi=>by
 by_cases B:i=0
 .subst B;obtain⟨A,n,c,e⟩:=h.c0;rw[e];rfl
 .by_cases G:i<13
  .have:=h.ends ((i-1)/2) ((i-1)%2) aa (pu _ aa);rw[show 1+2*((i-1)/2)+(i-1)%2=i by omega] at this;rw[this];rfl
  .by_cases j:i=13
   .subst j;obtain⟨F,bc,wv,e,_⟩:=h.bays;rw[e];rfl
   .by_cases D:i=14
    .subst D;rw[h.faulty];rfl
    .have:=h.live (i-15) aa;rw[show 15+(i-15)=i by omega] at this;rw[this];rfl
def gl (C:Nat->Value) (E:Nat->En):List Value:=(List.range 393).map (fT C E)
def xk(C E):(gl C E).length=393:=by simp[gl]
theorem Qm{C E}(h:∀i,i<33->(C i).oneCell'=ε):∀v∈gl C E,v.oneCell'=ε:=by
 intro v hv;obtain⟨i,hi,rfl⟩:=aab.1 hv;by_cases j:i<33
 .rw[dU j];exact h i j
 .unfold fT;rw[θ j];have B:(i-33)%6<(E ((i-33)/6)).cells.length:=by rw[sS];exact pu _ aa
  rw[ν B];exact eP _ _ (abt _)
def uU(C E):(prog.info? 105).map (·.size)=γ (gl C E).length:=by rw[xk];kernel_rfl
def zC (i:Nat):Value:=if i=0 then .slice δ 0 0 else if i<13 then .int .i64 0 else if i=13 then .slice δ 0 0 else if i=14 then .int .i64 0 else .bool ζ
def zt:(prog.info? 105).map (·.zero)=γ (γ (.agg (gl zC fun _=>zEn).toArray)):=ah
def Rk{w g C E}(h:Blk w g 105 (gl C E).toArray):fU w g 105 393 (fT C E):=h
def JA{w g C C' E E'}(h:Blk w g 105 (gl C E).toArray):w.there g 0 (gl C' E').length:=h.there (by rw[xx,xk,xk];omega)
def V6{w W W' g C C' E E'}(J:Ext w W)(D:w.heap.size<=g)(hb:Blk W g 105 (gl C E).toArray)(B:W'=puts W g 0 (gl C' E')):Blk W' g 105 (gl C' E').toArray/\Ext w W':=by
 subst B;refine⟨?_,fG J (Mod.puts (S:=fun k=>k=g) _ _ _ _ rfl) (fun k j=>by have j:k=g:=j;omega)⟩;have:=dm 0 (gl C' E') hb;rw[iF _ _ (by rw[xk,xk])] at this;exact this
def tR{P:Program}{J:Nat}{Q:Exit->Act->World->Prop}{a:Act}{w:World}{l:List Oper}(n:Nat)(m:List (Nat×NR)){q:Prop}(h:q)(t:q->wpT P l.toArray w (Xh m) (NRs m) (fun F a'=>∀w',fV w (NRs m) F w'->wpList P l.toArray Q (l.drop n) a' w') (l.take n) 0 Book.none a:=by
   intro h;simp only[aay,abm,ξ,τ];exact h)(j:P.follows .mixedOrders=ε:=by kernel_rfl)(B:Region.lexTailB .any l.toArray n=ε:=by kernel_rfl):(Code.region J l.toArray ε).wp P Q a w:=fP n (Xh m) (NRs m) (Sg _) j B (t h)
def fV.hR{w W:World}{Φ:Nat->Nat->Nat->Value->World->Prop}{F:Book}(h:fV w Φ F W)(i:Nat){v:Value}{lo hi n:Nat}{q:GQ}(B:F i=γ (v,lo,hi):=by rfl)(j:Φ i lo hi v W=NR.holds (.gv q n) lo hi v W:=by rfl):Hid (GV W v q n):=aW (afG (j ▸ h.at_ i B))
def Pp(N v0 q0 v1 q1 v2 q2 w)(Yw:GV w v0 q0 N)(D:GV w v1 q1 N)(YV:GV w v2 q2 N)(hs:Bd (aeW 1 q1 1 q2 1) N)(hn:2*N+65<=12800):
  CV 85 #[v0,v1,v2] w fun v w'=>(∃u,v=.tuple #[u,aJ]/\AV w' u (⟨aeW 1 q0 1 (aeW 1 q1 1 q2 1) 1,GQ.i 0 0⟩) (⟨aeW 2 q0 (-1) (aeW 1 q1 1 q2 1) 2,aeW 1 q2 (-1) q1 2*aeY 1⟩) (⟨aeW 2 q0 (-1) (aeW 1 q1 1 q2 1) 2,aeW 1 q1 (-1) q2 2*aeY 1⟩) (N+N+65)):=by
 have hS:=aeZ w;obtain⟨Zj,Zi,Zg,Yw,I0,S0⟩:=Yw;obtain⟨Yv,Yu,L,G,W,T,P,Y,U,S,H,Z,rfl,YJ,YL,YK⟩:=Yw;replace hS:=hS.bI YJ;clear YJ;replace hS:=hS.bI YL;clear YL;replace hS:=hS.bI YK;clear YK;obtain⟨YQ,YP,YO,D,I1,S1⟩:=D;obtain⟨YC,Yz,Yy,YB,YD,YE,YA,Yx,Q,O,J,V,rfl,YG,YH,YF⟩:=D;replace hS:=hS.bI YG;clear YG;replace hS:=hS.bI YH;clear YH;replace hS:=hS.bI YF;clear YF;obtain⟨Zy,ZA,Zz,YV,I2,S2⟩:=YV;obtain⟨Zv,Zt,Zp,Zq,Ze,Zn,Zd,Zo,Zr,Zx,K,Zf,rfl,ZH,ZI,ZG⟩:=YV;replace hS:=hS.bI ZH;clear ZH;replace hS:=hS.bI ZI;clear ZI;replace hS:=hS.bI ZG;clear ZG;have B:=(St.al (St.al (St.al (St.al hS 42 #[Yv,aO Yu L G,W,aO T P Y,U,aO S H Z] (g:=w.heap.size) ag) 42 #[YC,aO Yz Yy YB,YD,aO YE YA Yx,Q,aO O J V] (g:=(w.heap.size+1)) ag) 42 #[Zv,aO Zt Zp Zq,Ze,aO Zn Zd Zo,Zr,aO Zx K Zf] (g:=(w.heap.size+2)) ag) 45 #[.bool ζ,.slice δ 0 0,.bool ζ,.slice δ 0 0,.bool ζ,.slice δ 0 0,.bool ζ,.slice δ 0 0,.bool ζ,.slice δ 0 0,.bool ζ,.slice δ 0 0,.bool ζ,.slice δ 0 0,.bool ζ,.slice δ 0 0,.bool ζ,.slice δ 0 0,.bool ζ,.slice δ 0 0,.bool ζ,.slice δ 0 0,.bool ζ,.slice δ 0 0,.bool ζ,.slice δ 0 0,.bool ζ,.slice δ 0 0,.bool ζ,.slice δ 0 0,.bool ζ,.slice δ 0 0,.bool ζ,.slice δ 0 0,.bool ζ,.slice δ 0 0] (g:=(w.heap.size+3)) ag);have YN:=(B.aH 3).cell;have YM:=(B.aH 2).cell;have YR:=(B.aH 1).cell;go_enter func85,ntmps85;go_wp2_with fail;clear YN YM YR;clear B;refine gA5 hS 42 #[Yv,aO Yu L G,W,aO T P Y,U,aO S H Z] 42 #[YC,aO Yz Yy YB,YD,aO YE YA Yx,Q,aO O J V] 42 #[Zv,aO Zt Zp Zq,Ze,aO Zn Zd Zo,Zr,aO Zx K Zf] 45 #[.bool ζ,.slice δ 0 0,.bool ζ,.slice δ 0 0,.bool ζ,.slice δ 0 0,.bool ζ,.slice δ 0 0,.bool ζ,.slice δ 0 0,.bool ζ,.slice δ 0 0,.bool ζ,.slice δ 0 0,.bool ζ,.slice δ 0 0,.bool ζ,.slice δ 0 0,.bool ζ,.slice δ 0 0,.bool ζ,.slice δ 0 0,.bool ζ,.slice δ 0 0,.bool ζ,.slice δ 0 0,.bool ζ,.slice δ 0 0,.bool ζ,.slice δ 0 0,.bool ζ,.slice δ 0 0,.bool ζ,.slice δ 0 0,.bool ζ,.slice δ 0 0] 42 #[Yv,aO Yu L G,W,aO T P Y,U,aO S H Z,YC,aO Yz Yy YB,YD,aO YE YA Yx,Q,aO O J V,Zv,aO Zt Zp Zq,Ze,aO Zn Zd Zo,Zr,aO Zx K Zf] ?_;clear hS;intro w1 g3 o3 g4 o4 g5 o5 g6 o6 YY fr hS;refine(Kr YY q0 q1 q2 N N N _ (hS.aH 0) ⟨_,_,_,RG.mk (hS.aF 8) (hS.aF 7) (hS.aF 6),I0,S0⟩ aa ⟨_,_,_,RG.mk (hS.aF 5) (hS.aF 4) (hS.aF 3),I1,S1⟩ aa ⟨_,_,_,RG.mk (hS.aF 2) (hS.aF 1) (hS.aF 0),I2,S2⟩ aa).mono ?_;rintro e w2 ⟨rfl,F⟩;replace hS:=hS.mv F;clear F;have YI:=(St.al hS 197 #[aJ] (g:=w2.heap.size) ag);have YS:=(YI.aH 4).cell;have Zh:=(YI.aH 3).cell;go_wp2_with fail;clear YS Zh;clear YI;refine gA1 hS 197 #[aJ] ?_;clear hS;intro w3 g8 o8 hS;obtain⟨eg,d9,dw,cR⟩:=gI (aeW (1) q1 (1) q2 (1));have c8:Sz N eg d9 dw:=hs.sz cR;refine(mX (jW g8 _ _ q1 q2 (1) (1) (1) _ _ _ (hS.aH 0) ⟨_,_,_,RG.mk (hS.aF 5) (hS.aF 4) (hS.aF 3),I1,S1⟩ ⟨_,_,_,RG.mk (hS.aF 2) (hS.aF 1) (hS.aF 0),I2,S2⟩ aa aa aa aa aa aa aa aa) cR).mono ?_;rintro e w4 ⟨v_,rfl,M,F⟩;replace hS:=hS.mv F;clear F;obtain⟨cY,ar,cV,cX,cT,av,cW,cU,cS,aq,c7,c6,rfl,a3,az,bk⟩:=M;replace hS:=hS.bI a3;clear a3;replace hS:=hS.bI az;clear az;replace hS:=hS.bI bk;clear bk;have YT:=(St.al hS 42 aQ3 (g:=w4.heap.size) ag);have Zl:=(YT.aH 0).cell;have Zm:=(YT.aH 0).frozen;have YX:=(St.al hS 42 #[cY,aO ar cV cX,cT,aO av cW cU,cS,aO aq c7 c6] (g:=w4.heap.size) ag);have ZV:=(YX.aH 1).cell;have ds:=(St.al (St.al hS 42 #[cY,aO ar cV cX,cT,aO av cW cU,cS,aO aq c7 c6] (g:=w4.heap.size) ag) 45 #[.bool ζ,.slice δ 0 0,.bool ζ,.slice δ 0 0,.bool ζ,.slice δ 0 0,.bool ζ,.slice δ 0 0,.bool ζ,.slice δ 0 0,.bool ζ,.slice δ 0 0,.bool ζ,.slice δ 0 0,.bool ζ,.slice δ 0 0,.bool ζ,.slice δ 0 0,.bool ζ,.slice δ 0 0,.bool ζ,.slice δ 0 0,.bool ζ,.slice δ 0 0,.bool ζ,.slice δ 0 0,.bool ζ,.slice δ 0 0,.bool ζ,.slice δ 0 0,.bool ζ,.slice δ 0 0,.bool ζ,.slice δ 0 0,.bool ζ,.slice δ 0 0] (g:=(w4.heap.size+1)) ag);have ZX:=(ds.aH 7).cell;have ZE:=(ds.aH 1).cell;go_wp2_with fail;clear Zl Zm ZV ZX ZE;clear YT YX ds;refine gA2 hS 42 #[cY,aO ar cV cX,cT,aO av cW cU,cS,aO aq c7 c6] 45 #[.bool ζ,.slice δ 0 0,.bool ζ,.slice δ 0 0,.bool ζ,.slice δ 0 0,.bool ζ,.slice δ 0 0,.bool ζ,.slice δ 0 0,.bool ζ,.slice δ 0 0,.bool ζ,.slice δ 0 0,.bool ζ,.slice δ 0 0,.bool ζ,.slice δ 0 0,.bool ζ,.slice δ 0 0,.bool ζ,.slice δ 0 0,.bool ζ,.slice δ 0 0,.bool ζ,.slice δ 0 0,.bool ζ,.slice δ 0 0,.bool ζ,.slice δ 0 0,.bool ζ,.slice δ 0 0,.bool ζ,.slice δ 0 0,.bool ζ,.slice δ 0 0] ?_;clear hS;intro w5 g9 o9 g10 ZJ hS;obtain⟨d7,eo,eb,df⟩:=gI (aeW (1) q0 (1) (aeW (1) q1 (1) q2 (1)) (1));have eN:Sz (N+N+65) d7 eo eb:=(ae7 (m:=1) ⟨_,_,_,I0,S0⟩ ⟨_,_,_,cR,c8⟩ aa aa aa aa aa aa aa).sz df;refine(mX (jW g8 _ _ q0 (aeW (1) q1 (1) q2 (1)) (1) (1) (1) _ _ _ (hS.aH 2) ⟨_,_,_,RG.mk (hS.aF 11) (hS.aF 10) (hS.aF 9),I0,S0⟩ ⟨_,_,_,RG.mk (hS.aF 2) (hS.aF 1) (hS.aF 0),cR,c8⟩ aa aa aa aa aa aa aa aa) df).mono ?_;rintro e w6 ⟨v_,rfl,M,F⟩;replace hS:=hS.mv F;clear F;obtain⟨ch,R,ck,bm,b0,Zw,cL,bl,cM,ZP,bn,ca,rfl,aw,ba,bh⟩:=M;replace hS:=hS.bI aw;clear aw;replace hS:=hS.bI ba;clear ba;replace hS:=hS.bI bh;clear bh;go_wp2_with fail;refine(KO _).mono ?_;rintro e w7 ⟨v_,rfl,M,F⟩;replace hS:=hS.mv F;clear F;obtain⟨cH,ZO,cn,bA,cc,ZM,cF,cl,cx,Zk,bp,cA,rfl,ay,ax,a4⟩:=M;replace hS:=hS.bI ay;clear ay;replace hS:=hS.bI ax;clear ax;replace hS:=hS.bI a4;clear a4;have ZQ:=(hS.aH 0).cell;have ZU:=(hS.aH 0).frozen;have dl:=hS.pt 0 0 [.bool ch,.slice R ck bm,.bool b0,.slice Zw cL bl,.bool cM,.slice ZP bn ca,.bool cH,.slice ZO cn bA,.bool cc,.slice ZM cF cl,.bool cx,.slice Zk bp cA] ZJ;have dv:=(dl.aH 7).cell;have Z7:=(dl.aH 1).cell;go_wp2_with fail;clear ZQ ZU dv Z7;clear dl;replace hS:=hS.pt 0 0 [.bool ch,.slice R ck bm,.bool b0,.slice Zw cL bl,.bool cM,.slice ZP bn ca,.bool cH,.slice ZO cn bA,.bool cc,.slice ZM cF cl,.bool cx,.slice Zk bp cA] ZJ;refine gW hS ?_;clear hS;intro w8 hS;obtain⟨ee,d8,ev,di⟩:=gI (aeW (2) q0 (-1) (aeW (1) q1 (1) q2 (1)) (2));have eM:Sz (N+N+65) ee d8 ev:=(ae7 (m:=2) ⟨_,_,_,I0,S0⟩ ⟨_,_,_,cR,c8⟩ aa aa aa aa aa aa aa).sz di;refine(mX (jW g8 _ _ q0 (aeW (1) q1 (1) q2 (1)) (2) (-1) (2) _ _ _ (hS.aH 2) ⟨_,_,_,RG.mk (hS.aF 17) (hS.aF 16) (hS.aF 15),I0,S0⟩ ⟨_,_,_,RG.mk (hS.aF 8) (hS.aF 7) (hS.aF 6),cR,c8⟩ aa aa aa aa aa aa aa aa) di).mono ?_;rintro e w9 ⟨v_,rfl,M,F⟩;replace hS:=hS.mv F;clear F;obtain⟨cG,ZC,bw,cI,bx,ZW,bV,cg,cj,ZK,cJ,cD,rfl,aG,a6,bg⟩:=M;replace hS:=hS.bI aG;clear aG;replace hS:=hS.bI a6;clear a6;replace hS:=hS.bI bg;clear bg;have Z8:=(hS.aH 0).cell;have ei:=(hS.aH 0).frozen;have dn:=hS.pt 0 12 [.bool cG,.slice ZC bw cI,.bool bx,.slice ZW bV cg,.bool cj,.slice ZK cJ cD] ZJ;have Z9:=(dn.aH 5).cell;have ea:=(dn.aH 6).cell;go_wp2_with fail;clear Z8 ei Z9 ea;clear dn;replace hS:=hS.pt 0 12 [.bool cG,.slice ZC bw cI,.bool bx,.slice ZW bV cg,.bool cj,.slice ZK cJ cD] ZJ;refine gW hS ?_;clear hS;intro ZN hS;obtain⟨ed,d6,ec,dc⟩:=gI (aeW (1) q2 (-1) q1 (2));have eB:Sz (N+N+65) ed d6 ec:=(ae7 (m:=2) ⟨_,_,_,I2,S2⟩ ⟨_,_,_,I1,S1⟩ aa aa aa aa aa aa aa).sz dc;refine(mX (jW g8 _ _ q2 q1 (1) (-1) (2) _ _ _ (hS.aH 2) ⟨_,_,_,RG.mk (hS.aF 14) (hS.aF 13) (hS.aF 12),I2,S2⟩ ⟨_,_,_,RG.mk (hS.aF 17) (hS.aF 16) (hS.aF 15),I1,S1⟩ aa aa aa aa aa aa aa aa) dc).mono ?_;rintro e ZF ⟨v_,rfl,M,F⟩;replace hS:=hS.mv F;clear F;obtain⟨e5,eK,e4,fn,e9,eC,eV,ff,fb,eI,e2,e6,rfl,a0,a8,be⟩:=M;replace hS:=hS.bI a0;clear a0;replace hS:=hS.bI a8;clear a8;replace hS:=hS.bI be;clear be;go_wp2_with fail;obtain⟨d4,d2,d1,dr⟩:=gI ((aeW (1) q2 (-1) q1 (2))*aeY 1);have eR:Sz (N+N+65) d4 d2 d1:=(ae6 ⟨_,_,_,dc,eB⟩ 1).sz dr;refine(mX (iN g8 _ (aeW (1) q2 (-1) q1 (2)) (N+N+65) 1 (1) _ rfl (hS.aH 2) ⟨_,_,_,RG.mk (hS.aF 2) (hS.aF 1) (hS.aF 0),dc,eB⟩ aa aa) dr).mono ?_;rintro e fL ⟨v_,rfl,M,F⟩;replace hS:=hS.mv F;clear F;obtain⟨cv,ZB,cd,cp,ce,YW,bo,cf,cN,Za,cw,cP,rfl,bi,a1,aI⟩:=M;replace hS:=hS.bI bi;clear bi;replace hS:=hS.bI a1;clear a1;replace hS:=hS.bI aI;clear aI;have es:=(hS.aH 0).cell;have ej:=(hS.aH 0).frozen;have dk:=hS.pt 0 18 [.bool cv,.slice ZB cd cp,.bool ce,.slice YW bo cf,.bool cN,.slice Za cw cP] ZJ;have er:=(dk.aH 7).cell;have dy:=(dk.aH 1).cell;go_wp2_with fail;clear es ej er dy;clear dk;replace hS:=hS.pt 0 18 [.bool cv,.slice ZB cd cp,.bool ce,.slice YW bo cf,.bool cN,.slice Za cw cP] ZJ;refine gW hS ?_;clear hS;intro ZL hS;obtain⟨ey,d5,eh,de⟩:=gI (aeW (2) q0 (-1) (aeW (1) q1 (1) q2 (1)) (2));have eT:Sz (N+N+65) ey d5 eh:=(ae7 (m:=2) ⟨_,_,_,I0,S0⟩ ⟨_,_,_,cR,c8⟩ aa aa aa aa aa aa aa).sz de;refine(mX (jW g8 _ _ q0 (aeW (1) q1 (1) q2 (1)) (2) (-1) (2) _ _ _ (hS.aH 2) ⟨_,_,_,RG.mk (hS.aF 26) (hS.aF 25) (hS.aF 24),I0,S0⟩ ⟨_,_,_,RG.mk (hS.aF 17) (hS.aF 16) (hS.aF 15),cR,c8⟩ aa aa aa aa aa aa aa aa) de).mono ?_;rintro e fy ⟨v_,rfl,M,F⟩;replace hS:=hS.mv F;clear F;obtain⟨cr,YZ,cy,cC,cb,YU,bt,cQ,ci,Zc,cE,cB,rfl,a5,a2,a9⟩:=M;replace hS:=hS.bI a5;clear a5;replace hS:=hS.bI a2;clear a2;replace hS:=hS.bI a9;clear a9;have ek:=(hS.aH 0).cell;have ef:=(hS.aH 0).frozen;have dp:=hS.pt 0 24 [.bool cr,.slice YZ cy cC,.bool cb,.slice YU bt cQ,.bool ci,.slice Zc cE cB] ZJ;have ez:=(dp.aH 6).cell;have du:=(dp.aH 5).cell;go_wp2_with fail;clear ek ef ez du;clear dp;replace hS:=hS.pt 0 24 [.bool cr,.slice YZ cy cC,.bool cb,.slice YU bt cQ,.bool ci,.slice Zc cE cB] ZJ;refine gW hS ?_;clear hS;intro fx hS;obtain⟨dx,ep,et,ZT⟩:=gI (aeW (1) q1 (-1) q2 (2));have eA:Sz (N+N+65) dx ep et:=(ae7 (m:=2) ⟨_,_,_,I1,S1⟩ ⟨_,_,_,I2,S2⟩ aa aa aa aa aa aa aa).sz ZT;refine(mX (jW g8 _ _ q1 q2 (1) (-1) (2) _ _ _ (hS.aH 2) ⟨_,_,_,RG.mk (hS.aF 26) (hS.aF 25) (hS.aF 24),I1,S1⟩ ⟨_,_,_,RG.mk (hS.aF 23) (hS.aF 22) (hS.aF 21),I2,S2⟩ aa aa aa aa aa aa aa aa) ZT).mono ?_;rintro e fB ⟨v_,rfl,M,F⟩;replace hS:=hS.mv F;clear F;obtain⟨e3,eE,fg,fh,e8,eJ,fm,fd,fa,ZR,e7,fj,rfl,aP,aE,bj⟩:=M;replace hS:=hS.bI aP;clear aP;replace hS:=hS.bI aE;clear aE;replace hS:=hS.bI bj;clear bj;go_wp2_with fail;obtain⟨ew,dT,d0,dq⟩:=gI ((aeW (1) q1 (-1) q2 (2))*aeY 1);have eL:Sz (N+N+65) ew dT d0:=(ae6 ⟨_,_,_,ZT,eA⟩ 1).sz dq;refine(mX (iN g8 _ (aeW (1) q1 (-1) q2 (2)) (N+N+65) 1 (1) _ rfl (hS.aH 2) ⟨_,_,_,RG.mk (hS.aF 2) (hS.aF 1) (hS.aF 0),ZT,eA⟩ aa aa) dq).mono ?_;rintro e eS ⟨v_,rfl,M,F⟩;replace hS:=hS.mv F;clear F;obtain⟨ZY,j,ac,am,ad,C,ZZ,ai,ao,I,af,ap,rfl,a7,aB,bb⟩:=M;replace hS:=hS.bI a7;clear a7;replace hS:=hS.bI aB;clear aB;replace hS:=hS.bI bb;clear bb;have fk:=(hS.aH 0).cell;have fi:=(hS.aH 0).frozen;have bq:=hS.pt 0 30 [.bool ZY,.slice j ac am,.bool ad,.slice C ZZ ai,.bool ao,.slice I af ap] ZJ;have eW:=(bq.aH 2).cell;have db:=(bq.aH 0);have da:=(bq.aH 4);have HT:=aW (And.intro db da);clear db da bq;(iterate 33 (try (first|go_values|go_skip|go_guarded|go_step|go_upon|go_in|go_back|go_simp)));(go_wp2_with (first|(refine wpList_load_row rfl 45 _ rfl g10 rf 45 _ (0,0) _ HT.o.1 Be rfl (PK rfl) ?_)|(refine wpList_store_row rfl 45 _ _ rfl g6 _ rf rf 45 _ HT.o.2 (PK rfl) rf ah ?_)));replace hS:=(St.row (St.put (W':=((((((eS.setCell ⟨g10,30,δ⟩ (.bool ZY)).setCell ⟨g10,31,δ⟩ (.slice j ac am)).setCell ⟨g10,32,δ⟩ (.bool ad)).setCell ⟨g10,33,δ⟩ (.slice C ZZ ai)).setCell ⟨g10,34,δ⟩ (.bool ao)).setCell ⟨g10,35,δ⟩ (.slice I af ap))) hS 0 30 [.bool ZY,.slice j ac am,.bool ad,.slice C ZZ ai,.bool ao,.slice I af ap] (cs':= #[.bool ch,.slice R ck bm,.bool b0,.slice Zw cL bl,.bool cM,.slice ZP bn ca,.bool cH,.slice ZO cn bA,.bool cc,.slice ZM cF cl,.bool cx,.slice Zk bp cA,.bool cG,.slice ZC bw cI,.bool bx,.slice ZW bV cg,.bool cj,.slice ZK cJ cD,.bool cv,.slice ZB cd cp,.bool ce,.slice YW bo cf,.bool cN,.slice Za cw cP,.bool cr,.slice YZ cy cC,.bool cb,.slice YU bt cQ,.bool ci,.slice Zc cE cB,.bool ZY,.slice j ac am,.bool ad,.slice C ZZ ai,.bool ao,.slice I af ap]) (bs':=_) rfl ZJ rfl rfl ah rfl) 4 (cs':= #[.bool ch,.slice R ck bm,.bool b0,.slice Zw cL bl,.bool cM,.slice ZP bn ca,.bool cH,.slice ZO cn bA,.bool cc,.slice ZM cF cl,.bool cx,.slice Zk bp cA,.bool cG,.slice ZC bw cI,.bool bx,.slice ZW bV cg,.bool cj,.slice ZK cJ cD,.bool cv,.slice ZB cd cp,.bool ce,.slice YW bo cf,.bool cN,.slice Za cw cP,.bool cr,.slice YZ cy cC,.bool cb,.slice YU bt cQ,.bool ci,.slice Zc cE cB,.bool ZY,.slice j ac am,.bool ad,.slice C ZZ ai,.bool ao,.slice I af ap]) (bs':=_) rfl o6 ah rfl);exact Xe rfl rfl rfl (hS.aH 4) ⟨_,rfl,⟨_,rfl,_,_,_,_,_,_,_,_,_,_,_,_,_,_,_,_,_,_,RA.mk (hS.aF 23) (hS.aF 22) (hS.aF 21) (hS.aF 20) (hS.aF 19) (hS.aF 18) (hS.aF 17) (hS.aF 16) (hS.aF 15) (hS.aF 11) (hS.aF 10) (hS.aF 9) (hS.aF 8) (hS.aF 7) (hS.aF 6) (hS.aF 2) (hS.aF 1) (hS.aF 0),df,Sz.mono eN aa,(L8 0 0),Sz.mono (U0 (n:=1) aa) aa,di,Sz.mono eM aa,dr,Sz.mono eR aa,de,Sz.mono eT aa,dq,Sz.mono eL aa⟩,hS.ext⟩
def AA{w0 w2 w' g t cs}(B)(J:Ext w0 w2)(H:w0.heap.size<=g)(hb:Blk w2 g t cs)(hn:lS cs=ε)(j:w'=puts w2 g 0 B):
  Ext w0 w'/\Blk w' g t (gJ cs 0 B)/\(∀v q n,GV w2 v q n->GV w' v q n):=by
 have I:Mod (fun k=>k=g) w2 w':=by rw[j];exact Mod.only (gV _ _ _ _) rfl
 have G:Far (fun k=>k=g) w2:=fun k D _=>by
  obtain rfl:k=g:=D;exact⟨_,_,hb,hn⟩
 have F:Ext w0 w':=by rw[j];exact fO (H:Own w0 g) 0 B J
 have C:Blk w' g t (gJ cs 0 B):=by rw[j];exact dm 0 B hb
 exact⟨F,C,fun v q n h=>h.mod I G⟩
def pJ:(prog.info? 102).map (·.size)=γ (18:Nat):=ah
def sV(a b c:En):∀v∈a.cells++(b.cells++c.cells),v.oneCell'=ε:=by
 intro v hv;rw[aae,aae] at hv;rcases hv with h|h|h
 .exact eP a v h
 .exact eP b v h
 .exact eP c v h
def pk3 (a b c:En) (k:Nat):En:=if k=0 then a else if k=1 then b else c
def xK(a b c):bz 3 (pk3 a b c)=a.cells++(b.cells++c.cells):=by
 rw[jr,jr,jr];show(([]++a.cells)++b.cells)++c.cells=_;rw[aa8,I5]
def X5(a b c:En):(a.cells++(b.cells++c.cells)).length=18:=rfl
def PN(l B:List Value)(j:l.length=18)(C:B.length=18):gJ l.toArray 0 B=B.toArray:=by
 rw[jR,abm,aa8,j,χ aa,adk aa,Z6]
def xQ(a b c):(prog.info? 102).map (·.size)=γ (bz 3 (pk3 a b c)).toArray.size:=by
 rw[xx,xK,X5];exact pJ
def xB{w g}{l:List Value}{a b c:En}(h:Blk w g 102 (gJ l.toArray 0 (a.cells++(b.cells++c.cells))))(Z:l.length=18):Blk w g 102 (bz 3 (pk3 a b c)).toArray:=by
 rw[PN _ _ Z (X5 a b c)] at h;rw[xK];exact h
theorem Vn(gx gf C)(f:eD)(eV YN ZU:En)(v z1 z0 M0 M1 w)(hc:dz w gf)(hg:fU w gx 105 393 C)(cv:∀t u,eV.cells[t]? =γ u->C (375+t)=u)(c0:∀t u,ZU.cells[t]? =γ u->C (381+t)=u)(c1:∀t u,YN.cells[t]? =γ u->C (387+t)=u)(de:GV w eV.v v 841)(g1:GV w YN.v z1 841)(g0:GV w ZU.v z0 841)(hS:Seen M0 M1 v z1 z0)(hr:0<=f.r/\f.r<=1000):
  Calls prog 126 #[aN gx 0,aN gf 0,nU f] w fun e w'=>∃(a:Nat->En),e=.returned (.agg (bz 3 a).toArray)/\(∀k,k<3->GV w' (a k).v (oW f.kind v z1 z0 (GQ.i f.r 0) k) 4400)/\Ext w w':=by
 obtain⟨x2,b1,b2⟩:=an2 w 33 #[f.kind,f.line,f.obj,f.num,f.den,f.r] 102 #[ζ,(),ζ,(),ζ,(),ζ,(),ζ,(),ζ,(),ζ,(),ζ,(),ζ,()];have HX:=aW x2;have Y:=aW b1;have Q:=aW b2;have HC:=aW (hc.ext x2);have HG:=aW (hg.ext x2);have P:=aW (de.ext x2);have D:=aW (g1.ext x2);have K:=aW (g0.ext x2);have ZG:=aW cv;have a4:=aW c0;have Zx:=aW c1;have YP:=aW hr;have HS:=aW hS;clear x2 b1 b2 hc hg de g1 g0 cv c0 c1 hr hS;unfold nU;go_enter func126,ntmps126;go_wp2_with fail;generalize aU _ _=w5 at HX Y Q HC HG P D K⊢;generalize Zt:w.heap.size+1=q2 at Q⊢;have YG:Hid (w.heap.size<=q2):=aW aa;clear Zt;generalize w.heap.size=q1 at Y⊢;have ck:=aX.cell (HG.cell_ (k:=375) aa (ZG.o 0 _ rfl));have cl:=aX.cell (HG.cell_ (k:=376) aa (ZG.o 1 _ rfl));have cd:=aX.cell (HG.cell_ (k:=377) aa (ZG.o 2 _ rfl));have ch:=aX.cell (HG.cell_ (k:=378) aa (ZG.o 3 _ rfl));have bo:=aX.cell (HG.cell_ (k:=379) aa (ZG.o 4 _ rfl));have cg:=aX.cell (HG.cell_ (k:=380) aa (ZG.o 5 _ rfl));have a0:=aX.cell (HG.cell_ (k:=381) aa (a4.o 0 _ rfl));have aE:=aX.cell (HG.cell_ (k:=382) aa (a4.o 1 _ rfl));have aB:=aX.cell (HG.cell_ (k:=383) aa (a4.o 2 _ rfl));have aI:=aX.cell (HG.cell_ (k:=384) aa (a4.o 3 _ rfl));have a2:=aX.cell (HG.cell_ (k:=385) aa (a4.o 4 _ rfl));have az:=aX.cell (HG.cell_ (k:=386) aa (a4.o 5 _ rfl));have ay:=aX.cell (HG.cell_ (k:=387) aa (Zx.o 0 _ rfl));have ax:=aX.cell (HG.cell_ (k:=388) aa (Zx.o 1 _ rfl));have aG:=aX.cell (HG.cell_ (k:=389) aa (Zx.o 2 _ rfl));have a1:=aX.cell (HG.cell_ (k:=390) aa (Zx.o 3 _ rfl));have av:=aX.cell (HG.cell_ (k:=391) aa (Zx.o 4 _ rfl));have aP:=aX.cell (HG.cell_ (k:=392) aa (Zx.o 5 _ rfl));have d7:=aX.cell ((Y.cell 5).trans rfl);refine qw 24 (DK [(1,.any),(5,.any),(10,.any),(17,.any),(18,.any),(19,.any),(20,.any),(21,.any),(22,.any),(23,.any)]) (NFs [(1,.eq (.pointer (γ (aM gx 0)))),(5,.eq (.pointer (γ (aM gx 0)))),(10,.eq (.pointer (γ (aM gx 0)))),(17,.gv (GQ.i f.r 0) (64)),(18,.pt),(19,.pt),(20,.pt),(21,.pt)]) (PdG [18,19,20,21]) (PoG (fun i=>if i=18 then eV else YN)) (SG [(22,18),(23,19),(24,20),(25,21)]) (afE _ _ _ _ rf ah) ah ah ?_;refine Qd ?_;refine lN 1 rf ah ?_;refine Qd ?_;refine aS ?_;refine jD rf rf rf rf ?_ ?_
 .exact Adk
 intro v_ ei ep YD;obtain⟨R,YC⟩:=YD;obtain rfl:v_=_:=YC.get;clear YC R;refine Qp ?_;refine lN 3 rf ah ?_;refine Qd ?_;refine aS ?_;refine jD rf rf rf rf ?_ ?_
 .exact Adk
 intro v_ eo ef YD;obtain⟨R,YC⟩:=YD;obtain rfl:v_=_:=YC.get;clear YC R;refine Qp ?_;refine lN 4 rf ah ?_;refine Qd ?_;refine aS ?_;refine jD rf rf rf rf ?_ ?_
 .exact Adk
 intro v_ es d8 YD;obtain⟨R,YC⟩:=YD;obtain rfl:v_=_:=YC.get;clear YC R;refine Qp ?_;refine lN 6 rf ah ?_;refine Qd ?_;refine aS ?_;refine jD rf rf rf rf ?_ ?_
 .intro R hW I;clear I;go_simp;exact⟨rfl,(dR gf f.r _ (HC.ext hW) (by have:=YP.o;omega) (by have:=YP.o;omega)).mono fun e w' ⟨v,O,hv,J⟩=>⟨v,O,J,fun h=>absurd h aj,uh hv⟩⟩
 intro v_ cC cU YD;obtain⟨R,YC⟩:=YD;obtain⟨ZV,rfl,-⟩:NF.holds (.gv (GQ.i f.r 0) (64)) cC cU v_ R:=YC.get;clear YC R;refine Qp ?_;refine jD rf rf rf rf ?_ ?_
 .exact AaA
 intro v_ g7 YL YD;obtain⟨R,YC⟩:=YD;obtain⟨rfl,YW⟩:NF.holds .pt g7 YL v_ R:=YC.get;clear YC R;refine Qp ?_;refine jD rf rf rf rf ?_ ?_
 .exact AaA
 intro v_ g8 ZR YD;obtain⟨R,YC⟩:=YD;obtain⟨rfl,YJ⟩:NF.holds .pt g8 ZR v_ R:=YC.get;clear YC R;refine Qp ?_;refine jD rf rf rf rf ?_ ?_
 .exact AaA
 intro v_ g9 d4 YD;obtain⟨R,YC⟩:=YD;obtain⟨rfl,a7⟩:NF.holds .pt g9 d4 v_ R:=YC.get;clear YC R;refine Qp ?_;refine jD rf rf rf rf ?_ ?_
 .exact AaA
 intro v_ g10 YU YD;obtain⟨R,YC⟩:=YD;obtain⟨rfl,Zi⟩:NF.holds .pt g10 YU v_ R:=YC.get;clear YC R;refine Qp ?_;refine Je (j:=18) (e:=(.pointer (γ (aM g7 0)),g7,YL)) rf rf rf rf rf YW rf (fun _ _ _ _=>trivial) ?_ ?_
 .intro R hP;exact RJ rf rf rf (hP rf)
 intro ek;refine Qp ?_;refine Je (j:=19) (e:=(.pointer (γ (aM g8 0)),g8,ZR)) rf rf rf rf rf YJ rf (fun _ _ _ _=>trivial) ?_ ?_
 .intro R hP;exact RJ rf rf rf (hP rf)
 intro ec;refine Qp ?_;refine Im ?_;intro w6 I;have F:=I.ext;have H:=I.hV 17;have Z:Hid (Blk w6 g7 42 #[eV.s1,aO eV.A1 eV.n1 eV.c1,eV.s2,aO eV.A2 eV.n2 eV.c2,eV.s3,aO eV.A3 eV.n3 eV.c3]):=aW (I.post 22 18 _ _ rf rf rf).2;have cQ:=aW (I.lw 18);have W:Hid (Blk w6 g8 42 #[YN.s1,aO YN.A1 YN.n1 YN.c1,YN.s2,aO YN.A2 YN.n2 YN.c2,YN.s3,aO YN.A3 YN.n3 YN.c3]):=aW (I.post 23 19 _ _ rf rf rf).2;have cH:=aW (I.lw 19);have V:Hid (Blk w6 g9 42 aQ3):=aW (I.pend 24 20 _ rf rf rf rf).2;have bb:=aW (I.lw 20);have S:Hid (Blk w6 g10 42 aQ3):=aW (I.pend 25 21 _ rf rf rf rf).2;have aq:=aW (I.lw 21);have Z9:=aW (I.nn 18 20 YW a7);have ZK:=aW (I.nn 18 21 YW Zi);have ZX:=aW (I.nn 19 20 YJ a7);have ZJ:=aW (I.nn 19 21 YJ Zi);have ZI:=aW (I.nn 20 21 a7 Zi);have ZO:=aW (I.nn 21 20 Zi a7);clear I YW YJ a7 Zi ck cl cd ch bo cg a0 aE aB aI a2 az ay ax aG a1 av aP d7;have N:=aW (V.there (o:=0) (n:=6) ag);refine bG rfl 42 (.tmp 9) (.tmp 31) rfl g9 0 ZU.cells rf rf N.o cO (eP ZU) ?_;intro w7 B;refine Qp ?_;obtain⟨F,Yy,M,YH⟩:=ni ZU F bb.o V.o B;clear B N;replace H:=aW (M _ _ _ H.o);replace Z:=aW (YH _ _ _ Z9.o Z.o);replace W:=aW (YH _ _ _ ZX.o W.o);replace S:=aW (YH _ _ _ ZO.o S.o);replace V:=aW Yy;clear Yy M YH;have N:=aW (S.there (o:=0) (n:=6) ag);refine bG rfl 42 (.tmp 10) (.tmp 35) rfl g10 0 ZV.cells rf rf N.o cO (eP ZV) ?_;intro w8 B;refine Qp ?_;obtain⟨F,Yy,M,YH⟩:=ni ZV F aq.o S.o B;clear B N;replace H:=aW (M _ _ _ H.o);replace Z:=aW (YH _ _ _ ZK.o Z.o);replace W:=aW (YH _ _ _ ZJ.o W.o);replace V:=aW (YH _ _ _ ZI.o V.o);replace S:=aW Yy;clear Yy M YH;clear Z9 ZK ZX ZJ ZI ZO;replace HC:=HC.aA F;replace HG:=HG.aA F;replace Y:=Y.aA F;replace Q:=Q.aA F;replace P:=P.aA F;replace D:=D.aA F;replace K:=K.aA F;replace HX:=HX.aC F;clear F;clear cQ;clear cH;clear bb;clear aq;go_wp2_with fail;refine(dR gf 0 _ HC.o aa aa).mono ?_;rintro _ w9 ⟨_,rfl,M,F⟩;replace M:∃e:En,_=e.v/\GV w9 e.v (GQ.i 0 0) (64):=uh M;obtain⟨ZA,rfl,M⟩:=M;replace HC:=HC.aA F;replace HG:=HG.aA F;replace Y:=Y.aA F;replace Q:=Q.aA F;replace P:=P.aA F;replace D:=D.aA F;replace K:=K.aA F;replace H:=H.aA F;replace Z:=Z.aA F;replace W:=W.aA F;replace V:=V.aA F;replace S:=S.aA F;replace HX:=HX.aC F;have L:=aW M;clear F M;have F:=Ext.new w9 (.cells aQ3 42);obtain⟨-,T⟩:=ah1 w9 42 aQ3;replace L:=L.aA F;have N:=aW (T.there (o:=0) (n:=6) ag);(iterate 5 (try (first|go_values|go_skip|go_guarded|go_step|go_upon|go_in|go_back|go_simp)));refine bG rfl 42 (.tmp 11) (.tmp 37) rfl w9.heap.size 0 ZA.cells rf rf N.o cO (eP ZA) ?_;intro ZN B;refine Qp ?_;obtain⟨F,Yy,M,-⟩:=ni ZA F (κ _) T.o B;clear B N;replace L:=aW (M _ _ _ L.o);replace T:=aW Yy;replace HC:=HC.aA F;replace HG:=HG.aA F;replace Y:=Y.aA F;replace Q:=Q.aA F;replace P:=P.aA F;replace D:=D.aA F;replace K:=K.aA F;replace H:=H.aA F;replace Z:=Z.aA F;replace W:=W.aA F;replace V:=V.aA F;replace S:=S.aA F;replace HX:=HX.aC F;clear F Yy M;generalize w9.heap.size=ZZ at T⊢;by_cases h3:f.kind<=3
 .have Yu:=aW (show f.kind<=3 from h3);clear h3;have kf:=Blk.cell Y.o;have Zr:decide (f.kind<=3)=ε:=Λ Ac1;go_wp2_with fail;clear kf Zr;have YV:=aW (show Bd (v/(z1*GQ.i 2 0+z0+GQ.i f.r 0*GQ.i 3 0)) 2600 by have G:=HS.bd f.kind YP.o.1 YP.o.2 0;unfold oW at G;rwa[ι Yu.o] at G);have YX:=aW (HS.neA f.r);have Zc:=aX.blk Z.o;have Zg:=aX.blk W.o;have Zf:=aX.blk V.o;have YF:=aX.blk S.o;have YM:=aX.blk T.o;refine tN 15 [(6,.gv (z1*GQ.i 2 0) (906)),(8,.gv ((z1*GQ.i 2 0)+z0) (1812)),(11,.gv ((GQ.i f.r 0)*GQ.i 3 0) (129)),(12,.gv (((z1*GQ.i 2 0)+z0)+((GQ.i f.r 0)*GQ.i 3 0)) (2006)),(13,.gv (v/(((z1*GQ.i 2 0)+z0)+((GQ.i f.r 0)*GQ.i 3 0))) (2600)),(14,.box 42 aQ3)] ?_;refine Qs ?_;refine Ee (fun R I=>vg gf YN.v z1 (841) 2 _ (HC.ext I.1) (D.ext I.1) aa aa) ?_;intro dc cD cL;refine Qs ?_;refine Ee (fun R I=>nO gf dc.v ZU.v (z1*GQ.i 2 0) z0 (906) (841) _ (HC.ext I.1) (ae5 (I.f 6 (dc.v,cD,cL))) (K.ext I.1) aa) ?_;intro dq cV cF;refine Qs ?_;refine Ee (fun R I=>vg gf ZV.v (GQ.i f.r 0) (64) 3 _ (HC.ext I.1) (H.ext I.1) aa aa) ?_;intro dn cG cP;refine Ee (fun R I=>nO gf dq.v dn.v ((z1*GQ.i 2 0)+z0) ((GQ.i f.r 0)*GQ.i 3 0) (1812) (129) _ (HC.ext I.1) (ae5 (I.f 8 (dq.v,cV,cF))) (ae5 (I.f 11 (dn.v,cG,cP))) aa) ?_;intro dr cM cN;refine Ee (fun R I=>nR gf eV.v dr.v v (((z1*GQ.i 2 0)+z0)+((GQ.i f.r 0)*GQ.i 3 0)) (841) (2006) _ (HC.ext I.1) (P.ext I.1) (ae5 (I.f 12 (dr.v,cM,cN))) YX.o (2600) aa aa YV.o aa) ?_;intro ZB d9 er;refine Eb ?_;intro g12 ZT ZP;refine bN ?_;intro ZF I;have F:=I.ext;have ZY:=I.hV 6;have ac:=I.hV 8;have Z8:=I.hV 11;have Z7:=I.hV 12;have Zl:=I.hV 13;have Zz:=I.hB 14;have ap:=aW (I.lw 14);clear I Zc Zg Zf YF YM ZP;have N:=aW (Zz.there (o:=0) (n:=6) ag);refine bG rfl 42 (.tmp 12) (.tmp 55) rfl g12 0 ZB.cells rf rf N.o cO (eP ZB) ?_;intro cy B;refine Qp ?_;obtain⟨F,Yy,M,YH⟩:=ni ZB F ap.o Zz.o B;clear B N;replace ZY:=aW (M _ _ _ ZY.o);replace ac:=aW (M _ _ _ ac.o);replace Z8:=aW (M _ _ _ Z8.o);replace Z7:=aW (M _ _ _ Z7.o);replace Zl:=aW (M _ _ _ Zl.o);replace Zz:=aW Yy;clear Yy M YH;replace HC:=HC.aA F;replace HG:=HG.aA F;replace Y:=Y.aA F;replace Q:=Q.aA F;replace P:=P.aA F;replace D:=D.aA F;replace K:=K.aA F;replace H:=H.aA F;replace L:=L.aA F;replace Z:=Z.aA F;replace W:=W.aA F;replace V:=V.aA F;replace S:=S.aA F;replace T:=T.aA F;replace HX:=HX.aC F;clear F;clear ap;have ey:=Blk.cell Zz.o;have N:=aW (Q.there (o:=0) (n:=18) ag);(iterate 17 (try (first|go_values|go_skip|go_guarded|go_step|go_upon|go_in|go_back|go_simp)));refine bG rfl 102 (.tmp 6) (.tmp 59) rfl q2 0 (ZB.cells++(ZB.cells++ZB.cells)) rf rf N.o pJ (sV _ _ _) ?_;intro ZL B;obtain⟨F,Yy,M⟩:=AA _ HX.o YG.o Q.o rf B;clear B N;have HB:=aW Yy;have Yz:=aW F;have Yx:=aW M;clear F Yy M;go_wp2_with fail;have U:=xB HB.o rfl;refine jo rfl rfl rfl U z8 rfl (xQ _ _ _) ⟨pk3 ZB ZB ZB,rfl,fun k hk=> ?_,Yz.o⟩;have h3:k=0\/k=1\/k=2:=aa;rcases h3 with rfl|rfl|rfl
  .exact Acw
  .exact Acw
  .exact Acw
 by_cases h6:f.kind<=6
 .have Yu:=aW (show 3<f.kind/\f.kind<=6 from ⟨aa,h6⟩);clear h3 h6;have kf:=Blk.cell Y.o;have Zr:decide (f.kind<=3)=ζ:=ρ Ac1;have a8:decide (f.kind<=6)=ε:=Λ Ac1;go_wp2_with fail;clear kf Zr a8;have YV:=aW (show Bd (v/(z1*GQ.i 2 0+GQ.i f.r 0)) 2600 by have G:=HS.bd f.kind YP.o.1 YP.o.2 1;unfold oW at G;rwa[θ (show ¬f.kind<=3 by have:=Yu.o;omega),ι (show f.kind<=6 by have:=Yu.o;omega),θ aj,ι rfl] at G);have YX:=aW (HS.neB f.r);have Zc:=aX.blk Z.o;have Zg:=aX.blk W.o;have Zf:=aX.blk V.o;have YF:=aX.blk S.o;have YM:=aX.blk T.o;refine tN 10 [(5,.gv (z1*GQ.i 2 0) (906)),(7,.gv ((z1*GQ.i 2 0)+(GQ.i f.r 0)) (1035)),(8,.gv (v/((z1*GQ.i 2 0)+(GQ.i f.r 0))) (2600)),(9,.box 42 aQ3)] ?_;refine Qs ?_;refine Ee (fun R I=>vg gf YN.v z1 (841) 2 _ (HC.ext I.1) (D.ext I.1) aa aa) ?_;intro dp cT cY;refine Qs ?_;refine Ee (fun R I=>nO gf dp.v ZV.v (z1*GQ.i 2 0) (GQ.i f.r 0) (906) (64) _ (HC.ext I.1) (ae5 (I.f 5 (dp.v,cT,cY))) (H.ext I.1) aa) ?_;intro da cJ cA;refine Ee (fun R I=>nR gf eV.v da.v v ((z1*GQ.i 2 0)+(GQ.i f.r 0)) (841) (1035) _ (HC.ext I.1) (P.ext I.1) (ae5 (I.f 7 (da.v,cJ,cA))) YX.o (2600) aa aa YV.o aa) ?_;intro a6 ee ed;refine Eb ?_;intro ZW Zj cR;refine bN ?_;intro ZF I;have F:=I.ext;have Zo:=I.hV 5;have Zp:=I.hV 7;have Za:=I.hV 8;have ZC:=I.hB 9;have am:=aW (I.lw 9);clear I Zc Zg Zf YF YM cR;have N:=aW (ZC.there (o:=0) (n:=6) ag);refine bG rfl 42 (.tmp 13) (.tmp 72) rfl ZW 0 a6.cells rf rf N.o cO (eP a6) ?_;intro cy B;refine Qp ?_;obtain⟨F,Yy,M,YH⟩:=ni a6 F am.o ZC.o B;clear B N;replace Zo:=aW (M _ _ _ Zo.o);replace Zp:=aW (M _ _ _ Zp.o);replace Za:=aW (M _ _ _ Za.o);replace ZC:=aW Yy;clear Yy M YH;replace HC:=HC.aA F;replace HG:=HG.aA F;replace Y:=Y.aA F;replace Q:=Q.aA F;replace P:=P.aA F;replace D:=D.aA F;replace K:=K.aA F;replace H:=H.aA F;replace L:=L.aA F;replace Z:=Z.aA F;replace W:=W.aA F;replace V:=V.aA F;replace S:=S.aA F;replace T:=T.aA F;replace HX:=HX.aC F;clear F;clear am;go_wp2_with fail;have Zc:=aX.blk Z.o;have Zg:=aX.blk W.o;have Zf:=aX.blk V.o;have YF:=aX.blk S.o;have YM:=aX.blk T.o;have cW:=aX.blk ZC.o;refine tN 6 [(4,.gv (GQ.i 0 0-(v/((z1*GQ.i 2 0)+(GQ.i f.r 0)))) (2729))] ?_;refine Qs ?_;refine Ee (fun R I=>FN gf a6.v (v/((z1*GQ.i 2 0)+(GQ.i f.r 0))) (2600) _ (HC.ext I.1) (Za.ext I.1) aa) ?_;intro c8 ej eb;simp only[En.v,gv];refine Qs ?_;refine bN ?_;intro ZL I;have F:=I.ext;have aw:=I.hV 4;clear I Zc Zg Zf YF YM cW;replace HC:=HC.aA F;replace HG:=HG.aA F;replace Y:=Y.aA F;replace Q:=Q.aA F;replace P:=P.aA F;replace D:=D.aA F;replace K:=K.aA F;replace H:=H.aA F;replace L:=L.aA F;replace Zo:=Zo.aA F;replace Zp:=Zp.aA F;replace Za:=Za.aA F;replace HX:=HX.aC F;clear F;have N:=aW (Q.there (o:=0) (n:=18) ag);refine bG rfl 102 (.tmp 6) (.tmp 78) rfl q2 0 (ZA.cells++(a6.cells++c8.cells)) rf rf N.o pJ (sV _ _ _) ?_;intro d6 B;refine Qp ?_;obtain⟨F,Yy,M⟩:=AA _ HX.o YG.o Q.o rf B;clear B N;have HB:=aW Yy;have Yz:=aW F;have Yx:=aW M;clear F Yy M;go_wp2_with fail;have U:=xB HB.o rfl;refine jo rfl rfl rfl U z8 rfl (xQ _ _ _) ⟨pk3 ZA a6 c8,rfl,fun k hk=> ?_,Yz.o⟩;have h3:k=0\/k=1\/k=2:=aa;rcases h3 with rfl|rfl|rfl
  .have G:=(Yx.o _ _ _ L.o).up (show 64<=4400 by omega);unfold oW;rw[θ (show ¬f.kind<=3 by have:=Yu.o;omega),ι (show f.kind<=6 by have:=Yu.o;omega),ι rfl];exact G
  .have G:=(Yx.o _ _ _ Za.o).up (show 2600<=4400 by omega);unfold oW;rw[θ (show ¬f.kind<=3 by have:=Yu.o;omega),ι (show f.kind<=6 by have:=Yu.o;omega),θ aj,ι rfl];exact G
  .have G:=(Yx.o _ _ _ aw.o).up (show 2729<=4400 by omega);unfold oW;rw[θ (show ¬f.kind<=3 by have:=Yu.o;omega),ι (show f.kind<=6 by have:=Yu.o;omega),θ aj,θ aj];exact G
 by_cases h9:f.kind<=9
 .have Yu:=aW (show 6<f.kind/\f.kind<=9 from ⟨aa,h9⟩);clear h3 h6 h9;have kf:=Blk.cell Y.o;have Zr:decide (f.kind<=3)=ζ:=ρ Ac1;have a8:decide (f.kind<=6)=ζ:=ρ Ac1;have cx:decide (f.kind<=9)=ε:=Λ Ac1;go_wp2_with fail;clear kf Zr a8 cx;obtain⟨dl,c7,db,di,dk,df⟩:=HS.Yr YP.o.1 YP.o.2;have ZQ:=aW dl;have YS:=aW c7;have Ze:=aW db;have d1:=aW di;have cw:=aW dk;have d2:=aW df;clear dl c7 db di dk df;have Zc:=aX.blk Z.o;have Zg:=aX.blk W.o;have Zf:=aX.blk V.o;have YF:=aX.blk S.o;have YM:=aX.blk T.o;refine tN 7 [(4,.gv ((GQ.i f.r 0)*GQ.i 3 0) (129)),(5,.gv (z0+((GQ.i f.r 0)*GQ.i 3 0)) (1035)),(6,.box 42 aQ3)] ?_;refine Qs ?_;refine Ee (fun R I=>vg gf ZV.v (GQ.i f.r 0) (64) 3 _ (HC.ext I.1) (H.ext I.1) aa aa) ?_;intro c6 cS cI;refine Ee (fun R I=>nO gf ZU.v c6.v z0 ((GQ.i f.r 0)*GQ.i 3 0) (841) (129) _ (HC.ext I.1) (K.ext I.1) (ae5 (I.f 4 (c6.v,cS,cI))) aa) ?_;intro a3 eh ea;refine Eb ?_;intro YY Zk YK;refine bN ?_;intro ZF I;have F:=I.ext;have YB:=I.hV 4;have Yw:=I.hV 5;have Yv:=I.hB 6;have Zn:=aW (I.lw 6);clear I Zc Zg Zf YF YM YK;have N:=aW (Yv.there (o:=0) (n:=6) ag);refine bG rfl 42 (.tmp 14) (.tmp 88) rfl YY 0 a3.cells rf rf N.o cO (eP a3) ?_;intro cy B;refine Qp ?_;obtain⟨F,Yy,M,YH⟩:=ni a3 F Zn.o Yv.o B;clear B N;replace YB:=aW (M _ _ _ YB.o);replace Yw:=aW (M _ _ _ Yw.o);replace Yv:=aW Yy;clear Yy M YH;replace HC:=HC.aA F;replace HG:=HG.aA F;replace Y:=Y.aA F;replace Q:=Q.aA F;replace P:=P.aA F;replace D:=D.aA F;replace K:=K.aA F;replace H:=H.aA F;replace L:=L.aA F;replace Z:=Z.aA F;replace W:=W.aA F;replace V:=V.aA F;replace S:=S.aA F;replace T:=T.aA F;replace HX:=HX.aC F;clear F;clear Zn;have k8:=Blk.cell W.o;have et:=Blk.cell Yv.o;go_wp2_with fail;refine(nO gf YN.v a3.v z1 (z0+((GQ.i f.r 0)*GQ.i 3 0)) (841) (1035) _ HC.o D.o Yw.o aa).mono ?_;rintro _ ZL ⟨_,rfl,M,F⟩;replace M:∃e:En,_=e.v/\GV ZL e.v (z1+(z0+((GQ.i f.r 0)*GQ.i 3 0))) (1941):=uh M;obtain⟨a5,rfl,M⟩:=M;replace HC:=HC.aA F;replace HG:=HG.aA F;replace Y:=Y.aA F;replace Q:=Q.aA F;replace P:=P.aA F;replace D:=D.aA F;replace K:=K.aA F;replace H:=H.aA F;replace L:=L.aA F;replace YB:=YB.aA F;replace Yw:=Yw.aA F;replace Z:=Z.aA F;replace W:=W.aA F;replace V:=V.aA F;replace S:=S.aA F;replace T:=T.aA F;replace Yv:=Yv.aA F;replace HX:=HX.aC F;have YA:=aW M;clear F M;have F:=Ext.new ZL (.cells aQ3 42);obtain⟨-,YI⟩:=ah1 ZL 42 aQ3;replace YA:=YA.aA F;have N:=aW (YI.there (o:=0) (n:=6) ag);(iterate 5 (try (first|go_values|go_skip|go_guarded|go_step|go_upon|go_in|go_back|go_simp)));refine bG rfl 42 (.tmp 15) (.tmp 92) rfl ZL.heap.size 0 a5.cells rf rf N.o cO (eP a5) ?_;intro d6 B;refine Qp ?_;obtain⟨F,Yy,M,-⟩:=ni a5 F (κ _) YI.o B;clear B N;replace YA:=aW (M _ _ _ YA.o);replace YI:=aW Yy;replace HC:=HC.aA F;replace HG:=HG.aA F;replace Y:=Y.aA F;replace Q:=Q.aA F;replace P:=P.aA F;replace D:=D.aA F;replace K:=K.aA F;replace H:=H.aA F;replace L:=L.aA F;replace YB:=YB.aA F;replace Yw:=Yw.aA F;replace Z:=Z.aA F;replace W:=W.aA F;replace V:=V.aA F;replace S:=S.aA F;replace T:=T.aA F;replace Yv:=Yv.aA F;replace HX:=HX.aC F;clear F Yy M;generalize ZL.heap.size=Zw at YI⊢;go_wp2_with fail;have Zc:=aX.blk Z.o;have Zg:=aX.blk W.o;have Zf:=aX.blk V.o;have YF:=aX.blk S.o;have YM:=aX.blk T.o;have Zv:=aX.blk Yv.o;have ZH:=aX.blk YI.o;refine tN 14 [(8,.gv (z1*(z0+((GQ.i f.r 0)*GQ.i 3 0))) (1877)),(10,.gv ((z1*(z0+((GQ.i f.r 0)*GQ.i 3 0)))/(z1+(z0+((GQ.i f.r 0)*GQ.i 3 0)))) (2600)),(11,.gv (z1+((z1*(z0+((GQ.i f.r 0)*GQ.i 3 0)))/(z1+(z0+((GQ.i f.r 0)*GQ.i 3 0))))) (3506)),(12,.gv (v/(z1+((z1*(z0+((GQ.i f.r 0)*GQ.i 3 0)))/(z1+(z0+((GQ.i f.r 0)*GQ.i 3 0)))))) (2600)),(13,.box 42 aQ3)] ?_;refine Qs ?_;refine Ee (fun R I=>vo gf YN.v a3.v z1 (z0+((GQ.i f.r 0)*GQ.i 3 0)) (841) (1035) _ (HC.ext I.1) (D.ext I.1) (Yw.ext I.1) aa) ?_;intro bh bp ci;refine Qs ?_;refine Ee (fun R I=>nR gf bh.v a5.v (z1*(z0+((GQ.i f.r 0)*GQ.i 3 0))) (z1+(z0+((GQ.i f.r 0)*GQ.i 3 0))) (1877) (1941) _ (HC.ext I.1) (ae5 (I.f 8 (bh.v,bp,ci))) (YA.ext I.1) cw.o (2600) aa aa d1.o aa) ?_;intro bk bV ce;refine Ee (fun R I=>nO gf YN.v bk.v z1 ((z1*(z0+((GQ.i f.r 0)*GQ.i 3 0)))/(z1+(z0+((GQ.i f.r 0)*GQ.i 3 0)))) (841) (2600) _ (HC.ext I.1) (D.ext I.1) (ae5 (I.f 10 (bk.v,bV,ce))) aa) ?_;intro be cj ca;refine Ee (fun R I=>nR gf eV.v be.v v (z1+((z1*(z0+((GQ.i f.r 0)*GQ.i 3 0)))/(z1+(z0+((GQ.i f.r 0)*GQ.i 3 0))))) (841) (3506) _ (HC.ext I.1) (P.ext I.1) (ae5 (I.f 11 (be.v,cj,ca))) d2.o (2600) aa aa ZQ.o aa) ?_;intro Zq dT d0;refine Eb ?_;intro d5 ZM cE;refine bN ?_;intro ez I;have F:=I.ext;have YQ:=I.hV 8;have YR:=I.hV 10;have YO:=I.hV 11;have YE:=I.hV 12;have Zd:=I.hB 13;have ai:=aW (I.lw 13);clear I Zc Zg Zf YF YM Zv ZH cE;have N:=aW (Zd.there (o:=0) (n:=6) ag);refine bG rfl 42 (.tmp 16) (.tmp 105) rfl d5 0 Zq.cells rf rf N.o cO (eP Zq) ?_;intro eB B;refine Qp ?_;obtain⟨F,Yy,M,YH⟩:=ni Zq F ai.o Zd.o B;clear B N;replace YQ:=aW (M _ _ _ YQ.o);replace YR:=aW (M _ _ _ YR.o);replace YO:=aW (M _ _ _ YO.o);replace YE:=aW (M _ _ _ YE.o);replace Zd:=aW Yy;clear Yy M YH;replace HC:=HC.aA F;replace HG:=HG.aA F;replace Y:=Y.aA F;replace Q:=Q.aA F;replace P:=P.aA F;replace D:=D.aA F;replace K:=K.aA F;replace H:=H.aA F;replace L:=L.aA F;replace YB:=YB.aA F;replace Yw:=Yw.aA F;replace YA:=YA.aA F;replace Z:=Z.aA F;replace W:=W.aA F;replace V:=V.aA F;replace S:=S.aA F;replace T:=T.aA F;replace Yv:=Yv.aA F;replace YI:=YI.aA F;replace HX:=HX.aC F;clear F;clear ai;go_wp2_with fail;have Zc:=aX.blk Z.o;have Zg:=aX.blk W.o;have Zf:=aX.blk V.o;have YF:=aX.blk S.o;have YM:=aX.blk T.o;have Zv:=aX.blk Yv.o;have ZH:=aX.blk YI.o;have ar:=aX.blk Zd.o;refine tN 10 [(5,.gv ((v/(z1+((z1*(z0+((GQ.i f.r 0)*GQ.i 3 0)))/(z1+(z0+((GQ.i f.r 0)*GQ.i 3 0))))))*(z0+((GQ.i f.r 0)*GQ.i 3 0))) (3636)),(7,.gv (((v/(z1+((z1*(z0+((GQ.i f.r 0)*GQ.i 3 0)))/(z1+(z0+((GQ.i f.r 0)*GQ.i 3 0))))))*(z0+((GQ.i f.r 0)*GQ.i 3 0)))/(z1+(z0+((GQ.i f.r 0)*GQ.i 3 0)))) (2600)),(8,.gv (GQ.i 0 0-(((v/(z1+((z1*(z0+((GQ.i f.r 0)*GQ.i 3 0)))/(z1+(z0+((GQ.i f.r 0)*GQ.i 3 0))))))*(z0+((GQ.i f.r 0)*GQ.i 3 0)))/(z1+(z0+((GQ.i f.r 0)*GQ.i 3 0))))) (2729)),(9,.box 42 aQ3)] ?_;refine Qs ?_;refine Ee (fun R I=>vo gf Zq.v a3.v (v/(z1+((z1*(z0+((GQ.i f.r 0)*GQ.i 3 0)))/(z1+(z0+((GQ.i f.r 0)*GQ.i 3 0)))))) (z0+((GQ.i f.r 0)*GQ.i 3 0)) (2600) (1035) _ (HC.ext I.1) (YE.ext I.1) (Yw.ext I.1) aa) ?_;intro bl bw bx;refine Qs ?_;refine Ee (fun R I=>nR gf bl.v a5.v ((v/(z1+((z1*(z0+((GQ.i f.r 0)*GQ.i 3 0)))/(z1+(z0+((GQ.i f.r 0)*GQ.i 3 0))))))*(z0+((GQ.i f.r 0)*GQ.i 3 0))) (z1+(z0+((GQ.i f.r 0)*GQ.i 3 0))) (3636) (1941) _ (HC.ext I.1) (ae5 (I.f 5 (bl.v,bw,bx))) (YA.ext I.1) cw.o (2600) aa aa YS.o aa) ?_;intro ba bt cc;refine Ee (fun R I=>FN gf ba.v (((v/(z1+((z1*(z0+((GQ.i f.r 0)*GQ.i 3 0)))/(z1+(z0+((GQ.i f.r 0)*GQ.i 3 0))))))*(z0+((GQ.i f.r 0)*GQ.i 3 0)))/(z1+(z0+((GQ.i f.r 0)*GQ.i 3 0)))) (2600) _ (HC.ext I.1) (ae5 (I.f 7 (ba.v,bt,cc))) aa) ?_;intro ZE dw dv;refine Eb ?_;intro YZ eg cB;refine bN ?_;intro ew I;have F:=I.ext;have Zh:=I.hV 5;have Zm:=I.hV 7;have YT:=I.hV 8;have Zy:=I.hB 9;have ao:=aW (I.lw 9);clear I Zc Zg Zf YF YM Zv ZH ar cB;have N:=aW (Zy.there (o:=0) (n:=6) ag);refine bG rfl 42 (.tmp 17) (.tmp 114) rfl YZ 0 ZE.cells rf rf N.o cO (eP ZE) ?_;intro eC B;refine Qp ?_;obtain⟨F,Yy,M,YH⟩:=ni ZE F ao.o Zy.o B;clear B N;replace Zh:=aW (M _ _ _ Zh.o);replace Zm:=aW (M _ _ _ Zm.o);replace YT:=aW (M _ _ _ YT.o);replace Zy:=aW Yy;clear Yy M YH;replace HC:=HC.aA F;replace HG:=HG.aA F;replace Y:=Y.aA F;replace Q:=Q.aA F;replace P:=P.aA F;replace D:=D.aA F;replace K:=K.aA F;replace H:=H.aA F;replace L:=L.aA F;replace YB:=YB.aA F;replace Yw:=Yw.aA F;replace YA:=YA.aA F;replace YQ:=YQ.aA F;replace YR:=YR.aA F;replace YO:=YO.aA F;replace YE:=YE.aA F;replace Z:=Z.aA F;replace W:=W.aA F;replace V:=V.aA F;replace S:=S.aA F;replace T:=T.aA F;replace Yv:=Yv.aA F;replace YI:=YI.aA F;replace Zd:=Zd.aA F;replace HX:=HX.aC F;clear F;clear ao;go_wp2_with fail;have Zc:=aX.blk Z.o;have Zg:=aX.blk W.o;have Zf:=aX.blk V.o;have YF:=aX.blk S.o;have YM:=aX.blk T.o;have Zv:=aX.blk Yv.o;have ZH:=aX.blk YI.o;have ar:=aX.blk Zd.o;have cX:=aX.blk Zy.o;refine tN 12 [(5,.gv ((v/(z1+((z1*(z0+((GQ.i f.r 0)*GQ.i 3 0)))/(z1+(z0+((GQ.i f.r 0)*GQ.i 3 0))))))*z1) (3442)),(7,.gv (((v/(z1+((z1*(z0+((GQ.i f.r 0)*GQ.i 3 0)))/(z1+(z0+((GQ.i f.r 0)*GQ.i 3 0))))))*z1)/(z1+(z0+((GQ.i f.r 0)*GQ.i 3 0)))) (2600)),(8,.gv (GQ.i 0 0-(((v/(z1+((z1*(z0+((GQ.i f.r 0)*GQ.i 3 0)))/(z1+(z0+((GQ.i f.r 0)*GQ.i 3 0))))))*z1)/(z1+(z0+((GQ.i f.r 0)*GQ.i 3 0))))) (2729))] ?_;refine Qs ?_;refine Ee (fun R I=>vo gf Zq.v YN.v (v/(z1+((z1*(z0+((GQ.i f.r 0)*GQ.i 3 0)))/(z1+(z0+((GQ.i f.r 0)*GQ.i 3 0)))))) z1 (2600) (841) _ (HC.ext I.1) (YE.ext I.1) (D.ext I.1) aa) ?_;intro bm bq bn;refine Qs ?_;refine Ee (fun R I=>nR gf bm.v a5.v ((v/(z1+((z1*(z0+((GQ.i f.r 0)*GQ.i 3 0)))/(z1+(z0+((GQ.i f.r 0)*GQ.i 3 0))))))*z1) (z1+(z0+((GQ.i f.r 0)*GQ.i 3 0))) (3442) (1941) _ (HC.ext I.1) (ae5 (I.f 5 (bm.v,bq,bn))) (YA.ext I.1) cw.o (2600) aa aa Ze.o aa) ?_;intro a9 cb b0;refine Ee (fun R I=>FN gf a9.v (((v/(z1+((z1*(z0+((GQ.i f.r 0)*GQ.i 3 0)))/(z1+(z0+((GQ.i f.r 0)*GQ.i 3 0))))))*z1)/(z1+(z0+((GQ.i f.r 0)*GQ.i 3 0)))) (2600) _ (HC.ext I.1) (ae5 (I.f 7 (a9.v,cb,b0))) aa) ?_;intro bi dx dy;simp only[En.v,gv];refine Qs ?_;refine bN ?_;intro eA I;have F:=I.ext;have cp:=I.hV 5;have cn:=I.hV 7;have ad:=I.hV 8;clear I Zc Zg Zf YF YM Zv ZH ar cX;replace HC:=HC.aA F;replace HG:=HG.aA F;replace Y:=Y.aA F;replace Q:=Q.aA F;replace P:=P.aA F;replace D:=D.aA F;replace K:=K.aA F;replace H:=H.aA F;replace L:=L.aA F;replace YB:=YB.aA F;replace Yw:=Yw.aA F;replace YA:=YA.aA F;replace YQ:=YQ.aA F;replace YR:=YR.aA F;replace YO:=YO.aA F;replace YE:=YE.aA F;replace Zh:=Zh.aA F;replace Zm:=Zm.aA F;replace YT:=YT.aA F;replace HX:=HX.aC F;clear F;have N:=aW (Q.there (o:=0) (n:=18) ag);refine bG rfl 102 (.tmp 6) (.tmp 126) rfl q2 0 (bi.cells++(Zq.cells++ZE.cells)) rf rf N.o pJ (sV _ _ _) ?_;intro ev B;refine Qp ?_;obtain⟨F,Yy,M⟩:=AA _ HX.o YG.o Q.o rf B;clear B N;have HB:=aW Yy;have Yz:=aW F;have Yx:=aW M;clear F Yy M;go_wp2_with fail;have U:=xB HB.o rfl;refine jo rfl rfl rfl U z8 rfl (xQ _ _ _) ⟨pk3 bi Zq ZE,rfl,fun k hk=> ?_,Yz.o⟩;have h3:k=0\/k=1\/k=2:=aa;rcases h3 with rfl|rfl|rfl
  .have G:=(Yx.o _ _ _ ad.o).up (show 2729<=4400 by omega);unfold oW;rw[θ (show ¬f.kind<=3 by have:=Yu.o;omega),θ (show ¬f.kind<=6 by have:=Yu.o;omega),ι (show f.kind<=9 by have:=Yu.o;omega),ι rfl];exact G
  .have G:=(Yx.o _ _ _ YE.o).up (show 2600<=4400 by omega);unfold oW;rw[θ (show ¬f.kind<=3 by have:=Yu.o;omega),θ (show ¬f.kind<=6 by have:=Yu.o;omega),ι (show f.kind<=9 by have:=Yu.o;omega),θ aj,ι rfl];exact G
  .have G:=(Yx.o _ _ _ YT.o).up (show 2729<=4400 by omega);unfold oW;rw[θ (show ¬f.kind<=3 by have:=Yu.o;omega),θ (show ¬f.kind<=6 by have:=Yu.o;omega),ι (show f.kind<=9 by have:=Yu.o;omega),θ aj,θ aj];exact G
 have Yu:=aW (show 9<f.kind from aa);clear h3 h6 h9;have kf:=Blk.cell Y.o;have Zr:decide (f.kind<=3)=ζ:=ρ Ac1;have a8:decide (f.kind<=6)=ζ:=ρ Ac1;have cx:decide (f.kind<=9)=ζ:=ρ Ac1;go_wp2_with fail;clear kf Zr a8 cx;have YV:=aW (show Bd (v/(z1+GQ.i f.r 0)) 2600 by have G:=HS.bd f.kind YP.o.1 YP.o.2 1;unfold oW at G;rwa[θ (show ¬f.kind<=3 by have:=Yu.o;omega),θ (show ¬f.kind<=6 by have:=Yu.o;omega),θ (show ¬f.kind<=9 by have:=Yu.o;omega),ι rfl] at G);have YX:=aW (HS.neD f.r);have Zc:=aX.blk Z.o;have Zg:=aX.blk W.o;have Zf:=aX.blk V.o;have YF:=aX.blk S.o;have YM:=aX.blk T.o;refine tN 10 [(6,.gv (z1+(GQ.i f.r 0)) (970)),(7,.gv (v/(z1+(GQ.i f.r 0))) (2600))] ?_;refine Qs ?_;refine Ee (fun R I=>nO gf YN.v ZV.v z1 (GQ.i f.r 0) (841) (64) _ (HC.ext I.1) (D.ext I.1) (H.ext I.1) aa) ?_;intro bj cf bA;refine Ee (fun R I=>nR gf eV.v bj.v v (z1+(GQ.i f.r 0)) (841) (970) _ (HC.ext I.1) (P.ext I.1) (ae5 (I.f 6 (bj.v,cf,bA))) YX.o (2600) aa aa YV.o aa) ?_;intro bg du ds;simp only[En.v,gv];refine Qs ?_;refine bN ?_;intro ZF I;have F:=I.ext;have cr:=I.hV 6;have af:=I.hV 7;clear I Zc Zg Zf YF YM;replace HC:=HC.aA F;replace HG:=HG.aA F;replace Y:=Y.aA F;replace Q:=Q.aA F;replace P:=P.aA F;replace D:=D.aA F;replace K:=K.aA F;replace H:=H.aA F;replace L:=L.aA F;replace HX:=HX.aC F;clear F;have N:=aW (Q.there (o:=0) (n:=18) ag);refine bG rfl 102 (.tmp 6) (.tmp 136) rfl q2 0 (ZA.cells++(bg.cells++ZA.cells)) rf rf N.o pJ (sV _ _ _) ?_;intro cy B;refine Qp ?_;obtain⟨F,Yy,M⟩:=AA _ HX.o YG.o Q.o rf B;clear B N;have HB:=aW Yy;have Yz:=aW F;have Yx:=aW M;clear F Yy M;go_wp2_with fail;have U:=xB HB.o rfl;refine jo rfl rfl rfl U z8 rfl (xQ _ _ _) ⟨pk3 ZA bg ZA,rfl,fun k hk=> ?_,Yz.o⟩;have h3:k=0\/k=1\/k=2:=aa;rcases h3 with rfl|rfl|rfl
 .exact AbT
 .have G:=(Yx.o _ _ _ af.o).up (show 2600<=4400 by omega);unfold oW;rw[θ (show ¬f.kind<=3 by have:=Yu.o;omega),θ (show ¬f.kind<=6 by have:=Yu.o;omega),θ (show ¬f.kind<=9 by have:=Yu.o;omega),ι rfl];exact G
 .exact AbT
end Go.Proofs.YtbfnfkppkmpieaaGreat
