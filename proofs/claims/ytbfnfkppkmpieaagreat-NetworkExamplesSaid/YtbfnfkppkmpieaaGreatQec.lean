import Derived.Test.YtbfnfkppkmpieaaGreatQeb
set_option linter.unusedVariables false
set_option linter.unusedSimpArgs false
set_option maxHeartbeats 25600000
set_option maxRecDepth 200000
set_option linter.defProp false
namespace Go.Proofs.YtbfnfkppkmpieaaGreat
open Go.RowKit
open Go.Proofs.Tryz
open Option renaming some->γ,none->δ
open Bool renaming true->ε,false->ζ
open Inhabited renaming default->η
def jm (w:World) (g:Nat):Prop:=Blk w g 250 #[.int .i64 0]
def jm.ext{w w' g}(h:jm w g)(x:Ext w w'):jm w' g:=Blk.ext h x
def eX{w w' g n q s1 s2 s3 A1 A2 A3 n1 c1 n2 c2 n3 c3}(J:Ext w w')(C:w.heap.size<=g)(hb:Blk w' g 42 #[.bool ζ,.slice δ 0 0,.bool ζ,.slice δ 0 0,.bool ζ,.slice δ 0 0])(h:GV w' (gv s1 A1 n1 c1 s2 A2 n2 c2 s3 A3 n3 c3) q n):
  Ext w ((((((w'.setCell ⟨g,0,δ⟩ (.bool s1)).setCell ⟨g,1,δ⟩ (.slice A1 n1 c1)).setCell ⟨g,2,δ⟩ (.bool s2)).setCell ⟨g,3,δ⟩ (.slice A2 n2 c2)).setCell ⟨g,4,δ⟩ (.bool s3)).setCell ⟨g,5,δ⟩ (.slice A3 n3 c3))/\
  Blk ((((((w'.setCell ⟨g,0,δ⟩ (.bool s1)).setCell ⟨g,1,δ⟩ (.slice A1 n1 c1)).setCell ⟨g,2,δ⟩ (.bool s2)).setCell ⟨g,3,δ⟩ (.slice A2 n2 c2)).setCell ⟨g,4,δ⟩ (.bool s3)).setCell ⟨g,5,δ⟩ (.slice A3 n3 c3)) g 42 #[.bool s1,.slice A1 n1 c1,.bool s2,.slice A2 n2 c2,.bool s3,.slice A3 n3 c3]/\
  GV ((((((w'.setCell ⟨g,0,δ⟩ (.bool s1)).setCell ⟨g,1,δ⟩ (.slice A1 n1 c1)).setCell ⟨g,2,δ⟩ (.bool s2)).setCell ⟨g,3,δ⟩ (.slice A2 n2 c2)).setCell ⟨g,4,δ⟩ (.bool s3)).setCell ⟨g,5,δ⟩ (.slice A3 n3 c3)) (gv s1 A1 n1 c1 s2 A2 n2 c2 s3 A3 n3 c3) q n:=by
 have D:Mod (fun k=>k=g) w' (puts w' g 0 [.bool s1,.slice A1 n1 c1,.bool s2,.slice A2 n2 c2,.bool s3,.slice A3 n3 c3]):=Mod.only (fM _ _ _ _) rfl;have hS:Far (fun k=>k=g) w':=fun k l _=>by subst l;exact⟨_,_,hb,rfl⟩
 have ec:fF #[.bool ζ,.slice δ 0 0,.bool ζ,.slice δ 0 0,.bool ζ,.slice δ 0 0] 0 [.bool s1,.slice A1 n1 c1,.bool s2,.slice A2 n2 c2,.bool s3,.slice A3 n3 c3]= #[.bool s1,.slice A1 n1 c1,.bool s2,.slice A2 n2 c2,.bool s3,.slice A3 n3 c3]:=ah;have B:=gz C 0 [.bool s1,.slice A1 n1 c1,.bool s2,.slice A2 n2 c2,.bool s3,.slice A3 n3 c3] J;have j:=bY 0 [.bool s1,.slice A1 n1 c1,.bool s2,.slice A2 n2 c2,.bool s3,.slice A3 n3 c3] hb;rw[ec] at j;exact⟨B,j,h.mod D hS⟩
def tu(g v q n w)(hc:jm w g)(L:GV w v q n):
  CV 226 #[.pointer (γ ⟨g,0,δ⟩),v,.int .i64 0] w fun v w'=>GV w' v q n:=by
 obtain⟨s1,A1,n1,c1,s2,A2,n2,c2,s3,A3,n3,c3,rfl⟩:=L.opn;have D:=Blk.cell hc;have l:=Blk.frozen hc;have j:Ext w (w.setCell ⟨g,0,δ⟩ (.int .i64 0)):=(Ext.refl w).stay hc rfl;have O:=hc.ext j;have F:=Blk.cell O;have C:g<w.heap.size:=Blk.lt hc;have B:=aJ (L.ext j);clear L;go_enter func226,ntmps226;(go_wp2_with fail);exact cO rfl rfl rfl (aeS _ _ Abh) ⟨_,rfl,B.ext ((Ext.new _ _).alloc _),j.trans ((Ext.new _ _).alloc _)⟩
def Tm(g v0 v1 q0 q1 n0 n1 w)(hc:jm w g)(L:GV w v0 q0 n0)(l:GV w v1 q1 n1)(hn:2*max n0 n1+65<=12800):
  CV 224 #[.pointer (γ ⟨g,0,δ⟩),v0,v1] w fun v w'=>GV w' v (q0-q1) (n0+n1+65):=by
 obtain⟨M,G,N,C,V,Q,S,U,Y,B,WI,Z,rfl⟩:=L.opn;obtain⟨I,WJ,H,K,WK,W,WM,P,WF,WL,WH,R,rfl⟩:=l.opn;have HX:=aJ L;have HY:=aJ l;clear L l;obtain⟨D,F,T,j⟩:=an3 w 42 #[.bool M,.slice G N C,.bool V,.slice Q S U,.bool Y,.slice B WI Z] 42 #[.bool I,.slice WJ H K,.bool WK,.slice W WM P,.bool WF,.slice WL WH R] 42 #[.bool ζ,.slice δ 0 0,.bool ζ,.slice δ 0 0,.bool ζ,.slice δ 0 0];have O:=hc.ext D;have k0:=Blk.cell O;go_enter func224,ntmps224;(go_wp2_with fail);refine(ME _ q0 n0 _ q1 n1 _ (HX.ext D) (HY.ext D) hn).mono ?_;exact AbR
def Tp(g v0 v1 q0 q1 n0 n1 w)(hc:jm w g)(L:GV w v0 q0 n0)(l:GV w v1 q1 n1)(hn:2*max n0 n1+1<=12800):
  CV 225 #[.pointer (γ ⟨g,0,δ⟩),v0,v1] w fun v w'=>GV w' v (q0*q1) (n0+n1+1):=by
 obtain⟨M,G,N,C,V,Q,S,U,Y,B,WI,Z,rfl⟩:=L.opn;obtain⟨I,WJ,H,K,WK,W,WM,P,WF,WL,WH,R,rfl⟩:=l.opn;have HX:=aJ L;have HY:=aJ l;clear L l;obtain⟨D,F,T,j⟩:=an3 w 42 #[.bool M,.slice G N C,.bool V,.slice Q S U,.bool Y,.slice B WI Z] 42 #[.bool I,.slice WJ H K,.bool WK,.slice W WM P,.bool WF,.slice WL WH R] 42 #[.bool ζ,.slice δ 0 0,.bool ζ,.slice δ 0 0,.bool ζ,.slice δ 0 0];have O:=hc.ext D;have k0:=Blk.cell O;go_enter func225,ntmps225;(go_wp2_with fail);refine(P9 _ q0 n0 _ q1 n1 _ (HX.ext D) (HY.ext D) hn).mono ?_;exact AbR
def Tk(g v0 v1 q0 q1 n0 n1 w)(hc:jm w g)(L:GV w v0 q0 n0)(l:GV w v1 q1 n1)(h0:q1≠GQ.i 0 0)(hn:4*max n0 n1+3<=12800):
  CV 213 #[.pointer (γ ⟨g,0,δ⟩),v0,v1] w fun v w'=>GV w' v (q0/q1) (n0+(n1+n1+1)):=by
 obtain⟨M,G,N,C,V,Q,S,U,Y,B,WI,Z,rfl⟩:=L.opn;obtain⟨I,WJ,H,K,WK,W,WM,P,WF,WL,WH,R,rfl⟩:=l.opn;have HX:=aJ L;have HY:=aJ l;clear L l;obtain⟨D,F,T,j⟩:=an3 w 42 #[.bool M,.slice G N C,.bool V,.slice Q S U,.bool Y,.slice B WI Z] 42 #[.bool I,.slice WJ H K,.bool WK,.slice W WM P,.bool WF,.slice WL WH R] 42 #[.bool ζ,.slice δ 0 0,.bool ζ,.slice δ 0 0,.bool ζ,.slice δ 0 0];have O:=hc.ext D;have k0:=Blk.cell O;go_enter func213,ntmps213;(go_wp2_with fail);refine(Vl _ q0 n0 _ q1 n1 _ (HX.ext D) (HY.ext D) (aJ h0) hn).mono ?_;exact AbR
def QI(g w)(hc:jm w g):
  CV 223 #[.pointer (γ ⟨g,0,δ⟩)] w fun v w'=>GV w' v (GQ.i 0 0) 64:=by
 obtain⟨D,j⟩:=an1 w 42 #[.bool ζ,.slice δ 0 0,.bool ζ,.slice δ 0 0,.bool ζ,.slice δ 0 0];have O:=hc.ext D;go_enter func223,ntmps223;(go_wp2_with fail);refine(TP 0 0 1 _ aa aa aa aa aa aa aa).mono ?_;rintro e w2 ⟨v,rfl,⟨u,rfl,l⟩,J⟩;replace D:=D.trans J;replace j:=j.ext J;replace O:=O.ext J;clear J;have C:(⟨((0:Int):Rat)/((1:Int):Rat),((0:Int):Rat)/((1:Int):Rat)⟩:GQ)=GQ.i 0 0:=by ext<;>simp only[GQ.dE,GQ.dD]<;>grind
 rw[C] at l;(go_wp2_with fail);refine(tu g u _ _ _ O l).mono ?_;rintro e W ⟨v,rfl,hv,J⟩;replace D:=D.trans J;replace j:=j.ext J;clear J l O;obtain⟨U,P,T,K,Q,H,L,V,F,S,G,R,rfl⟩:=hv.opn;have Y:=j.cell;have Z:=j.frozen;obtain⟨p1,p2,B⟩:=eX D aa j hv;have M:=aJ p1;have N:=aJ p2;have I:=aJ B;clear p1 p2 B D j hv;(go_wp2_with fail);exact cO rfl rfl rfl N.o ⟨_,rfl,I.o,M.o⟩
def xA(v q n w)(L:GV w v q n)(hn:n<=12800):
  CE 90 #[v] w (.bool (decide (q=GQ.i 0 0))):=by
 by_cases h:q=GQ.i 0 0
 .rw[Ξ h];exact xB v q n w L hn h
 .rw[υ h];exact zK v q n w L hn h
structure Rw where
 A:Option Addr
 b:Nat
 o:Nat
 n:Nat
 c:Nat
def Rw.v (r:Rw):Value:=.slice r.A r.n r.c
structure Mem (w:World) (A:Option Addr) (B O m:Nat) (R:Nat->Rw) (E:Nat->Nat->En):Prop where
 at0:0<m->A=γ ⟨B,O,δ⟩
 row:∀i,i<m->w.cell? ⟨B,O+i,δ⟩=γ (R i).v
 ra:∀i,i<m->0<(R i).n->(R i).A=γ ⟨(R i).b,(R i).o,δ⟩
 el:∀i j,i<m->j<(R i).n->∀t u,(E i j).cells[t]? =γ u->w.cell? ⟨(R i).b,(R i).o+(j*6+t),δ⟩=γ u
 lm:m<=9223372036854775807
 ln:∀i,i<m->(R i).n<=9223372036854775807
theorem G7{w w' p u}(h:w.cell? p=γ u)(x:Ext w w'):w'.cell? p=γ u:=by
 have hp:p.block<w.heap.size:=by
  rcases Ha p.block w.heap.size with j|l
  .exact j
  .unfold World.cell? at h;rw[aaC l] at h;simp at h
 exact(x.cell hp).trans h
section
variable {w w':World} {A:Option Addr} {B O m c:Nat} {R:Nat->Rw} {E:Nat->Nat->En}
def Mem.ext(h:Mem w A B O m R E)(x:Ext w w'):Mem w' A B O m R E:=
 ⟨h.at0,fun i hi=>G7 (h.row i hi) x,h.ra,fun i j hi l t u C=>G7 (h.el i j hi l t u C) x,h.lm,h.ln⟩
def wd (m:Nat) (R:Nat->Rw):Nat:=if m=0 then 0 else (R 0).n
theorem qH(h:Mem w A B O m R E):CE 190 #[.slice A m c] w (.int .i64 (wd m R:Nat)):=by
 by_cases j:m=0
 .have C:((m:Int)==0)=ε:=by simp[j]
  have l:wd m R=0:=by unfold wd;rw[ι j]
  rw[l];clear j;exact AaK
 .have C:((m:Int)==0)=ζ:=by simp[j]
  have l:wd m R=(R 0).n:=by unfold wd;rw[θ j]
  rw[l];have D:=h.at0 aa;have F:w.cell? ⟨B,O,δ⟩=γ (.slice (R 0).A (R 0).n (R 0).c):=h.row 0 aa;subst D;have q1:(0:Int)<(m:Int):=aa;exact AaK
def IsM (m:Nat) (R:Nat->Rw) (vb:Nat->Nat->Bool):Prop:=m<=24/\wd m R<=24/\(∀i,i<m->(R i).n=wd m R)/\∀i j,i<m->j<(R i).n->vb i j=ε
def Mem.aO(h:Mem w A B O m R E){i}(hi:i<m)(x:Ext w w'):w'.cell? ⟨B,O+i,δ⟩=γ (.slice (R i).A (R i).n (R i).c):=x.cell_ (h.row i hi)
def Mem.cells(h:Mem w A B O m R E){i j}(hi:i<m)(l:j<(R i).n)(x:Ext w w'):
  w'.cell? ⟨(R i).b,(R i).o+j*6,δ⟩=γ (.bool (E i j).s1)/\w'.cell? ⟨(R i).b,(R i).o+j*6+1,δ⟩=γ (.slice (E i j).A1 (E i j).n1 (E i j).c1)/\w'.cell? ⟨(R i).b,(R i).o+j*6+2,δ⟩=γ (.bool (E i j).s2)/\
  w'.cell? ⟨(R i).b,(R i).o+j*6+3,δ⟩=γ (.slice (E i j).A2 (E i j).n2 (E i j).c2)/\w'.cell? ⟨(R i).b,(R i).o+j*6+4,δ⟩=γ (.bool (E i j).s3)/\w'.cell? ⟨(R i).b,(R i).o+j*6+5,δ⟩=γ (.slice (E i j).A3 (E i j).n3 (E i j).c3):=
 ⟨x.cell_ (h.el i j hi l 0 _ rfl),x.cell_ (h.el i j hi l 1 _ rfl),x.cell_ (h.el i j hi l 2 _ rfl),x.cell_ (h.el i j hi l 3 _ rfl),x.cell_ (h.el i j hi l 4 _ rfl),x.cell_ (h.el i j hi l 5 _ rfl)⟩
def Ca(h:Mem w A B O m R E){vb:Nat->Nat->Bool}(hv:∀i j,i<m->j<(R i).n->VB w (E i j).v (vb i j))(b)(hb:b=ε↔IsM m R vb):
  CE 189 #[.slice A m c] w (.bool b):=by
 have T:=aJ h;have HV:=aJ hv;have XE:(0:Int)<=(m:Int):=aa;by_cases F:24<m
 .have G:decide ((24:Int)<(m:Int))=ε:=ae;have hF:b=ζ:=by cases b<;>simp_all [IsM];omega
  subst hF;clear h hv hb F;go_enter aej,adN;(go_wp2_with fail);go_ret;exact⟨rfl,Ext.refl _⟩
 have G:decide ((24:Int)<(m:Int))=ζ:=ae;by_cases H:24<wd m R
 .have I:decide ((24:Int)<(wd m R:Int))=ε:=ae;have hF:b=ζ:=by cases b<;>simp_all [IsM];omega
  subst hF;clear h hv hb;go_enter aej,adN;(go_wp2_with fail);refine(qH T.o).mono ?_;rintro e w2 ⟨rfl,J⟩;(go_wp2_with fail);go_ret;exact⟨rfl,J⟩
 have I:decide ((24:Int)<(wd m R:Int))=ζ:=ae;have HB:=aJ hb;clear hb;have l:m<=24:=aa;clear h hv;go_enter aej,adN;(go_wp2_with fail);refine(qH T.o).mono ?_;rintro e w2 ⟨rfl,P⟩;have W:=aJ P;clear P;go_wp2_with fail
 go_loopw [19] (fun i wr=>∃k:Nat,k<=m/\i=.int .i64 k/\(∀i,i<k->(R i).n=wd m R)/\Ext w wr) (fun i _=>m-(intOf i).toNat)
 case atStart=>exact⟨0,aa,rfl,by intros;omega,W.o⟩
 case round=>
  obtain⟨k,hk,rfl,K,J⟩:=hrel;have HA:=aJ K;have HX:=aJ J;clear K J W;by_cases Q:k<m
  .have hd:decide ((k:Int)<(m:Int))=ε:=ae;have hA:=T.at0 aa;have hr:=T.aO Q HX.o;subst hA;by_cases hn:(R k).n=wd m R
   .have L:(((R k).n:Int) !=(wd m R:Int))=ζ:=by simp[hn]
    have HN:=aJ hn;clear hn;(go_wp2_with fail);refine(qH (T.ext HX.o)).mono ?_;rintro e w3 ⟨rfl,U⟩;go_wp2_with fail
    go_roundw
    case rel=>
     refine⟨k+1,aa,au,fun i hi=> ?_,HX.trans U⟩;by_cases e:i=k
     .subst e;exact HN.o
     .exact HA.o i aa
    case measure=>simp[intOf];omega
   .have L:(((R k).n:Int) !=(wd m R:Int))=ε:=ae;have hF:b=ζ:=by
     cases b
     .rfl
     .exact absurd ((HB.o.1 rfl).2.2.1 k Q) hn
    subst hF;clear hn;(go_wp2_with fail);refine(qH (T.ext HX.o)).mono ?_;rintro e w3 ⟨rfl,U⟩;(go_wp2_with fail);go_ret;exact⟨rfl,HX.trans U⟩
  .obtain rfl:k=m:=aa;have hd:decide ((k:Int)<(k:Int))=ζ:=ag;clear hd;go_wp2_with fail
   go_loopw [31] (fun i wr=>∃Z:Nat,Z<=k/\i=.int .i64 Z/\(∀i j,i<Z->j<(R i).n->vb i j=ε)/\Ext w wr) (fun i _=>k-(intOf i).toNat)
   case atStart=>exact⟨0,aa,rfl,by intros;omega,HX.o⟩
   case round=>
    clear Q;obtain⟨r,hr,rfl,K,J⟩:=hrel;have Xb:=aJ K;have W:=aJ J;clear K J HX;by_cases Q:r<k
    .have hd:decide ((r:Int)<(k:Int))=ε:=ae;have hA:=T.at0 aa;have M:=T.aO Q W.o;subst hA;go_wp2_with fail
     go_loopw [37] (fun i wr=>∃Z:Nat,Z<=(R r).n/\i=.int .i64 Z/\(∀j,j<Z->vb r j=ε)/\Ext w wr) (fun i _=>(R r).n-(intOf i).toNat)
     case atStart=>exact⟨0,aa,rfl,by intros;omega,W.o⟩
     case round=>
      clear hd;obtain⟨j,hj,rfl,K,J⟩:=hrel;have XO:=aJ K;have V:=aJ J;clear K J;by_cases S:j<(R r).n
      .have hd:decide ((j:Int)<((R r).n:Int))=ε:=ae;have Xh:=T.ra r Q aa;have X6:=T.ln r Q;obtain⟨c0,c1,c2,c3,c4,c5⟩:=T.cells Q S V.o;rw[Xh];generalize Y:vb r j=bv;have XD:Hid (VB w (E r j).v bv):=aJ (Y ▸ HV.o r j Q S);have D:=aJ Y;clear Y;have HE:=aJ (V.alloc (.cells #[.bool (E r j).s1,.slice (E r j).A1 (E r j).n1 (E r j).c1,.bool (E r j).s2,.slice (E r j).A2 (E r j).n2 (E r j).c2,.bool (E r j).s3,.slice (E r j).A3 (E r j).n3 (E r j).c3] 42));(go_wp2_with fail);refine((XD.ext HE.o).e).mono ?_;rintro e w4 ⟨rfl,N⟩;cases bv
       .have hF:b=ζ:=by
         cases b
         .rfl
         .have:=(HB.o.1 rfl).2.2.2 r j Q S;rw[D.o] at this;cases this
        subst hF;(go_wp2_with fail);go_ret;exact⟨rfl,HE.trans N⟩
       .go_wp2_with fail
        go_roundw
        case rel=>
         refine⟨j+1,aa,au,fun i hi=> ?_,HE.trans N⟩;by_cases e:i=j
         .subst e;exact D.o
         .exact XO.o i aa
        case measure=>simp[intOf];omega
      .obtain rfl:j=(R r).n:=aa;have hd:decide (((R r).n:Int)<((R r).n:Int))=ζ:=ag
       go_wp2_with fail
       go_roundw
       case rel=>
        refine⟨r+1,aa,au,fun i C hi WK=> ?_,V.o⟩;by_cases e:i=r
        .subst e;exact XO.o C WK
        .exact Xb.o i C aa WK
       case measure=>simp[intOf];omega
    .obtain rfl:r=k:=aa;have hT:b=ε:=HB.o.2 ⟨l,aa,HA.o,Xb.o⟩;subst hT;(go_wp2_with fail);go_ret;exact⟨rfl,W.o⟩
end
def dz.cells{w g n f}(hb:Blk w g 42 (aO n f).toArray){j}(B:j<n){p}(hp:j*6=p):
  w.cell? ⟨g,p,δ⟩=γ (.bool (f j).s1)/\w.cell? ⟨g,p+1,δ⟩=γ (.slice (f j).A1 (f j).n1 (f j).c1)/\w.cell? ⟨g,p+2,δ⟩=γ (.bool (f j).s2)/\
  w.cell? ⟨g,p+3,δ⟩=γ (.slice (f j).A2 (f j).n2 (f j).c2)/\w.cell? ⟨g,p+4,δ⟩=γ (.bool (f j).s3)/\w.cell? ⟨g,p+5,δ⟩=γ (.slice (f j).A3 (f j).n3 (f j).c3):=by
 subst hp;have h:∀t u,(f j).cells[t]? =γ u->w.cell? ⟨g,j*6+t,δ⟩=γ u:=fun t u l=>by
  rw[hb.cell];have C:t<6:=by
   have:=(ν.1 l).1;exact this
  rw[Ω,dN C B];exact l
 exact⟨h 0 _ rfl,h 1 _ rfl,h 2 _ rfl,h 3 _ rfl,h 4 _ rfl,h 5 _ rfl⟩
def vD (x y:Nat->GQ) (q:GQ) (o l k:Nat):Nat->GQ:=fun j=>if o<=j/\j<o+k then x j-q*y (l+(j-o)) else x j
theorem NG(x y q o l):vD x y q o l 0=x:=by
 funext j;unfold vD;rw[θ aa]
theorem C9(x y q o l k):vD x y q o l (k+1)=upd (vD x y q o l k) (o+k) (x (o+k)-q*y (l+k)):=by
 funext j;unfold upd;by_cases h:j=o+k
 .subst h;rw[ι rfl];unfold vD;rw[ι aa];rw[show o+k-o=k by omega]
 .rw[θ h];unfold vD;by_cases B:o<=j/\j<o+k
  .rw[ι B,ι aa]
  .rw[θ B,θ aa]
theorem L8(x y q o j k):vD x y q o j k (o+k)=x (o+k):=by
 unfold vD;rw[θ aa]
def jm.ne{w gf g n x}(h:jm w gf)(J:dz w g n x):gf≠g:=by
 rintro rfl;obtain⟨f,hb,_⟩:=J;have e:=h.symm.trans hb;simp at e
def dz.far{w g n x}(h:dz w g n x):Far (fun k=>k=g) w:=by
 obtain⟨f,l,_⟩:=h;intro k j _;subst j;exact⟨_,_,l,dm _ _⟩
def yA(gf g g2 o o2 n n2 L C G C2 Nx Ny l A A2 v x y q w)(hc:jm w gf)(J:dz w g n x)(R:dz w g2 n2 y)(WG:g≠g2)(hA:0<L->A=γ ⟨g,o*6,δ⟩)(XP:0<G->A2=γ ⟨g2,o2*6,δ⟩)(hL:L<=G)(ho:o+L<=n)(WW:o2+G<=n2)(M:L<=9223372036854775807)(B:G<=9223372036854775807)(hq:GV w v q l)(bx:∀j,j<L->Bd (x (o+j)) Nx)(by_:∀j,j<L->Bd (y (o2+j)) Ny)(hN:2*max Nx (l+Ny+1)+65<=12800)(WZ:2*max l Ny+1<=12800):
  Calls prog 212 #[.pointer (γ ⟨gf,0,δ⟩),.slice A L C,.slice A2 G C2,v] w fun e w'=>e=.returned (.tuple #[])/\dz w' g n (vD x y q o o2 L)/\Mod (fun k=>k=g) w w':=by
 obtain⟨s1,A1,n1,c1,s2,D,H,c2,s3,A3,n3,c3,rfl⟩:=hq.opn;have HB:=aJ (Blk.new w 42 #[.bool s1,.slice A1 n1 c1,.bool s2,.slice D H c2,.bool s3,.slice A3 n3 c3]);have HE:=aJ (Ext.new w (.cells #[.bool s1,.slice A1 n1 c1,.bool s2,.slice D H c2,.bool s3,.slice A3 n3 c3] 42));have XE:g<w.heap.size:=by obtain⟨f,h,_⟩:=J;exact h.lt
 have HC:=aJ (hc.ext HE.o);have HX:=aJ (J.ext HE.o);have HY:=aJ (R.ext HE.o);have HQ:=aJ (hq.ext HE.o);have WT:=aJ bx;have Xb:=aJ by_;clear hc J R hq bx by_;go_enter func212,ntmps212;(go_wp2_with fail);generalize (w.alloc _)=w1 at HB HE HC HX HY HQ⊢;generalize Xk:w.heap.size=g7 at HB XE⊢;have Zl:=aJ Xk;clear Xk;go_loopw [11] (fun i wr=>∃k:Nat,k<=L/\i=.int .i64 k/\dz wr g n (vD x y q o o2 k)/\Mod (fun k=>k=g) w1 wr) (fun i _=>L-(intOf i).toNat)
 case atStart=>exact⟨0,aa,rfl,by rw[NG];exact HX.o,Mod.refl _ _⟩
 case round=>
  obtain⟨k,hk,rfl,F,hm⟩:=hrel;have HM:=aJ hm;have Q:=aJ F;clear hm F;by_cases WE:k<L
  .have hd:decide ((k:Int)<(L:Int))=ε:=ae;have WV:decide ((k:Int)<(G:Int))=ε:=ae;have hA:=hA aa;have XP:=XP aa;subst hA;subst XP;have Y:=HX.far;obtain⟨f2,W,XB⟩:=HY.mod HM.o Y Adz;obtain⟨f,hf,hv⟩:=Q.o;have WL:=aJ ((XB (o2+k) aa).to (Xb.o k WE));have HV:=aJ (hv (o+k) aa);obtain⟨d0,d1,d2,d3,d4,d5⟩:=dz.cells W (j:=o2+k) aa (show(o2+k)*6=o2*6+k*6 by omega);have S:=aJ hf;have X3:=aJ W;clear hf W XB;have XI:=aJ hv;clear hv;(go_wp2_with fail);refine(xA _ _ _ _ WL.o aa).mono ?_;rintro e w3 ⟨rfl,WF⟩;by_cases h0:y (o2+k)=GQ.i 0 0
   .rw[Ξ h0];go_wp2_with fail
    go_roundw
    case rel=>
     refine⟨k+1,aa,au,?_,HM.trans (aeW WF)⟩;rw[C9];refine(Q.ext WF).congr fun j hj=> ?_;by_cases e:j=o+k
     .subst e;rw[upd_same,L8,h0,GQ.bJ,GQ.eP]
     .rw[upd_ne e]
    case measure=>simp[intOf];omega
   .rw[υ h0];have U:=aJ (S.ext WF);have WM:=aJ ((HB.mod HM.o (by exact fun e=>aa)).ext WF);obtain⟨a0,a1,a2,a3,a4,a5⟩:=dz.cells U.o (j:=o+k) aa (show(o+k)*6=o*6+k*6 by omega);have E0:=aK.cell a0;have E1:=aK.cell a1;have E2:=aK.cell a2;have E3:=aK.cell a3;have E4:=aK.cell a4;have E5:=aK.cell a5;have D0:=aK.cell (WF.cell_ d0);have D1:=aK.cell (WF.cell_ d1);have D2:=aK.cell (WF.cell_ d2);have D3:=aK.cell (WF.cell_ d3);have D4:=aK.cell (WF.cell_ d4);have Z:=aK.cell (WF.cell_ d5);have B7:=aK.blk WM.o;have WJ:=aJ WF;clear WF a0 a1 a2 a3 a4 a5 d0 d1 d2 d3 d4 d5;(go_wp2_with fail);refine bz 15 [(ε,0),(ε,1),(ε,2),(ε,3),(ε,4),(ε,5),(ε,6),(ε,7),(ε,8),(ε,9),(ε,10),(ε,11),(ε,12),(ζ,13),(ζ,14)] ah ah ?_;refine aT [0,1,2,3,4,5,6,7,8,9,10,11,12] [(ζ,13),(ζ,14)] _ ah ?_;simp only[bP,aU,μ,ξ];(repeat (go_big_quiet_step (fail)));refine σ ?_;refine aR 13 [(ζ,14)] ah ?_;intro K I;simp only[aU];(go_wp2_with fail);have WH:=aJ (HM.trans (aeW WJ.drew));have XD:=aJ (HV.ext WJ.drew);refine(Tp gf _ _ q (y (o2+k)) l Ny _ (Blk.mod HC.o WH.o (HC.ne HX.o)) (HQ.mod WH.o Y) (WL.ext WJ.drew) aa).mono ?_;rintro e w4 ⟨v4,rfl,P,N⟩;have Xl:=aJ N.ji;have V:=aJ P;have T:=aJ N;clear N P;go_wp2;refine I _ _ ⟨⟨w4,Xl.o⟩,rfl⟩ ?_;clear I K;refine aR 14 [] ah ?_;intro K I;simp only[aU];(go_wp2_with fail);have WX:=WT.o k WE;refine(Tm gf _ _ (x (o+k)) (q*y (o2+k)) Nx (l+Ny+1) _ ?_ ?_ V.o aa).mono ?_
    .exact Blk.ext (Blk.mod HC.o WH.o (HC.ne HX.o)) T.o
    .have:=XD.ext T.o;rw[L8] at this;exact this.to WX
    rintro e w5 ⟨v5,rfl,Xy,WI⟩;obtain⟨t1,B1,m1,b1,t2,B2,m2,b2,t3,B3,m3,b3,rfl⟩:=Xy.opn;have Xh:=aJ (Xl.trans WI);have XY:=aJ Xy;clear WI Xy;go_wp2;refine I _ _ ⟨⟨w5,Xh.o⟩,rfl⟩ ?_;clear I K;have O:=aJ (U.ext Xh.o);obtain⟨a0,a1,a2,a3,a4,a5⟩:=dz.cells O.o (j:=o+k) aa (show(o+k)*6=o*6+k*6 by omega);have f5:=O.frozen;simp only[bQ,ρ,φ];have YZ:=aJ Y;clear Y E0 E1 E2 E3 E4 E5 D0 D1 D2 D3 D4 Z B7;go_wp2_with fail
    go_roundw
    case rel=>
     refine⟨k+1,aa,au,?_⟩;have Xo:Mod (fun k=>k=g) w1 w5:=(HM.trans (aeW WJ.o)).trans (aeW Xh.o);have hh:∀j,j<n->GV w5 (f j).v (vD x y q o o2 k j) 12800:=fun j hj=>((XI.o j hj).ext WJ.o).ext Xh.o;have hp:=dz.put (e:=⟨t1,B1,m1,b1,t2,B2,m2,b2,t3,B3,m3,b3⟩) O.o hh (j:=o+k) aa (XY.up aa);rw[show(o+k)*6=o*6+k*6 by omega] at hp;rw[C9];exact⟨hp.1,Xo.trans hp.2⟩
    case measure=>simp[intOf];omega
  .obtain rfl:k=L:=aa;have hd:decide ((k:Int)<(k:Int))=ζ:=ag;(go_wp2_with fail);refine aa8 (aaB rfl _ _ _) rfl ?_;refine⟨rfl,Q.o,?_⟩;exact(aeW HE.o).trans HM.o
def yB(gf g g2 o l n n2 L C G I N A A2 v x y q w)(hc:jm w gf)(J:dz w g n x)(R:dz w g2 n2 y)(D:g≠g2)(O:0<L->A=γ ⟨g,o*6,δ⟩)(F:0<G->A2=γ ⟨g2,l*6,δ⟩)(P:L<=G)(Q:o+L<=n)(H:l+G<=n2)(M:L<=9223372036854775807)(B:G<=9223372036854775807)(hq:GV w v q N)(K:∀j,j<L->Bd (x (o+j)) N)(by_:∀j,j<L->Bd (y (l+j)) N)(S:4*N+67<=12800):
  Calls prog 212 #[.pointer (γ ⟨gf,0,δ⟩),.slice A L C,.slice A2 G I,v] w fun e w'=>e=.returned (.tuple #[])/\dz w' g n (vD x y q o l L)/\Mod (fun k=>k=g) w w':=
 yA gf g g2 o l n n2 L C G I N N N A A2 v x y q w hc J R D O F P Q H M B hq K by_ aa aa
def yL(gf C G l A A2 v q N w)(hq:GV w v q N):
  CE 212 #[.pointer (γ ⟨gf,0,δ⟩),.slice A 0 C,.slice A2 G l,v] w (.tuple #[]):=by
 obtain⟨s1,A1,n1,c1,s2,D,H,c2,s3,A3,n3,c3,rfl⟩:=hq.opn;have j:=aJ (Ext.new w (.cells #[.bool s1,.slice A1 n1 c1,.bool s2,.slice D H c2,.bool s3,.slice A3 n3 c3] 42));clear hq;go_enter func212,ntmps212;(go_wp2_with fail);generalize (w.alloc _)=w1 at j⊢;go_loopw [11] (fun i wr=>i=.int .i64 0/\wr=w1) (fun i _=>0)
 case atStart=>exact⟨rfl,rfl⟩
 case round=>
  obtain⟨rfl,rfl⟩:=hrel;(go_wp2_with fail);refine aa8 (aaB rfl _ _ _) rfl ?_;exact⟨rfl,j.o⟩
def Dm (x y:Nat->GQ) (q:GQ) (c:Nat):Nat->GQ:=fun j=>if j<c then x j else if j=c then GQ.i 0 0 else x j-q*y j
def Blk.fQ{w g g' t j cs cs'}(h:Blk w g t cs)(I:Blk w g' j cs')(l:t≠j):g≠g':=by
 rintro rfl;have e:=h.symm.trans I;simp at e;exact l e.2
def dz.blk{w g n x}(h:dz w g n x):∃cs,Blk w g 42 cs:=by obtain⟨f,hb,_⟩:=h;exact⟨_,hb⟩
theorem Qa(gf C G nb l B N H Z v D I q w)(hc:jm w gf)(hq:GV w v q N)(P:0<nb->H=γ ⟨C,0,δ⟩/\dz w C nb D)(M:0<nb->Z=γ ⟨G,0,δ⟩/\dz w G nb I)(K:0<nb->C≠G)(Y:nb<=1000)(L:∀j,j<nb->Bd (D j) N)(Q:∀j,j<nb->Bd (I j) N)(hN:4*N+67<=12800):
  Calls prog 212 #[.pointer (γ ⟨gf,0,δ⟩),.slice H nb l,.slice Z nb B,v] w.drew fun e w'=>e=.returned (.tuple #[])/\(0<nb->dz w' C nb (fun j=>D j-q*I j))/\Mod (fun g=>0<nb/\g=C) w w':=by
 have hd:Ext w w.drew:=(Ext.refl _).drew;by_cases h:0<nb
 .obtain⟨W,r1⟩:=P h;obtain⟨T,r2⟩:=M h;refine(yB gf C G 0 0 nb nb nb l nb B N H Z v D I q w.drew (hc.ext hd) (r1.ext hd) (r2.ext hd) (K h) (fun _=>by simpa using W) (fun _=>by simpa using T) (κ _) aa aa aa aa (hq.ext hd) (fun j F=>by simpa using L j F) (fun j F=>by simpa using Q j F) hN).mono ?_;rintro e w' ⟨O,U,V⟩;refine⟨O,fun _=>U.congr fun j F=> ?_,(aeW hd).trans (V.mono fun g S=>⟨h,S⟩)⟩;unfold vD;rw[ι aa];simp
 .obtain rfl:nb=0:=aa;refine(yL gf l 0 B H Z v q N w.drew (hq.ext hd)).mono ?_;rintro e w' ⟨O,J⟩;exact⟨O,fun R=>absurd R aa,(aeW hd).trans (aeW J)⟩
theorem O7(gf Ga Gb m cA cB i k col na nb Q bk C G WJ WM N H Z XJ XK x y x2 y2 w)(hc:jm w gf)(hA:Blk w Ga 174 XJ)(hB:Blk w Gb 174 XK)(Xi:XJ[i]? =γ (.slice (γ ⟨Q,0,δ⟩) na na))(XT:XJ[k]? =γ (.slice (γ ⟨bk,0,δ⟩) na na))(YI:XK[i]? =γ (.slice H nb WJ))(WV:XK[k]? =γ (.slice Z nb WM))(WL:i<m)(WF:k<m)(WE:col<na)(hm:m<=1000)(XG:na<=1000)(WY:nb<=1000)(J:dz w Q na x)(R:dz w bk na y)(Xe:0<nb->H=γ ⟨C,0,δ⟩/\dz w C nb x2)(Xd:0<nb->Z=γ ⟨G,0,δ⟩/\dz w G nb y2)(WG:Q≠bk)(WQ:0<nb->C≠G/\Q≠C/\Q≠G)(h0:y col≠GQ.i 0 0)(bx:∀j,j<na->Bd (x j) N)(by_:∀j,j<na->Bd (y j) N)(Xa:∀j,j<nb->Bd (x2 j) N)(Xg:∀j,j<nb->Bd (y2 j) N)(bq:Bd (x col/y col) N)(hN:4*N+67<=12800):
  Calls prog 211 #[.pointer (γ ⟨gf,0,δ⟩),.slice (γ ⟨Ga,0,δ⟩) m cA,.slice (γ ⟨Gb,0,δ⟩) m cB,.int .i64 k,.int .i64 i,.int .i64 col] w fun e w'=>e=.returned (.tuple #[])/\
   dz w' Q na (Dm x y (x col/y col) col)/\(0<nb->dz w' C nb (fun j=>x2 j-x col/y col*y2 j))/\Mod (fun g=>g=Q\/(0<nb/\g=C)) w w':=by
 have HX:=aJ J;have HY:=aJ R;have HA:=aJ hA;have HB:=aJ hB;have HC:=aJ hc;obtain⟨f,hf,hv⟩:=J;obtain⟨f2,W,XB⟩:=R;have k1:w.cell? ⟨Ga,i,δ⟩=γ (.slice (γ ⟨Q,0,δ⟩) na na):=(hA.cell i).trans Xi;have V:w.cell? ⟨Ga,k,δ⟩=γ (.slice (γ ⟨bk,0,δ⟩) na na):=(hA.cell k).trans XT;obtain⟨a0,a1,a2,a3,a4,a5⟩:=dz.cells hf WE rfl;have e0:=hc.cell;have HV:=aJ ((hv col WE).to (bx col WE));have d1:decide ((i:Int)<(m:Int))=ε:=ae;have d2:decide ((k:Int)<(m:Int))=ε:=ae;have d3:decide ((col:Int)<(na:Int))=ε:=ae;have S:=aJ hf;have X3:=aJ W;have XI:=aJ hv;have XV:=aJ XB;have Xo:=aJ Xe;have XU:=aJ Xd;have WT:=aJ bx;have Xb:=aJ by_;have Xt:=aJ Xa;have XN:=aJ Xg;have WR:=aJ bq;have WH:=aJ WQ;clear hf W hv XB Xe Xd bx by_ Xa Xg bq hA hB hc WQ;go_enter func211,ntmps211;(go_wp2_with fail);refine(xA _ _ _ _ HV.o aa).mono ?_;rintro e w1 ⟨rfl,M⟩;replace k1:=M.cell_ k1;replace V:=M.cell_ V;replace a0:=M.cell_ a0;replace a1:=M.cell_ a1;replace a2:=M.cell_ a2;replace a3:=M.cell_ a3;replace a4:=M.cell_ a4;replace a5:=M.cell_ a5;clear e0;have e0:=(HC.ext M).cell;by_cases hz:x col=GQ.i 0 0
 .rw[Ξ hz];(go_wp2_with fail);refine aag (aaB rfl _ _ _) rfl ?_;have XQ:x col/y col=GQ.i 0 0:=by rw[hz,afp]
  refine⟨rfl,(HX.ext M).congr fun j hj=> ?_,fun hb=>((Xo.o hb).2.ext M).congr fun j hj=> ?_,aeW M⟩
  .unfold Dm;rw[XQ];by_cases h1:j<col
   .rw[ι h1]
   .rw[θ h1];by_cases h2:j=col
    .subst h2;rw[ι rfl,hz]
    .rw[θ h2,GQ.eY,GQ.eP]
  .rw[XQ,GQ.eY,GQ.eP]
 .rw[υ hz];(go_wp2_with fail);obtain⟨b0,b1,b2,b3,b4,b5⟩:=dz.cells (X3.ext M) WE rfl;have K1:=aK.cell k1;have U:=aK.cell V;have A0:=aK.cell a0;have A1:=aK.cell a1;have A2:=aK.cell a2;have A3:=aK.cell a3;have A4:=aK.cell a4;have A5:=aK.cell a5;have B0:=aK.cell b0;have B1:=aK.cell b1;have B2:=aK.cell b2;have B3:=aK.cell b3;have B4:=aK.cell b4;have B5:=aK.cell b5;have WO:=aJ M;clear a0 a1 a2 a3 a4 a5 b0 b1 b2 b3 b4 b5 k1 V e0 M;have XE:∀w',Ext w1 w'->CV 213 #[.pointer (γ ⟨gf,0,δ⟩),.agg #[.bool (f col).s1,.slice (f col).A1 (f col).n1 (f col).c1,.bool (f col).s2,.slice (f col).A2 (f col).n2 (f col).c2,.bool (f col).s3,.slice (f col).A3 (f col).n3 (f col).c3],.agg #[.bool (f2 col).s1,.slice (f2 col).A1 (f2 col).n1 (f2 col).c1,.bool (f2 col).s2,.slice (f2 col).A2 (f2 col).n2 (f2 col).c2,.bool (f2 col).s3,.slice (f2 col).A3 (f2 col).n3 (f2 col).c3]] w' fun v w''=>GV w'' v (x col/y col) N:=fun w' xx=>
   (Tk gf _ _ (x col) (y col) N N w' ((HC.ext WO.o).ext xx) ((HV.ext WO.o).ext xx) ((((XV.o col WE).to (Xb.o col WE)).ext WO.o).ext xx) h0 aa).mono fun e w'' ⟨v,h1,h2,h3⟩=>⟨v,h1,h2.to WR.o,h3⟩
  have HD:=aJ XE;clear XE;refine tJ 17 16 [(ε,0),(ε,1),(ε,2),(ε,3),(ε,4),(ε,5),(ε,6),(ε,7),(ε,8),(ε,9),(ε,10),(ε,11),(ε,12),(ε,13),(ε,14),(ζ,15)] [] (fun a a' w'=>∃(gb:Nat) (r1:Bool) (D1:Option Addr) (p1 q1:Nat) (r2:Bool) (D2:Option Addr) (p2 q2:Nat) (r3:Bool) (D3:Option Addr) (p3 q3:Nat),a'=(((((((((((((((((a.put (γ 28) (.pointer (γ ⟨gf,0,δ⟩))).put (γ 29) (.slice (γ ⟨Ga,0,δ⟩) m cA)).put (γ 30) (.int .i64 i)).put (γ 31) (.pointer (γ ⟨Ga,i,δ⟩))).put (γ 32) (.slice (γ ⟨Q,0,δ⟩) na na)).put (γ 33) (.int .i64 col)).put (γ 34) (.pointer (γ ⟨Q,col*6,δ⟩))).put (γ 35) (.agg #[.bool (f col).s1,.slice (f col).A1 (f col).n1 (f col).c1,.bool (f col).s2,.slice (f col).A2 (f col).n2 (f col).c2,.bool (f col).s3,.slice (f col).A3 (f col).n3 (f col).c3])).put (γ 36) (.slice (γ ⟨Ga,0,δ⟩) m cA)).put (γ 37) (.int .i64 k)).put (γ 38) (.pointer (γ ⟨Ga,k,δ⟩))).put (γ 39) (.slice (γ ⟨bk,0,δ⟩) na na)).put (γ 40) (.int .i64 col)).put (γ 41) (.pointer (γ ⟨bk,col*6,δ⟩))).put (γ 42) (.agg #[.bool (f2 col).s1,.slice (f2 col).A1 (f2 col).n1 (f2 col).c1,.bool (f2 col).s2,.slice (f2 col).A2 (f2 col).n2 (f2 col).c2,.bool (f2 col).s3,.slice (f2 col).A3 (f2 col).n3 (f2 col).c3])).put (γ 43) ((gv r1 D1 p1 q1 r2 D2 p2 q2 r3 D3 p3 q3))).put (γ 12) (.pointer (γ ⟨gb,0,δ⟩)))/\GV w' (gv r1 D1 p1 q1 r2 D2 p2 q2 r3 D3 p3 q3) (x col/y col) N/\Blk w' gb 42 #[.bool ζ,.slice δ 0 0,.bool ζ,.slice δ 0 0,.bool ζ,.slice δ 0 0]/\Ext w1 w'/\w1.heap.size<=gb) ah ah ?_ ?_
  ·
   have P:Ext w1 w1.drew:=(Ext.refl _).drew;generalize w1.drew=w6 at*
   refine fH [0,1,2,3,4,5,6,7,8,9,10,11,12,13,14] [(ζ,15)] _ ah ?_;simp only[bP,aU,μ,ξ];(repeat (go_big_quiet_step (fail)));refine σ ?_;refine mG 15 [] ah ah ?_ ?_
   ·
    intro K I;simp only[aU];(go_wp2_with fail);refine(HD.o _ P).mono ?_;rintro e w7 ⟨v_,rfl,hO,F⟩;replace P:=P.trans F;obtain⟨r1,D1,p1,q1,r2,D2,p2,q2,r3,D3,p3,q3,rfl⟩:=hO.opn;have HO:=aJ hO;clear hO;go_wp2;refine I _ _ ⟨⟨w7,P⟩,rfl⟩ ?_;clear I K F;refine pg ah ?_;intro K I;simp only[aU];(go_wp2_with fail);have F:=Ext.new w7 (.cells #[.bool ζ,.slice δ 0 0,.bool ζ,.slice δ 0 0,.bool ζ,.slice δ 0 0] 42);obtain⟨-,Xk⟩:=an1 w7 42 #[.bool ζ,.slice δ 0 0,.bool ζ,.slice δ 0 0,.bool ζ,.slice δ 0 0];have XX:w1.heap.size<=w7.heap.size:=P.size;replace P:=P.trans F;have W9:=aJ (HO.ext F);refine I _ _ ⟨⟨_,P⟩,rfl⟩ ?_;exact⟨_,r1,D1,p1,q1,r2,D2,p2,q2,r3,D3,p3,q3,by simp only[Act.put,nk,Ej,Ex],W9.o,Xk,P,XX⟩
   ·
    intro K I;simp only[aU];(go_wp2_with fail);have F:=Ext.new w6 (.cells #[.bool ζ,.slice δ 0 0,.bool ζ,.slice δ 0 0,.bool ζ,.slice δ 0 0] 42);obtain⟨-,Xk⟩:=an1 w6 42 #[.bool ζ,.slice δ 0 0,.bool ζ,.slice δ 0 0,.bool ζ,.slice δ 0 0];have XX:w1.heap.size<=w6.heap.size:=P.size;replace P:=P.trans F;refine I _ _ ⟨⟨_,P⟩,rfl⟩ ?_;clear I K F;generalize w6.alloc (.cells #[.bool ζ,.slice δ 0 0,.bool ζ,.slice δ 0 0,.bool ζ,.slice δ 0 0] 42)=Yq at*
    generalize w6.heap.size=gb at*
    refine aR 15 [] ah ?_;intro K I;simp only[aU];(go_wp2_with fail);refine(HD.o _ P).mono ?_;rintro e w7 ⟨v_,rfl,hO,F⟩;replace P:=P.trans F;replace Xk:=Xk.ext F;obtain⟨r1,D1,p1,q1,r2,D2,p2,q2,r3,D3,p3,q3,rfl⟩:=hO.opn;have HO:=aJ hO;clear hO;go_wp2;refine I _ _ ⟨⟨w7,P⟩,rfl⟩ ?_;clear I K F;exact⟨_,r1,D1,p1,q1,r2,D2,p2,q2,r3,D3,p3,q3,by simp only[Act.put,nk,Ej,Ex],HO.o,Xk,P,XX⟩
  rintro a' w8 ⟨gb,r1,D1,p1,q1,r2,D2,p2,q2,r3,D3,p3,q3,rfl,hQ,D,Xh,XX⟩;clear K1 U A0 A1 A2 A3 A4 A5 B0 B1 B2 B3 B4 B5;simp only[Act.put,nk,Ej,Ex,ρ,φ];have XD:=aJ (WO.trans Xh);have k6:=D.cell;have f6:=D.frozen;obtain⟨z1,z2,z3⟩:=eX Xh XX D hQ;have Z1:=aJ (WO.trans z1);have Z2:=aJ z2;have Z3:=aJ z3;clear z1 z2 z3 Xh D hQ;have XY:w.heap.size<=gb:=lh WO.size XX;clear XD;(go_wp2_with fail);generalize XW:World.setCell _ _ _=w9 at Z1 Z2 Z3⊢;clear XW k6 f6 XX;have K1:=aK.cell (((HA.ext Z1.o).cell i).trans Xi);have XM:=aJ (QI gf w9.drew (HC.ext Z1.drew));refine bz 7 [(ε,0),(ε,1),(ε,2),(ε,3),(ε,4),(ε,5),(ζ,6)] ah ah ?_;refine aT [0,1,2,3,4,5] [(ζ,6)] _ ah ?_;simp only[bP,aU,μ,ξ];(repeat (go_big_quiet_step (fail)));refine σ ?_;refine aR 6 [] ah ?_;intro K I;simp only[aU];(go_wp2_with fail);refine XM.mono ?_;rintro e XF ⟨XZ,rfl,Xj,Xy⟩;obtain⟨t1,B1,m1,o1,t2,B2,m2,o2,t3,B3,m3,o3,rfl⟩:=Xj.opn;have B:=aJ Xy.ji;have Xr:=aJ Xj;clear Xy Xj XM;go_wp2;refine I _ _ ⟨⟨XF,B.o⟩,rfl⟩ ?_;clear I K K1;simp only[bQ,ρ,φ];have Xm:=aJ (Z1.trans B.o);have WP:=aJ (S.ext Xm.o);obtain⟨a0,a1,a2,a3,a4,a5⟩:=dz.cells WP.o WE rfl;have f5:=WP.frozen;(go_wp2_with fail);clear a0 a1 a2 a3 a4 a5 f5;have hp:=dz.put (e:=⟨t1,B1,m1,o1,t2,B2,m2,o2,t3,B3,m3,o3⟩) WP.o (fun j hj=>(XI.o j hj).ext Xm.o) (j:=col) WE (Xr.up aa);have WN:=aJ (show dz (puts XF Q (col*6) [.bool t1,.slice B1 m1 o1,.bool t2,.slice B2 m2 o2,.bool t3,.slice B3 m3 o3]) Q na (upd x col (GQ.i 0 0)) from hp.1);have WS:=aJ (show Mod (fun g=>g=Q) XF (puts XF Q (col*6) [.bool t1,.slice B1 m1 o1,.bool t2,.slice B2 m2 o2,.bool t3,.slice B3 m3 o3]) from hp.2);clear hp;show Code.wp _ _ _ _ (puts XF Q (col*6) [.bool t1,.slice B1 m1 o1,.bool t2,.slice B2 m2 o2,.bool t3,.slice B3 m3 o3]);generalize (puts XF Q (col*6) [.bool t1,.slice B1 m1 o1,.bool t2,.slice B2 m2 o2,.bool t3,.slice B3 m3 o3])=Xf at WN WS⊢;have Y:=HX.far;have WI:Mod (fun g=>g=Q) w Xf:=(aeW Xm.o).trans WS.o;have Xu:=S.lt;have XA:=aJ (HA.mod WI (HA.fQ S.o aj));have l:=aJ (HB.mod WI (HB.fQ S.o aj));have WX:=aJ (Blk.mod HC.o WI (HC.ne HX.o));have XR:=aJ (HY.mod WI Y Adz);have WU:Far (fun g=>g=Q) XF:=fun g hg _=>by subst hg;exact⟨_,_,WP.o,dm _ _⟩
  have Xl:=aJ ((Z2.ext B.o).mod WS.o (by exact fun e=>aa));have Xn:=aJ ((Z3.ext B.o).mod WS.o WU);have WW:=aJ WI;clear WI WS Z2 Z3 Xr WP WU B;have K1:=aK.cell ((XA.cell i).trans Xi);have U:=aK.cell ((XA.cell k).trans XT);have B7:=aK.blk Xl.o;have s1:(0:Int)<=(col:Int)+1:=aa;have s2:(col:Int)+1<=(na:Int):=aa;refine bz 16 [(ε,0),(ε,1),(ε,2),(ε,3),(ε,4),(ε,5),(ε,6),(ε,7),(ε,8),(ε,9),(ε,10),(ε,11),(ε,12),(ε,13),(ε,14),(ε,15)] ah ah ?_;refine aT [0,1,2,3,4,5,6,7,8,9,10,11,12,13,14,15] [] _ ah ?_;simp only[bP,aU,μ,ξ];(repeat (go_big_quiet_step (fail)));refine σ ?_;clear K1 U B7 s1 s2;simp only[bQ,ρ,φ];have XP:Hid (∀(P1 P2:Option Addr) (L C1 C2:Nat),L=na-(col+1)->(0<L->P1=γ ⟨Q,(col+1)*6,δ⟩)->(0<L->P2=γ ⟨bk,(col+1)*6,δ⟩)->Calls prog 212 #[.pointer (γ ⟨gf,0,δ⟩),.slice P1 L C1,.slice P2 L C2,(gv r1 D1 p1 q1 r2 D2 p2 q2 r3 D3 p3 q3)] Xf.drew fun e w'=>e=.returned (.tuple #[])/\dz w' Q na (Dm x y (x col/y col) col)/\Mod (fun g=>g=Q) Xf w'):=by
   refine aJ fun P1 P2 L C1 C2 hL h1 h2=> ?_;have hd:Ext Xf Xf.drew:=(Ext.refl _).drew;refine(yB gf Q bk (col+1) (col+1) na na L C1 L C2 N P1 P2 _ (upd x col (GQ.i 0 0)) y (x col/y col) Xf.drew (WX.ext hd) (WN.ext hd) (XR.ext hd) WG h1 h2 (κ _) aa aa aa aa (Xn.ext hd) ?_ (fun j hj=>Xb.o _ aa) hN).mono ?_
   .intro j hj;rw[upd_ne aa];exact WT.o _ aa
   .rintro e w' ⟨O,hr,hm⟩;refine⟨O,hr.congr fun j hj=> ?_,(aeW hd).trans hm⟩;unfold vD Dm;by_cases Yh:j<col
    .rw[θ aa,ι Yh,upd_ne aa]
    .by_cases WK:j=col
     .subst WK;rw[θ aa,θ aa,ι rfl,upd_same]
     .rw[ι aa,θ Yh,θ WK,upd_ne WK];congr 3;omega
  (go_wp2_with fail);all_goals
   refine(XP.o _ _ _ _ _ aa (by intro h;first|(exact absurd h aa)|exact rfl) (by intro h;first|(exact absurd h aa)|exact rfl)).mono ?_;rintro e Yq ⟨rfl,Xq,T⟩;have XO:=aJ Xq;have WZ:=aJ (WW.trans T);clear Xq;(go_wp2_with fail);have Xc:=aJ (l.mod T (l.fQ (WN.blk.choose_spec) aj));have XC:=aJ (Blk.mod WX.o T (jm.ne WX.o WN.o));have Xx:=aJ (Xl.mod T (by exact fun e=>aa));have Xz:=aJ (Xn.mod T WN.far);have K1:=aK.cell ((Xc.cell i).trans YI);have U:=aK.cell ((Xc.cell k).trans WV);have B7:=aK.blk Xx.o;have HS:=aJ (Qa gf C G nb WJ WM N H Z _ x2 y2 (x _/y _) Yq XC.o Xz.o (fun hb=>⟨(Xo.o hb).1,(Xo.o hb).2.mod WZ.o Y (by exact fun e=>(WH.o hb).2.1 e.symm)⟩) (fun hb=>⟨(XU.o hb).1,(XU.o hb).2.mod WZ.o Y (by exact fun e=>(WH.o hb).2.2 e.symm)⟩) (fun hb=>(WH.o hb).1) WY Xt.o XN.o hN);clear l WX Xl Xn Xc XC Xx Xz XP WN;refine bz 10 [(ε,0),(ε,1),(ε,2),(ε,3),(ε,4),(ε,5),(ε,6),(ε,7),(ε,8),(ε,9)] ah ah ?_;refine aT [0,1,2,3,4,5,6,7,8,9] [] _ ah ?_;simp only[bP,aU,μ,ξ];(repeat (go_big_quiet_step (fail)));refine σ ?_;clear K1 U B7;simp only[bQ,ρ,φ];(go_wp2_with fail);refine HS.mono ?_;rintro e Yr ⟨rfl,Xp,Xv⟩;have XL:=aJ Xp;have Xw:=aJ Xv;clear Xp Xv;(go_wp2_with fail);refine aa8 (aaB rfl _ _ _) rfl ?_;refine⟨rfl,?_,XL.o,(WZ.mono (fun g hg=> .inl hg)).trans (Xw.mono (fun g hg=> .inr hg))⟩;refine XO.mod Xw.o ?_ ?_
   .intro g hg _;obtain⟨hb,rfl⟩:=hg;have hr:=(Xo.o hb).2.mod WZ.o Y (by exact fun e=>(WH.o hb).2.1 e.symm);obtain⟨ff,XH,_⟩:=hr;exact⟨_,_,XH,dm _ _⟩
   .exact fun hg=>(WH.o hg.1).2.1 hg.2
def Only.setRow(w g cs):Only g w (w.setRow g cs):=⟨rfl,rfl,rfl,ag,fun i _ j=>setRow_other w g i cs (fun e=>j (by rw[e]))⟩
def sQ{P}{fn:Func}{R:Ending->World->Prop}{a:Act}{w}{t u:Nat}(l:fn.results= #[.tmp t,.tmp u])(hd:a.defers=[])(j:R (.returned (.tuple #[a.tmps.getD t undef,a.tmps.getD u undef])) w):bodyPost P fn R .ret a w:=
 aag (v:=.tuple #[a.tmps.getD t undef,a.tmps.getD u undef]) (by simp[results,l]) hd j
def mxc (m:Nat) (R:Nat->Rw):List Value:=(List.range m).map fun i=>(R i).v
def iM{m R i}(hi:i<m):(mxc m R).toArray[i]? =γ (R i).v:=by simp[mxc,hi]
structure MxI (W:World) (G m n:Nat) (P:Nat->Prop) (R:Nat->Rw) (X:Nat->Nat->GQ):Prop where
 o:Blk W G 174 (mxc m R).toArray
 len:∀i,i<m->(R i).n=n/\(R i).c=n
 row:∀i,i<m->0<n->(R i).A=γ ⟨(R i).b,0,δ⟩/\dz W (R i).b n (X i)
 inj:∀i j,i<m->j<m->0<n->(R i).b=(R j).b->i=j
 mem:∀i,i<m->0<n->P (R i).b
section
variable {W W':World} {G m n:Nat} {P:Nat->Prop} {R:Nat->Rw} {X Y:Nat->Nat->GQ}
def MxI.ext(h:MxI W G m n P R X)(x:Ext W W'):MxI W' G m n P R X:=
 ⟨h.o.ext x,h.len,fun i hi hn=>⟨(h.row i hi hn).1,(h.row i hi hn).2.ext x⟩,h.inj,h.mem⟩
def MxI.congr(h:MxI W G m n P R X)(e:∀i j,i<m->j<n->X i j=Y i j):MxI W G m n P R Y:=
 ⟨h.o,h.len,fun i hi hn=>⟨(h.row i hi hn).1,(h.row i hi hn).2.congr fun j l=>e i j hi l⟩,h.inj,h.mem⟩
theorem MxI.v(h:MxI W G m n P R X){i}(hi:i<m)(hn:0<n):(R i).v=.slice (γ ⟨(R i).b,0,δ⟩) n n:=by
 unfold Rw.v;rw[(h.row i hi hn).1,(h.len i hi).1,(h.len i hi).2]
theorem MxI.v0(h:MxI W G m n P R X){i}(hi:i<m):(R i).v=.slice (R i).A n n:=by
 unfold Rw.v;rw[(h.len i hi).1,(h.len i hi).2]
def MxI.cell(h:MxI W G m n P R X){i}(hi:i<m):W.cell? ⟨G,i,δ⟩=γ (.slice (R i).A n n):=by
 rw[h.o.cell,iM hi,h.v0 hi]
def MxI.Ta{S:Nat->Prop}{x:Nat->GQ}{i:Nat}(h:MxI W G m n P R X)(B:Mod S W W')(hS:Far S W)(D:¬S G)(C:∀j,j<m->j≠i->0<n->¬S (R j).b)(hi:0<n->dz W' (R i).b n x):MxI W' G m n P R (upd X i x):=by
 refine⟨h.o.mod B D,h.len,fun j l hn=>⟨(h.row j l hn).1,?_⟩,h.inj,h.mem⟩;by_cases e:j=i
 .subst e;rw[upd_same];exact hi hn
 .rw[upd_ne e];exact(h.row j l hn).2.mod B hS (C j l e hn)
def MxI.mod{S}(h:MxI W G m n P R X)(B:Mod S W W')(hS:Far S W)(D:¬S G)(C:∀j,j<m->0<n->¬S (R j).b):MxI W' G m n P R X:=by
 refine⟨h.o.mod B D,h.len,fun j l hn=>⟨(h.row j l hn).1,?_⟩,h.inj,h.mem⟩;exact(h.row j l hn).2.mod B hS (C j l hn)
theorem j3(m R):kM (mxc m R).toArray=ε:=by
 unfold kM;simp only[nH];intro v hv;unfold mxc at hv;obtain⟨j,_,rfl⟩:=aaf.1 hv;rfl
def PZ{k r}(B:k<m)(D:r<m):(((mxc m R).toArray.setIfInBounds k (R r).v).setIfInBounds r (R k).v)=(mxc m fun i=>R (swp k r i)).toArray:=by
 apply Array.ext
 .simp[mxc]
 .intro i F C;simp only[mxc,nk,List.getElem_toArray,List.getElem_set,List.getElem_map,List.getElem_range];by_cases j:r=i
  .subst j;rw[ι rfl,nU]
  .rw[θ j];by_cases l:k=i
   .subst l;rw[ι rfl,Vt]
   .rw[θ l,vJ (fun e=>l e.symm) (fun e=>j e.symm)]
def MxI.swap{k r}(h:MxI W G m n P R X)(l:k<m)(B:r<m):
  MxI ((W.setCell ⟨G,k,δ⟩ (.slice (R r).A n n)).setCell ⟨G,r,δ⟩ (.slice (R k).A n n)) G m n P (fun i=>R (swp k r i)) (fun i=>X (swp k r i))/\
   Mod (fun g=>g=G) W ((W.setCell ⟨G,k,δ⟩ (.slice (R r).A n n)).setCell ⟨G,r,δ⟩ (.slice (R k).A n n)):=by
 have D:Mod (fun g=>g=G) W ((W.setCell ⟨G,k,δ⟩ (.slice (R r).A n n)).setCell ⟨G,r,δ⟩ (.slice (R k).A n n)):=Mod.only ((Only.set _ _ _ _).trans (Only.set _ _ _ _)) rfl;have hS:Far (fun g=>g=G) W:=fun g F _=>by subst F;exact⟨_,_,h.o,j3 _ _⟩
 refine⟨⟨?_,fun i hi=>h.len _ (lM l B hi),fun i hi hn=> ?_,fun i j hi I hn e=> ?_,fun i hi hn=>h.mem _ (lM l B hi) hn⟩,D⟩
 .have:=(h.o.nL k (R r).v).nL r (R k).v;rw[PZ l B,h.v0 l,h.v0 B] at this;exact this
 .obtain⟨H,C⟩:=h.row _ (lM l B hi) hn;refine⟨H,C.mod D hS ?_⟩;obtain⟨f,hb,_⟩:=C;exact fun e=>h.o.fQ hb aj e.symm
 .have:=h.inj _ _ (lM l B hi) (lM l B I) hn e;rw[<-Ea k r i,this,Ea]
end
def F4{m Z c}(h:(ech m Z c).r=m):∀d,c<=d->ech m Z d=ech m Z c
 |0,hd=>by
  obtain rfl:c=0:=aa;rfl
 |d+1,hd=>by
  by_cases e:c=d+1
  .subst e;rfl
  .have B:=F4 h d aa;show jR m d (ech m Z d)=_;rw[B];apply eQ;rw[h,aaY];rfl
def MxI.ne{W G m n P R X}(h:MxI W G m n P R X){i g cs}(hi:i<m)(hn:0<n)(hb:Blk W g 174 cs):(R i).b≠g:=by
 obtain⟨_,f,j,_⟩:=h.row i hi hn;exact j.fQ hb aj
def side (na:Nat) (X Y:Nat->Nat->GQ):Nat->Nat->GQ:=fun i j=>if j<na then X i j else Y i (j-na)
def elm (X:Nat->Nat->GQ) (r c i:Nat):Nat->Nat->GQ:=upd X i (fun j=>X i j-X i c/X r c*X r j)
def oh (X:Nat->Nat->GQ) (r c i:Nat):Nat->Nat->GQ:=fun C j=>if r<C/\C<i then X C j-X C c/X r c*X r j else X C j
theorem Al(X r c):oh X r c (r+1)=X:=by
 funext i j;unfold oh;rw[θ aa]
structure EI (W:World) (gf Ga Gb m na nb:Nat) (PA PB:Nat->Prop) (Z:Nat->Nat->GQ):Prop where
 calm:jm W gf
 a:∃R,MxI W Ga m na PA R Z
 b:∃R,MxI W Gb m nb PB R (fun i j=>Z i (na+j))
def Room (N m na nb:Nat) (Z:Nat->Nat->GQ):Prop:=∀c,c<na->(ech m Z c).r+1<m->(∀i j,(ech m Z c).r<=i->i<m->j<na+nb->Bd ((ech m Z c).X i j) N)/\
 ∀i k,(ech m Z c).r<=i->i<m->(ech m Z c).r<=k->k<m->(ech m Z c).X k c≠GQ.i 0 0->Bd ((ech m Z c).X i c/(ech m Z c).X k c) N
def EI.ext{W W' gf Ga Gb m na nb PA PB Z}(h:EI W gf Ga Gb m na nb PA PB Z)(x:Ext W W'):EI W' gf Ga Gb m na nb PA PB Z:=by
 obtain⟨l,⟨R,j⟩,⟨R2,B⟩⟩:=h;exact⟨l.ext x,⟨R,j.ext x⟩,⟨R2,B.ext x⟩⟩
def EI.congr{W gf Ga Gb m na nb PA PB Z l}(h:EI W gf Ga Gb m na nb PA PB Z)(e:∀i j,i<m->Z i j=l i j):EI W gf Ga Gb m na nb PA PB l:=by
 obtain⟨C,⟨R,B⟩,⟨R2,D⟩⟩:=h;exact⟨C,⟨R,B.congr fun i j hi _=>e i j hi⟩,⟨R2,D.congr fun i j hi _=>e i _ hi⟩⟩
theorem CU(X){r c i}(hi:r<i):elm (oh X r c i) r c i=oh X r c (i+1):=by
 funext i' j;unfold elm upd;by_cases e:i'=i
 .subst e;rw[ι rfl];unfold oh;rw[θ aa,θ aa,θ aa,θ aa,ι aa]
 .rw[θ e];unfold oh;by_cases h:r<i'/\i'<i
  .rw[ι h,ι aa]
  .rw[θ h,θ aa]
theorem Hw(gf Ga Gb m cA cB na nb r i c N PA PB T X w)(h:EI w gf Ga Gb m na nb PA PB X)(hd:∀g,PA g->PB g->False)(hT:T Ga/\T Gb/\(∀g,PA g->T g)/\∀g,PB g->T g)(hi:i<m)(Xz:r<i)(hc:c<na)(hm:m<=24)(XG:na<=24)(WY:nb<=24)(h0:X r c≠GQ.i 0 0)(hz:∀j,j<c->X r j=GQ.i 0 0)(Q:∀j,j<na+nb->Bd (X i j) N)(br:∀j,j<na+nb->Bd (X r j) N)(bq:Bd (X i c/X r c) N)(hN:4*N+67<=12800):
  Calls prog 211 #[.pointer (γ ⟨gf,0,δ⟩),.slice (γ ⟨Ga,0,δ⟩) m cA,.slice (γ ⟨Gb,0,δ⟩) m cB,.int .i64 r,.int .i64 i,.int .i64 c] w fun e w'=>e=.returned (.tuple #[])/\EI w' gf Ga Gb m na nb PA PB (elm X r c i)/\Mod T w w':=by
 obtain⟨F,⟨R,K⟩,⟨R2,J⟩⟩:=h;have P:r<m:=aa;obtain⟨H,ri⟩:=K.row i hi aa;obtain⟨B,S⟩:=K.row r P aa;have Xi:(mxc m R).toArray[i]? =γ (.slice (γ ⟨(R i).b,0,δ⟩) na na):=by rw[iM hi,K.v hi aa]
 have Z:(mxc m R).toArray[r]? =γ (.slice (γ ⟨(R r).b,0,δ⟩) na na):=by rw[iM P,K.v P aa]
 have YI:(mxc m R2).toArray[i]? =γ (.slice (R2 i).A nb nb):=by rw[iM hi,J.v0 hi]
 have I:(mxc m R2).toArray[r]? =γ (.slice (R2 r).A nb nb):=by rw[iM P,J.v0 P]
 have W:(R i).b≠(R r).b:=fun e=>by have:=K.inj i r hi P aa e;omega
 refine(O7 gf Ga Gb m cA cB i r c na nb (R i).b (R r).b (R2 i).b (R2 r).b nb nb N (R2 i).A (R2 r).A _ _ (X i) (X r) (fun j=>X i (na+j)) (fun j=>X r (na+j)) w F K.o J.o Xi Z YI I hi P hc aa aa aa ri S
  (fun hn=>J.row i hi hn) (fun hn=>J.row r P hn) W (fun hn=>⟨fun e=>by have:=J.inj i r hi P hn e;omega,fun e=>hd _ (K.mem i hi aa) (e ▸ J.mem i hi hn),fun e=>hd _ (K.mem i hi aa) (e ▸ J.mem r P hn)⟩)
  h0 (fun j L=>Q j aa) (fun j L=>br j aa) (fun j L=>Q _ aa) (fun j L=>br _ aa) bq hN).mono ?_
 rintro e w' ⟨O,h1,h2,U⟩;have Y:Far (fun g=>g=(R i).b\/0<nb/\g=(R2 i).b) w:=by
  rintro g (rfl|⟨hn,rfl⟩) _
  .obtain⟨f,hf,_⟩:=ri;exact⟨_,_,hf,dm _ _⟩
  .obtain⟨f,hf,_⟩:=(J.row i hi hn).2;exact⟨_,_,hf,dm _ _⟩
 have l:∀(G:Nat) (cs:Array Value),Blk w G 174 cs->¬(G=(R i).b\/0<nb/\G=(R2 i).b):=by
  rintro G cs hG (e|⟨hn,e⟩)
  .exact K.ne hi aa hG e.symm
  .exact J.ne hi hn hG e.symm
 refine⟨O,⟨?_,⟨R,?_⟩,⟨R2,?_⟩⟩,U.mono ?_⟩
 .refine Blk.mod F U ?_;rintro(e|⟨hn,e⟩)
  .exact jm.ne F ri e
  .exact jm.ne F (J.row i hi hn).2 e
 .refine(K.Ta (i:=i) (x:=Dm (X i) (X r) (X i c/X r c) c) U Y (l _ _ K.o) ?_ (fun _=>h1)).congr ?_
  .rintro j L D hn (e|⟨V,e⟩)
   .exact D (K.inj j i L hi hn e)
   .exact hd _ (K.mem j L hn) (e ▸ J.mem i hi V)
  .intro C j M L;unfold elm upd;by_cases e:C=i
   .rw[ι e,ι e];unfold Dm;by_cases e1:j<c
    .rw[ι e1,hz j e1,GQ.bJ,GQ.eP]
    .rw[θ e1];by_cases e2:j=c
     .subst e2;rw[ι rfl,ae5 h0,GQ.qJ]
     .rw[θ e2]
   .rw[θ e,θ e]
 .refine(J.Ta (i:=i) (x:=fun j=>X i (na+j)-X i c/X r c*X r (na+j)) U Y (l _ _ J.o) ?_ (fun hn=>h2 hn)).congr ?_
  .rintro j L D hn (e|⟨V,e⟩)
   .exact hd _ (K.mem i hi aa) (e ▸ J.mem j L hn)
   .exact D (J.inj j i L hi hn e)
  .intro C j M L;unfold elm upd;by_cases e:C=i
   .rw[ι e,ι e]
   .rw[θ e,θ e]
 .rintro g (rfl|⟨hn,rfl⟩)
  .exact hT.2.2.1 _ (K.mem i hi aa)
  .exact hT.2.2.2 _ (J.mem i hi hn)
theorem IX(gf Ga Gb m cA cB na nb N PA PB T Z w)(h:EI w gf Ga Gb m na nb PA PB Z)(WG:Ga≠Gb)(hd:∀g,PA g->PB g->False)(hT:T Ga/\T Gb/\(∀g,PA g->T g)/\∀g,PB g->T g)(Xv:m=0->na=0)(hm:m<=24)(XG:na<=24)(WY:nb<=24)(hN:4*N+67<=12800)(H:Room N m na nb Z)(Y:∀w',Ext w w'->CE 190 #[.slice (γ ⟨Ga,0,δ⟩) m cA] w' (.int .i64 na)):
  Calls prog 192 #[.pointer (γ ⟨gf,0,δ⟩),.slice (γ ⟨Ga,0,δ⟩) m cA,.slice (γ ⟨Gb,0,δ⟩) m cB] w fun e w'=>e=.returned (.tuple #[.int .i64 (ech m Z na).r,.bool (ech m Z na).odd])/\
   EI w' gf Ga Gb m na nb PA PB (ech m Z na).X/\Mod T w w':=by
 have HH:=aJ h;have Q:=aJ H;have HT:=aJ hT;have HD:=aJ hd;clear h H hT hd;go_enter func192,ntmps192;go_wp2_with fail
 go_step3
 go_wp2_with fail
 go_step3
 (go_wp2_with fail);refine(Y _ (Ext.refl _)).mono ?_;rintro e w1 ⟨rfl,M⟩;have WO:=aJ M;clear M Y;go_wp2_with fail
 go_loopw [6,7,13] (fun r o i wr=>∃c:Nat,c<=na/\i=.int .i64 c/\r=.int .i64 (ech m Z c).r/\o=.bool (ech m Z c).odd/\EI wr gf Ga Gb m na nb PA PB (ech m Z c).X/\Mod T w wr) (fun _ _ i _=>na-(intOf i).toNat)
 case atStart=>
  obtain⟨h1,⟨R,h2⟩,⟨R2,h3⟩⟩:=HH.o;exact⟨0,aa,rfl,rfl,rfl,⟨h1.ext WO.o,⟨R,h2.ext WO.o⟩,⟨R2,h3.ext WO.o⟩⟩,aeW WO.o⟩
 case round=>
  obtain⟨c,hc,rfl,rfl,rfl,Xq,WK⟩:=hrel;have HE:=aJ Xq;have HM:=aJ WK;clear Xq WK HH WO;by_cases WE:c<na
  .have hd:decide ((c:Int)<(na:Int))=ε:=ae;obtain⟨o,P,WT⟩:=oz m Z c;have Xg:=WT.rm;have HZ:=aJ WT.z;clear WT;generalize hs:ech m Z c=s at*
   have HS:=aJ hs;clear hs;by_cases O:s.r=m
   .have df:((s.r:Int)==(m:Int))=ε:=by simp[O]
    have G:ech m Z na=s:=by rw[<-HS.o];exact F4 (by rw[HS.o];exact O) na aa
    have WL:=aJ G;clear G O;(go_wp2_with fail);rw[Exit.noGoto_ret];refine sQ rfl rfl ?_;rw[WL.o];exact⟨rfl,HE.o,HM.o⟩
   .have df:((s.r:Int)==(m:Int))=ζ:=ae;have WQ:s.r<m:=aa;clear O;go_wp2_with fail
    go_loopw [9] (fun i w2=>∃k:Nat,s.r<=k/\k<m/\i=.int .i64 k/\(∀i,s.r<=i->i<k->s.X i c=GQ.i 0 0)/\Ext wr w2) (fun i _=>m-(intOf i).toNat)
    case atStart=>exact⟨s.r,κ _,WQ,rfl,by intros;omega,Ext.refl _⟩
    case round=>
     clear hd df;obtain⟨k,Xx,WV,rfl,hz,J⟩:=hrel;have HX:=aJ J;have Xl:=aJ hz;clear J hz;obtain⟨F,⟨R,hA⟩,⟨R2,hB⟩⟩:=HE.o;obtain⟨Xh,f,hf,hv⟩:=hA.row k WV aa;have k1:=hA.cell WV;rw[Xh] at k1;replace k1:=HX.o.cell_ k1;obtain⟨a0,a1,a2,a3,a4,a5⟩:=dz.cells (hf.ext HX.o) WE rfl;have d1:decide ((k:Int)<(m:Int))=ε:=ae;have d2:decide ((c:Int)<(na:Int))=ε:=ae;have HV:=aJ ((hv c WE).ext HX.o);clear hv hf F hA hB;(go_wp2_with fail);refine(xA _ _ _ _ HV.o aa).mono ?_;rintro e w3 ⟨rfl,WF⟩;have WJ:=HX.aC WF;clear WF k1 a0 a1 a2 a3 a4 a5;by_cases h0:s.X k c=GQ.i 0 0
     .rw[Ξ h0];have WZ:Hid (∀i,s.r<=i->i<k+1->s.X i c=GQ.i 0 0):=aJ fun i h1 h2=>by
       by_cases e:i=k
       .subst e;exact h0
       .exact Xl.o i h1 aa
      clear h0;by_cases XJ:k+1=m
      .have dl:(((k:Int)+1)==(m:Int))=ε:=ae;have I:ech m Z (c+1)=s:=by
        show jR m c (ech m Z c)=s;rw[HS.o];exact eQ (zy fun i h1 h2=>WZ.o i h1 aa)
       have l:=aJ I;clear I;(go_wp2_with fail);refine⟨⟨c+1,aa,au,by rw[l.o],by rw[l.o],?_,HM.o.trans (aeW WJ.o)⟩,by simp[intOf];omega⟩;rw[l.o];obtain⟨h1,⟨R,h2⟩,⟨R2,h3⟩⟩:=HE.o;exact⟨h1.ext WJ.o,⟨R,h2.ext WJ.o⟩,⟨R2,h3.ext WJ.o⟩⟩
      .have dl:(((k:Int)+1)==(m:Int))=ζ:=ae
       go_wp2_with fail
       go_roundw
       case rel=>exact⟨k+1,aa,aa,au,WZ.o,WJ.o⟩
       case measure=>simp[intOf];omega
     .rw[υ h0];have Xa:ech m Z (c+1)=⟨s.r+1,clr (fun i=>s.X (swp k s.r i)) s.r c,s.odd^^decide (k≠s.r),c::s.q⟩:=by
       show jR m c (ech m Z c)=_;rw[HS.o];exact dL (zo Xx aa Xl.o h0)
      have WP:=aJ Xa;clear Xa;have Xo:Hid (EI w3 gf Ga Gb m na nb PA PB s.X):=aJ (by
       obtain⟨h1,⟨R,h2⟩,⟨R2,h3⟩⟩:=HE.o;exact⟨h1.ext WJ.o,⟨R,h2.ext WJ.o⟩,⟨R2,h3.ext WJ.o⟩⟩)
      have WH:=HM.aC (aeW WJ.o);clear HE HM HX WJ Xl Xh HV d1 d2;have Xk:=aJ h0;have K:=aJ (And.intro Xx WV);have S:Hid (∀i,s.r<i->i<m->s.r<=swp k s.r i/\swp k s.r i<m):=aJ fun i h1 h2=>⟨by unfold swp;split<;>(try split)<;>omega,lM WV WQ h2⟩;have WN:Hid ((s.r+1<m->∀i j,s.r<=i->i<m->j<na+nb->Bd (s.X i j) N)/\(s.r+1<m->∀i k,s.r<=i->i<m->s.r<=k->k<m->s.X k c≠GQ.i 0 0->Bd (s.X i c/s.X k c) N)):=aJ (by
       have:=Q.o c WE;rw[HS.o] at this;exact⟨fun h=>(this h).1,fun h=>(this h).2⟩)
      clear h0;by_cases Xm:k=s.r
      .subst Xm;have dne:((s.r:Int) !=(s.r:Int))=ζ:=ag;(go_wp2_with fail);have Xr:Hid (EI w3 gf Ga Gb m na nb PA PB (fun i=>s.X (swp s.r s.r i))):=aJ (by
        have e:(fun i=>s.X (swp s.r s.r i))=s.X:=by funext i;rw[OD]
        rw[e];exact Xo.o)
       have WW:=WH;clear Xo WH;go_loopw [10] (fun i w2=>∃C:Nat,s.r+1<=C/\C<=m/\i=.int .i64 C/\EI w2 gf Ga Gb m na nb PA PB (oh (fun i=>s.X (swp s.r s.r i)) s.r c C)/\Mod T w w2) (fun i _=>m-(intOf i).toNat)
       case atStart=>
        refine⟨s.r+1,κ _,aa,au,?_,?_⟩
        .rw[Al];first|exact Xr.o|exact Xr.o.ext (Ext.refl _).drew|exact Xr.o.ext (Ext.refl _).drew.drew
        .first|exact WW.o|exact WW.o.trans (aeW (Ext.refl _).drew)|exact WW.o.trans (aeW (Ext.refl _).drew.drew)
       case round=>
        obtain⟨C,WI,Xu,rfl,D,hM⟩:=hrel;have L:=aJ D;have Xd:=aJ hM;clear D hM;by_cases W:C<m
        .have q1:decide ((C:Int)<(m:Int))=ε:=ae;(go_wp2_with fail);refine(Hw gf Ga Gb m cA cB na nb s.r C c N PA PB T (oh (fun i=>s.X (swp s.r s.r i)) s.r c C) _ L.o HD.o HT.o W aa WE hm XG WY ?_ ?_ ?_ ?_ ?_ hN).mono ?_
         .unfold oh;rw[θ aa];simp only[nU];exact Xk.o
         .exact Adp
         .exact AcP
         .exact Adb
         .exact Aba
         rintro e w7 ⟨rfl,WS,Xc⟩;have B:=aJ WS;have Xn:=Xd.aC Xc;clear WS Xc L Xd;go_wp2_with fail
         exact Acd
        .obtain rfl:C=m:=aa;have q1:decide ((C:Int)<(C:Int))=ζ:=ag;have e0:=L.o.calm.cell;(go_wp2_with fail);refine⟨⟨c+1,aa,au,by rw[WP.o];go_num,by rw[WP.o];simp,?_,Xd.o⟩,by simp[intOf];omega⟩;rw[WP.o];refine L.o.congr fun i j hi=> ?_;show oh (fun i=>s.X (swp s.r s.r i)) s.r c C i j=clr (fun i=>s.X (swp s.r s.r i)) s.r c i j;unfold oh clr;by_cases h:s.r<i
         .rw[ι ⟨h,hi⟩,ι h]
         .rw[θ (fun e=>h e.1),θ h]
      .have dne:((k:Int) !=(s.r:Int))=ε:=ae;obtain⟨F,⟨R,hA⟩,⟨R2,hB⟩⟩:=Xo.o;have HA:=aJ hA;have HB:=aJ hB;have HC:=aJ F;have k1:=hA.cell WV;have V:=hA.cell WQ;have f1:=hA.o.frozen;clear hA hB F;have q1:decide ((k:Int)<(m:Int))=ε:=ae;have q2:decide ((s.r:Int)<(m:Int))=ε:=ae
       go_wp2_with fail
       go_region;obtain⟨XP,Xi⟩:=HA.o.swap WV WQ;have WX:Far (fun g=>g=Ga) w3:=fun g hg _=>by subst hg;exact⟨_,_,HA.o.o,j3 _ _⟩
       have WR:=HB.o.mod Xi WX Adz (fun j hj hn=>HB.o.ne hj hn HA.o.o);have Xp:jm _ gf:=Blk.mod HC.o Xi (by exact fun e=>HC.o.fQ HA.o.o aj e);have Xb:=aJ XP;have U:=aJ WR;have Xe:=aJ Xp;have Za:=aJ Xi;clear XP WR Xp Xi WX k1 V f1;generalize XZ:World.setCell _ _ _=w4 at Xb U Xe Za⊢;clear XZ;have k1:=U.o.cell WV;have V:=U.o.cell WQ;have f1:=U.o.o.frozen;go_wp2_with fail
       go_region;obtain⟨W9,Xj⟩:=U.o.swap WV WQ;have Xf:Far (fun g=>g=Gb) w4:=fun g hg _=>by subst hg;exact⟨_,_,U.o.o,j3 _ _⟩
       have XY:=Xb.o.mod Xj Xf (by exact WG) (fun j hj hn=>Xb.o.ne hj hn U.o.o);have WM:jm _ gf:=Blk.mod Xe.o Xj (by exact fun e=>Xe.o.fQ U.o.o aj e);have WU:=aJ (EI.mk WM ⟨_,XY⟩ ⟨_,W9⟩);have WW:=aJ ((WH.o.trans (Za.o.mono (T:=T) (fun g hg=>by subst hg;exact HT.o.1))).trans (Xj.mono (T:=T) (fun g hg=>by subst hg;exact HT.o.2.1)));clear W9 Xj Xf XY WM Xb U Xe Za HA HB HC WH Xo k1 V f1;generalize Xt:World.setCell _ _ _=w5 at WU WW⊢;clear Xt;have Xr:Hid (EI w5 gf Ga Gb m na nb PA PB (fun i=>s.X (swp k s.r i))):=aJ WU.o;clear WU;go_wp2_with fail
       go_loopw [10] (fun i w2=>∃C:Nat,s.r+1<=C/\C<=m/\i=.int .i64 C/\EI w2 gf Ga Gb m na nb PA PB (oh (fun i=>s.X (swp k s.r i)) s.r c C)/\Mod T w w2) (fun i _=>m-(intOf i).toNat)
       case atStart=>
        refine⟨s.r+1,κ _,aa,au,?_,?_⟩
        .rw[Al];first|exact Xr.o|exact Xr.o.ext (Ext.refl _).drew|exact Xr.o.ext (Ext.refl _).drew.drew
        .first|exact WW.o|exact WW.o.trans (aeW (Ext.refl _).drew)|exact WW.o.trans (aeW (Ext.refl _).drew.drew)
       case round=>
        obtain⟨C,WI,Xu,rfl,D,hM⟩:=hrel;have L:=aJ D;have Xd:=aJ hM;clear D hM;by_cases W:C<m
        .have q1:decide ((C:Int)<(m:Int))=ε:=ae;(go_wp2_with fail);refine(Hw gf Ga Gb m cA cB na nb s.r C c N PA PB T (oh (fun i=>s.X (swp k s.r i)) s.r c C) _ L.o HD.o HT.o W aa WE hm XG WY ?_ ?_ ?_ ?_ ?_ hN).mono ?_
         .unfold oh;rw[θ aa];simp only[nU];exact Xk.o
         .exact Adp
         .exact AcP
         .exact Adb
         .exact Aba
         rintro e w7 ⟨rfl,WS,Xc⟩;have B:=aJ WS;have Xn:=Xd.aC Xc;clear WS Xc L Xd;go_wp2_with fail
         exact Acd
        .obtain rfl:C=m:=aa;have q1:decide ((C:Int)<(C:Int))=ζ:=ag;have e0:=L.o.calm.cell;(go_wp2_with fail);refine⟨⟨c+1,aa,au,by rw[WP.o];go_num,by rw[WP.o];simp[Xm],?_,Xd.o⟩,by simp[intOf];omega⟩;rw[WP.o];refine L.o.congr fun i j hi=> ?_;show oh (fun i=>s.X (swp k s.r i)) s.r c C i j=clr (fun i=>s.X (swp k s.r i)) s.r c i j;unfold oh clr;by_cases h:s.r<i
         .rw[ι ⟨h,hi⟩,ι h]
         .rw[θ (fun e=>h e.1),θ h]
  .obtain rfl:c=na:=aa;have hd:decide ((c:Int)<(c:Int))=ζ:=ag;(go_wp2_with fail);rw[Exit.noGoto_ret];exact sQ rfl rfl ⟨rfl,HE.o,HM.o⟩
def Ag:Rw:=⟨δ,0,0,0,0⟩
def zEn:En:=⟨ζ,δ,0,0,ζ,δ,0,0,ζ,δ,0,0⟩
def Qr:(prog.info? 174).map (fun i=>(i.zero,i.size,i.bytes))=γ (γ (.slice δ 0 0),1,24):=ah
def Jq:(prog.info? 42).map (fun i=>(i.zero,i.size,i.bytes))=γ (γ zEn.v,6,96):=ah
theorem Fs(m):madeCells #[Value.slice δ 0 0] m=(mxc m fun _=>Ag).toArray:=by
 rw[uK];congr 1;unfold mxc;rw[List.map_const',List.length_range];rfl
theorem CB(n):madeCells zEn.v.cells (n*6)=(aO n fun _=>zEn).toArray:=by
 unfold madeCells;apply Array.ext
 .simp[aX]
 .intro i D G;have hi:i<n*6:=by simpa using D
  have e:i=(i/6)*6+i%6:=aa;have h:=dN (f:=fun _=>zEn) (j:=i/6) (t:=i%6) (n:=n) (q8 _ aa) aa;rw[<-e] at h;have F:(aO n fun _=>zEn)[i]? =γ ((aO n fun _=>zEn).toArray[i]):=ag;rw[F] at h;have hs:zEn.v.cells.size=6:=rfl;have l:∀k,k<6->γ (zEn.v.cells[k]!)=zEn.cells[k]? :=fun k B=>match k,B with
   |0,_=>rfl
   |1,_=>rfl
   |2,_=>rfl
   |3,_=>rfl
   |4,_=>rfl
   |5,_=>rfl
  simp only[Array.getElem_map,Array.getElem_range];rw[hs];have C:=l (i%6) (q8 _ aa);rw[<-C] at h;injection h with h;exact h.symm
def EL(m:Nat)(D:m<=1000)(W:World):(Instr.makeSlice 223 (.int .i64 m) (.int .i64 m)).run prog W=.ok (.slice (γ ⟨W.heap.size,0,δ⟩) m m) (W.alloc (.cells (mxc m fun _=>Ag).toArray 174)):=by
 obtain⟨i0,C,l,B,j⟩:=abP Qr;have h:=ac7 (P:=prog) W 223 174 i0 (.slice δ 0 0) underlying223 C l .i64 .i64 m m aa aa Abs aa;rw[h,B];have e:madeCells (Value.slice δ 0 0).cells m=(mxc m fun _=>Ag).toArray:=Fs m;simp only[aav,aah,e]
def AJ(n:Nat)(hn:n<=1000)(W:World):(Instr.makeSlice 174 (.int .i64 n) (.int .i64 n)).run prog W=.ok (.slice (γ ⟨W.heap.size,0,δ⟩) n n) (W.alloc (.cells (aO n fun _=>zEn).toArray 42)):=by
 obtain⟨i0,C,l,B,j⟩:=abP Jq;have h:=ac7 (P:=prog) W 174 42 i0 zEn.v acL C l .i64 .i64 n n aa aa Abs aa;rw[h,B];simp only[aah,CB]
def IP(k){P}(w K L F l g o B H a C J cur t cs)(O:P.underlying K=γ (.slice l))(hs:(P.info? l).map (·.size)=γ k)(M:w.heap[g]? =γ (.cells cur t (0,0)))(hn:cs.length=Nat.min C B*k)(D:∀j v,cs[j]? =γ v->w.cell? (a.add j)=γ v)(I:o+cs.length<=cur.size)(N:∀v∈cs,v.oneCell'=ε):
  (Builtin.copy_ #[K,L] F #[.slice (γ ⟨g,o,δ⟩) B H,.slice (γ a) C J]).run P w=
   .ok (goInt (Nat.min C B)) (w.setRow g (cur.toList.take o++cs++cur.toList.drop (o+cs.length)).toArray):=by
 have Z:=run_loadCells_list (P:=P) w a cs D;have G:=run_storeCells_at P g o t cs 0 cur w M (by simpa using I) N;cases hq:P.info? l with
 |none=>simp[hq] at hs
 |some i=>
  have hi:i.size=k:=by simpa[hq] using hs
  simp[Builtin.copy_,abl O,Builtin.lenOf,Builtin.firstCells,sizeOf,typeInfo,hq,hi,<-hn,Z,G]
def DU:(prog.info? 42).map (·.size)=γ 6:=ah
theorem dH(n f):∀v∈aO n f,v.oneCell'=ε:=by
 intro v hv;unfold aO at hv;obtain⟨j,_,hv⟩:=ac9.1 hv;unfold En.cells at hv;simp only[pq,Z5,aa2] at hv;rcases hv with rfl|rfl|rfl|rfl|rfl|rfl<;>rfl
def M4{f j n t u e}(H:j<n)(G:t<6)(hc:e.cells=(f j).cells.set t u):(aO n f).toArray.setIfInBounds (j*6+t) u=(aO n (upd f j e)).toArray:=by
 rw[nk];congr 1;apply aar;intro i;rw[List.getElem?_set];by_cases hi:i<n*6
 .have C:i=(i/6)*6+i%6:=aa;have B:i%6<6:=q8 _ aa;by_cases D:i/6=j
  .have F:(aO n (upd f j e))[i]? =e.cells[i%6]? :=by
    conv=>lhs;rw[C]
    rw[dN B aa,D,upd_same]
   rw[F,hc,List.getElem?_set];by_cases l:i%6=t
   .rw[ι aa,ι l.symm,aX,ι aa,ι (by show t<6;exact G)]
   .rw[θ aa,θ (fun e=>l e.symm)]
    conv=>lhs;rw[C]
    rw[dN B aa,D]
  .rw[θ aa]
   conv=>lhs;rw[C]
   conv=>rhs;rw[C]
   rw[dN B aa,dN B aa,upd_ne D]
 .rw[θ aa,wo Ab7,wo Ab7]
def afy{w:World}{g n j t:Nat}{f:Nat->En}{x:Nat->GQ}{e:En}{u:Value}(hb:Blk w g 42 (aO n f).toArray)(J:∀j,j<n->GV w (f j).v (x j) 12800)(D:j<n)(B:t<6)(hc:e.cells=(f j).cells.set t u)(O:GV w e.v (x j) 12800):
  (Blk (w.setCell ⟨g,j*6+t,δ⟩ u) g 42 (aO n (upd f j e)).toArray/\∀i,i<n->GV (w.setCell ⟨g,j*6+t,δ⟩ u) (upd f j e i).v (x i) 12800)/\Mod (fun k=>k=g) w (w.setCell ⟨g,j*6+t,δ⟩ u):=by
 have l:Mod (fun k=>k=g) w (w.setCell ⟨g,j*6+t,δ⟩ u):=Mod.only (Only.set _ _ _ _) rfl;have hS:Far (fun k=>k=g) w:=fun k C _=>by subst C;exact⟨_,_,hb,dm _ _⟩
 refine⟨⟨?_,fun i hi=> ?_⟩,l⟩
 .rw[<-M4 D B hc];exact hb.nL _ _
 .by_cases h:i=j
  .subst h;rw[upd_same];exact O.mod l hS
  .rw[upd_ne h];exact(J i hi).mod l hS
def zR(A n c s z w)(h:RI w (iv s A n c) z)(hn:n<=1000000):
  Calls prog 198 #[.slice A n c] w fun e w'=>∃A' n' c',e=.returned (.slice A' n' c')/\RI w' (iv s A' n' c') z/\Ext w w':=by
 obtain⟨A2,n2,c2,e,B⟩:=h;simp at e;obtain⟨rfl,rfl,rfl,rfl⟩:=e;refine(uh A n c _ w B hn).mono ?_;rintro e w' ⟨v,rfl,⟨A1,n1,c1,rfl,j⟩,l⟩;exact⟨A1,n1,c1,rfl,⟨A1,n1,c1,rfl,j⟩,l⟩
structure DI (w W:World) (G m na i:Nat) (X:Nat->Nat->GQ) (R:Nat->Rw):Prop where
 o:Blk W G 174 (mxc m R).toArray
 gx:w.heap.size<=G
 len:∀i',i'<i->(R i').n=na/\(R i').c=na
 row:∀i',i'<i->(R i').A=γ ⟨(R i').b,0,δ⟩/\dz W (R i').b na (X i')/\w.heap.size<=(R i').b
 inj:∀i' j',i'<i->j'<i->(R i').b=(R j').b->i'=j'
 ext:Ext w W
def EZ{m R i r}:(mxc m R).toArray.setIfInBounds i r.v=(mxc m (upd R i r)).toArray:=by
 rw[nk];congr 1;apply List.ext_getElem
 .simp[mxc]
 .intro k l j;simp only[mxc,List.getElem_set,List.getElem_map,List.getElem_range];by_cases e:i=k
  .subst e;rw[ι rfl,upd_same]
  .rw[θ e,upd_ne (fun x=>e x.symm)]
def RI3{w}{e:En}{q n}(h:GV w e.v q n):∃a b d,RI w (iv e.s1 e.A1 e.n1 e.c1) a/\RI w (iv e.s2 e.A2 e.n2 e.c2) b/\RI w (iv e.s3 e.A3 e.n3 e.c3) d/\Is q a b d/\Sz n a b d:=by
 obtain⟨a,b,d,j,I,Z⟩:=h;have:=RG.inj (show RG w (gv e.s1 e.A1 e.n1 e.c1 e.s2 e.A2 e.n2 e.c2 e.s3 e.A3 e.n3 e.c3) a b d from j);exact⟨a,b,d,this.1,this.2.1,this.2.2,I,Z⟩
def afj{w s A n c z}(h:RI w (iv s A n c) z)(l:z.natAbs<2^12800):n<=1000000:=by
 have j:z.natAbs<2^(32*400):=by rw[show 32*400=12800 from rfl];exact l
 have:=RI.le h j;omega
theorem PL{W2 g na b o cs C f0 f}(hb:Blk W2 g 42 (aO na f0).toArray)(D:0<na->C=γ ⟨b,o,δ⟩)(hc:∀j,j<na->∀t u,(f j).cells[t]? =γ u->W2.cell? ⟨b,o+(j*6+t),δ⟩=γ u):
  ∃B,Sem.run prog (Builtin.copy_ #[174,174] 3 #[.slice (γ ⟨g,0,δ⟩) na na,.slice C na cs]) W2=.ok (goInt na) B/\Blk B g 42 (aO na f).toArray/\Mod (fun k=>k=g) W2 B:=by
 have l:Nat.min na na=na:=ag;by_cases H:na=0
 .subst H;refine⟨W2,?_,hb,Mod.refl _ _⟩;have Z:∀(x:Addr),(loadCells x 0).run prog W2=.ok #[] W2:=fun x=>by simpa using run_loadCells_list (P:=prog) W2 x [] ag
  cases hq:prog.info? 42 with
  |none=>have:=DU;rw[hq] at this;cases this
  |some i=>cases C<;>simp[Builtin.copy_,abl acL,Builtin.lenOf,Builtin.firstCells,sizeOf,typeInfo,hq,storeCells,Z]
 .have I:=D aa;subst I;have h:=IP 6 W2 174 174 3 42 g 0 na na ⟨b,o,δ⟩ na cs (aO na f0).toArray 42 (aO na f) acL DU hb (by rw[aX,l]) (fun j v G=>by
   have K:j<na*6:=by have:=(ν.1 G).1;rwa[aX] at this
   have e:j=(j/6)*6+j%6:=aa;rw[e,dN (q8 _ aa) aa] at G;have:=hc _ aa _ _ G;rw[<-e] at this;have J:(⟨b,o,δ⟩:Addr).add j=⟨b,o+j,δ⟩:=by unfold Addr.add;by_cases F:j=0<;>simp[F]
   rw[J];exact this) (by rw[aX];simp[aX]) (dH na f)
  rw[l] at h;refine⟨_,h,?_,?_⟩
  .have e:((aO na f0).toArray.toList.take 0++aO na f++(aO na f0).toArray.toList.drop (0+(aO na f).length)).toArray=(aO na f).toArray:=by
    simp[aX]
   rw[e];exact aeD _ g _ _ _ _ hb
  .exact Mod.only (Only.setRow _ _ _) rfl
def MI{w l:World}{g na j:Nat}{f:Nat->En}{x:Nat->GQ}{A':Option Addr}{n' c':Nat}{z:Int}(hb:Blk w g 42 (aO na f).toArray)(hv:∀j,j<na->GV w (f j).v (x j) 12800)(C:j<na)(J:RI w (iv (f j).s1 (f j).A1 (f j).n1 (f j).c1) z)(B:Ext w l)(G:RI l (iv (f j).s1 A' n' c') z)(F:∃a b d,RI w (iv (f j).s1 (f j).A1 (f j).n1 (f j).c1) a/\RI w (iv (f j).s2 (f j).A2 (f j).n2 (f j).c2) b/\RI w (iv (f j).s3 (f j).A3 (f j).n3 (f j).c3) d/\Is (x j) a b d/\Sz 12800 a b d/\z=a):
  ∃f',Blk (l.setCell ⟨g,j*6+1,δ⟩ (.slice A' n' c')) g 42 (aO na f').toArray/\(∀H,H<na->GV (l.setCell ⟨g,j*6+1,δ⟩ (.slice A' n' c')) (f' H).v (x H) 12800)/\Mod (fun k=>k=g) w (l.setCell ⟨g,j*6+1,δ⟩ (.slice A' n' c')):=by
 obtain⟨a,b,d,i1,Q,D,I,Z,rfl⟩:=F;have hp:=afy (e:={f j with A1:=A',n1:=n',c1:=c'}) (t:=1) (u:=.slice A' n' c') (hb.ext B) (fun j C=>(hv j C).ext B) C aa rfl ⟨_,_,_,⟨_,_,_,_,_,_,_,_,_,_,_,_,rfl,G,Q.ext B,D.ext B⟩,I,Z⟩;exact Abr
def Nu{w l:World}{g na j:Nat}{f:Nat->En}{x:Nat->GQ}{A':Option Addr}{n' c':Nat}{z:Int}(hb:Blk w g 42 (aO na f).toArray)(hv:∀j,j<na->GV w (f j).v (x j) 12800)(C:j<na)(J:RI w (iv (f j).s2 (f j).A2 (f j).n2 (f j).c2) z)(B:Ext w l)(G:RI l (iv (f j).s2 A' n' c') z)(F:∃a b d,RI w (iv (f j).s1 (f j).A1 (f j).n1 (f j).c1) a/\RI w (iv (f j).s2 (f j).A2 (f j).n2 (f j).c2) b/\RI w (iv (f j).s3 (f j).A3 (f j).n3 (f j).c3) d/\Is (x j) a b d/\Sz 12800 a b d/\z=b):
  ∃f',Blk (l.setCell ⟨g,j*6+3,δ⟩ (.slice A' n' c')) g 42 (aO na f').toArray/\(∀H,H<na->GV (l.setCell ⟨g,j*6+3,δ⟩ (.slice A' n' c')) (f' H).v (x H) 12800)/\Mod (fun k=>k=g) w (l.setCell ⟨g,j*6+3,δ⟩ (.slice A' n' c')):=by
 obtain⟨a,b,d,i1,Q,D,I,Z,rfl⟩:=F;have hp:=afy (e:={f j with A2:=A',n2:=n',c2:=c'}) (t:=3) (u:=.slice A' n' c') (hb.ext B) (fun j C=>(hv j C).ext B) C aa rfl ⟨_,_,_,⟨_,_,_,_,_,_,_,_,_,_,_,_,rfl,i1.ext B,G,D.ext B⟩,I,Z⟩;exact Abr
def Nv{w l:World}{g na j:Nat}{f:Nat->En}{x:Nat->GQ}{A':Option Addr}{n' c':Nat}{z:Int}(hb:Blk w g 42 (aO na f).toArray)(hv:∀j,j<na->GV w (f j).v (x j) 12800)(C:j<na)(G:RI w (iv (f j).s3 (f j).A3 (f j).n3 (f j).c3) z)(B:Ext w l)(D:RI l (iv (f j).s3 A' n' c') z)(F:∃a b d,RI w (iv (f j).s1 (f j).A1 (f j).n1 (f j).c1) a/\RI w (iv (f j).s2 (f j).A2 (f j).n2 (f j).c2) b/\RI w (iv (f j).s3 (f j).A3 (f j).n3 (f j).c3) d/\Is (x j) a b d/\Sz 12800 a b d/\z=d):
  ∃f',Blk (l.setCell ⟨g,j*6+5,δ⟩ (.slice A' n' c')) g 42 (aO na f').toArray/\(∀H,H<na->GV (l.setCell ⟨g,j*6+5,δ⟩ (.slice A' n' c')) (f' H).v (x H) 12800)/\Mod (fun k=>k=g) w (l.setCell ⟨g,j*6+5,δ⟩ (.slice A' n' c')):=by
 obtain⟨a,b,d,i1,Q,J,I,Z,rfl⟩:=F;have hp:=afy (e:={f j with A3:=A',n3:=n',c3:=c'}) (t:=5) (u:=.slice A' n' c') (hb.ext B) (fun j C=>(hv j C).ext B) C aa rfl ⟨_,_,_,⟨_,_,_,_,_,_,_,_,_,_,_,_,rfl,i1.ext B,Q.ext B,D⟩,I,Z⟩;exact Abr
def TJ{A B O m c na R}{E:Nat->Nat->En}{X w}(h:Mem w A B O m R E)(hn:∀i,i<m->(R i).n=na)(hv:∀i j,i<m->j<na->GV w (E i j).v (X i j) 12800)(hm:m<=24)(XG:na<=24):
  Calls prog 191 #[.slice A m c] w fun e w'=>∃(G:Nat) (l:Nat->Rw),e=.returned (.slice (γ ⟨G,0,δ⟩) m m)/\DI w w' G m na m X l:=by
 have HM:=aJ h;have HN:=aJ hn;have HV:=aJ hv;clear h hn hv;have WQ:=EL m aa;have X8:=AJ na aa;go_enter func191,ntmps191;(go_wp2_with fail);clear WQ;go_loopw [13] (fun i wr=>∃(C:Nat) (l:Nat->Rw),C<=m/\i=.int .i64 C/\DI w wr w.heap.size m na C X l) (fun i _=>m-(intOf i).toNat)
 case atStart=>exact⟨0,fun _=>Ag,aa,rfl,Blk.new _ _ _,κ _,by intros;omega,by intros;omega,by intros;omega,Ext.new _ _⟩
 case round=>
  obtain⟨i,l,hi,rfl,hD⟩:=hrel;have HD:=aJ hD;clear hD;by_cases WE:i<m
  .have hd:decide ((i:Int)<(m:Int))=ε:=ae;have hA:=HM.o.at0 aa;have hr:=HM.o.aO WE HD.o.ext;rw[HN.o i WE] at hr;subst hA;have XA:=Ext.new wr (.cells (aO na fun _=>zEn).toArray 42);have WU:=HD.o.o.ext XA;have fr:=WU.frozen;have k1:(wr.alloc (.cells (aO na fun _=>zEn).toArray 42)).cell? ⟨w.heap.size,i,δ⟩=γ (l i).v:=by rw[WU.cell];exact iM WE
   have Xm:Blk ((wr.alloc (.cells (aO na fun _=>zEn).toArray 42)).setCell ⟨w.heap.size,i,δ⟩ (.slice (γ ⟨wr.heap.size,0,δ⟩) na na)) w.heap.size 174 (mxc m (upd l i ⟨γ ⟨wr.heap.size,0,δ⟩,wr.heap.size,0,na,na⟩)).toArray:=by
    rw[<-EZ];exact WU.nL _ _
   have V:((wr.alloc (.cells (aO na fun _=>zEn).toArray 42)).setCell ⟨w.heap.size,i,δ⟩ (.slice (γ ⟨wr.heap.size,0,δ⟩) na na)).cell? ⟨w.heap.size,i,δ⟩=γ (.slice (γ ⟨wr.heap.size,0,δ⟩) na na):=by rw[Xm.cell,iM WE,upd_same];rfl
   have Xa:=aJ WU;have WK:=aJ Xm;have J:=aJ XA;clear WU Xm XA;have Xj:w.heap.size<wr.heap.size:=HD.o.o.lt;have WR:Blk ((wr.alloc (.cells (aO na fun _=>zEn).toArray 42)).setCell ⟨w.heap.size,i,δ⟩ (.slice (γ ⟨wr.heap.size,0,δ⟩) na na)) wr.heap.size 42 (aO na fun _=>zEn).toArray:=(Blk.new _ _ _).far (by show wr.heap.size≠w.heap.size;omega) _;have Xe:Ext w ((wr.alloc (.cells (aO na fun _=>zEn).toArray 42)).setCell ⟨w.heap.size,i,δ⟩ (.slice (γ ⟨wr.heap.size,0,δ⟩) na na)):=(HD.o.ext.trans J.o).setCell (κ _) _;obtain⟨w3,Xp,W9,Xu⟩:=PL (cs:=(R i).c) WR (fun h0=>HM.o.ra i WE (by rw[HN.o i WE];exact h0)) (fun j hj t u hu=>Xe.cell_ (HM.o.el i j WE (by rw[HN.o i WE];exact hj) t u hu));have WV:Ext w w3:=⟨Xu.os.trans Xe.os,Xu.tape.trans Xe.tape,Xu.output.trans Xe.output,lh Xe.size Xu.size,fun k hk=>(Xu.block k (π hk Xe.size) aa).trans (Xe.block k hk)⟩;have WL:=WK.o.mod Xu (by show ¬w.heap.size=wr.heap.size;omega);have k3:w3.cell? ⟨w.heap.size,i,δ⟩=γ (.slice (γ ⟨wr.heap.size,0,δ⟩) na na):=by rw[WL.cell,iM WE,upd_same];rfl
   have Xf:=aJ WL;have WM:=aJ W9;have WJ:=aJ WV;have WH:=aJ Xu;have Xn:=aJ Xj;clear WL W9 WV Xu WR Xe Xj;(go_wp2_with fail);clear Xp k1 V fr hr;have WI:Mod (fun k=>k=w.heap.size\/k=wr.heap.size) wr w3:=((aeW J.o).trans (Mod.only (Only.set _ _ _ _) (.inl rfl))).trans (WH.o.mono fun k hk=> .inr hk);have WW:=aJ WI;clear WI WH Xa WK J;generalize Xr:wr.heap.size=g at*
   have WS:=aJ Xr;clear Xr;go_loopw [35] (fun Q wz=>∃(j:Nat) (f:Nat->En),j<=na/\Q=.int .i64 j/\Blk wz g 42 (aO na f).toArray/\(∀H,H<na->GV wz (f H).v (X i H) 12800)/\Mod (fun k=>k=g) w3 wz) (fun Q _=>na-(intOf Q).toNat)
   case atStart=>exact⟨0,E i,aa,rfl,WM.o,fun j hj=>(HV.o i j WE hj).ext WJ.o,Mod.refl _ _⟩
   case round=>
    clear k3;rename World=>wz;obtain⟨j,f,hj,rfl,hb,Xd,Xw⟩:=hrel;have Xc:=aJ hb;have WZ:=aJ Xd;have WT:=aJ Xw;clear hb Xd Xw;have WP:w.heap.size≠g:=by have:=Xn.o;omega
    have T:=Xf.o.mod WT.o WP;have XC:=aJ T;by_cases S:j<na
    .have hd:decide ((j:Int)<(na:Int))=ε:=ae;have k3:wz.cell? ⟨w.heap.size,i,δ⟩=γ (.slice (γ ⟨g,0,δ⟩) na na):=by rw[T.cell,iM WE,upd_same];rfl
     clear T;have Xk:=WZ;obtain⟨_,a1,_,_,_,_⟩:=dz.cells Xc.o S rfl;obtain⟨za,zb,U,i1,Q,i3,I,Z⟩:=RI3 (Xk.o j S);have HI:=aJ i1;have H3:=aJ (show ∃a b d,RI _ (iv (f j).s1 (f j).A1 (f j).n1 (f j).c1) a/\RI _ (iv (f j).s2 (f j).A2 (f j).n2 (f j).c2) b/\RI _ (iv (f j).s3 (f j).A3 (f j).n3 (f j).c3) d/\Is (X i j) a b d/\Sz 12800 a b d/\za=a from ⟨za,zb,U,i1,Q,i3,I,Z,rfl⟩);have K:=afj i1 Z.a;clear i1 Q i3 I Z;(go_wp2_with fail);refine(zR _ _ _ _ _ _ HI.o K).mono ?_;rintro e w4 ⟨A',n',c',rfl,WF,N⟩;replace a1:=N.cell_ a1;have fr:=(Xc.o.ext N).frozen;obtain⟨P,XI,XJ,Yt⟩:=MI Xc.o Xk.o S HI.o N WF H3.o;have WG:=aJ XI;have XF:=aJ XJ;have Xh:=aJ Yt;clear XI XJ Yt WF N HI H3 K;(iterate 15 (try (first|go_values|go_skip|go_guarded|go_step|go_upon|go_in|go_back|go_simp)));clear a1 fr;generalize w4.setCell _ _=wa at WG XF Xh⊢;obtain⟨_,_,_,a1,_,_⟩:=dz.cells WG.o S rfl;obtain⟨za,zb,U,i1,Q,i3,I,Z⟩:=RI3 (XF.o j S);have HI:=aJ Q;have H3:=aJ (show ∃a b d,RI _ (iv (P j).s1 (P j).A1 (P j).n1 (P j).c1) a/\RI _ (iv (P j).s2 (P j).A2 (P j).n2 (P j).c2) b/\RI _ (iv (P j).s3 (P j).A3 (P j).n3 (P j).c3) d/\Is (X i j) a b d/\Sz 12800 a b d/\zb=b from ⟨za,zb,U,i1,Q,i3,I,Z,rfl⟩);have K:=afj Q Z.b;clear i1 Q i3 I Z;(go_wp2_with fail);refine(zR _ _ _ _ _ _ HI.o K).mono ?_;rintro e w4 ⟨A',n',c',rfl,WF,N⟩;replace a1:=N.cell_ a1;have fr:=(WG.o.ext N).frozen;obtain⟨fb,D,Xg,Xi⟩:=Nu WG.o XF.o S HI.o N WF H3.o;have W:=aJ D;have XK:=aJ Xg;have WO:=aJ Xi;clear D Xg Xi WF N HI H3 K;(iterate 15 (try (first|go_values|go_skip|go_guarded|go_step|go_upon|go_in|go_back|go_simp)));clear a1 fr;generalize w4.setCell _ _=wb at W XK WO⊢;obtain⟨_,_,_,_,_,a1⟩:=dz.cells W.o S rfl;obtain⟨za,zb,U,i1,Q,i3,I,Z⟩:=RI3 (XK.o j S);have HI:=aJ i3;have H3:=aJ (show ∃a b d,RI _ (iv (fb j).s1 (fb j).A1 (fb j).n1 (fb j).c1) a/\RI _ (iv (fb j).s2 (fb j).A2 (fb j).n2 (fb j).c2) b/\RI _ (iv (fb j).s3 (fb j).A3 (fb j).n3 (fb j).c3) d/\Is (X i j) a b d/\Sz 12800 a b d/\U=d from ⟨za,zb,U,i1,Q,i3,I,Z,rfl⟩);have K:=afj i3 Z.d;clear i1 Q i3 I Z;(go_wp2_with fail);refine(zR _ _ _ _ _ _ HI.o K).mono ?_;rintro e w4 ⟨A',n',c',rfl,WF,N⟩;replace a1:=N.cell_ a1;have fr:=(W.o.ext N).frozen;obtain⟨fc,Xz,Xb,Y⟩:=Nv W.o XK.o S HI.o N WF H3.o;have WY:=aJ Xz;have Xo:=aJ Xb;have Xl:=aJ Y;clear Xz Xb Y WF N HI H3 K;(go_wp2_with fail);clear a1 fr;generalize w4.setCell _ _=wc at WY Xo Xl⊢;go_wp2_with fail
     go_roundw
     case rel=>exact⟨j+1,fc,aa,au,WY.o,Xo.o,((WT.o.trans Xh.o).trans WO.o).trans Xl.o⟩
     case measure=>simp[intOf];omega
    .obtain rfl:j=na:=aa;have hd:decide ((j:Int)<(j:Int))=ζ:=ag;clear T;(go_wp2_with fail);refine⟨⟨i+1,upd l i ⟨γ ⟨g,0,δ⟩,g,0,j,j⟩,aa,au,?_⟩,by simp[intOf];omega⟩;have Xq:Mod (fun k=>k=w.heap.size\/k=g) wr wz:=WW.o.trans (WT.o.mono fun k hk=> .inr hk);have hS:Far (fun k=>k=w.heap.size\/k=g) wr:=by
      rintro k (rfl|rfl) hk
      .exact⟨_,_,HD.o.o,j3 _ _⟩
      .have:=WS.o;omega
     have F:∀C,C<i->(l C).b<g:=fun C M=>by
      obtain⟨cs,WX⟩:=(HD.o.row C M).2.1.blk;have:=WX.lt;have:=WS.o;omega
     refine⟨XC.o,κ _,fun C M=> ?_,fun C M=> ?_,fun C H M WN e=> ?_,?_⟩
     .exact AcN
     .by_cases e:C=i
      .exact Acl
      .rw[upd_ne e];obtain⟨h1,h2,h3⟩:=HD.o.row C aa;refine⟨h1,h2.mod Xq hS ?_,h3⟩;rintro(e2|e2)
       .obtain⟨cs,WX⟩:=h2.blk;exact WX.fQ HD.o.o aj e2
       .have:=F C aa;omega
     .by_cases e1:C=i
      .by_cases e2:H=i
       .omega
       .rw[e1,upd_same,upd_ne e2] at e;have:=F H aa;have e':g=(l H).b:=e;omega
      .by_cases e2:H=i
       .rw[e2,upd_same,upd_ne e1] at e;have:=F C aa;have e':(l C).b=g:=e;omega
       .rw[upd_ne e1,upd_ne e2] at e;exact HD.o.inj C H aa aa e
     .have L:=WJ.o;have hM:=WT.o;exact⟨hM.os.trans L.os,hM.tape.trans L.tape,hM.output.trans L.output,lh L.size hM.size,fun k hk=>(hM.block k (π hk L.size) (by have:=Xn.o;omega)).trans (L.block k hk)⟩
  .obtain rfl:i=m:=aa;have hd:decide ((i:Int)<(i:Int))=ζ:=ag;(go_wp2_with fail);go_ret;exact⟨_,_,rfl,HD.o⟩
def DI.mx{w W W' G m na X R}(h:DI w W G m na m X R)(x:Ext W W'):MxI W' G m na (fun g=>∃i,i<m/\g=(R i).b) R X:=
 ⟨h.o.ext x,h.len,fun i hi _=>⟨(h.row i hi).1,(h.row i hi).2.1.ext x⟩,fun i j hi l _ e=>h.inj i j hi l e,fun i hi _=>⟨i,hi,rfl⟩⟩
def MQ{W G m n P R X}(h:MxI W G m n P R X)(l:m=0->n=0)(c)(C:m<=1000):CE 190 #[.slice (γ ⟨G,0,δ⟩) m c] W (.int .i64 n):=by
 by_cases j:m=0
 .have B:((m:Int)==0)=ε:=by simp[j]
  rw[l j];clear h l j;exact AaK
 .have B:((m:Int)==0)=ζ:=by simp[j]
  have D:=h.cell (i:=0) aa;have q1:(0:Int)<(m:Int):=aa;clear h l;exact AaK
def Mod.Uy{B0 w W}(h:Mod (fun g=>B0<=g) w W){w0}(x:Ext w0 w)(hb:w0.heap.size<=B0):Ext w0 W:=
 ⟨h.os.trans x.os,h.tape.trans x.tape,h.output.trans x.output,lh x.size h.size,fun k j=>(h.block k (π j x.size) aa).trans (x.block k j)⟩
def Oq(W:World):jm (W.alloc (.cells #[.int .i64 0] 250)) W.heap.size:=Blk.new _ _ _
def qO (X:Nat->Nat->GQ):Nat->GQ
 |0=>GQ.i 1 0
 |k+1=>qO X k*X k k
def GI{A B D a b d}(j:D≠0)(E:(a,b,d)=nf A B D):Low a b d:=by
 have h:=QT (a:=A) (b:=B) j;rw[<-E] at h;exact h.low
def FY(T v1 v2 a b d a' b' d' u v t m n w)(hc:Calm w T)(L:RG w v1 a b d)(l:RG w v2 a' b' d')(sx:Sz m a b d)(sy:Sz n a' b' d')(hn:m+n+1<=12800)(Xe:n+n+1<=12800)(K)(I:K<=12800)(V:m+n+1<=K)(WQ:n+n+1<=K)(sz:Sz K u v t)(hd:d≠0)(hd':d'≠0)(R:a'≠0\/b'≠0)(E:(u,v,t)=nf ((a*a'+b*b')*d') ((b*a'-a*b')*d') (d*(a'*a'+b'*b'))):
  CV 173 #[.pointer (γ ⟨T,0,δ⟩),v1,v2] w fun x w'=>RG w' x u v t:=by
 obtain⟨g,a1,b1,p,q,hg,N,M,eb,C,B⟩:=zF (a:=a) (b:=b) R;have F:p≠0\/q≠0:=by
  exact Ace
 obtain⟨h,c1,o,hh,j,ec,eo⟩:=rX (a:=d) (b:=d') hd';obtain⟨i,p1,q1,hi,WG,Z,eq⟩:=yt F;have WJ:p1≠0\/q1≠0:=by
  exact Abc
 have bg:g.natAbs<2^n:=by
  rcases R with h|h
  .exact qp h C sy.a
  .exact qp h B sy.b
 have J:=fJ N M sx.a;have U:=fJ N eb sx.b;have bp:=fJ N C sy.a;have bq:=fJ N B sy.b;have Q:i.natAbs<2^n:=by
  rcases F with h|h
  .exact qp h Z bp
  .exact qp h eq bq
 have WF:=fJ WG Z bp;have WE:=fJ WG eq bq;have bh:=qp hd ec sx.d;have WH:=fJ j ec sx.d;have bo:=fJ j eo sy.d;have m1:=bI J WF;have m2:=bI U WE;have m3:=bI U WF;have m4:=bI J WE;have m5:=bI WF WF;have m6:=bI WE WE;have m7:=jg m1 m2;have m8:=sK m3 m4;have m9:=jg m5 m6;have WI:=bI Q WH;have hN:=pV WJ;have Y:i*c1≠0:=qa WG (by intro e;rw[e] at ec;simp at ec;exact hd ec);obtain⟨P,fb,S,Ef⟩:=Ir (a1*p1+b1*q1) (b1*p1-a1*q1) (p1*p1+q1*q1);obtain⟨sa,sb,D,Es⟩:=Ir o 0 (i*c1);obtain⟨G,WP,e1,e2,e3,Yu⟩:=Ed hN Ef;obtain⟨H,WN,e4,e6,e5,YP⟩:=Ed Y Es;have XU:sb=0:=by
  exact AcU
 subst XU;have sf:=jr (n:=K) hN Ef (iX m7 aa) (iX m8 aa) (iX m9 aa);have ss:=jr (n:=K) Y Es (iX bo aa) (show(0:Int).natAbs<2^K from NK aa) (iX WI aa);have WK:d*(a'*a'+b'*b')≠0:=qa hd (pV R);have WL:S*D≠0:=qa aa aa;obtain⟨WO,WM⟩:=Bc M eb C B Z eq eo ec e1 e2 e3 e4 e5;have E':(u,v,t)=nf (P*sa) (fb*sa) (S*D):=by
  rw[E];refine oG WK WL ?_ ?_
  .rw[WO]
  .rw[WM]
 obtain⟨x1,x2,O⟩:=sx.qA aa;obtain⟨y1,y2,y3⟩:=sy.qA aa;obtain⟨f1,f2,f3⟩:=sf.qA aa;obtain⟨t1,t2,t3⟩:=ss.qA aa;obtain⟨s1,s2,s3⟩:=sz.qA aa;exact equotient_g T v1 a b d v2 a' b' d' w hc L x1 x2 O l y1 y2 y3 g (aJ hg) (bE bg aa) h (aJ hh) (bE bh aa)
  a1 (aJ (fD N M)) (bE J aa) (aJ N) (aJ ⟨_,M⟩) b1 (aJ (fD N eb)) (bE U aa) (aJ N) (aJ ⟨_,eb⟩)
  p (aJ (fD N C)) (bE bp aa) (aJ N) (aJ ⟨_,C⟩) q (aJ (fD N B)) (bE bq aa) (aJ N) (aJ ⟨_,B⟩)
  i (aJ hi) (bE Q aa) p1 (aJ (fD WG Z)) (bE WF aa) (aJ WG) (aJ ⟨_,Z⟩) q1 (aJ (fD WG eq)) (bE WE aa) (aJ WG) (aJ ⟨_,eq⟩)
  _ (aJ rfl) (bE m1 aa) _ (aJ rfl) (bE m2 aa) _ (aJ rfl) (bE m7 aa)
  _ (aJ rfl) (bE m3 aa) _ (aJ rfl) (bE m4 aa) _ (aJ rfl) (bE m8 aa)
  _ (aJ rfl) (bE m5 aa) _ (aJ rfl) (bE m6 aa) _ (aJ rfl) (bE m9 aa) (aJ hN)
  P fb S (aJ Ef) f1 f2 f3 o (aJ (fD j eo)) (bE bo aa) (aJ j) (aJ ⟨_,eo⟩)
  c1 (aJ (fD j ec)) (bE WH aa) (aJ j) (aJ ⟨_,ec⟩) _ (aJ rfl) (bE WI aa) (aJ Y)
  sa 0 D (aJ Es) t1 t2 t3 u v t (aJ fun _ _ W h1 h2 h3=>Kj T _ _ P fb S sa D u v t K I W h1 h2 h3 (GI hN Ef) (GI Y Es) sf ss E' sz) s1 s2 s3
def Iq(T v1 B x y n1 n2 j w)(hc:Calm w T)(L:GV w v1 x n1)(l:GV w B y n2)(hn:n1+n2+1<=12800)(C:n2+n2+1<=12800)(hb:Bd (x/y) j)(I:j<=12800)(R:y≠GQ.i 0 0):
  CV 173 #[.pointer (γ ⟨T,0,δ⟩),v1,B] w fun v w'=>GV w' v (x/y) j:=by
 obtain⟨a,b,d,G,i1,s1⟩:=L;obtain⟨a',b',d',F,Q,s2⟩:=l;obtain⟨u,v,t,h⟩:=fZ (x/y);have D:=Q.ne0 R;have E:=i1.Ka Q D h;have sz:=hb.sz h;exact(FY T v1 B a b d a' b' d' u v t n1 n2 w hc G F s1 s2 hn C (max j (max (n1+n2+1) (n2+n2+1))) aa aa aa (sz.mono aa) i1.dne Q.dne D E).mono fun e w' ⟨z,O,H,J⟩=>⟨z,O,⟨u,v,t,H,h,sz⟩,J⟩
def QX(v0 q0 n0 v1 q1 n1 w)(WQ:GV w v0 q0 n0)(J:GV w v1 q1 n1)(H0:Hid (q1≠GQ.i 0 0))(nr)(hn:n0+n1+1<=12800)(Xe:n1+n1+1<=12800)(hb:Bd (q0/q1) nr)(hr:nr<=12800):
  CV 137 #[v0,v1] w fun v w'=>(∃u,v=.tuple #[u,.int .i64 0]/\GV w' u (q0/q1) nr):=by
 have hS:=aeX w;obtain⟨Xu,Xt,Xq,WQ,I0,S0⟩:=WQ;obtain⟨Z,Y,G,C,U,P,L,V,S,M,D,W,rfl,WV,WX,WW⟩:=WQ;replace hS:=hS.aV WV;clear WV;replace hS:=hS.aV WX;clear WX;replace hS:=hS.aV WW;clear WW;obtain⟨Xb,Xa,WZ,J,I1,S1⟩:=J;obtain⟨WM,WJ,WI,WL,WN,WO,WK,WH,WE,Q,O,WG,rfl,WT,WU,WS⟩:=J;replace hS:=hS.aV WT;clear WT;replace hS:=hS.aV WU;clear WU;replace hS:=hS.aV WS;clear WS;have l:=(St.al (St.al (St.al hS 42 #[.bool Z,.slice Y G C,.bool U,.slice P L V,.bool S,.slice M D W] (g:=w.heap.size) ag) 42 #[.bool WM,.slice WJ WI WL,.bool WN,.slice WO WK WH,.bool WE,.slice Q O WG] (g:=(w.heap.size+1)) ag) 42 #[.bool ζ,.slice δ 0 0,.bool ζ,.slice δ 0 0,.bool ζ,.slice δ 0 0] (g:=(w.heap.size+2)) ag);have WF:=(l.aH 2).cell;have WR:=(l.aH 1).cell;go_enter func137,ntmps137;(go_wp2_with fail);clear WF WR;clear l;refine gA4 hS 42 #[.bool Z,.slice Y G C,.bool U,.slice P L V,.bool S,.slice M D W] 42 #[.bool WM,.slice WJ WI WL,.bool WN,.slice WO WK WH,.bool WE,.slice Q O WG] 42 #[.bool ζ,.slice δ 0 0,.bool ζ,.slice δ 0 0,.bool ζ,.slice δ 0 0] 42 #[.bool Z,.slice Y G C,.bool U,.slice P L V,.bool S,.slice M D W,.bool WM,.slice WJ WI WL,.bool WN,.slice WO WK WH,.bool WE,.slice Q O WG] ?_;clear hS;intro w1 g2 o2 g3 o3 g4 o4 g9 o9 hS;refine(jS g9 q0 q1 n0 n1 _ (hS.aH 0) ⟨_,_,_,RG.mk (hS.aF 5) (hS.aF 4) (hS.aF 3),I0,S0⟩ aa ⟨_,_,_,RG.mk (hS.aF 2) (hS.aF 1) (hS.aF 0),I1,S1⟩ aa).mono ?_;rintro e w2 ⟨rfl,F⟩;replace hS:=hS.mv F;clear F;have WY:=(hS.aH 2).cell;(go_wp2_with fail);clear WY;refine(GX _ q1 (n1) _ ⟨_,_,_,RG.mk (hS.aF 2) (hS.aF 1) (hS.aF 0),I1,S1⟩ H0.o).mono ?_;rintro e w3 ⟨rfl,F⟩;replace hS:=hS.mv F;clear F;have WP:=(St.al hS 197 #[.int .i64 0] (g:=w3.heap.size) ag);have W9:=(WP.aH 4).cell;have Xd:=(WP.aH 3).cell;(go_wp2_with fail);clear W9 Xd;clear WP;refine gA1 hS 197 #[.int .i64 0] ?_;clear hS;intro w4 g6 o6 hS;obtain⟨Xf,T,Xc,Xy⟩:=fZ (q0/q1);have XL:Sz nr Xf T Xc:=hb.sz Xy;refine(lZ (Iq g6 _ _ q0 q1 _ _ nr _ (hS.aH 0) ⟨_,_,_,RG.mk (hS.aF 5) (hS.aF 4) (hS.aF 3),I0,S0⟩ ⟨_,_,_,RG.mk (hS.aF 2) (hS.aF 1) (hS.aF 0),I1,S1⟩ aa aa hb hr H0.o) Xy).mono ?_;exact Aap
def UX(g v0 v1 q0 q1 n0 n1 w)(hc:jm w g)(L:GV w v0 q0 n0)(l:GV w v1 q1 n1)(h0:q1≠GQ.i 0 0)(B)(hn:n0+n1+1<=12800)(Xe:n1+n1+1<=12800)(hb:Bd (q0/q1) B)(hr:B<=12800):
  CV 213 #[.pointer (γ ⟨g,0,δ⟩),v0,v1] w fun v w'=>GV w' v (q0/q1) B:=by
 obtain⟨M,G,N,C,V,Q,S,U,Y,WG,WI,Z,rfl⟩:=L.opn;obtain⟨I,WJ,H,K,WK,W,WM,P,WF,WL,WH,R,rfl⟩:=l.opn;have HX:=aJ L;have HY:=aJ l;clear L l;obtain⟨D,F,T,j⟩:=an3 w 42 #[.bool M,.slice G N C,.bool V,.slice Q S U,.bool Y,.slice WG WI Z] 42 #[.bool I,.slice WJ H K,.bool WK,.slice W WM P,.bool WF,.slice WL WH R] 42 #[.bool ζ,.slice δ 0 0,.bool ζ,.slice δ 0 0,.bool ζ,.slice δ 0 0];have O:=hc.ext D;have k0:=Blk.cell O;go_enter func213,ntmps213;(go_wp2_with fail);refine(QX _ q0 n0 _ q1 n1 _ (HX.ext D) (HY.ext D) (aJ h0) B hn Xe hb hr).mono ?_;exact AbR
def bps (Z l:Nat->Nat->GQ) (m i j:Nat):Nat->GQ
 |0=>Z i (m+j)
 |s+1=>bps Z l m i j s-Z i (i+1+s)*l (i+1+s) j
def iZ (Z:Nat->Nat->GQ) (m:Nat):Nat->Nat->Nat->GQ
 |0=>fun _ _=>GQ.i 0 0
 |k+1=>upd (iZ Z m k) (m-1-k) (fun j=>bps Z (iZ Z m k) m (m-1-k) j k/Z (m-1-k) (m-1-k))
def CJ(Z){m k i}(j:k<m)(hi:m-k<=i):iZ Z m (k+1) i=iZ Z m k i:=by
 show upd _ _ _ i=_;rw[upd_ne aa]
structure BI (w W:World) (gf Ga Gb G m nb:Nat) (PA PB:Nat->Prop) (Z:Nat->Nat->GQ) (k:Nat) (RX:Nat->Rw):Prop where
 calm:jm W gf
 a:∃R,MxI W Ga m m PA R Z
 b:∃R Y,MxI W Gb m nb PB R Y/\∀i j,i<m-k->Y i j=Z i (m+j)
 x:Blk W G 174 (mxc m RX).toArray
 gx:w.heap.size<=G
 row:∀i,m-k<=i->i<m->(RX i).A=γ ⟨(RX i).b,0,δ⟩/\(RX i).n=nb/\(RX i).c=nb/\w.heap.size<=(RX i).b/\dz W (RX i).b nb (iZ Z m k i)
 mod:Mod PB w W
theorem Qi(gf C G nb B D Nx Ny l H Z v F K q w)(hc:jm w gf)(hq:GV w v q l)(P:0<nb->H=γ ⟨C,0,δ⟩/\dz w C nb F)(N:0<nb->Z=γ ⟨G,0,δ⟩/\dz w G nb K)(L:0<nb->C≠G)(WY:nb<=1000)(M:∀j,j<nb->Bd (F j) Nx)(Q:∀j,j<nb->Bd (K j) Ny)(hN:2*max Nx (l+Ny+1)+65<=12800)(R:2*max l Ny+1<=12800):
  Calls prog 212 #[.pointer (γ ⟨gf,0,δ⟩),.slice H nb B,.slice Z nb D,v] w.drew fun e w'=>e=.returned (.tuple #[])/\(0<nb->dz w' C nb (fun j=>F j-q*K j))/\Mod (fun g=>0<nb/\g=C) w w':=by
 have hd:Ext w w.drew:=(Ext.refl _).drew;by_cases h:0<nb
 .obtain⟨Y,r1⟩:=P h;obtain⟨U,r2⟩:=N h;refine(yA gf C G 0 0 nb nb nb B nb D Nx Ny l H Z v F K q w.drew (hc.ext hd) (r1.ext hd) (r2.ext hd) (L h) (fun _=>by simpa using Y) (fun _=>by simpa using U) (κ _) aa aa aa aa (hq.ext hd) (fun j I=>by simpa using M j I) (fun j I=>by simpa using Q j I) hN R).mono ?_;rintro e w' ⟨O,V,W⟩;refine⟨O,fun _=>V.congr fun j I=> ?_,(aeW hd).trans (W.mono fun g T=>⟨h,T⟩)⟩;unfold vD;rw[ι aa];simp
 .obtain rfl:nb=0:=aa;refine(yL gf B 0 D H Z v q l w.drew (hq.ext hd)).mono ?_;rintro e w' ⟨O,J⟩;exact⟨O,fun S=>absurd S aa,(aeW hd).trans (aeW J)⟩
def Fv(m Z):∀c,(ech m Z c).r<=c
 |0=>κ _
 |c+1=>by
  have B:=Fv m Z c;show(jR m c (ech m Z c)).r<=c+1;cases j:fp (ech m Z c).X c (m-(ech m Z c).r) (ech m Z c).r with
  |none=>rw[eQ j];omega
  |some k=>rw[dL j];show(ech m Z c).r+1<=c+1;omega
theorem BL(m Z):∀c,(ech m Z c).r=c->∀i,i<c->(ech m Z c).X i i≠GQ.i 0 0
 |0,_,i,hi=>aa
 |c+1,h,i,hi=>by
  have D:=Fv m Z c;have e:ech m Z (c+1)=jR m c (ech m Z c):=rfl;rw[e] at h⊢;cases j:fp (ech m Z c).X c (m-(ech m Z c).r) (ech m Z c).r with
  |none=>rw[eQ j] at h;omega
  |some k=>
   rw[dL j] at h⊢;have C:(ech m Z c).r=c:=by have I:(ech m Z c).r+1=c+1:=h;omega
   have B:=BL m Z c C;obtain⟨F,H,G,J⟩:=iD j;show clr (fun i=>(ech m Z c).X (swp k (ech m Z c).r i)) (ech m Z c).r c i i≠_;rw[C] at F⊢;unfold clr;rw[θ aa];show(ech m Z c).X (swp k c i) i≠_;by_cases l:i=c
   .subst l;rw[nU];exact G
   .rw[vJ aa l];exact B i aa
theorem I9{na X Y i j}(h:j<na):side na X Y i j=X i j:=by unfold side;rw[ι h]
theorem PP{na X Y i j}:side na X Y i (na+j)=Y i j:=by unfold side;rw[θ aa,show na+j-na=j by omega]
structure Out (W:World) (G m n:Nat) (RX:Nat->Rw) (X:Nat->Nat->GQ):Prop where
 x:Blk W G 174 (mxc m RX).toArray
 row:∀i,i<m->(RX i).A=γ ⟨(RX i).b,0,δ⟩/\(RX i).n=n/\(RX i).c=n/\dz W (RX i).b n (X i)
def Out.ext{W W' G m n RX X}(h:Out W G m n RX X)(x:Ext W W'):Out W' G m n RX X:=
 ⟨h.x.ext x,fun i hi=>⟨(h.row i hi).1,(h.row i hi).2.1,(h.row i hi).2.2.1,(h.row i hi).2.2.2.ext x⟩⟩
structure Lm (N Ns Nd Nx m nb:Nat) (Z:Nat->Nat->GQ):Prop where
 a:∀i l,i<m->l<m->Bd (Z i l) N
 s:∀k j s,k<m->j<nb->s<k->Bd (bps Z (iZ Z m k) m (m-1-k) j s) Ns
 d:∀k j,k<m->j<nb->Bd (bps Z (iZ Z m k) m (m-1-k) j k) Nd
 x:∀k i j,k<=m->m-k<=i->i<m->j<nb->Bd (iZ Z m k i j) Nx
 c1:2*max Ns (N+Nx+1)+65<=12800
 c2:2*max N Nx+1<=12800
 c3:Nd+N+1<=12800
 c4:N+N+1<=12800
 c5:Nx<=12800
def SE{N Ns Nd Nx m nb k i j Z}(h:Lm N Ns Nd Nx m nb Z)(hi:i=m-1-k)(D:k<m)(C:j<nb):Bd (bps Z (iZ Z m k) m i j k/Z i i) Nx:=by
 have l:=h.x (k+1) (m-1-k) j aa aa aa C;have B:iZ Z m (k+1) (m-1-k) j=bps Z (iZ Z m k) m (m-1-k) j k/Z (m-1-k) (m-1-k):=by
  show(upd (iZ Z m k) (m-1-k) (fun j=>bps Z (iZ Z m k) m (m-1-k) j k/Z (m-1-k) (m-1-k))) (m-1-k) j=_;rw[upd_same]
 rw[B] at l;rwa[<-hi] at l
theorem Tv(gf Ga Gb m cA cB nb N Ns Nd Nx PA PB Z w)(h:EI w gf Ga Gb m m nb PA PB Z)(hd:∀g,PA g->PB g->False)(XD:∀g,PA g->g<w.heap.size)(Xi:∀g,PB g->g<w.heap.size)(hm:m<=24)(WY:nb<=24)(hz:∀i,i<m->Z i i≠GQ.i 0 0)(hR:Lm N Ns Nd Nx m nb Z):
  Calls prog 193 #[.pointer (γ ⟨gf,0,δ⟩),.slice (γ ⟨Ga,0,δ⟩) m cA,.slice (γ ⟨Gb,0,δ⟩) m cB] w fun e w'=>∃(G:Nat) (RX:Nat->Rw),e=.returned (.slice (γ ⟨G,0,δ⟩) m m)/\BI w w' gf Ga Gb G m nb PA PB Z m RX:=by
 have HH:=aJ h;have HD:=aJ hd;have XU:=aJ XD;have Xt:=aJ Xi;have HZ:=aJ hz;have Q:=aJ hR;clear h hd XD Xi hz hR;have WQ:=EL m aa;have X8:=AJ nb aa;have XE:(0:Int)<=(m:Int):=aa;have XQ:Hid (Ga<w.heap.size/\Gb<w.heap.size):=aJ (by
  obtain⟨_,⟨_,a⟩,⟨_,b⟩⟩:=HH.o;exact⟨a.o.lt,b.o.lt⟩)
 go_enter func193,ntmps193;(go_wp2_with fail);clear WQ;go_loopw [8] (fun i wr=>∃(k:Nat) (RX:Nat->Rw),k<=m/\i=.int .i64 ((m:Int)-1-(k:Int))/\BI w wr gf Ga Gb w.heap.size m nb PA PB Z k RX) (fun i _=>(intOf i+1).toNat)
 case atStart=>
  obtain⟨hc,⟨R,ha⟩,⟨R2,hb⟩⟩:=HH.o;have J:=Ext.new w (.cells (mxc m fun _=>Ag).toArray 174);exact⟨0,fun _=>Ag,aa,au,⟨hc.ext J,⟨R,ha.ext J⟩,⟨R2,_,hb.ext J,fun _ _ _=>rfl⟩,Blk.new _ _ _,κ _,fun i h1 h2=>absurd h1 aa,aeW J⟩⟩
 case round=>
  obtain⟨k,RX,hk,rfl,hB⟩:=hrel;have HB:=aJ hB;clear hB HH;by_cases WE:k<m
  .obtain⟨i,hi⟩:∃i,i=m-1-k:=⟨_,rfl⟩;have XT:(m:Int)-1-(k:Int)=(i:Int):=aa;have WL:i<m:=aa;rw[XT];have HI:=aJ hi;clear hi XT;have d1:decide ((i:Int)≥0)=ε:=ag;(go_wp2_with fail);obtain⟨Yf,⟨R,hA⟩,⟨R2,Y,Ye,l⟩,J,Xf,F,WK⟩:=HB.o;have HC:=aJ Yf;have HA:=aJ hA;have B:=aJ Ye;have HY:=aJ l;have XR:=aJ J;have XV:=aJ F;have Yu:=aJ WK;clear Yf hA Ye l J Xf F WK HB;have XM:Far (fun g=>0<nb/\g=(R2 i).b) wr:=by
    rintro g ⟨hn,rfl⟩ _;obtain⟨ff,XH,_⟩:=(B.o.row i WL hn).2;exact⟨_,_,XH,dm _ _⟩
   have XI:=aJ XM;clear XM;have T:Hid (m-k=i+1):=aJ (by have:=HI.o;omega);go_loopw [9] (fun i9 w2=>∃s j:Nat,s<=k/\j=i+1+s/\i9=.int .i64 j/\(0<nb->dz w2 (R2 i).b nb (fun j=>bps Z (iZ Z m k) m i j s))/\Mod (fun g=>0<nb/\g=(R2 i).b) wr w2) (fun i9 _=>m-(intOf i9).toNat)
   case atStart=>exact⟨0,i+1,aa,aa,au,fun hn=>(B.o.row i WL hn).2.congr fun j hj=>HY.o i j (by have:=HI.o;omega),Mod.refl _ _⟩
   case round=>
    obtain⟨s,j,hs,hj,rfl,Xz,Xa⟩:=hrel;have XN:=aJ Xz;have O:=aJ Xa;have HJ:=aJ hj;clear Xz Xa hj;rename World=>w2;have Xb:=aJ (HA.o.mod O.o XI.o (by rintro⟨hn,e⟩;exact B.o.ne WL hn HA.o.o e.symm) (by rintro H WN _ ⟨hn,e⟩;exact HD.o _ (HA.o.mem H WN aa) (e ▸ B.o.mem i WL hn)));have Xe:=aJ (Blk.mod HC.o O.o (by
     rintro⟨hn,e⟩;exact jm.ne HC.o (B.o.row i WL hn).2 e))
    have W:=aJ (XR.o.mod O.o (by rintro⟨hn,e⟩;exact B.o.ne WL hn XR.o e.symm));have XB:=aJ (B.o.o.mod O.o (by rintro⟨hn,e⟩;exact B.o.ne WL hn B.o.o e.symm));by_cases Ya:s<k
    .have Xl:j<m:=by have:=HI.o;have:=HJ.o;omega
     have L:i<j:=by have:=HJ.o;omega
     have dj:decide ((j:Int)<(m:Int))=ε:=ae;have di:decide ((i:Int)<(m:Int))=ε:=ae;obtain⟨XG,f,hf,hv⟩:=Xb.o.row i WL aa;have k1:=Xb.o.cell WL;rw[XG] at k1;obtain⟨a0,a1,a2,a3,a4,a5⟩:=dz.cells hf Xl rfl;have Yg:=aJ ((hv j Xl).to (Q.o.a i j WL Xl));clear XG hf hv;(go_wp2_with fail);refine(xA _ _ _ _ Yg.o (by have:=Q.o.c2;omega)).mono ?_;rintro e w3 ⟨rfl,WF⟩;by_cases h0:Z i j=GQ.i 0 0
     .rw[Ξ h0];have Yt:Hid (∀H,bps Z (iZ Z m k) m i H (s+1)=bps Z (iZ Z m k) m i H s):=aJ fun H=>by
       show _-Z i (i+1+s)*_=_;rw[<-HJ.o,h0,GQ.eY,GQ.eP]
      have WJ:=aJ WF;clear h0 k1 a0 a1 a2 a3 a4 a5 WF;go_wp2_with fail
      go_roundw
      case rel=>exact⟨s+1,j+1,aa,by have:=HJ.o;omega,au,fun hn=>((XN.o hn).ext WJ.o).congr fun H _=>(Yt.o H).symm,O.o.trans (aeW WJ.o)⟩
      case measure=>simp[intOf];omega
     .rw[υ h0];obtain⟨xa,xn,xc,xb,xr⟩:=XV.o j (by have:=T.o;omega) Xl;have XO:0<nb->(RX j).A=γ ⟨(RX j).b,0,δ⟩/\dz w3 (RX j).b nb (iZ Z m k j):=fun hn=>⟨xa,(xr.mod O.o XI.o (by rintro⟨WM,e⟩;have h1:=Xt.o _ (B.o.mem i WL WM);omega)).ext WF⟩;have K1:=aK.cell (WF.cell_ k1);have U:=aK.cell (show w3.cell? ⟨Gb,i,δ⟩=γ (.slice (R2 i).A nb nb) from WF.cell_ (by rw[XB.o.cell,iM WL,B.o.v0 WL]));have K3:=aK.cell (show w3.cell? ⟨w.heap.size,j,δ⟩=γ (.slice (γ ⟨(RX j).b,0,δ⟩) nb nb) from WF.cell_ (by rw[W.o.cell,iM Xl];unfold Rw.v;rw[xa,xn,xc]));have A0:=aK.cell (WF.cell_ a0);have A1:=aK.cell (WF.cell_ a1);have A2:=aK.cell (WF.cell_ a2);have A3:=aK.cell (WF.cell_ a3);have A4:=aK.cell (WF.cell_ a4);have A5:=aK.cell (WF.cell_ a5);have HS:=aJ (Qi gf (R2 i).b (RX j).b nb nb nb Ns Nx N (R2 i).A (γ ⟨(RX j).b,0,δ⟩) _ (fun j=>bps Z (iZ Z m k) m i j s) (iZ Z m k j) (Z i j) w3 (Xe.o.ext WF) (Yg.o.ext WF) (fun hn=>⟨(B.o.row i WL hn).1,(XN.o hn).ext WF⟩) (fun hn=>⟨rfl,(XO hn).2⟩) (fun hn e=>by have h1:=Xt.o _ (B.o.mem i WL hn);omega) aa (fun H WN=>by have:=Q.o.s k H s WE WN Ya;rwa[<-HI.o] at this) (fun H WN=>Q.o.x k j H hk (by have:=T.o;omega) Xl WN) Q.o.c1 Q.o.c2);have WJ:=aJ WF;clear XO k1 a0 a1 a2 a3 a4 a5 WF xa xn xc xb xr;(go_wp2_with fail);refine bz 16 [(ε,0),(ε,1),(ε,2),(ε,3),(ε,4),(ε,5),(ε,6),(ε,7),(ε,8),(ε,9),(ε,10),(ε,11),(ε,12),(ε,13),(ε,14),(ε,15)] ah ah ?_;refine aT [0,1,2,3,4,5,6,7,8,9,10,11,12,13,14,15] [] _ ah ?_;simp only[bP,aU,μ,ξ];(repeat (go_big_quiet_step (fail)));refine σ ?_;clear K1 U K3 A0 A1 A2 A3 A4 A5;simp only[bQ,ρ,φ];(go_wp2_with fail);refine HS.o.mono ?_;rintro e w5 ⟨rfl,Yi,Xo⟩;have Xx:=aJ Yi;have Yo:=aJ ((O.o.trans (aeW WJ.o)).trans Xo);clear Yi Xo;go_wp2_with fail
      go_roundw
      case rel=>
       refine⟨s+1,j+1,aa,by have:=HJ.o;omega,au,fun hn=>(Xx.o hn).congr fun H _=> ?_,Yo.o⟩;show _=bps Z (iZ Z m k) m i H s-Z i (i+1+s)*iZ Z m k (i+1+s) H;rw[<-HJ.o]
      case measure=>simp[intOf];omega
    .obtain rfl:k=s:=aa;obtain rfl:m=j:=by have:=HI.o;have:=HJ.o;omega
     have dj:decide ((m:Int)<(m:Int))=ζ:=ag;have di:decide ((i:Int)<(m:Int))=ε:=ae;have XA:=Ext.new w2 (.cells (aO nb fun _=>zEn).toArray 42);have WU:=W.o.ext XA;have fr:=WU.frozen;have k1:(w2.alloc (.cells (aO nb fun _=>zEn).toArray 42)).cell? ⟨w.heap.size,i,δ⟩=γ (RX i).v:=by rw[WU.cell];exact iM WL
     have kb:w2.cell? ⟨Gb,i,δ⟩=γ (.slice (R2 i).A nb nb):=by rw[XB.o.cell,iM WL,B.o.v0 WL]
     have Xm:Blk ((w2.alloc (.cells (aO nb fun _=>zEn).toArray 42)).setCell ⟨w.heap.size,i,δ⟩ (.slice (γ ⟨w2.heap.size,0,δ⟩) nb nb)) w.heap.size 174 (mxc m (upd RX i ⟨γ ⟨w2.heap.size,0,δ⟩,w2.heap.size,0,nb,nb⟩)).toArray:=by
      rw[<-EZ];exact WU.nL _ _
     have V:((w2.alloc (.cells (aO nb fun _=>zEn).toArray 42)).setCell ⟨w.heap.size,i,δ⟩ (.slice (γ ⟨w2.heap.size,0,δ⟩) nb nb)).cell? ⟨w.heap.size,i,δ⟩=γ (.slice (γ ⟨w2.heap.size,0,δ⟩) nb nb):=by rw[Xm.cell,iM WL,upd_same];rfl
     have Xj:w.heap.size<w2.heap.size:=W.o.lt;have WR:Blk ((w2.alloc (.cells (aO nb fun _=>zEn).toArray 42)).setCell ⟨w.heap.size,i,δ⟩ (.slice (γ ⟨w2.heap.size,0,δ⟩) nb nb)) w2.heap.size 42 (aO nb fun _=>zEn).toArray:=(Blk.new _ _ _).far (by show w2.heap.size≠w.heap.size;omega) _;have Yb:Mod (fun g=>g=w.heap.size) w2 ((w2.alloc (.cells (aO nb fun _=>zEn).toArray 42)).setCell ⟨w.heap.size,i,δ⟩ (.slice (γ ⟨w2.heap.size,0,δ⟩) nb nb)):=(aeW XA).trans (Mod.only (Only.set _ _ _ _) rfl);have XL:Far (fun g=>g=w.heap.size) w2:=fun g hg _=>by subst hg;exact⟨_,_,W.o,j3 _ _⟩
     have W9:=aJ Xm;have WP:=aJ WR;have WW:=aJ Yb;have Ym:=aJ XL;have Xn:=aJ Xj;clear Xm WR Yb XL Xj XA WU;(go_wp2_with fail);clear k1 V fr kb;generalize XZ:World.setCell _ _ _=w4 at W9 WP WW⊢;clear XZ;generalize Xr:w2.heap.size=g at*
     have WS:=aJ Xr;clear Xr;have X4:=aJ (Blk.mod Xe.o WW.o (by exact fun e=>Xe.o.fQ W.o aj e));have Yp:=aJ (Xb.o.mod WW.o Ym.o (by have:=XQ.o.1;exact fun e=>aa) (fun H WN _=>Xb.o.ne WN aa W.o));have Yl:=aJ (XB.o.mod WW.o (by have:=XQ.o.2;exact fun e=>aa));have Yn:Hid (0<nb->dz w4 (R2 i).b nb (fun j=>bps Z (iZ Z m k) m i j k)):=aJ fun hn=>(XN.o hn).mod WW.o Ym.o (by
      obtain⟨cs,WX⟩:=(XN.o hn).blk;exact fun e=>WX.fQ W.o aj e)
     have Xu:Hid (w.heap.size<g/\Ga<g/\Gb<g/\gf<g/\(0<nb->(R2 i).b<g)/\∀C,C<m->(R C).b<g):=aJ (by
      have h1:=WS.o;have h2:=Xn.o;have h3:=XQ.o;refine⟨h2,aa,aa,by have:=Blk.lt Xe.o;omega,fun hn=> ?_,fun C M=> ?_⟩
      .obtain⟨cs,WX⟩:=(XN.o hn).blk;have:=WX.lt;omega
      .obtain⟨cs,WX⟩:=(Xb.o.row C M aa).2.blk;have:=WX.lt;omega)
     clear Xb Xe XB;go_loopw [69] (fun X5 wz=>∃(H:Nat) (f:Nat->En),H<=nb/\X5=.int .i64 H/\Blk wz g 42 (aO nb f).toArray/\(∀j,j<H->GV wz (f j).v (bps Z (iZ Z m k) m i j k/Z i i) 12800)/\Mod (fun g'=>g'=g) w4 wz) (fun X5 _=>nb-(intOf X5).toNat)
     case atStart=>exact⟨0,_,aa,rfl,WP.o,fun j hj=>aa,Mod.refl _ _⟩
     case round=>
      clear dj;obtain⟨H,f,WN,rfl,hb,Xd,Xw⟩:=hrel;have Xc:=aJ hb;have WZ:=aJ Xd;have WT:=aJ Xw;clear hb Xd Xw;rename World=>wz;have Yc:Far (fun g'=>g'=g) w4:=fun g' hg _=>by subst hg;exact⟨_,_,WP.o,dm _ _⟩
      have Yh:=aJ Yc;clear Yc;have XC:=aJ (W9.o.mod WT.o (by have:=Xu.o.1;exact fun e=>aa));have X6:=aJ (Blk.mod X4.o WT.o (by have:=Xu.o.2.2.2.1;exact fun e=>aa));have X7:=aJ (Yp.o.mod WT.o Yh.o (by have:=Xu.o.2.1;exact fun e=>aa) (fun C M _=>by have:=Xu.o.2.2.2.2.2 C M;exact fun e=>aa));have Yd:=aJ (Yl.o.mod WT.o (by have:=Xu.o.2.2.1;exact fun e=>aa));have XX:Hid (0<nb->dz wz (R2 i).b nb (fun j=>bps Z (iZ Z m k) m i j k)):=aJ fun hn=>(Yn.o hn).mod WT.o Yh.o (by have:=Xu.o.2.2.2.2.1 hn;exact fun e=>aa);by_cases S:H<nb
      .have dj:decide ((H:Int)<(nb:Int))=ε:=ae;have WV:0<nb:=aa;have XP:=(B.o.row i WL WV).1;have K1:=aK.cell (show wz.cell? ⟨w.heap.size,i,δ⟩=γ (.slice (γ ⟨g,0,δ⟩) nb nb) by rw[XC.o.cell,iM WL,upd_same];rfl);have U:=aK.cell (show wz.cell? ⟨Gb,i,δ⟩=γ (.slice (γ ⟨(R2 i).b,0,δ⟩) nb nb) by rw[Yd.o.cell,iM WL,B.o.v WL WV]);obtain⟨XG,P,X9,XJ⟩:=X7.o.row i WL aa;have K3:=aK.cell (show wz.cell? ⟨Ga,i,δ⟩=γ (.slice (γ ⟨(R i).b,0,δ⟩) m m) by rw[X7.o.cell WL,XG]);obtain⟨fb,Yj,Xg⟩:=XX.o WV;obtain⟨a0,a1,a2,a3,a4,a5⟩:=dz.cells X9 WL rfl;obtain⟨b0,b1,b2,b3,b4,b5⟩:=dz.cells Yj S rfl;have A0:=aK.cell a0;have A1:=aK.cell a1;have A2:=aK.cell a2;have A3:=aK.cell a3;have A4:=aK.cell a4;have A5:=aK.cell a5;have B0:=aK.cell b0;have B1:=aK.cell b1;have B2:=aK.cell b2;have B3:=aK.cell b3;have B4:=aK.cell b4;have B5:=aK.cell b5;have XF:=aJ ((XJ i WL).to (Q.o.a i i WL WL));have XK:=aJ ((Xg H S).to (by have:=Q.o.d k H WE S;rwa[<-HI.o] at this));clear XG X9 XJ Yj Xg a0 a1 a2 a3 a4 a5 b0 b1 b2 b3 b4 b5 XP;(go_wp2_with fail);refine bz 21 [(ε,0),(ε,1),(ε,2),(ε,3),(ε,4),(ε,5),(ε,6),(ε,7),(ε,8),(ε,9),(ε,10),(ε,11),(ε,12),(ε,13),(ε,14),(ε,15),(ε,16),(ε,17),(ε,18),(ε,19),(ζ,20)] ah ah ?_;refine aT [0,1,2,3,4,5,6,7,8,9,10,11,12,13,14,15,16,17,18,19] [(ζ,20)] _ ah ?_;simp only[bP,aU,μ,ξ];(repeat (go_big_quiet_step (fail)));refine σ ?_;refine aR 20 [] ah ?_;intro K I;simp only[aU];(go_wp2_with fail);have Xk:Ext wz wz.drew:=(Ext.refl _).drew;refine(UX gf _ _ (bps Z (iZ Z m k) m i H k) (Z i i) Nd N _ (Blk.ext X6.o Xk) (XK.o.ext Xk) (XF.o.ext Xk) (HZ.o i WL) Nx Q.o.c3 Q.o.c4 (SE Q.o HI.o WE S) Q.o.c5).mono ?_;rintro e w5 ⟨v5,rfl,Xy,WI⟩;obtain⟨u1,D1,p1,q1,u2,D2,p2,q2,u3,D3,p3,q3,rfl⟩:=Xy.opn;have Xh:=aJ WI.ji;have XY:=aJ Xy;clear WI Xy Xk;go_wp2;refine I _ _ ⟨⟨w5,Xh.o⟩,rfl⟩ ?_;clear I K K1 U K3 A0 A1 A2 A3 A4 A5 B0 B1 B2 B3 B4 B5;simp only[bQ,ρ,φ];have WG:=Xc.aA Xh.o;obtain⟨a0,a1,a2,a3,a4,a5⟩:=dz.cells WG.o S rfl;have fr:=WG.o.frozen;have Xo:Mod (fun g'=>g'=g) w5 (puts w5 g (H*6) [.bool u1,.slice D1 p1 q1,.bool u2,.slice D2 p2 q2,.bool u3,.slice D3 p3 q3]):=Mod.only (fM _ _ _ _) rfl;have X3:Far (fun g'=>g'=g) w5:=fun g' hg _=>by subst hg;exact⟨_,_,WG.o,dm _ _⟩
       have WO:=bY (H*6) [.bool u1,.slice D1 p1 q1,.bool u2,.slice D2 p2 q2,.bool u3,.slice D3 p3 q3] WG.o;have XW:=mZ (f:=f) ⟨u1,D1,p1,q1,u2,D2,p2,q2,u3,D3,p3,q3⟩ S;rw[show fF (aO nb f).toArray (H*6) [.bool u1,.slice D1 p1 q1,.bool u2,.slice D2 p2 q2,.bool u3,.slice D3 p3 q3]=_ from XW] at WO;have WH:=aJ WO;have Xv:=aJ ((WT.o.trans (aeW Xh.o)).trans Xo);have Yr:Hid (∀j,j<H+1->GV (puts w5 g (H*6) [.bool u1,.slice D1 p1 q1,.bool u2,.slice D2 p2 q2,.bool u3,.slice D3 p3 q3]) (upd f H ⟨u1,D1,p1,q1,u2,D2,p2,q2,u3,D3,p3,q3⟩ j).v (bps Z (iZ Z m k) m i j k/Z i i) 12800):=aJ fun j hj=>by
        by_cases e:j=H
        .subst e;rw[upd_same];exact((XY.o.up Q.o.c5).mod Xo X3)
        .rw[upd_ne e];exact((WZ.o j aa).ext Xh.o).mod Xo X3
       clear Xo X3 WO XW;go_wp2_with fail
       go_roundw
       case rel=>exact⟨H+1,_,aa,au,WH.o,Yr.o,Xv.o⟩
       case measure=>simp[intOf];omega
      .obtain rfl:nb=H:=aa;have dj:decide ((nb:Int)<(nb:Int))=ζ:=ag;have e0:=Blk.cell X6.o;(go_wp2_with fail);have hS:Far (fun g'=>(0<nb/\g'=(R2 i).b)\/g'=w.heap.size\/g'=g) wr:=by
        rintro g' (h|rfl|rfl) Yk
        .exact XI.o g' h Yk
        .exact⟨_,_,XR.o,j3 _ _⟩
        .have h1:=WS.o;have h2:=O.o.size;omega
       have hM:Mod (fun g'=>(0<nb/\g'=(R2 i).b)\/g'=w.heap.size\/g'=g) wr wz:=((O.o.mono fun g' h=> .inl h).trans (WW.o.mono fun g' h=> .inr (.inl h))).trans (WT.o.mono fun g' h=> .inr (.inr h));have Yv:=Xu.o.1;have Xi:∀j,j<m->0<nb->(R2 j).b<w.heap.size:=fun j hj hn=>Xt.o _ (B.o.mem j hj hn);have Yq:(i:Int)-1=(m:Int)-1-((k+1:Nat):Int):=by have:=HI.o;omega
       refine⟨⟨k+1,upd RX i ⟨γ ⟨g,0,δ⟩,g,0,nb,nb⟩,aa,by rw[Yq],?_⟩,by simp[intOf]⟩;refine⟨X6.o,⟨R,X7.o⟩,⟨R2,upd Y i (fun j=>bps Z (iZ Z m k) m i j k),?_,fun C j M=> ?_⟩,XC.o,κ _,fun C h1 h2=> ?_,?_⟩
       .refine B.o.Ta hM hS ?_ ?_ (fun hn=>XX.o hn)
        .rintro(⟨hn,e⟩|e|e)
         .exact B.o.ne WL hn B.o.o e.symm
         .have:=XQ.o.2;omega
         .have:=Xu.o.2.2.1;omega
        .rintro j hj D hn (⟨_,e⟩|e|e)
         .exact D (B.o.inj j i hj WL hn e)
         .have:=Xi j hj hn;omega
         .have:=Xi j hj hn;omega
       .have:=HI.o;rw[upd_ne aa];exact HY.o C j aa
       .have hI:=HI.o;by_cases e:C=i
        .subst e;rw[upd_same];refine⟨rfl,rfl,rfl,by show w.heap.size<=g;omega,f,Xc.o,fun j hj=> ?_⟩;have hb:=WZ.o j hj;have e2:iZ Z m (k+1) C j=bps Z (iZ Z m k) m C j k/Z C C:=by
          show upd (iZ Z m k) (m-1-k) (fun j=>bps Z (iZ Z m k) m (m-1-k) j k/Z (m-1-k) (m-1-k)) C j=_;rw[<-hI,upd_same]
         rw[e2];exact hb
        .rw[upd_ne e];obtain⟨h3,h4,h5,h6,h7⟩:=XV.o C aa h2;refine⟨h3,h4,h5,h6,?_⟩;rw[CJ Z WE aa];refine h7.mod hM hS ?_;obtain⟨cs,WX⟩:=h7.blk;rintro(⟨hn,e'⟩|e'|e')
         .have:=Xi i WL hn;omega
         .exact WX.fQ XR.o aj e'
         .have h8:=WX.lt;have h9:=WS.o;have Xq:=O.o.size;omega
       .have hm:=Yu.o;exact⟨hM.os.trans hm.os,hM.tape.trans hm.tape,hM.output.trans hm.output,lh hm.size hM.size,fun k' Xp hn=>(hM.block k' (π Xp hm.size) (by
         rintro(⟨WM,e'⟩|e'|e')
         .exact hn (e' ▸ B.o.mem i WL WM)
         .omega
         .omega)).trans (hm.block k' Xp hn)⟩
  .obtain rfl:k=m:=aa;have XT:(k:Int)-1-(k:Int)= -1:=aa;rw[XT];(go_wp2_with fail);go_ret;exact⟨_,RX,rfl,HB.o⟩
theorem Ty{A A2 B O B2 O2 m c c2 nb N Ns Nd Nx R R2}{E E2:Nat->Nat->En}{X Y w}{vb vb2:Nat->Nat->Bool}(h:Mem w A B O m R E)(h2:Mem w A2 B2 O2 m R2 E2)(Xg:∀i j,i<m->j<(R i).n->VB w (E i j).v (vb i j))(T:∀i j,i<m->j<(R2 i).n->VB w (E2 i j).v (vb2 i j))(hM:IsM m R vb)(XK:IsM m R2 vb2)(hn:∀i,i<m->(R i).n=m)(Xe:∀i,i<m->(R2 i).n=nb)(WY:nb<=24)(hv:∀i j,i<m->j<m->GV w (E i j).v (X i j) 12800)(XB:∀i j,i<m->j<nb->GV w (E2 i j).v (Y i j) 12800)(hN:4*N+67<=12800)(H:Room N m m nb (side m X Y))(WW:(ech m (side m X Y) m).r=m->Lm N Ns Nd Nx m nb (ech m (side m X Y) m).X):
  Calls prog 159 #[.slice A m c,.slice A2 m c2] w fun e w'=>((ech m (side m X Y) m).r<m/\e=.returned (.tuple #[.slice δ 0 0,.int .i64 45])\/(ech m (side m X Y) m).r=m/\∃G RX,e=.returned (.tuple #[.slice (γ ⟨G,0,δ⟩) m m,.int .i64 0])/\Out w' G m nb RX (iZ (ech m (side m X Y) m).X m m))/\Ext w w':=by
 have hm:=hM.1;have XY:=BL m (side m X Y) m;have WE:=Fv m (side m X Y) m;have HM:=aJ h;have WO:=aJ h2;have HV:=aJ hv;have WL:=aJ XB;have HN:=aJ hn;have WH:=aJ Xe;have Q:=aJ H;have XH:=aJ WW;have WS:=aJ XY;have WZ:=aJ (fun(w':World) (x:Ext w w')=>Ca (c:=c) (h.ext x) (fun i j hi hj=>(Xg i j hi hj).ext x) ε ⟨fun _=>hM,fun _=>rfl⟩);have W9:=aJ (fun(w':World) (x:Ext w w')=>Ca (c:=c2) (h2.ext x) (fun i j hi hj=>(T i j hi hj).ext x) ε ⟨fun _=>XK,fun _=>rfl⟩);have WV:=aJ (fun(w':World) (x:Ext w w')=>qH (c:=c) (h.ext x));have F:wd m R=m:=by
  unfold wd;by_cases e:m=0
  .rw[ι e];exact e.symm
  .rw[θ e];exact hn 0 aa
 rw[F] at WV;clear h h2 hv XB hn Xe H WW Xg T hM XK F XY;have Xc:((m:Int) !=(m:Int))=ζ:=ag;go_enter func159,ntmps159;(go_wp2_with fail);refine(WZ.o _ (Ext.refl _)).mono ?_;rintro e w1 ⟨rfl,M⟩;have Xo:=aJ M;clear M;(go_wp2_with fail);refine(W9.o _ Xo.o).mono ?_;rintro e w2 ⟨rfl,P⟩;have Xq:=Xo.aC P;clear P Xo;(go_wp2_with fail);refine(WV.o _ Xq.o).mono ?_;rintro e w3 ⟨rfl,WF⟩;have WI:=(Xq.o.trans WF).alloc (.cells #[.int .i64 0] 250);have WM:=Oq w3;clear Xq WF;(go_wp2_with fail);generalize (w3.alloc (.cells #[.int .i64 0] 250))=w4 at WM WI⊢;generalize w3.heap.size=gf at WM⊢;have X4:=aJ WM;have Xr:=aJ WI;clear WM WI;refine(TJ (HM.o.ext Xr.o) HN.o (fun i j hi hj=>(HV.o i j hi hj).ext Xr.o) hm hm).mono ?_;rintro e wa ⟨Ga,Ra,rfl,WN⟩;have WJ:=Xr.aC WN.ext;have C:=aJ WN;clear WN;(go_wp2_with fail);refine(TJ (WO.o.ext WJ.o) WH.o (fun i j hi hj=>(WL.o i j hi hj).ext WJ.o) hm WY).mono ?_;rintro e wb ⟨Gb,Rb,rfl,WQ⟩;have Xf:=WJ.aC WQ.ext;have l:=aJ WQ;clear WQ;have Zc:∀i,i<m->(Ra i).b<wa.heap.size:=fun i hi=>by
  obtain⟨cs,WX⟩:=(C.o.row i hi).2.1.blk;exact WX.lt
 have WG:∀i,i<m->wa.heap.size<=(Rb i).b/\(Rb i).b<wb.heap.size:=fun i hi=>by
  obtain⟨cs,WX⟩:=(l.o.row i hi).2.1.blk;exact⟨(l.o.row i hi).2.2,WX.lt⟩
 have Xb:w4.heap.size<=wa.heap.size:=C.o.ext.size;have U:wa.heap.size<=wb.heap.size:=l.o.ext.size;have Xa:=aJ (EI.mk (gf:=gf) (Ga:=Ga) (Gb:=Gb) (m:=m) (na:=m) (nb:=nb) (PA:=fun g=>∃i,i<m/\g=(Ra i).b) (PB:=fun g=>∃i,i<m/\g=(Rb i).b) (Z:=side m X Y) (W:=wb) ((X4.o.ext C.o.ext).ext l.o.ext) ⟨Ra,(C.o.mx l.o.ext).congr fun i j hi hj=>(I9 hj).symm⟩ ⟨Rb,(l.o.mx (Ext.refl _)).congr fun i j hi hj=>(PP).symm⟩);have K:Ga≠Gb:=by have h1:=C.o.o.lt;have h2:=l.o.gx;omega
 have WT:=aJ K;clear K;have XU:=aJ Zc;have Xt:=aJ WG;clear Zc WG;have Xv:=aJ (And.intro Xb U);clear Xb U;(go_wp2_with fail);refine(IX gf Ga Gb m m m m nb N _ _ (fun g=>w4.heap.size<=g) (side m X Y) wb Xa.o WT.o ?_ ⟨C.o.gx,lh Xv.o.1 l.o.gx,?_,?_⟩ (fun h=>h) hm hm WY hN Q.o ?_).mono ?_
 .exact Abu
 .rintro g ⟨i,hi,rfl⟩;exact(C.o.row i hi).2.2
 .rintro g ⟨i,hi,rfl⟩;exact lh Xv.o.1 (Xt.o i hi).1
 .intro w' x;exact MQ ((C.o.mx l.o.ext).ext x) (fun h=>h) m aa
 rintro e w5 ⟨rfl,S,WP⟩;have V:=aJ S;have WU:=aJ (Xr.o.trans (WP.Uy (C.o.ext.trans l.o.ext) (κ _)));have XE:=aJ WP.size;have e0:=S.calm.cell;clear WP;generalize hs:ech m (side m X Y) m=s at XH WS V WE⊢;have HS:=aJ hs;clear hs;by_cases hr:s.r<m
 .have dr:decide ((s.r:Int)<(m:Int))=ε:=ae;have I:=aJ hr;clear hr;(go_wp2_with fail);refine sQ rfl rfl ⟨.inl ⟨?_,rfl⟩,WU.o⟩;rw[HS.o];exact I.o
 .have dr:decide ((s.r:Int)<(m:Int))=ζ:=ae;have Xd:¬((s.r:Int)<(m:Int)):=aa;have I:Hid (s.r=m):=aJ aa;clear hr WE;(go_wp2_with fail);refine(Tv gf Ga Gb m m m nb N Ns Nd Nx _ _ s.X _ V.o ?_ ?_ ?_ hm WY (WS.o I.o) (XH.o I.o)).mono ?_
  .exact Abu
  .rintro g ⟨i,hi,rfl⟩;have h1:=XU.o i hi;have h2:=Xv.o;have h3:=XE.o;omega
  .rintro g ⟨i,hi,rfl⟩;have h1:=(Xt.o i hi).2;have h3:=XE.o;omega
  rintro e w6 ⟨G,RX,rfl,J⟩;have e1:=J.calm.cell;have WK:=J.mod;have WR:Ext w w6:=by
   have L:=WU.o;exact⟨WK.os.trans L.os,WK.tape.trans L.tape,WK.output.trans L.output,lh L.size WK.size,fun k' Xp=>(WK.block k' (π Xp L.size) (by
    rintro⟨i,hi,e⟩;have h1:=(Xt.o i hi).1;have h2:=Xv.o;have h3:=Xr.o.size;omega)).trans (L.block k' Xp)⟩
  have Xi:=aJ WR;have D:=aJ J;clear WR J WK;(go_wp2_with fail);refine sQ rfl rfl ⟨.inr ⟨?_,G,RX,rfl,?_⟩,Xi.o⟩
  .rw[HS.o];exact I.o
  .rw[HS.o];exact⟨D.o.x,fun i hi=>⟨(D.o.row i aa hi).1,(D.o.row i aa hi).2.1,(D.o.row i aa hi).2.2.1,(D.o.row i aa hi).2.2.2.2⟩⟩
structure Imp where
 r:Int
 x:Int
 deriving DecidableEq,Inhabited
structure Il where
 name:ByteArray
 z1:Imp
 z0:Imp
 deriving DecidableEq,Inhabited
structure Fe where
 name:ByteArray
 emf:Int
 z1:Imp
 z0:Imp
 deriving DecidableEq,Inhabited
structure qY where
 bus:Int
 pos:Int
 deriving DecidableEq,Inhabited
structure ig where
 name:ByteArray
 kind:Int
 obj:Int
 en:Int
 z:Imp
 links:List qY
 closed:Bool
 ct:Int
 vt:Int
 sat:Int
 travel:Int
 deriving DecidableEq,Inhabited
structure StD where
 name:ByteArray
 buses:List ByteArray
 lines:List Il
 srcs:List Fe
 bays:List ig
 deriving DecidableEq,Inhabited
structure dR where
 kind:Int
 line:Bool
 obj:Int
 num:Int
 den:Int
 r:Int
 deriving DecidableEq,Inhabited
structure dB where
 closed:List Bool
 links:List (List Int)
 deriving DecidableEq,Inhabited
def dG (E:Nat->Int):Nat->Int
 |0=>0
 |n+1=>if dG E n=0 then E n else dG E n
def cK{E}:∀{n},(∀i,i<n->E i=0)->dG E n=0
 |0,_=>rfl
 |n+1,h=>by
  show(if dG E n=0 then E n else dG E n)=0;rw[cK (fun i hi=>h i aa),ι rfl];exact h n aa
def oI{E}:∀{n},dG E n=0->∀i,i<n->E i=0
 |0,_,i,hi=>absurd hi aa
 |n+1,h,i,hi=>by
  have I:(if dG E n=0 then E n else dG E n)=0:=h;by_cases e:dG E n=0
  .rw[ι e] at I;by_cases Q:i=n
   .rw[Q];exact I
   .exact oI e i aa
  .rw[θ e] at I;exact absurd I e
def Df{E k}(l:∀i,i<k->E i=0)(j:E k≠0):∀{n},k<n->dG E n=E k
 |0,h=>absurd h aa
 |n+1,h=>by
  show(if dG E n=0 then E n else dG E n)=E k;by_cases V:k=n
  .rw[cK (fun i hi=>l i aa),ι rfl,V]
  .rw[Df l j (n:=n) aa,θ j]
def dF (c:Nat):Bool:=(decide (65<=c)&&decide (c<=90))||(decide (97<=c)&&decide (c<=122))
def eu (c:Nat):Bool:=(decide (48<=c)&&decide (c<=57))||decide (c=95)
def vE (s:ByteArray) (i:Nat):Nat:=(s.data.getD i 0).toNat
def iL (s:ByteArray) (i:Nat):Bool:=dF (vE s i)||(decide (0<i)&&eu (vE s i))
def fU (s:ByteArray):Bool:=decide (0<s.size)&&decide (s.size<=12)&&(List.range s.size).all (iL s)
def CS{s}(l:0<s.size)(j:s.size<=12)(h:∀i,i<s.size->iL s i=ε):fU s=ε:=by
 simp only[fU,l,j,adi,abU,nH,aaa];exact h
def dC{s i}(hi:i<s.size)(h:iL s i=ζ):fU s=ζ:=by
 cases j:fU s with
 |false=>rfl
 |true=>
  simp only[fU,τ,nH,aaa] at j;rw[j.2 i hi] at h;cases h
def yD{s}(h:s.size=0\/12<s.size):fU s=ζ:=by
 cases j:fU s with
 |false=>rfl
 |true=>
  simp only[fU,τ,Λ] at j;omega
def btw (n lo hi:Int):Bool:=decide (lo<=n)&&decide (n<=hi)
def fo{n lo hi}:btw n lo hi=ε↔lo<=n/\n<=hi:=by simp[btw]
def okZ (z:Imp):Bool:=btw z.r 0 1000&&btw z.x 1 1000
def FB{z:Imp}:okZ z=ε↔(0<=z.r/\z.r<=1000)/\1<=z.x/\z.x<=1000:=by simp[okZ,btw]
def nms (s:StD) (b l g q:Nat):List ByteArray:=
 s.buses.take b++(s.lines.take l).map Il.name++(s.srcs.take g).map Fe.name++(s.bays.take q).map ig.name
def uI (s:ByteArray):List ByteArray->Bool
 |[]=>ζ
 |x::l=>decide (x=s)||uI s l
def dW (l:List ByteArray) (s:ByteArray):Int:=if fU s=ε then (if uI s l=ε then 8 else 0) else 7
def uW (s:StD) (i:Nat):Int:=dW (nms s i 0 0 0) (s.buses.getD i η)
def lT (s:StD) (i:Nat):Int:=
 let x:=s.lines.getD i η
 let e:=dW (nms s s.buses.length i 0 0) x.name
 if e=0 then (if (okZ x.z1&&okZ x.z0)=ε then 0 else 2) else e
def jE (x:Fe):Bool:=btw x.emf 1 1000000&&okZ x.z1&&okZ x.z0
def tV (s:StD) (i:Nat):Int:=
 let x:=s.srcs.getD i η
 let e:=dW (nms s s.buses.length s.lines.length i 0) x.name
 if e=0 then (if jE x=ε then 0 else 2) else e
def ja (nl ns:Nat) (x:ig):Int:=
 if x.kind=1 then (if btw x.obj 0 ((nl:Int)-1)=ε then 0 else 9)
 else if x.kind=2 then (if btw x.obj 0 ((ns:Int)-1)=ε then 0 else 9)
 else if x.kind=3 then (if x.obj=0 then 0 else 9)
 else 10
def bT (x:ig):Bool:=
 (if x.kind=3 then okZ x.z&&decide (x.vt=0) else decide (x.z=⟨0,0⟩)&&btw x.vt 1 10000)&&
 (btw x.en 0 (if x.kind=1 then 1 else 0)&&btw x.ct 1 100&&btw x.sat 0 16383&&btw x.travel 1 6)
def lU (x y:ig):Bool:=decide (x.kind=y.kind)&&decide (x.obj=y.obj)&&decide (x.en=y.en)
def nQ (l:List ig) (x:ig):Bool:=decide (x.kind≠3)&&l.any (lU x)
def iq (nb:Nat) (x:ig) (i:Nat):Int:=
  let l:=x.links.getD i η
  if btw l.bus 0 ((nb:Int)-1)=ε then
    (if l.pos≠1/\(l.pos≠0\/x.kind=3) then 16
     else if 0<i/\(x.links.getD (i-1) η).bus=l.bus then 12 else 0)
  else 9
def gP (nb:Nat) (x:ig):Int:=
 if x.links.length<1\/2<x.links.length\/(x.kind=3/\x.links.length≠2) then 3 else dG (iq nb x) x.links.length
def sG (s:StD) (i:Nat):Int:=
 let x:=s.bays.getD i η
 if ja s.lines.length s.srcs.length x=0 then
  (if bT x=ε then (if nQ (s.bays.take i) x=ε then 12 else gP s.buses.length x) else 2)
 else ja s.lines.length s.srcs.length x
def vk (s:StD) (i:Nat):Int:=
 let e:=dW (nms s s.buses.length s.lines.length s.srcs.length i) (s.bays.getD i η).name
 if e=0 then sG s i else e
def su (s:StD):Bool:=
 decide (1<=s.buses.length)&&decide (s.buses.length<=4)&&decide (s.lines.length<=6)&&decide (s.srcs.length<=4)&&decide (s.bays.length<=16)
def chk (s:StD):Int:=
 if fU s.name=ε then
  if su s=ε then
   if dG (uW s) s.buses.length=0 then
    if dG (lT s) s.lines.length=0 then
     if dG (tV s) s.srcs.length=0 then dG (vk s) s.bays.length
     else dG (tV s) s.srcs.length
    else dG (lT s) s.lines.length
   else dG (uW s) s.buses.length
  else 3
 else 7
def ic (nb nl:Nat) (f:dR):Int:=
 if f=⟨0,ζ,0,0,0,0⟩ then 0
 else if btw f.kind 1 10=ε then
  if btw f.obj 0 ((if f.line=ε then (nl:Int) else (nb:Int))-1)=ε then
   if f.line=ε/\(f.den<2\/16<f.den\/f.num<1\/f.den-1<f.num) then 2
   else if f.line=ζ/\(f.num≠0\/f.den≠0) then 2
   else if btw f.r 0 1000=ε then 0 else 2
  else 9
 else 10
def Ct (s:StD) (f:dR):Int:=if chk s=0 then ic s.buses.length s.lines.length f else chk s
structure kZ (s:StD):Prop where
 nb:1<=s.buses.length/\s.buses.length<=4
 nl:s.lines.length<=6
 ns:s.srcs.length<=4
 nq:s.bays.length<=16
 line:∀i,i<s.lines.length->okZ (s.lines.getD i η).z1=ε/\okZ (s.lines.getD i η).z0=ε
 src:∀i,i<s.srcs.length->jE (s.srcs.getD i η)=ε
 obj:∀i,i<s.bays.length->ja s.lines.length s.srcs.length (s.bays.getD i η)=0
 rng:∀i,i<s.bays.length->bT (s.bays.getD i η)=ε
 conf:∀i,i<s.bays.length->nQ (s.bays.take i) (s.bays.getD i η)=ζ
 links:∀i,i<s.bays.length->gP s.buses.length (s.bays.getD i η)=0
theorem uS{s}(h:chk s=0):kZ s:=by
 unfold chk at h;split at h
 .split at h
  .rename_i hc
   split at h
   .rename_i D
    split at h
    .rename_i l
     split at h
     .rename_i B
      simp only[su,τ,Λ] at hc;have b (i:Nat) (hi:i<s.bays.length):sG s i=0:=by
       have hb:=oI h i hi;unfold vk at hb;simp only[] at hb;split at hb
       .exact hb
       .exact absurd hb Abn
      refine⟨⟨aa,aa⟩,aa,aa,aa,?_,?_,?_,?_,?_,?_⟩
      .intro i hi;have hb:=oI l i hi;unfold lT at hb;simp only[] at hb;split at hb
       .split at hb
        .rename_i C
         simpa only[τ] using C
        .exact absurd hb aj
       .exact absurd hb Abn
      .intro i hi;have hb:=oI B i hi;unfold tV at hb;simp only[] at hb;split at hb
       .split at hb
        .assumption
        .exact absurd hb aj
       .exact absurd hb Abn
      all_goals
       intro i hi;have hb:=b i hi;unfold sG at hb;simp only[] at hb;split at hb
       .split at hb
        .split at hb
         .exact absurd hb aj
         .first
          |assumption
          |(rename_i j;exact acT.mpr j)
        .exact absurd hb aj
       .exact absurd hb Abn
     .exact absurd h Abn
    .exact absurd h Abn
   .exact absurd h Abn
  .exact absurd h aj
 .exact absurd h aj
def nS (s:StD) (i:Nat) (x:Int):Bool:=decide (x=1)||(decide ((s.bays.getD i η).kind≠3)&&(decide (x=0)||decide (x=2)))
def kF (s:StD) (p:dB):Int:=
 if p.closed.length=s.bays.length/\p.links.length=s.bays.length then
  if (List.range s.bays.length).all (fun i=>decide ((p.links.getD i []).length=(s.bays.getD i η).links.length))=ε then
   if (List.range s.bays.length).all (fun i=>(p.links.getD i []).all (nS s i))=ε then 0 else 16
  else 3
 else 3
def resolve (c:Int) (p:dB):dB:=⟨p.closed,p.links.map (List.map (fun x=>if x=2 then c else x))⟩
def normal (s:StD):dB:=⟨s.bays.map ig.closed,s.bays.map (fun b=>b.links.map qY.pos)⟩
def joins (s:StD) (p:dB) (i:Nat):Bool:=
 decide ((s.bays.getD i η).kind≠3)&&decide ((s.bays.getD i η).links.length=2)&&
 decide ((p.links.getD i []).getD 0 0=1)&&decide ((p.links.getD i []).getD 1 0=1)
def merge (x y:Int) (g:List Int):List Int:=g.map (fun v=>if v=x\/v=y then min x y else v)
def jc (s:StD) (i k:Nat):Nat:=(((s.bays.getD i η).links.getD k η).bus).toNat
def qi (s:StD) (p:dB) (i:Nat) (g:List Int):List Int:=
 if joins s p i=ε then merge (g.getD (jc s i 0) 0) (g.getD (jc s i 1) 0) g else g
def jf (s:StD) (p:dB):Nat->List Int
 |0=>(List.range s.buses.length).map (fun k:Nat=>(k:Int))
 |n+1=>qi s p n (jf s p n)
def groups (s:StD) (p:dB):List Int:=jf s p s.bays.length
def CX (s:StD) (p:dB) (bus:Nat):Int×Int:=(1,(groups s p).getD bus 0)
def uQ (s:StD) (p:dB) (i:Nat):Int×Int:=
 if (p.links.getD i []).getD 0 0=1 then CX s p (jc s i 0)
 else if 1<(s.bays.getD i η).links.length/\(p.links.getD i []).getD 1 0=1 then CX s p (jc s i 1)
 else (0,0)
def sides (s:StD) (p:dB) (i:Nat):(Int×Int)×(Int×Int):=
 if (s.bays.getD i η).kind=3 then (CX s p (jc s i 0),CX s p (jc s i 1))
 else (uQ s p i,((if (s.bays.getD i η).kind=1 then 2 else 3),(s.bays.getD i η).obj))
def Nf{x y}(g):g.map (fun v=>if v=max x y then min x y else v)=merge x y g:=by
 refine acE fun v _=> ?_;by_cases h:v=max x y
 .rw[ι h,ι aa]
 .rw[θ h];by_cases j:v=x\/v=y
  .rw[ι j];omega
  .rw[θ j]
def vY{x y}(g):(merge x y g).length=g.length:=by simp[merge]
theorem jT(s p):∀n,(jf s p n).length=s.buses.length
 |0=>by simp[jf]
 |n+1=>by
  show(qi s p n (jf s p n)).length=_;unfold qi;split
  .rw[vY];exact jT s p n
  .exact jT s p n
def M7 (g:List Int):Prop:=∀k,k<g.length->0<=g.getD k 0/\g.getD k 0<=(k:Int)/\g.getD (g.getD k 0).toNat 0=g.getD k 0
def xP{x y}(g k)(j:k<g.length):(merge x y g).getD k 0=if g.getD k 0=x\/g.getD k 0=y then min x y else g.getD k 0:=by
 simp[merge,ψ,Nq,ο j]
def M7.merge{g:List Int}(h:M7 g){a b:Nat}(ha:a<g.length)(hb:b<g.length):M7 (merge (g.getD a 0) (g.getD b 0) g):=by
 intro k j;rw[vY] at j;have⟨k0,l,V⟩:=h k j;have⟨G,H,D⟩:=h a ha;have⟨F,b1,b2⟩:=h b hb;rw[xP g k j];by_cases e:g.getD k 0=g.getD a 0\/g.getD k 0=g.getD b 0
 .rw[ι e];refine⟨aa,aa,?_⟩;have C:g.getD (min (g.getD a 0) (g.getD b 0)).toNat 0=min (g.getD a 0) (g.getD b 0):=by
   by_cases B:g.getD a 0<=g.getD b 0
   .rw[show min (g.getD a 0) (g.getD b 0)=g.getD a 0 by omega];exact D
   .rw[show min (g.getD a 0) (g.getD b 0)=g.getD b 0 by omega];exact b2
  rw[xP g _ aa,C,ι aa]
 .rw[θ e];refine⟨k0,l,?_⟩;rw[xP g _ aa,V,θ e]
theorem KR{s}(p)(Z:∀i,i<s.bays.length->joins s p i=ε->jc s i 0<s.buses.length/\jc s i 1<s.buses.length):∀n,n<=s.bays.length->M7 (jf s p n)
 |0,_=>by
  intro k D;have l:k<s.buses.length:=by rw[<-jT s p 0];exact D
  have e:∀j,j<s.buses.length->(jf s p 0).getD j 0=(j:Int):=by
   intro j C;simp[jf,ψ,Nq,aaQ C]
  rw[e k l];refine⟨aa,aa,?_⟩;rw[aah];exact e k l
 |n+1,hn=>by
  have B:=KR p Z n aa;show M7 (qi s p n (jf s p n));unfold qi;by_cases C:joins s p n=ε
  .rw[ι C];obtain⟨G,F⟩:=Z n aa C;exact B.merge (by rw[jT];exact G) (by rw[jT];exact F)
  .rw[θ C];exact B
theorem kZ.link{s}(h:kZ s){i}(hi:i<s.bays.length):
  (1<=(s.bays.getD i η).links.length/\(s.bays.getD i η).links.length<=2)/\((s.bays.getD i η).kind=3->(s.bays.getD i η).links.length=2)/\
  ∀k,k<(s.bays.getD i η).links.length->iq s.buses.length (s.bays.getD i η) k=0:=by
 have Z:=h.links i hi;unfold gP at Z;split at Z
 .exact absurd Z aj
 .rename_i hn
  refine⟨⟨aa,aa⟩,fun j=> ?_,oI Z⟩;by_cases e:(s.bays.getD i η).links.length=2
  .exact e
  .exact absurd (Or.inr (Or.inr ⟨j,e⟩)) hn
theorem kZ.bus{s}(h:kZ s){i k}(hi:i<s.bays.length)(j:k<(s.bays.getD i η).links.length):
  ((s.bays.getD i η).links.getD k η).bus=(jc s i k:Nat)/\jc s i k<s.buses.length:=by
 have Z:=(h.link hi).2.2 k j;unfold iq at Z;simp only[] at Z;split at Z
 .rename_i hb
  rw[fo] at hb;unfold jc;omega
 .exact absurd Z aj
def kZ.groups{s:StD}(h:kZ s)(p:dB):M7 (groups s p):=by
 refine KR p (fun i hi j=> ?_) _ (κ _);have T:(s.bays.getD i η).links.length=2:=by
  simp only[joins,τ,Λ] at j;exact j.1.1.2
 exact⟨(h.bus hi aa).2,(h.bus hi aa).2⟩
def uP(s p):(groups s p).length=s.buses.length:=jT s p _
structure BrD where
 a:Nat
 b:Nat
 z0:Imp
 z1:Imp
 n:Int
 d:Int
 emf:Int
 deriving DecidableEq,Inhabited
def ol (s:StD) (p:dB) (i:Nat):Bool:=p.closed.getD i ζ&&decide ((sides s p i).1.1=1)
def lJ (s:StD) (p:dB) (i:Nat):Nat:=13+(sides s p i).1.2.toNat
def sw (s:StD) (p:dB) (l e i:Nat):Bool:=
 ol s p i&&decide ((s.bays.getD i η).kind=1)&&decide ((s.bays.getD i η).obj=(l:Int))&&decide ((s.bays.getD i η).en=(e:Int))
def Cz (s:StD) (p:dB) (l e:Nat):Nat->Nat
 |0=>2*l+e
 |n+1=>if sw s p l e n=ε then lJ s p n else Cz s p l e n
def mJ (s:StD) (p:dB) (l e:Nat):Nat:=Cz s p l e s.bays.length
def iV (s:StD) (p:dB) (i:Nat):Option BrD:=
 let x:=s.bays.getD i η
 if ol s p i=ε then
  if x.kind=2 then
   let g:=s.srcs.getD x.obj.toNat η
   γ ⟨lJ s p i,17,g.z0,g.z1,1,1,g.emf⟩
  else if x.kind=3/\(sides s p i).1≠(sides s p i).2 then
   γ ⟨lJ s p i,13+(sides s p i).2.2.toNat,x.z,x.z,1,1,0⟩
  else δ
 else δ
def fV (s:StD) (p:dB):Nat->List BrD
 |0=>[]
 |n+1=>fV s p n++(iV s p n).toList
def rM (f:dR) (l:Nat):Bool:=f.line&&decide (f.obj=(l:Int))
def half (s:StD) (p:dB) (f:dR) (l e:Nat):BrD:=
 let x:=s.lines.getD l η
 if rM f l=ε then ⟨mJ s p l e,12,x.z0,x.z1,(if e=0 then f.num else f.den-f.num),f.den,0⟩
 else ⟨mJ s p l e,mJ s p l (1-e),x.z0,x.z1,1,1,0⟩
def vC (s:StD) (p:dB) (f:dR) (l:Nat):List BrD:=
 if rM f l=ε then [half s p f l 0,half s p f l 1] else [half s p f l 0]
def jV (s:StD) (p:dB) (f:dR):Nat->List BrD
 |0=>[]
 |n+1=>jV s p f n++vC s p f n
def bX (s:StD) (p:dB) (f:dR):List BrD:=fV s p s.bays.length++jV s p f s.lines.length
def way (s:StD) (p:dB) (f:dR) (i:Nat):Option BrD:=
 if (s.bays.getD i η).kind=1 then γ (half s p f (s.bays.getD i η).obj.toNat (s.bays.getD i η).en.toNat)
 else iV s p i
def dU (s:StD) (p:dB) (f:dR):Nat:=
 if f.line=ε then 12 else if f.kind=0 then 17 else 13+((groups s p).getD f.obj.toNat 0).toNat
def qM (L:Nat->Bool) (b:BrD):Nat->Bool:=
 fun n=>L n||((decide (b.b=17)||L b.a||L b.b)&&decide (n≠17)&&(decide (n=b.a)||decide (n=b.b)))
structure xO (bs:List BrD) (L:Nat->Bool):Prop where
 closed:∀b∈bs,(b.b=17\/L b.a=ε\/L b.b=ε)->(b.a≠17->L b.a=ε)/\(b.b≠17->L b.b=ε)
 none:L 17=ζ
def af6{bs L}(B:L 17=ζ)(h:∀b∈bs,∀n,qM L b n=L n):xO bs L:=by
 refine⟨fun b hb Z=> ?_,B⟩;have ha:=h b hb b.a;have hc:=h b hb b.b;simp only[qM] at ha hc;have J:(decide (b.b=17)||L b.a||L b.b)=ε:=by
  rcases Z with h|h|h<;>simp[h]
 constructor
 .intro hn;cases j:L b.a with
  |true=>rfl
  |false=>rw[J,j] at ha;simp[hn] at ha
 .intro hn;cases j:L b.b with
  |true=>rfl
  |false=>rw[J,j] at hc;simp[hn] at hc
def bS (w:World) (g:Nat):Prop:=Blk w g 109 #[.int .i64 0]
def bS.ext{w w' g}(h:bS w g)(x:Ext w w'):bS w' g:=Blk.ext h x
def qX(g v q n w)(hc:bS w g)(L:GV w v q n):
  CV 172 #[.pointer (γ ⟨g,0,δ⟩),v,.int .i64 0] w fun v w'=>GV w' v q n:=by
 obtain⟨M,G,N,C,V,Q,S,U,Y,H,I,Z,rfl⟩:=L.opn;obtain⟨D,F,j⟩:=an2 w 42 #[.bool M,.slice G N C,.bool V,.slice Q S U,.bool Y,.slice H I Z] 42 #[.bool ζ,.slice δ 0 0,.bool ζ,.slice δ 0 0,.bool ζ,.slice δ 0 0];have P:=Blk.cell hc;have l:=Blk.frozen hc;have B:Ext w (w.setCell ⟨g,0,δ⟩ (.int .i64 0)):=(Ext.refl w).stay hc rfl;have O:=hc.ext B;have R:=Blk.cell O;have K:g<w.heap.size:=Blk.lt hc;have J:=aJ (L.ext B);clear L D F j;go_enter func172,ntmps172;(go_wp2_with fail);exact cO rfl rfl rfl (aeS _ _ Abh) ⟨_,rfl,J.ext ((Ext.new _ _).alloc _),B.trans ((Ext.new _ _).alloc _)⟩
def Ju(g v0 v1 q0 q1 n0 n1 w)(hc:bS w g)(L:GV w v0 q0 n0)(l:GV w v1 q1 n1)(hn:2*max n0 n1+65<=12800):
  CV 134 #[.pointer (γ ⟨g,0,δ⟩),v0,v1,.func (Fn.func 194) #[] #[]] w fun v w'=>GV w' v (q0+q1) (n0+n1+65):=by
 obtain⟨M,G,N,C,V,Q,S,U,Y,WG,WI,Z,rfl⟩:=L.opn;obtain⟨I,WJ,H,K,WK,W,WM,P,WF,WL,WH,R,rfl⟩:=l.opn;have HX:=aJ L;have HY:=aJ l;clear L l;obtain⟨D,F,T,j⟩:=an3 w 42 #[.bool M,.slice G N C,.bool V,.slice Q S U,.bool Y,.slice WG WI Z] 42 #[.bool I,.slice WJ H K,.bool WK,.slice W WM P,.bool WF,.slice WL WH R] 42 #[.bool ζ,.slice δ 0 0,.bool ζ,.slice δ 0 0,.bool ζ,.slice δ 0 0];have O:=hc.ext D;have k0:=Blk.cell O;have k4:=F.cell;have k5:=T.cell;have WE:g<w.heap.size:=Blk.lt hc;go_enter ada,acS;(go_wp2_with fail);refine(Sj _ q0 n0 _ q1 n1 _ (HX.ext D) (HY.ext D) hn).mono ?_;exact AbP
def KI(g v0 v1 q0 q1 n0 n1 w)(hc:bS w g)(L:GV w v0 q0 n0)(l:GV w v1 q1 n1)(hn:2*max n0 n1+65<=12800):
  CV 134 #[.pointer (γ ⟨g,0,δ⟩),v0,v1,.func (Fn.func 135) #[] #[]] w fun v w'=>GV w' v (q0-q1) (n0+n1+65):=by
 obtain⟨M,G,N,C,V,Q,S,U,Y,WG,WI,Z,rfl⟩:=L.opn;obtain⟨I,WJ,H,K,WK,W,WM,P,WF,WL,WH,R,rfl⟩:=l.opn;have HX:=aJ L;have HY:=aJ l;clear L l;obtain⟨D,F,T,j⟩:=an3 w 42 #[.bool M,.slice G N C,.bool V,.slice Q S U,.bool Y,.slice WG WI Z] 42 #[.bool I,.slice WJ H K,.bool WK,.slice W WM P,.bool WF,.slice WL WH R] 42 #[.bool ζ,.slice δ 0 0,.bool ζ,.slice δ 0 0,.bool ζ,.slice δ 0 0];have O:=hc.ext D;have k0:=Blk.cell O;have k4:=F.cell;have k5:=T.cell;have WE:g<w.heap.size:=Blk.lt hc;go_enter ada,acS;(go_wp2_with fail);refine(ME _ q0 n0 _ q1 n1 _ (HX.ext D) (HY.ext D) hn).mono ?_;exact AbP
def IW(g v0 v1 q0 q1 n0 n1 w)(hc:bS w g)(L:GV w v0 q0 n0)(l:GV w v1 q1 n1)(hn:2*max n0 n1+1<=12800):
  CV 134 #[.pointer (γ ⟨g,0,δ⟩),v0,v1,.func (Fn.func 164) #[] #[]] w fun v w'=>GV w' v (q0*q1) (n0+n1+1):=by
 obtain⟨M,G,N,C,V,Q,S,U,Y,WG,WI,Z,rfl⟩:=L.opn;obtain⟨I,WJ,H,K,WK,W,WM,P,WF,WL,WH,R,rfl⟩:=l.opn;have HX:=aJ L;have HY:=aJ l;clear L l;obtain⟨D,F,T,j⟩:=an3 w 42 #[.bool M,.slice G N C,.bool V,.slice Q S U,.bool Y,.slice WG WI Z] 42 #[.bool I,.slice WJ H K,.bool WK,.slice W WM P,.bool WF,.slice WL WH R] 42 #[.bool ζ,.slice δ 0 0,.bool ζ,.slice δ 0 0,.bool ζ,.slice δ 0 0];have O:=hc.ext D;have k0:=Blk.cell O;have k4:=F.cell;have k5:=T.cell;have WE:g<w.heap.size:=Blk.lt hc;go_enter ada,acS;(go_wp2_with fail);refine(P9 _ q0 n0 _ q1 n1 _ (HX.ext D) (HY.ext D) hn).mono ?_;exact AbP
def Ji(g v0 v1 q0 q1 n0 n1 w)(hc:bS w g)(L:GV w v0 q0 n0)(l:GV w v1 q1 n1)(h0:q1≠GQ.i 0 0)(nr)(hn:n0+n1+1<=12800)(Xe:n1+n1+1<=12800)(hb:Bd (q0/q1) nr)(hr:nr<=12800):
  CV 134 #[.pointer (γ ⟨g,0,δ⟩),v0,v1,.func (Fn.func 137) #[] #[]] w fun v w'=>GV w' v (q0/q1) (nr):=by
 obtain⟨M,G,N,C,V,Q,S,U,Y,WG,WI,Z,rfl⟩:=L.opn;obtain⟨I,WJ,H,K,WK,W,WM,P,WF,WL,WH,R,rfl⟩:=l.opn;have HX:=aJ L;have HY:=aJ l;clear L l;have H0:=aJ h0;clear h0;obtain⟨D,F,T,j⟩:=an3 w 42 #[.bool M,.slice G N C,.bool V,.slice Q S U,.bool Y,.slice WG WI Z] 42 #[.bool I,.slice WJ H K,.bool WK,.slice W WM P,.bool WF,.slice WL WH R] 42 #[.bool ζ,.slice δ 0 0,.bool ζ,.slice δ 0 0,.bool ζ,.slice δ 0 0];have O:=hc.ext D;have k0:=Blk.cell O;have k4:=F.cell;have k5:=T.cell;have WE:g<w.heap.size:=Blk.lt hc;go_enter ada,acS;(go_wp2_with fail);refine(QX _ q0 n0 _ q1 n1 _ (HX.ext D) (HY.ext D) H0 nr hn Xe hb hr).mono ?_;exact AbP
def uz(g v0 v1 q0 q1 n0 n1 w)(hc:bS w g)(L:GV w v0 q0 n0)(l:GV w v1 q1 n1)(hn:2*max n0 n1+65<=12800):
  CV 161 #[.pointer (γ ⟨g,0,δ⟩),v0,v1] w fun v w'=>GV w' v (q0+q1) (n0+n1+65):=by
 obtain⟨M,G,N,C,V,Q,S,U,Y,B,WI,Z,rfl⟩:=L.opn;obtain⟨I,WJ,H,K,WK,W,WM,P,WF,WL,WH,R,rfl⟩:=l.opn;have HX:=aJ L;have HY:=aJ l;clear L l;obtain⟨D,F,T,j⟩:=an3 w 42 #[.bool M,.slice G N C,.bool V,.slice Q S U,.bool Y,.slice B WI Z] 42 #[.bool I,.slice WJ H K,.bool WK,.slice W WM P,.bool WF,.slice WL WH R] 42 #[.bool ζ,.slice δ 0 0,.bool ζ,.slice δ 0 0,.bool ζ,.slice δ 0 0];have O:=hc.ext D;have k4:=F.cell;have k5:=T.cell;go_enter func161,ntmps161;(go_wp2_with fail);clear k4 k5 F T;refine(Ju g _ _ q0 q1 n0 n1 _ O (HX.ext D) (HY.ext D) hn).mono ?_;exact Acx
def vQ(g v0 v1 q0 q1 n0 n1 w)(hc:bS w g)(L:GV w v0 q0 n0)(l:GV w v1 q1 n1)(hn:2*max n0 n1+65<=12800):
  CV 89 #[.pointer (γ ⟨g,0,δ⟩),v0,v1] w fun v w'=>GV w' v (q0-q1) (n0+n1+65):=by
 obtain⟨M,G,N,C,V,Q,S,U,Y,B,WI,Z,rfl⟩:=L.opn;obtain⟨I,WJ,H,K,WK,W,WM,P,WF,WL,WH,R,rfl⟩:=l.opn;have HX:=aJ L;have HY:=aJ l;clear L l;obtain⟨D,F,T,j⟩:=an3 w 42 #[.bool M,.slice G N C,.bool V,.slice Q S U,.bool Y,.slice B WI Z] 42 #[.bool I,.slice WJ H K,.bool WK,.slice W WM P,.bool WF,.slice WL WH R] 42 #[.bool ζ,.slice δ 0 0,.bool ζ,.slice δ 0 0,.bool ζ,.slice δ 0 0];have O:=hc.ext D;have k4:=F.cell;have k5:=T.cell;go_enter func89,ntmps89;(go_wp2_with fail);clear k4 k5 F T;refine(KI g _ _ q0 q1 n0 n1 _ O (HX.ext D) (HY.ext D) hn).mono ?_;exact Acx
def EG(g v0 v1 q0 q1 n0 n1 w)(hc:bS w g)(L:GV w v0 q0 n0)(l:GV w v1 q1 n1)(hn:2*max n0 n1+1<=12800):
  CV 127 #[.pointer (γ ⟨g,0,δ⟩),v0,v1] w fun v w'=>GV w' v (q0*q1) (n0+n1+1):=by
 obtain⟨M,G,N,C,V,Q,S,U,Y,B,WI,Z,rfl⟩:=L.opn;obtain⟨I,WJ,H,K,WK,W,WM,P,WF,WL,WH,R,rfl⟩:=l.opn;have HX:=aJ L;have HY:=aJ l;clear L l;obtain⟨D,F,T,j⟩:=an3 w 42 #[.bool M,.slice G N C,.bool V,.slice Q S U,.bool Y,.slice B WI Z] 42 #[.bool I,.slice WJ H K,.bool WK,.slice W WM P,.bool WF,.slice WL WH R] 42 #[.bool ζ,.slice δ 0 0,.bool ζ,.slice δ 0 0,.bool ζ,.slice δ 0 0];have O:=hc.ext D;have k4:=F.cell;have k5:=T.cell;go_enter func127,ntmps127;(go_wp2_with fail);clear k4 k5 F T;refine(IW g _ _ q0 q1 n0 n1 _ O (HX.ext D) (HY.ext D) hn).mono ?_;exact Acx
def xy(g v0 v1 q0 q1 n0 n1 w)(hc:bS w g)(L:GV w v0 q0 n0)(l:GV w v1 q1 n1)(h0:q1≠GQ.i 0 0)(B)(hn:n0+n1+1<=12800)(Xe:n1+n1+1<=12800)(hb:Bd (q0/q1) B)(hr:B<=12800):
  CV 91 #[.pointer (γ ⟨g,0,δ⟩),v0,v1] w fun v w'=>GV w' v (q0/q1) (B):=by
 obtain⟨M,G,N,C,V,Q,S,U,Y,WG,WI,Z,rfl⟩:=L.opn;obtain⟨I,WJ,H,K,WK,W,WM,P,WF,WL,WH,R,rfl⟩:=l.opn;have HX:=aJ L;have HY:=aJ l;clear L l;obtain⟨D,F,T,j⟩:=an3 w 42 #[.bool M,.slice G N C,.bool V,.slice Q S U,.bool Y,.slice WG WI Z] 42 #[.bool I,.slice WJ H K,.bool WK,.slice W WM P,.bool WF,.slice WL WH R] 42 #[.bool ζ,.slice δ 0 0,.bool ζ,.slice δ 0 0,.bool ζ,.slice δ 0 0];have O:=hc.ext D;have k4:=F.cell;have k5:=T.cell;go_enter func91,ntmps91;(go_wp2_with fail);clear k4 k5 F T;refine(Ji g _ _ q0 q1 n0 n1 _ O (HX.ext D) (HY.ext D) h0 B hn Xe hb hr).mono ?_;exact Acx
def Qe(g re im den w)(hc:bS w g)(l0: -9223372036854775808<=re)(u0:re<=9223372036854775807)(l1: -9223372036854775808<=im)(u1:im<=9223372036854775807)(l2: -9223372036854775808<=den)(u2:den<=9223372036854775807)(hd:den≠0):
  CV 133 #[.pointer (γ ⟨g,0,δ⟩),.int .i64 re,.int .i64 im,.int .i64 den] w fun v w'=>GV w' v ⟨(re:Rat)/(den:Rat),(im:Rat)/(den:Rat)⟩ 64:=by
 obtain⟨D,j⟩:=an1 w 42 #[.bool ζ,.slice δ 0 0,.bool ζ,.slice δ 0 0,.bool ζ,.slice δ 0 0];have O:=hc.ext D;have HO:=aJ (fun w=>TP re im den w l0 u0 l1 u1 l2 u2 hd);clear l0 u0 l1 u1 l2 u2 hd;go_enter func133,ntmps133;(go_wp2_with fail);refine(HO.o _).mono ?_;rintro e w2 ⟨v,rfl,⟨u,rfl,P⟩,J⟩;replace D:=D.trans J;replace j:=j.ext J;replace O:=O.ext J;have Xh:=J.size;clear J;obtain⟨Q,R,F,C,H,G,l,L,K,S,N,I,rfl⟩:=P.opn;obtain⟨B,M⟩:=an1 w2 42 #[.bool Q,.slice R F C,.bool H,.slice G l L,.bool K,.slice S N I];have HU:=aJ (P.ext B);clear P;replace D:=D.trans B;replace j:=j.ext B;replace O:=O.ext B;have k7:=M.cell;(go_wp2_with fail);refine(qX g _ _ _ _ O HU.o).mono ?_;rintro e w3 ⟨v,rfl,hv,J⟩;replace D:=D.trans J;replace j:=j.ext J;clear J;obtain⟨WY,WT,WX,Z,WU,W,WS,WZ,U,WW,V,WV,rfl⟩:=hv.opn;have k6:=j.cell;have f6:=j.frozen;obtain⟨p1,p2,T⟩:=eX D aa j hv;have P1:=aJ p1;have P2:=aJ p2;have Y:=aJ T;clear p1 p2 T D j hv;(go_wp2_with fail);exact cO rfl rfl rfl P2.o ⟨_,rfl,Y.o,P1.o⟩
def bW(g m w)(hc:bS w g)(l0: -9223372036854775808<=m)(u0:m<=9223372036854775807):
  CV 88 #[.pointer (γ ⟨g,0,δ⟩),.int .i64 m] w fun v w'=>GV w' v (GQ.i m 0) 64:=by
 obtain⟨D,j⟩:=an1 w 42 #[.bool ζ,.slice δ 0 0,.bool ζ,.slice δ 0 0,.bool ζ,.slice δ 0 0];have O:=hc.ext D;have C:(⟨(m:Rat)/((1:Int):Rat),((0:Int):Rat)/((1:Int):Rat)⟩:GQ)=GQ.i m 0:=by ext<;>simp only[GQ.dE,GQ.dD]<;>grind
 have B:=aJ (fun w hc=>Qe g m 0 1 w hc l0 u0 aa aa aa aa aa);rw[C] at B;clear l0 u0;go_enter func88,ntmps88;(go_wp2_with fail);refine(B.o _ O).mono ?_;rintro e W ⟨v,rfl,hv,J⟩;replace D:=D.trans J;replace j:=j.ext J;clear J;obtain⟨U,P,T,K,Q,H,L,V,F,S,G,R,rfl⟩:=hv.opn;have Y:=j.cell;have Z:=j.frozen;obtain⟨p1,p2,l⟩:=eX D aa j hv;have M:=aJ p1;have N:=aJ p2;have I:=aJ l;clear p1 p2 l D j hv;(go_wp2_with fail);exact cO rfl rfl rfl N.o ⟨_,rfl,I.o,M.o⟩
def ofC (n:Nat) (C:Nat->Value):Array Value:=((List.range n).map C).toArray
def Gt(n C):(ofC n C).size=n:=by simp[ofC]
def BF{n k C}(h:k<n):(ofC n C)[k]? =γ (C k):=by
 simp[ofC,Nq,aaQ h]
def Er{n k C}(h:n<=k):(ofC n C)[k]? =δ:=by
 rw[aaC];rw[Gt];exact h
theorem MU{n C D}(h:∀k,k<n->C k=D k):ofC n C=ofC n D:=by
 unfold ofC;rw[acE (fun k j=>h k (aaa.1 j))]
def Rk{a b:Array Value}(h:∀k:Nat,a[k]? =b[k]?):a=b:=Array.ext_getElem? h
def LA{n k C}(v)(h:k<n):(ofC n C).setIfInBounds k v=ofC n (upd C k v):=by
 refine Rk fun i=> ?_;rw[Array.getElem?_setIfInBounds];by_cases hi:i<n
 .rw[BF hi];by_cases e:k=i
  .subst e;rw[ι rfl,ι (by rw[Gt];exact h),BF h,upd_same]
  .rw[θ e,BF hi,upd_ne (fun h=>e h.symm)]
 .rw[Er aa,θ aa,Er aa]
def EP (C:Nat->Value) (k:Nat):List Value->Nat->Value
 |[]=>C
 |v::vs=>EP (upd C k v) (k+1) vs
def EM:∀(B:List Value) {C:Nat->Value} {k i:Nat},(i<k\/k+B.length<=i)->EP C k B i=C i
 |[],_,_,_,_=>rfl
 |v::B,C,k,i,h=>by
  show EP (upd C k v) (k+1) B i=C i;rw[nC] at h;rw[EM B aa,upd_ne aa]
def LZ:∀(B:List Value) {C:Nat->Value} {k j:Nat} {v:Value},B[j]? =γ v->EP C k B (k+j)=v
 |[],_,_,_,_,h=>by simp at h
 |u::B,C,k,0,v,h=>by
  show EP (upd C k u) (k+1) B (k+0)=v;simp only[adg,aaG] at h;rw[EM B aa,Bn,upd_same,h]
 |u::B,C,k,j+1,v,h=>by
  show EP (upd C k u) (k+1) B (k+(j+1))=v;rw[ace] at h;rw[show k+(j+1)=k+1+j by omega];exact LZ B h
def Dw:∀(B:List Value) {n k:Nat} {C:Nat->Value},k+B.length<=n->fF (ofC n C) k B=ofC n (EP C k B)
 |[],_,_,_,_=>rfl
 |v::B,n,k,C,h=>by
  rw[nC] at h;show fF ((ofC n C).setIfInBounds k v) (k+1) B=_;rw[LA v aa];exact Dw B aa
def fu (w:World) (g:Nat) (t:TypeId) (n:Nat) (C:Nat->Value):Prop:=Blk w g t (ofC n C)
section
variable {w w':World} {g n:Nat} {t:TypeId} {C D:Nat->Value}
def fu.blk(h:fu w g t n C):Blk w g t (ofC n C):=h
def fu.lt(h:fu w g t n C):g<w.heap.size:=Blk.lt h
def fu.ext(h:fu w g t n C)(x:Ext w w'):fu w' g t n C:=Blk.ext h x
def fu.mod{S}(h:fu w g t n C)(m:Mod S w w')(j:¬S g):fu w' g t n C:=Blk.mod h m j
theorem fu.congr(h:fu w g t n C)(e:∀k,k<n->C k=D k):fu w g t n D:=by unfold fu;rw[<-MU e];exact h
def fu.cell(h:fu w g t n C){k}(j:k<n):w.cell? ⟨g,k,δ⟩=γ (C k):=(Blk.cell h k).trans (BF j)
def fu.cell_(h:fu w g t n C){k v}(j:k<n)(hv:C k=v):w.cell? ⟨g,k,δ⟩=γ v:=(h.cell j).trans (by rw[hv])
def fu.frozen(h:fu w g t n C)(k):w.frozen? ⟨g,k,δ⟩=ζ:=Blk.frozen h k
def fu.set(h:fu w g t n C){k}(v)(j:k<n):fu (w.setCell ⟨g,k,δ⟩ v) g t n (upd C k v):=by
 have:=Blk.nL h k v;rw[LA v j] at this;exact this
def fu.puts(h:fu w g t n C){k:Nat}(B:List Value)(j:k+B.length<=n):fu (puts w g k B) g t n (EP C k B):=by
 have:=bY k B h;rw[Dw B j] at this;exact this
def Mod.set{S}(w g k v)(j:S g):Mod S w (w.setCell ⟨g,k,δ⟩ v):=Mod.only (Only.set w g k v) j
def Mod.puts{S:Nat->Prop}(w:World)(g k:Nat)(B:List Value)(j:S g):Mod S w (puts w g k B):=Mod.only (fM w g k B) j
end
def fu.rangeAt{w g n o t C}(h:fu w g t n C){B}(hn:o+B.length<=n)(hv:∀j v,B[j]? =γ v->C (o+j)=v):w.rangeAt g o B:=fun j v l=>by
 have:=(ν.1 l).1;exact h.cell_ aa (hv j v l)
def fu.there{w g n o m t C}(h:fu w g t n C)(hn:o+m<=n):w.there g o m:=fun j l=>
 ⟨by rw[h.cell (k:=o+j) aa];rfl,h.frozen _⟩
def mI(g):∀(B:List Value) (o:Nat) (w:World),w.setCells g o B=puts w g o B
 |[],_,_=>rfl
 |v::B,o,w=>by
  show(w.setCell ⟨g,o,δ⟩ v).setCells g (o+1) B=_;rw[mI g B (o+1)];rfl
def eH{S w0 w w'}(h:Ext w0 w)(m:Mod S w w')(hs:∀k,S k->w0.heap.size<=k):Ext w0 w':=
 ⟨m.os.trans h.os,m.tape.trans h.tape,m.output.trans h.output,lh h.size m.size,fun k j=>(m.block k (π j h.size) (fun e=>by have:=hs k e;omega)).trans (h.block k j)⟩
def mU (v:Value):Bool:=match v with| .int .u32 _=>ζ|_=>ε
def gK (S:Nat->Prop) (w:World):Prop:=∀g,S g->g<w.heap.size->∃(t:TypeId) (cs:Array Value),Blk w g t cs/\∀(j:Nat) (v:Value),cs[j]? =γ v->mU v=ε
def afd{S w g n t C}(h:fu w g t n C)(D:∀k,k<n->mU (C k)=ε)(hS:∀k,S k->k=g):gK S w:=by
 intro k B _;obtain rfl:=hS k B;refine⟨t,_,h.blk,fun j v l=> ?_⟩;by_cases hn:j<n
 .rw[BF hn] at l;injection l with l;rw[<-l];exact D j hn
 .rw[Er aa] at l;cases l
section
variable {S:Nat->Prop} {w w':World}
def RM.fT{A n c l}(h:RM w A n c l)(m:Mod S w w')(hS:gK S w):RM w' A n c l:=by
 refine⟨⟨h.rd.1,fun hn=> ?_⟩,h.dg,h.nc,h.cm⟩;obtain⟨b,o,rfl,B,hc⟩:=h.rd.plain hn;obtain⟨I,x,e,_,J,_,_⟩:=h.at_ hn;have C:¬S b:=by
  intro hs;obtain⟨t,cs,hb,D⟩:=hS b hs B;have:=hc 0 _ (oK J);rw[hb.cell] at this;have:=D _ _ this;cases this
 exact Aa0
def RI.fT{v z}(h:RI w v z)(m:Mod S w w')(hS:gK S w):RI w' v z:=by
 obtain⟨A,n,c,e,h⟩:=h;exact⟨A,n,c,e,h.fT m hS⟩
def GV.fT{v q n}(h:GV w v q n)(m:Mod S w w')(hS:gK S w):GV w' v q n:=by
 obtain⟨a,b,d,⟨s1,A1,n1,c1,s2,A2,n2,c2,s3,A3,n3,c3,e,l,j,B⟩,I,Z⟩:=h;exact⟨a,b,d,⟨s1,A1,n1,c1,s2,A2,n2,c2,s3,A3,n3,c3,e,l.fT m hS,j.fT m hS,B.fT m hS⟩,I,Z⟩
end
def G5(a f):∀b,aO a f++aO b (fun _=>zEn)=aO (a+b) (fun i=>if i<a then f i else zEn)
 |0=>by
  show aO a f++[]=_;rw[aaj];exact zU fun i hi=>by rw[ι hi]
 |b+1=>by
  rw[iN,<-aab,G5 a f b,show a+(b+1)=(a+b)+1 by omega,iN,θ aa]
def afY(w g cs):Mod (fun k=>k=g) w (w.setRow g cs):=Mod.only (Only.setRow w g cs) rfl
def JI{w g t old cs}(h:Blk w g t old):Blk (w.setRow g cs) g t cs:=aeD w g old cs t (0,0) h
theorem Kw{P w ops rest o a Q}(H:o.guard=δ)(s x:Operand)(t)(l:o.op=.call {callee:=.builtin .append,args:= #[s,x],argTypes:= #[t,t]}){B j K w'}(hs:a.eval s=B)(J:a.eval x=j)(C:(Builtin.append_ #[t,t] o.type #[B,j]).run P w=.ok K w')(h:wpList P ops Q rest (a.put o.dst K) w'):wpList P ops Q (o::rest) a w:=by
 refine adZ H fun _ I=> ?_;unfold Oper.wp execOp;simp only[l,Go.resolve,invoke,builtin,aaK,aa7,aaF,List.map_toArray,acQ,List.map_nil,hs,J,C];exact I _ _ h
def afA(x y):x/y=GQ.i 1 0/y*x:=by
 ext<;>simp only[GQ.Az,GQ.vo,GQ.aZ,GQ.aY,GQ.dE,GQ.dD]<;>grind
def agi(a b c:GQ):a*(b/c)=a/c*b:=by
 rw[afA b,afA a,<-GQ.bZ,GQ.eD a,GQ.bZ]
def afQ{x}(h:x≠GQ.i 0 0):x/x=GQ.i 1 0:=by
 have:=GQ.Lb (x:=GQ.i 1 0) h;rw[GQ.jK] at this;exact this
def agb: -(GQ.i 0 0)=GQ.i 0 0:=by(ext<;>simp only[GQ.bR,GQ.bN,GQ.dO,GQ.dQ,GQ.aZ,GQ.aY,GQ.kI,GQ.kN,GQ.dE,GQ.dD]<;>grind)
def agj(x:GQ): - -x=x:=by(ext<;>simp only[GQ.bR,GQ.bN,GQ.dO,GQ.dQ,GQ.aZ,GQ.aY,GQ.kI,GQ.kN,GQ.dE,GQ.dD]<;>grind)
def afc{x y}(h:x-y=GQ.i 0 0):x=y:=by
 have a:=congrArg GQ.re h;have b:=congrArg GQ.im h;simp only[GQ.dO,GQ.dQ,GQ.dE,GQ.dD] at a b;ext<;>grind
def Spn (v:Nat->GQ) (P:List (Nat->GQ)):Prop:=∀cs,det (v::P) cs=GQ.i 0 0
def Spn.more{v b P}(h:Spn v P):Spn v (b::P):=by
 intro cs;rw[vZ];have:det (v::P)=fun _=>GQ.i 0 0:=funext h;show-bU b (det (v::P)) cs=_;rw[this,mE,agb]
def afC{y a P}(h:Says y a P):Spn y (a::P):=fun cs=>by
 rw[h.more cs,qK a (a::P) cs (wN)]
def Spn.VS{x y P}(J:Spn x P)(R:Spn y P)(f):Spn (fun c=>x c-f*y c) P:=fun cs=>by
 have j:det ((fun c=>x c-f*y c)::P) cs=det (x::P) cs-f*det (y::P) cs:=xh x y f cs (det P);rw[j,J cs,R cs,GQ.bJ,GQ.eP]
def Spn.Pe{x P}(J:Spn x P)(f):Spn (fun c=>x c/f) P:=fun cs=>by
 have e:(fun c=>x c/f)=fun c=>GQ.i 1 0/f*x c:=funext fun c=>afA _ _;rw[e];have j:det ((fun c=>GQ.i 1 0/f*x c)::P) cs=GQ.i 1 0/f*det (x::P) cs:=rH _ _ _;rw[j,J cs,GQ.bJ]
def Dr{v}:∀(cs:List Nat) (k:Nat) (D:List Nat->GQ),k<cs.length->(∀t d,cs[t]? =γ d->v d=if t=k then GQ.i 1 0 else GQ.i 0 0)->bU v D cs=D (cs.eraseIdx k)\/bU v D cs= -D (cs.eraseIdx k)
 |[],k,D,hk,_=>by simp at hk
 |c::cs,0,D,_,h=>by
  left
  show v c*D cs-bU v (fun l=>D (c::l)) cs=D cs;rw[h 0 c rfl,ι rfl,GQ.jK,mD cs _ (fun d hd=>by
   obtain⟨t,j⟩:=abQ hd;rw[h (t+1) d j,θ aa]),GQ.eP]
 |c::cs,k+1,D,hk,h=>by
  have hv:v c=GQ.i 0 0:=by rw[h 0 c rfl,θ aa]
  have B:=Dr (v:=v) cs k (fun l=>D (c::l)) (by simpa using hk) (fun t d j=>by
   rw[h (t+1) d j];by_cases e:t=k
   .rw[ι aa,ι e]
   .rw[θ aa,θ e])
  have e:bU v D (c::cs)= -bU v (fun l=>D (c::l)) cs:=by
   show v c*D cs-bU v (fun l=>D (c::l)) cs=_;rw[hv,GQ.eY,GQ.Nr]
  rw[e];rcases B with B|B
  .right;rw[B];rfl
  .left;rw[B,agj];rfl
def Spn.entry{v P q k}(h:Spn v P)(B:k<q.length)(hq:∀t d,q[t]? =γ d->v d=if t=k then GQ.i 1 0 else GQ.i 0 0)(j):
  v j*det P q=det P (j::q.eraseIdx k)\/v j*det P q= -det P (j::q.eraseIdx k):=by
 have e:v j*det P q=bU v (fun l=>det P (j::l)) q:=afc (h (j::q));rw[e];exact Dr q k _ B hq
def Wh.neg{x B}(h:Wh x B):Wh (-x) B:=by
 obtain⟨a,b,rfl,j⟩:=h;exact⟨-a,-b,by(ext<;>simp only[GQ.bR,GQ.bN,GQ.dO,GQ.dQ,GQ.aZ,GQ.aY,GQ.kI,GQ.kN,GQ.dE,GQ.dD]<;>grind),aa⟩
def red (Y:Nat->Nat->GQ) (r c:Nat):Nat->Nat->GQ:=fun i j=>if i=r then Y r j/Y r c else Y i j-Y i c*(Y r j/Y r c)
structure Rc where
 r:Nat
 X:Nat->Nat->GQ
 d:GQ
def Bg (m c:Nat) (s:Rc):Rc:=
 match fp s.X c (m-s.r) s.r with
 |none=>s
 |some k=>⟨s.r+1,red (fun i=>s.X (swp k s.r i)) s.r c,(if k=s.r then s.d else s.d*GQ.i (-1) 0)*s.X k c⟩
def ny (m:Nat) (X:Nat->Nat->GQ):Nat->Rc
 |0=>⟨0,X,GQ.i 1 0⟩
 |c+1=>Bg m c (ny m X c)
theorem Jz{m c}{s:Rc}(h:fp s.X c (m-s.r) s.r=δ):Bg m c s=s:=by unfold Bg;rw[h]
theorem Je{m c k}{s:Rc}(h:fp s.X c (m-s.r) s.r=γ k):Bg m c s=⟨s.r+1,red (fun i=>s.X (swp k s.r i)) s.r c,(if k=s.r then s.d else s.d*GQ.i (-1) 0)*s.X k c⟩:=by unfold Bg;rw[h]
def zh(m Z):∀c,(ech m Z c).r<=c
 |0=>κ _
 |c+1=>by
  have B:=zh m Z c;show(jR m c (ech m Z c)).r<=c+1;cases j:fp (ech m Z c).X c (m-(ech m Z c).r) (ech m Z c).r with
  |none=>rw[eQ j];omega
  |some k=>rw[dL j];show(ech m Z c).r+1<=c+1;omega
def yF{X Y}:∀{k:Nat},(∀i,i<k->X i i=Y i i)->qO X k=qO Y k
 |0,_=>rfl
 |k+1,h=>by
  show qO X k*X k k=qO Y k*Y k k;rw[yF (fun i hi=>h i aa),h k aa]
structure RInv (m:Nat) (X0:Nat->Nat->GQ) (c:Nat) (s:Ec) (t:Rc) (o:Nat->Nat) (P:List (Nat->GQ)):Prop where
 inv:Inv m X0 c s o P
 re:t.r=s.r
 lo:∀i,s.r<=i->i<m->t.X i=s.X i
 sp:∀i,i<s.r->Spn (t.X i) P
 un:∀i,i<s.r->∀k d,s.q[k]? =γ d->t.X i d=if k+i+1=s.r then GQ.i 1 0 else GQ.i 0 0
 dd:t.d=if s.odd then-det P s.q else det P s.q
 pp:s.r=c->qO s.X c=det P s.q
def afB(m l):RInv m l 0 (ech m l 0) (ny m l 0) (fun i=>i) []:=
 ⟨afq m l,rfl,fun _ _ _=>rfl,fun i hi=>absurd hi (acy i),fun i hi=>absurd hi (acy i),rfl,fun _=>rfl⟩
theorem RInv.step{m c l}{s:Ec}{t:Rc}{o P}(h:RInv m l c s t o P)(D:s.r<=c):(fp s.X c (m-s.r) s.r=δ/\RInv m l (c+1) (jR m c s) (Bg m c t) o P)\/∃k,fp s.X c (m-s.r) s.r=γ k/\RInv m l (c+1) (jR m c s) (Bg m c t) (fun i=>o (swp k s.r i)) (l (o k)::P):=by
 have Xg:=h.inv.rm;cases T:fp s.X c (m-s.r) s.r with
 |none=>
  have K:fp t.X c (m-t.r) t.r=δ:=by
   rw[h.re];refine zy fun i R Q=> ?_;rw[h.lo i R aa];exact pK T i R Q
  have Y:Inv m l (c+1) s o P:=⟨h.inv.rm,h.inv.pl,h.inv.ql,h.inv.ne,fun d hd=>aci (h.inv.qc d hd),h.inv.pm,h.inv.om,h.inv.sy,fun i j R Q h3=>by
   by_cases e:j=c
   .subst e;exact pK T i R aa
   .exact h.inv.z i j R Q aa⟩
  rw[eQ T,Jz K];exact .inl ⟨rfl,Y,h.re,h.lo,h.sp,h.un,h.dd,fun e=>aa⟩
 |some k=>
  obtain⟨S,V,W,k4⟩:=iD T;have O:k<m:=aa;have I:∀i,s.r<=i->i<m->t.X i=s.X i:=h.lo;have K:fp t.X c (m-t.r) t.r=γ k:=by
   rw[h.re];refine zo S aa (fun i R Q=> ?_) ?_
   .rw[I i R aa];exact k4 i R Q
   .rw[I k S O];exact W
  have L:=(h.inv.sy k S aa).entry (fun d hd=>h.inv.z k d S aa (h.inv.qc d hd)) c;have G:Spn (s.X k) (l (o k)::P):=afC (h.inv.sy k S aa);have N:∀d∈s.q,s.X k d=GQ.i 0 0:=fun d hd=>h.inv.z k d S O (h.inv.qc d hd);have B:swp k s.r s.r=k:=nU _ _;have H:∀i,i<s.r->swp k s.r i=i:=fun i hi=>vJ aa aa;have F:∀i,s.r<i->i<m->s.r<=swp k s.r i/\swp k s.r i<m:=fun i R Q=>⟨by unfold swp;split<;>(try split)<;>omega,lM O aa Q⟩;have Y:Inv m l (c+1) (jR m c s) (fun i=>o (swp k s.r i)) (l (o k)::P):=by
   rw[dL T];refine⟨by show s.r+1<=m;omega,by simp[h.inv.pl],by simp[h.inv.ql],?_,?_,?_,?_,?_,?_⟩
   .show det (l (o k)::P) (c::s.q)≠_;rw[L];exact GQ.iK W h.inv.ne
   .intro d hd;rcases pq.1 hd with rfl|hd
    .omega
    .exact aci (h.inv.qc d hd)
   .intro p hp;rcases pq.1 hp with rfl|hp
    .exact⟨o k,h.inv.om k aa,rfl⟩
    .exact h.inv.pm p hp
   .intro i hi;exact h.inv.om _ (lM aa aa hi)
   .intro i R Q;have C:s.r<i:=R;have e:(clr (fun i=>s.X (swp k s.r i)) s.r c) i=fun j=>s.X (swp k s.r i) j-(s.X (swp k s.r i) c/s.X k c)*s.X k j:=by
     funext j;unfold clr;rw[ι C];simp only[B]
    show Says ((clr (fun i=>s.X (swp k s.r i)) s.r c) i) _ _;rw[e];exact Says.step (h.inv.sy _ (F i C Q).1 (F i C Q).2) (h.inv.sy k S aa) _
   .intro i j R Q h3;have C:s.r<i:=R;show(clr (fun i=>s.X (swp k s.r i)) s.r c) i j=_;unfold clr;rw[ι C];simp only[B];by_cases e:j=c
    .subst e;rw[ae5 W,GQ.qJ]
    .rw[h.inv.z _ j (F i C Q).1 (F i C Q).2 aa,h.inv.z k j S aa aa,GQ.bJ,GQ.eP]
  rw[Je K];refine .inr ⟨k,rfl,Y,?_,?_,?_,?_,?_,?_⟩
  .rw[dL T];show t.r+1=s.r+1;rw[h.re]
  .rw[dL T];intro i R Q;have C:s.r<i:=R;funext j;show red (fun i=>t.X (swp k t.r i)) t.r c i j=clr (fun i=>s.X (swp k s.r i)) s.r c i j;rw[h.re];unfold red clr;rw[θ aa,ι C];simp only[B];rw[I _ (F i C Q).1 (F i C Q).2,I k S O,agi]
  .rw[dL T];intro i hi;have M:i<s.r+1:=hi;show Spn (red (fun i=>t.X (swp k t.r i)) t.r c i) _;rw[h.re];by_cases e:i=s.r
   .subst e;have U:red (fun i=>t.X (swp k s.r i)) s.r c s.r=fun j=>s.X k j/s.X k c:=by
     funext j;unfold red;rw[ι rfl];simp only[B];rw[I k S O]
    rw[U];exact G.Pe _
   .have U:red (fun i=>t.X (swp k s.r i)) s.r c i=fun j=>t.X i j-t.X i c*(s.X k j/s.X k c):=by
     funext j;unfold red;rw[θ e];simp only[B];rw[I k S O,H i aa]
    rw[U];exact(h.sp i aa).more.VS (G.Pe _) _
  .rw[dL T];intro i hi n d hd;have M:i<s.r+1:=hi;show red (fun i=>t.X (swp k t.r i)) t.r c i d=if n+i+1=s.r+1 then _ else _;rw[h.re];by_cases e:i=s.r
   .subst e;have U:red (fun i=>t.X (swp k s.r i)) s.r c s.r d=s.X k d/s.X k c:=by
     unfold red;rw[ι rfl];simp only[B];rw[I k S O]
    rw[U]
    match n,hd with
    |0,hd=>
     obtain rfl:c=d:=by simpa using hd
     rw[ι aa,afQ W]
    |n+1,hd=>
     have hd':s.q[n]? =γ d:=by simpa using hd
     rw[θ aa,N d (y7 hd'),afp]
   .have U:red (fun i=>t.X (swp k s.r i)) s.r c i d=t.X i d-t.X i c*(s.X k d/s.X k c):=by
     unfold red;rw[θ e];simp only[B];rw[I k S O,H i aa]
    rw[U]
    match n,hd with
    |0,hd=>
     obtain rfl:c=d:=by simpa using hd
     rw[θ aa,afQ W,GQ.kD,GQ.qJ]
    |n+1,hd=>
     have hd':s.q[n]? =γ d:=by simpa using hd
     rw[N d (y7 hd'),afp,GQ.bJ,GQ.eP,h.un i aa n d hd'];by_cases e3:n+i+1=s.r
     .rw[ι e3,ι aa]
     .rw[θ e3,θ aa]
  .rw[dL T];show(if k=t.r then t.d else t.d*GQ.i (-1) 0)*t.X k c=if (s.odd^^decide (k≠s.r)) then-det (l (o k)::P) (c::s.q) else det (l (o k)::P) (c::s.q);rw[L,I k S O,h.re,h.dd];generalize s.X k c=x;generalize det P s.q=y;by_cases e:k=s.r
   .have J:(s.odd^^decide (k≠s.r))=s.odd:=by simp[e]
    rw[ι e,J];cases s.odd
    .show y*x=x*y;exact GQ.eD _ _
    .show-y*x= -(x*y)
     (ext<;>simp only[GQ.bR,GQ.bN,GQ.dO,GQ.dQ,GQ.aZ,GQ.aY,GQ.kI,GQ.kN,GQ.dE,GQ.dD]<;>grind)
   .have J:(s.odd^^decide (k≠s.r))= !s.odd:=by simp[e]
    rw[θ e,J];cases s.odd
    .show y*GQ.i (-1) 0*x= -(x*y)
     (ext<;>simp only[GQ.bR,GQ.bN,GQ.dO,GQ.dQ,GQ.aZ,GQ.aY,GQ.kI,GQ.kN,GQ.dE,GQ.dD]<;>grind)
    .show-y*GQ.i (-1) 0*x=x*y
     (ext<;>simp only[GQ.bR,GQ.bN,GQ.dO,GQ.dQ,GQ.aZ,GQ.aY,GQ.kI,GQ.kN,GQ.dE,GQ.dD]<;>grind)
  .rw[dL T];intro e;have Z:s.r=c:=by have:s.r+1=c+1:=e;omega
   show qO (clr (fun i=>s.X (swp k s.r i)) s.r c) c*clr (fun i=>s.X (swp k s.r i)) s.r c c c=det (l (o k)::P) (c::s.q);rw[L,<-h.pp Z];have a1:clr (fun i=>s.X (swp k s.r i)) s.r c c c=s.X k c:=by
    unfold clr;rw[θ aa];simp only[];rw[<-Z,B]
   have a2:qO (clr (fun i=>s.X (swp k s.r i)) s.r c) c=qO s.X c:=yF fun i hi=>by
    unfold clr;rw[θ aa];simp only[];rw[H i aa]
   rw[a1,a2,GQ.eD]
def Out.mem{W G m n RX X}(h:Out W G m n RX X)(K:m<=1000)(hn:n<=1000):∃(R:Nat->Rw) (E:Nat->Nat->En),Mem W (γ ⟨G,0,δ⟩) G 0 m R E/\(∀i,i<m->(R i).n=n)/\∀i j,i<m->j<n->GV W (E i j).v (X i j) 12800:=by
 have hc:∀i,∃f:Nat->En,i<m->Blk W (RX i).b 42 (aO n f).toArray/\∀j,j<n->GV W (f j).v (X i j) 12800:=fun i=>by
  by_cases hi:i<m
  .obtain⟨f,I,F⟩:=(h.row i hi).2.2.2;exact⟨f,fun _=>⟨I,F⟩⟩
  .exact⟨fun _=>zEn,fun h=>absurd h hi⟩
 obtain⟨E,D⟩:=Classical.axiomOfChoice hc;refine⟨fun i=>⟨(RX i).A,(RX i).b,0,(RX i).n,(RX i).c⟩,E,⟨fun _=>rfl,fun i hi=> ?_,fun i hi _=>(h.row i hi).1,fun i j hi B t u C=> ?_,aa,fun i hi=> ?_⟩,fun i hi=>(h.row i hi).2.1,fun i j hi B=>(D i hi).2 j B⟩
 .rw[h.x.cell,aaA,iM hi];rfl
 .have l:j<n:=by have:=(h.row i hi).2.1;have J:j<(RX i).n:=B;omega
  have H:t<6:=(ν.1 C).1;show W.cell? ⟨(RX i).b,0+(j*6+t),δ⟩=γ u;rw[aaA,(D i hi).1.cell,Ω,dN H l];exact C
 .have:=(h.row i hi).2.1;show(RX i).n<=_;omega
def D6{a b n}(ha:a.natAbs<2^n)(hb:b.natAbs<2^n)(hn:1<=n):Bd (GQ.i a b) n:=by
 refine⟨a,b,1,KD a b,ha,hb,?_⟩;have:2^1<=2^n:=Ab aa hn;show(1:Int).natAbs<2^n;simp;omega
def mx2 (a b c d:GQ):Nat->Nat->GQ:=fun i j=>if i=0 then (if j=0 then a else b) else (if j=0 then c else d)
def kA:Nat->Nat->GQ:=mx2 (GQ.i 0 0) (GQ.i 1 0) (GQ.i 1 0) (GQ.i 0 0)
def kB:Nat->Nat->GQ:=mx2 (GQ.i 5 0) (GQ.i 5 0) (GQ.i 7 0) (GQ.i 7 0)
def kp(k)(j:k<=2):Bd (qO (ech 2 kA 2).X k) 64:=by
 match k,j with
 |0,_=>rw[show qO (ech 2 kA 2).X 0=GQ.i 1 0 by decide+kernel];exact D6 aj aj aj
 |1,_=>rw[show qO (ech 2 kA 2).X 1=GQ.i 1 0 by decide+kernel];exact D6 aj aj aj
 |2,_=>rw[show qO (ech 2 kA 2).X 2=GQ.i 1 0 by decide+kernel];exact D6 aj aj aj
def kd(i)(hi:i<2):Bd ((ech 2 kA 2).X i i) 64:=by
 match i,hi with
 |0,_=>rw[show(ech 2 kA 2).X 0 0=GQ.i 1 0 by decide+kernel];exact D6 aj aj aj
 |1,_=>rw[show(ech 2 kA 2).X 1 1=GQ.i 1 0 by decide+kernel];exact D6 aj aj aj
def oL (X Y:Nat->Nat->GQ) (i j:Nat):Nat->GQ
 |0=>GQ.i 0 0
 |s+1=>oL X Y i j s+X i s*Y s j
def D2 (X:Nat->Nat->GQ):GQ:=X 0 0*X 1 1-X 0 1*X 1 0
def D3 (X:Nat->Nat->GQ):GQ:=X 0 0*(X 1 1*X 2 2-X 1 2*X 2 1)-X 0 1*(X 1 0*X 2 2-X 1 2*X 2 0)+X 0 2*(X 1 0*X 2 1-X 1 1*X 2 0)
def d3 (a b c d e f g h i:GQ):GQ:=a*(e*i-f*h)-b*(d*i-f*g)+c*(d*h-e*g)
theorem LC(m X):∀c,(ech m X c).r=c->∀i j,i<m->j<i->j<c->(ech m X c).X i j=GQ.i 0 0
 |0,_,i,j,_,_,h=>aa
 |c+1,h,i,j,hi,hji,hjc=>by
  have D:=Fv m X c;by_cases l:c+1<=i
  .obtain⟨o,P,C⟩:=oz m X (c+1);exact C.z i j aa hi hjc
  have e:ech m X (c+1)=jR m c (ech m X c):=rfl;rw[e] at h⊢;cases B:fp (ech m X c).X c (m-(ech m X c).r) (ech m X c).r with
  |none=>rw[eQ B] at h;omega
  |some k=>
   rw[dL B] at h⊢;have G:(ech m X c).r=c:=by have I:(ech m X c).r+1=c+1:=h;omega
   obtain⟨H,J,L,K⟩:=iD B;show clr (fun i=>(ech m X c).X (swp k (ech m X c).r i)) (ech m X c).r c i j=_;rw[G] at H⊢;unfold clr;rw[θ aa];show(ech m X c).X (swp k c i) j=_;by_cases F:i=c
   .subst F;rw[nU];obtain⟨o,P,C⟩:=oz m X i;exact C.z k j aa aa aa
   .rw[vJ aa F];exact LC m X c G i j hi hji aa
def F3:Nat->Nat:=fun k=>if k=0 then 402 else if k=1 then 1607 else 3617
theorem Iu(m X c):∀d,c<=d->∀i,i<(ech m X c).r->(ech m X d).X i=(ech m X c).X i/\(ech m X c).r<=(ech m X d).r
 |0,hd,i,hi=>by rw[show c=0 by omega] at hi⊢;exact⟨rfl,κ _⟩
 |d+1,hd,i,hi=>by
  by_cases e:c=d+1
  .rw[e];exact⟨rfl,κ _⟩
  .obtain⟨C,B⟩:=Iu m X c d aa i hi;have D:ech m X (d+1)=jR m d (ech m X d):=rfl;rw[D,<-C];cases l:fp (ech m X d).X d (m-(ech m X d).r) (ech m X d).r with
   |none=>rw[eQ l];exact⟨rfl,B⟩
   |some k=>
    obtain⟨F,V,G,H⟩:=iD l;rw[dL l];refine⟨?_,by show(ech m X c).r<=(ech m X d).r+1;omega⟩;funext j;show clr (fun i=>(ech m X d).X (swp k (ech m X d).r i)) (ech m X d).r d i j=_;unfold clr;rw[θ aa];show(ech m X d).X (swp k (ech m X d).r i) j=_;rw[vJ aa aa]
def OU(m X c):∀e,(ech m X (c+e)).r<=(ech m X c).r+e
 |0=>κ _
 |e+1=>by
  have B:=OU m X c e;show(jR m (c+e) (ech m X (c+e))).r<=_;cases j:fp (ech m X (c+e)).X (c+e) (m-(ech m X (c+e)).r) (ech m X (c+e)).r with
  |none=>rw[eQ j];omega
  |some k=>rw[dL j];show(ech m X (c+e)).r+1<=_;omega
def yw{m X}(h:¬(ech m X m).r<m){k}(l:k<=m):(ech m X k).r=k:=by
 have B:=zh m X k;have j:=OU m X k (m-k);rw[show k+(m-k)=m by omega] at j;omega
def Qu{A B c n k}(h:∀i,k<=i->i<k+n->A i c=B i c):fp A c n k=fp B c n k:=by
 cases D:fp B c n k with
 |none=>exact zy fun i j l=>by rw[h i j l];exact pK D i j l
 |some p=>
  obtain⟨C,V,F,G⟩:=iD D;exact zo C V (fun i j l=>by rw[h i j aa];exact G i j l) (by rw[h p C V];exact F)
theorem Dx{m n A B}(h:∀i j,i<m->j<n->A i j=B i j):∀c,c<=n->(ech m A c).r=(ech m B c).r/\(ech m A c).odd=(ech m B c).odd/\∀i j,i<m->j<n->(ech m A c).X i j=(ech m B c).X i j
 |0,_=>⟨rfl,rfl,h⟩
 |c+1,hc=>by
  obtain⟨C,H,l⟩:=Dx h c aa;have M:ech m A (c+1)=jR m c (ech m A c):=rfl;have I:ech m B (c+1)=jR m c (ech m B c):=rfl;obtain⟨o,P,J⟩:=oz m B c;have K:=J.rm;have F:fp (ech m A c).X c (m-(ech m A c).r) (ech m A c).r=fp (ech m B c).X c (m-(ech m B c).r) (ech m B c).r:=by
   rw[C];exact Qu fun i _ hi=>l i c aa aa
  rw[M,I];cases D:fp (ech m B c).X c (m-(ech m B c).r) (ech m B c).r with
  |none=>rw[eQ (F.trans D),eQ D];exact⟨C,H,l⟩
  |some k=>
   obtain⟨L,V,N,O⟩:=iD D;rw[dL (F.trans D),dL D];refine⟨by show _+1=_+1;rw[C],by show(_^^_)=(_^^_);rw[C,H],fun i j hi G=> ?_⟩;show clr (fun i=>(ech m A c).X (swp k (ech m A c).r i)) (ech m A c).r c i j=clr (fun i=>(ech m B c).X (swp k (ech m B c).r i)) (ech m B c).r c i j;rw[C];have hs:∀i,i<m->swp k (ech m B c).r i<m:=fun i hi=>lM aa aa hi;unfold clr;by_cases e:(ech m B c).r<i
   .rw[ι e,ι e];simp only[];rw[l _ j (hs i hi) G,l _ c (hs i hi) aa,l _ c (hs _ aa) aa,l _ j (hs _ aa) G]
   .rw[θ e,θ e];exact l _ j (hs i hi) G
def Kc{m X Y}:∀c,c<=m->(ech m (side m X Y) c).r=(ech m X c).r/\(ech m (side m X Y) c).odd=(ech m X c).odd/\∀i j,i<m->j<m->(ech m (side m X Y) c).X i j=(ech m X c).X i j:=
 Dx fun i j _ l=>I9 l
structure K8 (m:Nat) (X0:Nat->Nat->GQ) (c:Nat) (s:Ec) (t:Rc) (o:Nat->Nat) (P:List (Nat->GQ)):Prop where
 r:RInv m X0 c s t o P
 cov:∀p,p<m->X0 p∈P\/∃i,s.r<=i/\i<m/\o i=p
 sp:∀i,i<s.r->Spn (s.X i) P
 qd:s.r=c->∀k,k<c->s.q[k]? =γ (c-1-k)
theorem kS(m l):∀c,∃o P,K8 m l c (ech m l c) (ny m l c) o P
 |0=>⟨_,_,afB m l,fun p hp=> .inr ⟨p,y5 _,hp,rfl⟩,fun i hi=>absurd hi (acy i),fun _ k K=>absurd K (acy k)⟩
 |c+1=>by
  obtain⟨o,P,h⟩:=kS m l c;have D:=zh m l c;have G:ech m l (c+1)=jR m c (ech m l c):=rfl;rcases h.r.step D with ⟨C,H⟩|⟨k,C,H⟩
  .refine⟨o,P,H,?_,?_,?_⟩
   .rw[G,eQ C];exact h.cov
   .rw[G,eQ C];exact h.sp
   .rw[G,eQ C];intro e;omega
  .obtain⟨J,V,R,S⟩:=iD C;have O:=h.r.inv.rm;refine⟨_,_,H,?_,?_,?_⟩
   .rw[G,dL C];intro p hp;rcases h.cov p hp with hc|⟨i,Q,N,I⟩
    .exact .inl (nG _ hc)
    .by_cases e:i=k
     .subst e;subst I;exact .inl wN
     .right
      refine⟨swp k (ech m l c).r i,?_,lM aa aa N,by simp only[Ea];exact I⟩;show(ech m l c).r+1<=_;by_cases B:i=(ech m l c).r
      .rw[B,nU];omega
      .rw[vJ e B];omega
   .rw[G,dL C];intro i hi;have M:i<(ech m l c).r+1:=hi;by_cases e:i=(ech m l c).r
    .have B:clr (fun i=>(ech m l c).X (swp k (ech m l c).r i)) (ech m l c).r c i=(ech m l c).X k:=by
      funext j;unfold clr;rw[θ aa];simp only[];rw[e,nU]
     show Spn (clr (fun i=>(ech m l c).X (swp k (ech m l c).r i)) (ech m l c).r c i) _;rw[B];exact afC (h.r.inv.sy k J aa)
    .have B:clr (fun i=>(ech m l c).X (swp k (ech m l c).r i)) (ech m l c).r c i=(ech m l c).X i:=by
      funext j;unfold clr;rw[θ aa];simp only[];rw[vJ aa e]
     show Spn (clr (fun i=>(ech m l c).X (swp k (ech m l c).r i)) (ech m l c).r c i) _;rw[B];exact(h.sp i aa).more
   .rw[G,dL C];intro e F L;have B:(ech m l c).r=c:=by have:(ech m l c).r+1=c+1:=e;omega
    show(c::(ech m l c).q)[F]? =_
    match F with
    |0=>rw[show c+1-1-0=c by omega];rfl
    |F+1=>
     have:=h.qd B F aa;rw[show c+1-1-(F+1)=c-1-F by omega];exact this
def Spn.zero{v P q}(h:Spn v P)(C:det P q≠GQ.i 0 0)(D:∀c∈q,v c=GQ.i 0 0)(j):v j=GQ.i 0 0:=by
 have e:v j*det P q=bU v (fun l=>det P (j::l)) q:=afc (h (j::q));rw[mD q _ D] at e;rcases aem (v j=GQ.i 0 0) with B|B
 .exact B
 .exact absurd e (GQ.iK B C)
def rest (v:Nat->GQ) (T:Nat->Nat->GQ):Nat->Nat->GQ
 |0=>v
 |s+1=>fun c=>rest v T s c-v s*T s c
def FV{v T P}(hv:Spn v P):∀s,(∀l,l<s->Spn (T l) P)->Spn (rest v T s) P
 |0,_=>hv
 |s+1,h=>(FV hv s (fun l Z=>h l aa)).VS (h s aa) (v s)
def MF{v T m c}(j:∀l,l<m->T l c=if l=c then GQ.i 1 0 else GQ.i 0 0):∀s,s<=m->rest v T s c=if c<s then GQ.i 0 0 else v c
 |0,_=>by rw[θ aa];rfl
 |s+1,hs=>by
  show rest v T s c-v s*T s c=_;rw[MF j s aa,j s aa];by_cases e:s=c
  .subst e;rw[θ aa,ι rfl,ι aa,GQ.kD,GQ.qJ]
  .rw[θ e,GQ.bJ,GQ.eP];by_cases h:c<s
   .rw[ι h,ι aa]
   .rw[θ h,θ aa]
def Iw{v T c}:∀s,rest v T s c=v c-oL (fun _ l=>v l) (fun l _=>T l c) 0 0 s
 |0=>by show v c=v c-GQ.i 0 0;rw[GQ.eP]
 |s+1=>by
  show rest v T s c-v s*T s c=v c-(oL (fun _ l=>v l) (fun l _=>T l c) 0 0 s+v s*T s c);rw[Iw s];generalize oL (fun _ l=>v l) (fun l _=>T l c) 0 0 s=y;ext<;>simp only[GQ.dO,GQ.dQ,GQ.bR,GQ.bN]<;>grind
def vF{X Y X' Y' i j C H}:∀s,(∀l,l<s->X i l=X' C l/\Y l j=Y' l H)->oL X Y i j s=oL X' Y' C H s
 |0,_=>rfl
 |s+1,h=>by
  show oL X Y i j s+X i s*Y s j=oL X' Y' C H s+X' C s*Y' s H;rw[vF s (fun l Z=>h l aa),(h s aa).1,(h s aa).2]
section
variable {m nb:Nat} {Z0:Nat->Nat->GQ}
def Ic{v o P}(h:K8 m Z0 m (ech m Z0 m) (ny m Z0 m) o P)(C:(ech m Z0 m).r=m)(hv:Spn v P)(j):v j=oL (fun _ l=>v l) (ny m Z0 m).X 0 j m:=by
 have F:∀c,c<m->∀l,l<m->(ny m Z0 m).X l c=if l=c then GQ.i 1 0 else GQ.i 0 0:=fun c hc l Z=>by
  have hq:=h.qd C (m-1-c) aa;rw[show m-1-(m-1-c)=c by omega] at hq;rw[h.r.un l aa _ _ hq,C];by_cases e:l=c
  .rw[ι e,ι aa]
  .rw[θ e,θ aa]
 have D:=Spn.zero (FV (T:=(ny m Z0 m).X) hv m fun l Z=>h.r.sp l aa) h.r.inv.ne (fun c hc=>by
  have B:=h.r.inv.qc c hc;rw[MF (F c B) m (κ _),ι B]) j
 rw[Iw] at D;have:=afc D;rw[this];exact vF m fun l _=>⟨rfl,rfl⟩
def yV{o P}(h:K8 m Z0 m (ech m Z0 m) (ny m Z0 m) o P)(G:(ech m Z0 m).r=m)(j):∀k,k<=m->∀i,m-k<=i->i<m->iZ (ech m Z0 m).X m k i j=(ny m Z0 m).X i (m+j)
 |0,_,i,h1,h2=>aa
 |k+1,hk,i,h1,h2=>by
  have B:=yV h G j k aa;by_cases e:i=m-1-k
  .have hs:∀s,s<=k->bps (ech m Z0 m).X (iZ (ech m Z0 m).X m k) m i j s=(ech m Z0 m).X i (m+j)-oL (fun _ l=>(ech m Z0 m).X i (i+1+l)) (fun l _=>(ny m Z0 m).X (i+1+l) (m+j)) 0 0 s:=by
    intro s
    induction s with
    |zero=>intro _;show(ech m Z0 m).X i (m+j)=_-GQ.i 0 0;rw[GQ.eP]
    |succ s ihs=>
     intro hs;show bps _ _ m i j s-(ech m Z0 m).X i (i+1+s)*iZ (ech m Z0 m).X m k (i+1+s) j=(ech m Z0 m).X i (m+j)-(oL _ _ 0 0 s+(ech m Z0 m).X i (i+1+s)*(ny m Z0 m).X (i+1+s) (m+j));rw[ihs aa,B (i+1+s) aa aa];generalize oL _ _ 0 0 s=y;ext<;>simp only[GQ.dO,GQ.dQ,GQ.bR,GQ.bN]<;>grind
   have D:=Ic h G (h.sp i aa) (m+j);have C:∀t,i+1+t<=m->oL (fun _ l=>(ech m Z0 m).X i l) (ny m Z0 m).X 0 (m+j) (i+1+t)=(ech m Z0 m).X i i*(ny m Z0 m).X i (m+j)+oL (fun _ l=>(ech m Z0 m).X i (i+1+l)) (fun l _=>(ny m Z0 m).X (i+1+l) (m+j)) 0 0 t:=by
    have J:∀t,t<=i->oL (fun _ l=>(ech m Z0 m).X i l) (ny m Z0 m).X 0 (m+j) t=GQ.i 0 0:=by
     intro t
     induction t with
     |zero=>intro _;rfl
     |succ t iht=>
      intro K;show oL _ _ 0 (m+j) t+(ech m Z0 m).X i t*_=_;rw[iht aa,LC m Z0 m G i t h2 aa aa,GQ.eY,GQ.add_zero']
    intro t
    induction t with
    |zero=>
     intro _;show oL _ _ 0 (m+j) i+(ech m Z0 m).X i i*_=_+GQ.i 0 0;rw[J i (κ _),GQ.Dq]
    |succ t iht=>
     intro K;show oL _ _ 0 (m+j) (i+1+t)+(ech m Z0 m).X i (i+1+t)*(ny m Z0 m).X (i+1+t) (m+j)=_+(oL _ _ 0 0 t+(ech m Z0 m).X i (i+1+t)*(ny m Z0 m).X (i+1+t) (m+j));rw[iht aa,GQ.IL]
   have H:=C k aa;rw[show i+1+k=m by omega,<-D] at H;have F:=hs k (κ _);rw[H] at F;have hd:=BL m Z0 m G i aa;have I:iZ (ech m Z0 m).X m (k+1) i j=bps (ech m Z0 m).X (iZ (ech m Z0 m).X m k) m i j k/(ech m Z0 m).X i i:=by
    show(upd (iZ (ech m Z0 m).X m k) (m-1-k) (fun j=>bps (ech m Z0 m).X (iZ (ech m Z0 m).X m k) m (m-1-k) j k/(ech m Z0 m).X (m-1-k) (m-1-k))) i j=_;rw[<-e,upd_same]
   rw[I,F];generalize oL (fun _ l=>(ech m Z0 m).X i (i+1+l)) (fun l _=>(ny m Z0 m).X (i+1+l) (m+j)) 0 0 k=y;generalize (ny m Z0 m).X i (m+j)=x;have L:(ech m Z0 m).X i i*x+y-y=x*(ech m Z0 m).X i i:=by
    ext<;>simp only[GQ.dO,GQ.dQ,GQ.bR,GQ.bN,GQ.aZ,GQ.aY]<;>grind
   rw[L,GQ.Lb hd]
  .rw[CJ (ech m Z0 m).X aa aa];exact B i aa h2
def af1{v P}(h:v∈P):Spn v P:=fun cs=>qK v P cs h
end
def xW (j:GQ) (e x:Nat->GQ):Nat->GQ
 |0=>j
 |s+1=>xW j e x s-e s*x s
def Mv{j M F e x C l D}(w2:Wh M C)(B:Wh (j*F) l):∀s,(∀t,t<s->Wh (j*e t) l)->(∀t,t<s->Wh (M*x t) D)->Wh (j*M*xW F e x s) (l*C+s*(l*D))
 |0,_,_=>by
  have h:=B.mul w2;have e:j*M*xW F e x 0=j*F*M:=by
   show j*M*F=_;ext<;>simp only[GQ.aZ,GQ.aY]<;>grind
  rw[e];simpa using h
 |s+1,we,wx=>by
  have H:=Mv w2 B s (fun t I=>we t aa) (fun t I=>wx t aa);have G:=(we s aa).mul (wx s aa);have e:j*M*xW F e x (s+1)=j*M*xW F e x s-j*e s*(M*x s):=by
   show j*M*(xW F e x s-e s*x s)=_;ext<;>simp only[GQ.aZ,GQ.aY,GQ.dO,GQ.dQ]<;>grind
  rw[e];refine(H.sub G).mono ?_;rw[Zb,aaE];omega
def SB{j M H e x F C l D n s}(G:j≠GQ.i 0 0)(I:M≠GQ.i 0 0)(w1:Wh j F)(w2:Wh M C)(B:Wh (j*H) l)(K:∀t,t<s->Wh (j*e t) l)(J:∀t,t<s->Wh (M*x t) D)(n1:(l*C+s*(l*D))*(F*C)<2^n)(n2:F*C*(F*C)<2^n):Bd (xW H e x s) n:=
 wL (Mv w2 B s K J) (w1.mul w2) (GQ.iK G I) (GQ.eD _ _) n1 n2
def FZ(Z l m i j):∀s,bps Z l m i j s=xW (Z i (m+j)) (fun t=>Z i (i+1+t)) (fun t=>l (i+1+t) j) s
 |0=>rfl
 |s+1=>by
  show bps Z l m i j s-_=xW _ _ _ s-_;rw[FZ Z l m i j s]
def AO{j e x x'}:∀s,(∀t,t<s->x t=x' t)->xW j e x s=xW j e x' s
 |0,_=>rfl
 |s+1,h=>by
  show xW j e x s-e s*x s=xW j e x' s-e s*x' s;rw[AO s (fun t l=>h t aa),h s aa]
section
variable {m nb:Nat} {X Y:Nat->Nat->GQ}
def sol (m:Nat) (X Y:Nat->Nat->GQ):Nat->Nat->GQ:=iZ (ech m (side m X Y) m).X m m
def EN(l:(ech m (side m X Y) m).r=m){i}(hi:i<m)(j):sol m X Y i j=(ny m (side m X Y) m).X i (m+j):=by
 obtain⟨o,P,h⟩:=kS m (side m X Y) m;exact yV h l j m (κ m) i aa hi
def yf(C:(ech m (side m X Y) m).r=m){i}(hi:i<m)(j):oL X (sol m X Y) i j m=Y i j:=by
 obtain⟨o,P,h⟩:=kS m (side m X Y) m;have B:side m X Y i∈P:=by
  rcases h.cov i hi with D|⟨t,D,F,_⟩
  .exact D
  .omega
 have:=Ic h C (af1 B) (m+j);rw[PP] at this;rw[this];exact vF m fun l Z=>⟨(I9 Z).symm,EN C Z j⟩
end
def gV (f:Nat->GQ):Nat->GQ
 |0=>GQ.i 0 0
 |n+1=>gV f n+f n
def iU{f g}:∀n,(∀i,i<n->f i=g i)->gV f n=gV g n
 |0,_=>rfl
 |n+1,h=>by
  show gV f n+f n=gV g n+g n;rw[iU n (fun i hi=>h i aa),h n aa]
def lW:∀n,gV (fun _=>GQ.i 0 0) n=GQ.i 0 0
 |0=>rfl
 |n+1=>by
  show gV _ n+GQ.i 0 0=_;rw[lW n,GQ.add_zero']
def kY(f g):∀n,gV (fun i=>f i+g i) n=gV f n+gV g n
 |0=>(GQ.add_zero' _).symm
 |n+1=>by
  show gV _ n+(f n+g n)=gV f n+f n+(gV g n+g n);rw[kY f g n];generalize gV f n=a;generalize gV g n=b;ext<;>simp only[GQ.bR,GQ.bN]<;>grind
def FT(a f):∀n,gV (fun i=>a*f i) n=a*gV f n
 |0=>(GQ.bJ _).symm
 |n+1=>by
  show gV _ n+a*f n=a*(gV f n+f n);rw[FT a f n,GQ.pM]
def ry{f c}:∀n,c<n->(∀i,i<n->i≠c->f i=GQ.i 0 0)->gV f n=f c
 |0,h,_=>aa
 |n+1,h,hz=>by
  show gV f n+f n=f c;by_cases e:c=n
  .subst e;rw[iU (g:=fun _=>GQ.i 0 0) c (fun i hi=>hz i aa aa),lW,GQ.Dq,GQ.add_zero']
  .rw[ry n aa (fun i hi=>hz i aa),hz n aa (fun h=>e h.symm),GQ.add_zero']
def unit (c:Nat):Nat->GQ:=fun i=>if i=c then GQ.i 1 0 else GQ.i 0 0
def Cm{v u}:∀(cs:List Nat) (D:List Nat->GQ),(∀c∈cs,v c=u c)->bU v D cs=bU u D cs
 |[],_,_=>rfl
 |c::cs,D,h=>by
  show v c*D cs-bU v (fun l=>D (c::l)) cs=u c*D cs-bU u (fun l=>D (c::l)) cs;rw[h c wN,Cm cs _ (fun d hd=>h d (nG _ hd))]
def Dk(v u cs)(D:List Nat->GQ):bU (fun c=>v c+u c) D cs=bU v D cs+bU u D cs:=by
 have e:(fun c=>v c+u c)=fun c=>v c-GQ.i (-1) 0*u c:=funext fun c=>by
  ext<;>simp only[GQ.bR,GQ.bN,GQ.dO,GQ.dQ,GQ.aZ,GQ.aY,GQ.dE,GQ.dD]<;>grind
 rw[e,xh];generalize bU v D cs=a;generalize bU u D cs=b;ext<;>simp only[GQ.bR,GQ.bN,GQ.dO,GQ.dQ,GQ.aZ,GQ.aY,GQ.dE,GQ.dD]<;>grind
def C8(F:Nat->Nat->GQ)(cs:List Nat)(D:List Nat->GQ):∀n,bU (fun c=>gV (fun i=>F i c) n) D cs=gV (fun i=>bU (F i) D cs) n
 |0=>mD cs D (fun c _=>rfl)
 |n+1=>by
  show bU (fun c=>gV (fun i=>F i c) n+F n c) D cs=gV _ n+_;rw[Dk (fun c=>gV (fun i=>F i c) n) (F n) cs D,C8 F cs D n]
def JA{v n}(cs)(D:List Nat->GQ)(h:∀c∈cs,c<n):bU v D cs=gV (fun c=>v c*bU (unit c) D cs) n:=by
 have e:bU v D cs=bU (fun c=>gV (fun i=>v i*unit i c) n) D cs:=Cm cs D fun c hc=>by
  rw[ry (c:=c) n (h c hc) (fun i _ hi=>by
   show v i*(if c=i then _ else _)=_;rw[θ (fun e=>hi e.symm),GQ.bJ])]
  show v c=v c*(if c=c then _ else _);rw[ι rfl,GQ.kD]
 rw[e,C8 (fun i c=>v i*unit i c) cs D n];exact iU n fun i _=>rH _ _ _
def all_in:∀(n:Nat) (q:List Nat),(∀j,j<n->j∈q)->n<=q.length
 |0,_,_=>y5 _
 |n+1,q,h=>by
  have l:=all_in n (q.erase n) (fun j B=>(List.mem_erase_of_ne aa).2 (h j aa));rw[List.length_erase_of_mem (h n aa)] at l;have:0<q.length:=List.length_pos_of_mem (h n aa);omega
def UE{n}:∀(q:List Nat),q.length<n->∃j,j<n/\j∉q:=by
 intro q hq;rcases aem (∃j,j<n/\j∉q) with h|h
 .exact h
 .exfalso;have hs:∀j,j<n->j∈q:=fun j B=>by
   rcases aem (j∈q) with l|l
   .exact l
   .exact absurd ⟨j,B,l⟩ h
  have:=all_in n q hs;omega
def ND{n X}(h:(ech n X n).r<n):∃v:Nat->GQ,(∃c,c<n/\v c≠GQ.i 0 0)/\∀i,i<n->gV (fun c=>X i c*v c) n=GQ.i 0 0:=by
 obtain⟨o,P,C⟩:=kS n X n;obtain⟨j,H,B⟩:=UE (n:=n) (ech n X n).q (by rw[C.r.inv.ql];exact h);have D:∀c∈j::(ech n X n).q,c<n:=fun c hc=>by
  rcases pq.1 hc with rfl|hc
  .exact H
  .exact C.r.inv.qc c hc
 refine⟨fun c=>bU (unit c) (det P) (j::(ech n X n).q),⟨j,H,?_⟩,fun i hi=> ?_⟩
 .show unit j j*det P (ech n X n).q-bU (unit j) (fun l=>det P (j::l)) (ech n X n).q≠_;rw[mD (ech n X n).q _ (fun c hc=>by show(if c=j then _ else _)=_;rw[θ (fun e=>B (by rw[<-e];exact hc))]),GQ.eP];show(if j=j then _ else _)*_≠_;rw[ι rfl,GQ.jK];exact C.r.inv.ne
 .show gV (fun c=>X i c*bU (unit c) (det P) (j::(ech n X n).q)) n=_;rw[<-JA (j::(ech n X n).q) (det P) D];show det (X i::P) (j::(ech n X n).q)=_;rcases C.cov i hi with F|⟨t,F,G,I⟩
  .exact qK _ _ _ F
  .rw[<-I,<-C.r.inv.sy t F G];exact mD _ _ (fun c hc=>C.r.inv.z t c F G (D c hc))
namespace GQ
def Ob (x:GQ):GQ:=⟨x.re,-x.im⟩
def Me(x):(Ob x).re=x.re:=rfl
def Et(x):(Ob x).im= -x.im:=rfl
end GQ
def qf (n:Nat) (X:Nat->Nat->GQ) (v:Nat->GQ):GQ:=gV (fun i=>GQ.Ob (v i)*gV (fun c=>X i c*v c) n) n
theorem EX{n X v}(h:∀i,i<n->gV (fun c=>X i c*v c) n=GQ.i 0 0):qf n X v=GQ.i 0 0:=by
 unfold qf;rw[iU (g:=fun _=>GQ.i 0 0) n (fun i hi=>by rw[h i hi,GQ.bJ]),lW]
theorem zT(n X Y v):qf n (fun i j=>X i j+Y i j) v=qf n X v+qf n Y v:=by
 unfold qf;rw[<-kY];refine iU n fun i _=> ?_;rw[<-GQ.pM,<-kY];congr 1;refine iU n fun c _=> ?_;ext<;>simp only[GQ.bR,GQ.bN,GQ.aZ,GQ.aY]<;>grind
def jB (i j:Nat) (y:GQ):Nat->Nat->GQ:=fun p q=>if p=i/\q=j then y else GQ.i 0 0
theorem AX{n i j}(hi:i<n)(l:j<n)(y v):qf n (jB i j y) v=GQ.Ob (v i)*(y*v j):=by
 unfold qf;rw[ry (c:=i) n hi (fun p _ hp=>by
  rw[iU (g:=fun _=>GQ.i 0 0) n (fun c _=>by show(if p=i/\c=j then y else GQ.i 0 0)*_=_;rw[θ (fun h=>hp h.1),GQ.eY]),lW,GQ.bJ])]
 rw[ry (c:=j) n l (fun c _ hc=>by show(if i=i/\c=j then y else GQ.i 0 0)*_=_;rw[θ (fun h=>hc h.2),GQ.eY])];show _*((if i=i/\j=j then y else GQ.i 0 0)*v j)=_;rw[ι ⟨rfl,rfl⟩]

def Iz (x:GQ):Rat:=x.re*x.re+x.im*x.im
def yj(x:Rat):0<=x*x:=by
 rcases adW (a:=0) (b:=x) with h|h
 .exact aaW h h
 .have:=aaW (a:= -x) (b:= -x) ak ak;grind
theorem yM(x):0<=Iz x:=by
 unfold Iz;have j:=yj x.re;have l:=yj x.im;grind
theorem xG{x}(h:Iz x=0):x=GQ.i 0 0:=by
 unfold Iz at h;have C:=yj x.re;have B:=yj x.im;have j:x.re*x.re=0:=ak;have l:x.im*x.im=0:=ak;ext<;>simp only[GQ.dE,GQ.dD]
 .rcases aby.1 j with h|h<;>simpa using h
 .rcases aby.1 l with h|h<;>simpa using h
structure Br where
 p:Nat
 q:Nat
 nt:Bool
 y:GQ
def stm (X:Nat->Nat->GQ) (b:Br):Nat->Nat->GQ:=
 if b.nt then fun p q=>X p q+jB b.p b.p b.y p q
 else fun p q=>X p q+jB b.p b.p b.y p q+jB b.q b.q b.y p q+jB b.p b.q (-b.y) p q+jB b.q b.p (-b.y) p q
def fq (X:Nat->Nat->GQ) (bs:List Br):Nat->Nat->GQ:=bs.foldl stm X
def Br.w (b:Br) (v:Nat->GQ):Rat:=if b.nt then Iz (v b.p) else Iz (v b.p-v b.q)
theorem Vq{n X}{b:Br}(v)(hp:b.p<n)(hq:b.nt=ζ->b.q<n):(qf n (stm X b) v).im=(qf n X v).im+b.y.im*b.w v:=by
 unfold stm Br.w;cases hb:b.nt
 .simp only[PI,abL];rw[zT n (fun p q=>X p q+jB b.p b.p b.y p q+jB b.q b.q b.y p q+jB b.p b.q (-b.y) p q) (jB b.q b.p (-b.y)),zT n (fun p q=>X p q+jB b.p b.p b.y p q+jB b.q b.q b.y p q) (jB b.p b.q (-b.y)),zT n (fun p q=>X p q+jB b.p b.p b.y p q) (jB b.q b.q b.y),zT n X (jB b.p b.p b.y),AX hp hp,AX (hq hb) (hq hb),AX hp (hq hb),AX (hq hb) hp];unfold Iz;simp only[GQ.bN,GQ.aY,GQ.aZ,GQ.Me,GQ.Et,GQ.kI,GQ.kN,GQ.dO,GQ.dQ];grind
 .simp only[Aa];rw[zT n X (jB b.p b.p b.y),AX hp hp];unfold Iz;simp only[GQ.bN,GQ.aY,GQ.aZ,GQ.Me,GQ.Et];grind
theorem Br.PN(b:Br)(v):0<=b.w v:=by
 unfold Br.w;split
 .exact yM _
 .exact yM _
def zl{n}(v):∀(bs:List Br) (X:Nat->Nat->GQ),(∀b∈bs,b.p<n/\(b.nt=ζ->b.q<n)/\b.y.im<0)->(qf n (fq X bs) v).im<=(qf n X v).im/\((qf n (fq X bs) v).im=(qf n X v).im->∀b∈bs,b.w v=0)
 |[],X,_=>⟨Rat.le_refl,fun _ b hb=>by simp at hb⟩
 |b::bs,X,h=>by
  obtain⟨C,B,G⟩:=h b wN;obtain⟨i1,Q⟩:=zl v bs (stm X b) (fun c hc=>h c (nG _ hc));have e:=Vq (X:=X) v C B;have Y:=b.PN v;have j:b.y.im*b.w v<=0:=by
   have:=aaW (a:= -b.y.im) (b:=b.w v) ak Y;grind
  show(qf n (fq (stm X b) bs) v).im<=_/\_;refine⟨ak,fun D c hc=> ?_⟩;have H:(qf n (fq (stm X b) bs) v).im=(qf n X v).im:=D;have F:b.y.im*b.w v=0:=ak;have l:(qf n (fq (stm X b) bs) v).im=(qf n (stm X b) v).im:=ak;rcases pq.1 hc with rfl|hc
  .rcases aby.1 F with h|h
   .grind
   .exact h
  .exact Q l c hc
inductive Joined (bs:List Br):Nat->Prop
 |neutral (b:Br) (h:b∈bs) (hn:b.nt=ε):Joined bs b.p
 |fro (b:Br) (h:b∈bs) (hn:b.nt=ζ) (hq:Joined bs b.q):Joined bs b.p
 |fwd (b:Br) (h:b∈bs) (hn:b.nt=ζ) (hp:Joined bs b.p):Joined bs b.q
theorem tH{bs:List Br}{v}(Y:∀b∈bs,b.w v=0){p}(h:Joined bs p):v p=GQ.i 0 0:=by
 induction h with
 |neutral b h hn=>
  have:=Y b h;unfold Br.w at this;rw[hn] at this;exact xG this
 |fro b h hn hq ih=>
  have:=Y b h;unfold Br.w at this;rw[hn] at this;have:=afc (xG this);rw[this];exact ih
 |fwd b h hn hp ih=>
  have:=Y b h;unfold Br.w at this;rw[hn] at this;have:=afc (xG this);rw[<-this];exact ih
def zmx:Nat->Nat->GQ:=fun _ _=>GQ.i 0 0
def Kt(n v):qf n zmx v=GQ.i 0 0:=EX fun i _=>by
 rw[iU (f:=fun c=>zmx i c*v c) (g:=fun _=>GQ.i 0 0) n (fun c _=>GQ.eY _),lW]
def Fj{n}{bs:List Br}(h:∀b∈bs,b.p<n/\(b.nt=ζ->b.q<n)/\b.y.im<0)(G:∀p,p<n->Joined bs p):(ech n (fq zmx bs) n).r=n:=by
 have D:=zh n (fq zmx bs) n;rcases Ha (ech n (fq zmx bs) n).r n with j|l
 .exfalso;obtain⟨v,⟨c,hc,hv⟩,F⟩:=ND j;have C:=EX (n:=n) (X:=fq zmx bs) (v:=v) F;obtain⟨_,B⟩:=zl (n:=n) v bs zmx h;have Y:=B (by rw[C,Kt]);exact hv (tH Y (G c hc))
 .omega
def pw (w:Nat->Nat):List Nat->Nat
 |[]=>1
 |c::cs=>w c*pw w cs
def FX{x w}:∀(M:Nat) (cs:List Nat) (D:List Nat->GQ),(∀c∈cs,Wh (x c) (w c))->(∀l,l.Sublist cs->l.length+1=cs.length->Wh (D l) (M*pw w l))->Wh (bU x D cs) (cs.length*(M*pw w cs))
 |M,[],D,_,_=>by
  show Wh (GQ.i 0 0) _;exact gM _
 |M,c::cs,D,hx,hD=>by
  show Wh (x c*D cs-bU x (fun l=>D (c::l)) cs) _;have C:=(hx c wN).mul (hD cs (List.sublist_cons_self c cs) rfl);have B:=FX (M*w c) cs (fun l=>D (c::l)) (fun d hd=>hx d (nG _ hd)) (fun l Z T=>by
   have:=hD (c::l) (Z.cons_cons c) (by simp only[nC];omega);rw[χ];exact this)
  refine(C.sub B).mono ?_;show w c*(M*pw w cs)+cs.length*(M*w c*pw w cs)<=(cs.length+1)*(M*(w c*pw w cs));have j:w c*(M*pw w cs)=M*(w c*pw w cs):=by ac_rfl
  have F:M*w c*pw w cs=M*(w c*pw w cs):=by ac_rfl
  rw[j,F,Zb,aaE];omega
def LP{w}:∀(R:List (Nat->GQ)) (cs:List Nat),R.length=cs.length->(∀r∈R,∀c∈cs,Wh (r c) (w c))->Wh (det R cs) (fct cs.length*pw w cs)
 |[],cs,h,_=>by
  obtain rfl:cs=[]:=I4 h.symm;exact uV
 |v::R,cs,h,hr=>by
  have Z:R.length+1=cs.length:=by simpa using h
  show Wh (bU v (det R) cs) _;have:=FX (x:=v) (w:=w) (fct (cs.length-1)) cs (det R) (hr v wN) (fun l B T=>by
   have e:l.length=cs.length-1:=aa;rw[<-e];exact LP R l aa (fun r N c hc=>hr r (nG _ N) c (B.subset hc)))
  refine this.mono ?_;have e:fct cs.length=cs.length*fct (cs.length-1):=by
   rw[<-Z];rfl
  rw[e,χ];exact κ _
def Wh.add{x y B C}(J:Wh x B)(R:Wh y C):Wh (x+y) (B+C):=by
 have h:=J.sub R.neg;have e:x- -y=x+y:=by
  ext<;>simp only[GQ.bR,GQ.bN,GQ.dO,GQ.dQ,GQ.kI,GQ.kN]<;>grind
 rwa[e] at h
def ug(X Y i j):∀s,oL X Y i j s=gV (fun l=>X i l*Y l j) s
 |0=>rfl
 |s+1=>by
  show oL X Y i j s+_=gV _ s+_;rw[ug X Y i j s]
structure Psv (n:Nat) (bs:List Br):Prop where
 ok:∀b∈bs,b.p<n/\(b.nt=ζ->b.q<n)/\b.y.im<0
 jn:∀p,p<n->Joined bs p
section
variable {n:Nat} {bs:List Br}
def Psv.full(h:Psv n bs):(ech n (fq zmx bs) n).r=n:=Fj h.ok h.jn
def Psv.zero(h:Psv n bs){d:Nat->GQ}(j:∀i,i<n->gV (fun c=>fq zmx bs i c*d c) n=GQ.i 0 0){c:Nat}(hc:c<n):d c=GQ.i 0 0:=by
 have B:=EX (n:=n) (X:=fq zmx bs) (v:=d) j;obtain⟨_,l⟩:=zl (n:=n) d bs zmx h.ok;have Y:=l (by rw[B,Kt]);exact tH Y (h.jn c hc)
def Psv.unique(h:Psv n bs){x y:Nat->GQ}(e:∀i,i<n->gV (fun c=>fq zmx bs i c*x c) n=gV (fun c=>fq zmx bs i c*y c) n){c:Nat}(hc:c<n):x c=y c:=by
 refine afc (h.zero (d:=fun c=>x c-y c) (fun i hi=> ?_) hc);have j:(fun c=>fq zmx bs i c*(x c-y c))=fun c=>fq zmx bs i c*x c+GQ.i (-1) 0*(fq zmx bs i c*y c):=funext fun c=>by
  ext<;>simp only[GQ.bR,GQ.bN,GQ.dO,GQ.dQ,GQ.aZ,GQ.aY,GQ.dE,GQ.dD]<;>grind
 rw[j,kY,FT,e i hi];generalize gV (fun c=>fq zmx bs i c*y c) n=z;ext<;>simp only[GQ.bR,GQ.bN,GQ.aZ,GQ.aY,GQ.dE,GQ.dD]<;>grind
theorem Ri{X x f}(l:f<n)(J:∀i,i<n->gV (fun c=>X i c*x c) n=unit f i):qf n X x=GQ.Ob (x f):=by
 unfold qf;rw[ry (c:=f) n l (fun i hi j=>by
  rw[J i hi];show _*(if i=f then _ else _)=_;rw[θ j,GQ.bJ]),J f l]
 show _*(if f=f then _ else _)=_;rw[ι rfl,GQ.kD]
def Psv.drive(h:Psv n bs){x:Nat->GQ}{f:Nat}(C:f<n)(J:∀i,i<n->gV (fun c=>fq zmx bs i c*x c) n=unit f i):0<(x f).im:=by
 have hq:=Ri C J;obtain⟨B,j⟩:=zl (n:=n) x bs zmx h.ok;rw[Kt,hq] at B j;simp only[GQ.Et,GQ.dD] at B j;have F: -(x f).im<=0:=by simpa using B
 rcases(by grind:0<(x f).im\/-(x f).im=0) with l|l
 .exact l
 .exfalso;have Y:=j (by simpa using l);have D:∀c,c<n->x c=GQ.i 0 0:=fun c hc=>tH Y (h.jn c hc);have:=J f C;rw[iU (g:=fun _=>GQ.i 0 0) n (fun c hc=>by rw[D c hc,GQ.bJ]),lW] at this;have e:unit f f=GQ.i 1 0:=ι rfl;rw[e] at this;have:=congrArg GQ.re this;simp only[GQ.dE] at this;exact absurd this aj
end
def LG{z}(h:0<z.im):z≠GQ.i 0 0:=by
 intro e;rw[e] at h;simp only[GQ.dD] at h;exact absurd h aj
theorem R6{z}(h:z≠GQ.i 0 0):0<z.nrm:=by
 have j:=GQ.BR h;have l:0<=z.nrm:=by
  unfold GQ.nrm;have:=yj z.re;have:=yj z.im;grind
 grind
def col (v:Nat->GQ):Nat->Nat->GQ:=fun i _=>v i
def EY (v u:Nat->GQ):Nat->Nat->GQ:=fun i j=>if j=0 then v i else u i
section
variable {n:Nat} {bs:List Br}
def Aw{m X Y}(h:(ech m X m).r=m):(ech m (side m X Y) m).r=m:=by rw[(Kc m (κ m)).1];exact h
def Psv.Fx(h:Psv n bs){v i}(hi:i<n):gV (fun c=>fq zmx bs i c*sol n (fq zmx bs) (col v) c 0) n=v i:=by
 rw[<-ug (fq zmx bs) (sol n (fq zmx bs) (col v)) i 0 n];exact yf (Aw h.full) hi 0
def Psv.Mr(h:Psv n bs){v u i}(hi:i<n):sol n (fq zmx bs) (col v) i 0=sol n (fq zmx bs) (EY v u) i 0/\sol n (fq zmx bs) (col u) i 0=sol n (fq zmx bs) (EY v u) i 1:=by
 constructor
 .refine h.unique (x:=fun c=>sol n (fq zmx bs) (col v) c 0) (y:=fun c=>sol n (fq zmx bs) (EY v u) c 0) (fun p hp=> ?_) hi;rw[h.Fx hp,<-ug (fq zmx bs) (sol n (fq zmx bs) (EY v u)) p 0 n,yf (Aw h.full) hp 0];exact(ι rfl).symm
 .refine h.unique (x:=fun c=>sol n (fq zmx bs) (col u) c 0) (y:=fun c=>sol n (fq zmx bs) (EY v u) c 1) (fun p hp=> ?_) hi;rw[h.Fx hp,<-ug (fq zmx bs) (sol n (fq zmx bs) (EY v u)) p 1 n,yf (Aw h.full) hp 1];exact(θ aa).symm
end
structure Bu where
 y:GQ
 al:Nat->GQ
 u:Nat->GQ
def nW (r0:Nat->Nat->GQ):List Bu->Nat->Nat->GQ
 |[],i=>r0 i
 |b::bs,i=>fun c=>nW r0 bs i c+b.y*(b.al i*b.u c)
inductive NdR
 |nd (i:Nat)
 |co (u:Nat->GQ)
def NdR.row (r0:Nat->Nat->GQ) (bs:List Bu):NdR->Nat->GQ
 | .nd i=>nW r0 bs i
 | .co u=>u
def oD(v):∀(cs:List Nat) (D E:List Nat->GQ),bU v (fun l=>D l+E l) cs=bU v D cs+bU v E cs
 |[],_,_=>(GQ.add_zero' _).symm
 |c::cs,D,E=>by
  show v c*(D cs+E cs)-bU v (fun l=>D (c::l)+E (c::l)) cs=(v c*D cs-bU v (fun l=>D (c::l)) cs)+(v c*E cs-bU v (fun l=>E (c::l)) cs);rw[oD v cs (fun l=>D (c::l)) (fun l=>E (c::l))];generalize bU v (fun l=>D (c::l)) cs=a;generalize bU v (fun l=>E (c::l)) cs=b;ext<;>simp only[GQ.bR,GQ.bN,GQ.dO,GQ.dQ,GQ.aZ,GQ.aY]<;>grind
def part (r0:Nat->Nat->GQ) (bs:List Bu) (b:Bu):List NdR->List Nat->GQ
 |[],_=>GQ.i 0 0
 | .nd i::L,cs=>bU (nW r0 bs i) (part r0 bs b L) cs+b.al i*det (b.u::L.map (NdR.row r0 bs)) cs
 | .co u::L,cs=>bU u (part r0 bs b L) cs
def x9(r0)(bs:List Bu)(b:Bu):∀(L:List NdR) (cs:List Nat),bU b.u (part r0 bs b L) cs=GQ.i 0 0
 |[],cs=>mE b.u cs
 | .nd i::L,cs=>by
  show bU b.u (fun l=>bU (nW r0 bs i) (part r0 bs b L) l+b.al i*det (b.u::L.map (NdR.row r0 bs)) l) cs=_;rw[oD b.u cs (fun l=>bU (nW r0 bs i) (part r0 bs b L) l) (fun l=>b.al i*det (b.u::L.map (NdR.row r0 bs)) l)];have j:=qG b.u (nW r0 bs i) cs (part r0 bs b L);have B:bU (nW r0 bs i) (bU b.u (part r0 bs b L)) cs=GQ.i 0 0:=by
   exact Abl
  rw[B,GQ.add_zero'] at j;have C:bU b.u (fun l=>bU (nW r0 bs i) (part r0 bs b L) l) cs=GQ.i 0 0:=j;rw[C,jJ];have D:bU b.u (fun l=>det (b.u::L.map (NdR.row r0 bs)) l) cs=GQ.i 0 0:=qK b.u (b.u::L.map (NdR.row r0 bs)) cs wN;rw[D,GQ.bJ,GQ.add_zero']
 | .co u::L,cs=>by
  show bU b.u (fun l=>bU u (part r0 bs b L) l) cs=_;have j:=qG b.u u cs (part r0 bs b L);have B:bU u (bU b.u (part r0 bs b L)) cs=GQ.i 0 0:=by
   exact Abl
  rw[B,GQ.add_zero'] at j;exact j
def zM(r0)(bs:List Bu)(b:Bu):∀(L:List NdR) (cs:List Nat),det (L.map (NdR.row r0 (b::bs))) cs=det (L.map (NdR.row r0 bs)) cs+b.y*part r0 bs b L cs
 |[],cs=>by
  show GQ.i 1 0=GQ.i 1 0+b.y*GQ.i 0 0;rw[GQ.bJ,GQ.add_zero']
 | .nd i::L,cs=>by
  show bU (fun c=>nW r0 bs i c+b.y*(b.al i*b.u c)) (det (L.map (NdR.row r0 (b::bs)))) cs=bU (nW r0 bs i) (det (L.map (NdR.row r0 bs))) cs+b.y*(bU (nW r0 bs i) (part r0 bs b L) cs+b.al i*bU b.u (det (L.map (NdR.row r0 bs))) cs);have e:det (L.map (NdR.row r0 (b::bs)))=fun l=>det (L.map (NdR.row r0 bs)) l+b.y*part r0 bs b L l:=funext fun l=>zM r0 bs b L l;have j:(fun c=>nW r0 bs i c+b.y*(b.al i*b.u c))=fun c=>nW r0 bs i c+(b.y*b.al i)*b.u c:=funext fun c=>by rw[GQ.bZ]
  rw[e,j,Dk (nW r0 bs i) (fun c=>(b.y*b.al i)*b.u c),rH (b.y*b.al i) cs,oD (nW r0 bs i) cs,oD b.u cs,jJ b.y cs (part r0 bs b L),jJ b.y cs (part r0 bs b L),x9 r0 bs b L cs,GQ.bJ,GQ.add_zero'];generalize bU (nW r0 bs i) (det (L.map (NdR.row r0 bs))) cs=a;generalize bU (nW r0 bs i) (part r0 bs b L) cs=c;generalize bU b.u (det (L.map (NdR.row r0 bs))) cs=d;generalize b.y=y;generalize b.al i=t;ext<;>simp only[GQ.bR,GQ.bN,GQ.aZ,GQ.aY]<;>grind
 | .co u::L,cs=>by
  show bU u (det (L.map (NdR.row r0 (b::bs)))) cs=bU u (det (L.map (NdR.row r0 bs))) cs+b.y*bU u (part r0 bs b L) cs;have e:det (L.map (NdR.row r0 (b::bs)))=fun l=>det (L.map (NdR.row r0 bs)) l+b.y*part r0 bs b L l:=funext fun l=>zM r0 bs b L l;rw[e,oD u cs,jJ b.y cs (part r0 bs b L)]
def gY {α:Type} (f:α->GQ):List α->GQ
 |[]=>GQ.i 0 0
 |a::l=>gY f l+f a
def rA{α β:Type}(f:β->GQ)(g:α->β):∀l:List α,gY f (l.map g)=gY (fun a=>f (g a)) l
 |[]=>rfl
 |a::l=>by
  show gY f (l.map g)+_=_;rw[rA f g l];rfl
def xE{α:Type}(v)(F:α->List Nat->GQ)(cs):∀l:List α,bU v (fun x=>gY (fun a=>F a x) l) cs=gY (fun a=>bU v (F a) cs) l
 |[]=>mE v cs
 |a::l=>by
  show bU v (fun x=>gY (fun a=>F a x) l+F a x) cs=gY _ l+_;rw[oD v cs (fun x=>gY (fun a=>F a x) l) (F a),xE v F cs l]
def sW (b:Bu):List NdR->List (GQ×List NdR)
 |[]=>[]
 | .nd i::L=>(b.al i,.co b.u::L)::(sW b L).map fun x=>(x.1,.nd i::x.2)
 | .co u::L=>(sW b L).map fun x=>(x.1,.co u::x.2)
def Am(r0)(bs:List Bu)(b:Bu):∀(L:List NdR) (cs:List Nat),part r0 bs b L cs=gY (fun x:GQ×List NdR=>x.1*det (x.2.map (NdR.row r0 bs)) cs) (sW b L)
 |[],_=>rfl
 | .nd i::L,cs=>by
  show bU (nW r0 bs i) (part r0 bs b L) cs+b.al i*det (b.u::L.map (NdR.row r0 bs)) cs=gY _ ((sW b L).map fun x=>(x.1,.nd i::x.2))+b.al i*det (b.u::L.map (NdR.row r0 bs)) cs;have e:part r0 bs b L=fun l=>gY (fun x:GQ×List NdR=>x.1*det (x.2.map (NdR.row r0 bs)) l) (sW b L):=funext fun l=>Am r0 bs b L l;rw[rA,e,xE (nW r0 bs i) (fun(x:GQ×List NdR) l=>x.1*det (x.2.map (NdR.row r0 bs)) l) cs (sW b L)];congr 2;funext x;exact jJ x.1 cs _
 | .co u::L,cs=>by
  show bU u (part r0 bs b L) cs=gY _ ((sW b L).map fun x=>(x.1,.co u::x.2));have e:part r0 bs b L=fun l=>gY (fun x:GQ×List NdR=>x.1*det (x.2.map (NdR.row r0 bs)) l) (sW b L):=funext fun l=>Am r0 bs b L l;rw[rA,e,xE u (fun(x:GQ×List NdR) l=>x.1*det (x.2.map (NdR.row r0 bs)) l) cs (sW b L)];congr 1;funext x;exact jJ x.1 cs _
def Cok (w:Nat->Nat) (cs:List Nat):NdR->Prop
 | .nd _=>True
 | .co u=>∀c∈cs,Wh (u c) (w c)
def Fz{b:Bu}{w cs}(B:∀c∈cs,Wh (b.u c) (w c))(ha:∀i,Wh (b.al i) 1):∀(L:List NdR),(∀d∈L,Cok w cs d)->(sW b L).length<=L.length/\∀x∈sW b L,Wh x.1 1/\x.2.length=L.length/\∀d∈x.2,Cok w cs d
 |[],_=>⟨κ _,by simp[sW]⟩
 | .nd i::L,h=>by
  obtain⟨F,j⟩:=Fz B ha L (fun d hd=>h d (nG _ hd));refine⟨by simp only[sW,nC,aaI];omega,fun x J=> ?_⟩;rcases pq.1 (show x∈(b.al i,NdR.co b.u::L)::(sW b L).map (fun x=>(x.1,NdR.nd i::x.2)) from J) with rfl|J
  .refine⟨ha i,rfl,fun d hd=> ?_⟩;rcases pq.1 hd with rfl|hd
   .exact B
   .exact h d (nG _ hd)
  .obtain⟨y,R,rfl⟩:=aaf.1 J;obtain⟨C,D,l⟩:=j y R;refine⟨C,by simp only[nC,D],fun d hd=> ?_⟩;rcases pq.1 hd with rfl|hd
   .trivial
   .exact l d hd
 | .co u::L,h=>by
  obtain⟨F,j⟩:=Fz B ha L (fun d hd=>h d (nG _ hd));refine⟨by simp only[sW,nC,aaI];omega,fun x J=> ?_⟩;obtain⟨y,R,rfl⟩:=aaf.1 (show x∈(sW b L).map (fun x=>(x.1,NdR.co u::x.2)) from J);obtain⟨C,D,l⟩:=j y R;refine⟨C,by simp only[nC,D],fun d hd=> ?_⟩;rcases pq.1 hd with rfl|hd
  .exact h _ wN
  .exact l d hd
def LU{α:Type}{f:α->GQ}{Q C}:∀l:List α,(∀a∈l,Wh (Q*f a) C)->Wh (Q*gY f l) (l.length*C)
 |[],_=>by
  show Wh (Q*GQ.i 0 0) _;rw[GQ.bJ];exact gM _
 |a::l,h=>by
  show Wh (Q*(gY f l+f a)) _;rw[GQ.pM];refine((LU l (fun x J=>h x (nG _ J))).add (h a wN)).mono ?_;rw[nC,Zb];omega
structure Zu (b:Bu) (Z K:Nat):Prop where
 wh:∃(zn:GQ) (zd:Nat),zn≠GQ.i 0 0/\Wh zn Z/\b.y*zn=GQ.i zd 0/\zd<=K
 al:∀i,Wh (b.al i) 1
def cz (f:Bu->Nat) (K m B0:Nat):List Bu->Nat
 |[]=>fct m*B0
 |b::bs=>(f b+m*K)*cz f K m B0 bs
def xC{r0 w}{f:Bu->Nat}{K}:∀(bs:List Bu),(∀b∈bs,Zu b (f b) K)->∃Q,Q≠GQ.i 0 0/\∀(B0:Nat) (cs:List Nat),pw w cs<=B0->(∀b∈bs,∀c∈cs,Wh (b.u c) (w c))->(∀i,∀c∈cs,Wh (r0 i c) (w c))->∀(L:List NdR),L.length=cs.length->(∀d∈L,Cok w cs d)->Wh (Q*det (L.map (NdR.row r0 bs)) cs) (cz f K cs.length B0 bs)
 |[],_=>⟨GQ.i 1 0,aj,fun B0 cs M I H L G hc=>by
  rw[GQ.jK];refine(LP (w:=w) (L.map (NdR.row r0 [])) cs (by simpa using G) (fun r N c F=> ?_)).mono (Z6 (κ _) M);obtain⟨d,hd,rfl⟩:=aaf.1 N;cases d with
  |nd i=>exact H i c F
  |co u=>exact hc _ hd c F⟩
 |b::bs,h=>by
  obtain⟨Q,q0,P⟩:=xC bs (fun c hc=>h c (nG _ hc));obtain⟨⟨j,U,z0,z1,R,V⟩,ha⟩:=h b wN;refine⟨j*Q,GQ.iK z0 q0,fun B0 cs M I H L G hc=> ?_⟩;have l:=P B0 cs M (fun c hc=>I c (nG _ hc)) H;obtain⟨l1,l2⟩:=Fz (I b wN) ha L hc;have hp:Wh (Q*part r0 bs b L cs) (cs.length*cz f K cs.length B0 bs):=by
   rw[Am];refine(LU (C:=cz f K cs.length B0 bs) (sW b L) (fun x J=> ?_)).mono (Z6 aa (κ _));obtain⟨W,Y,T⟩:=l2 x J;have S:=W.mul (l x.2 (Y.trans G) T);have e:Q*(x.1*det (x.2.map (NdR.row r0 bs)) cs)=x.1*(Q*det (x.2.map (NdR.row r0 bs)) cs):=by
    rw[<-GQ.bZ,GQ.eD Q,GQ.bZ]
   rw[e];exact S.mono aa
  rw[zM];have e:j*Q*(det (L.map (NdR.row r0 bs)) cs+b.y*part r0 bs b L cs)=j*(Q*det (L.map (NdR.row r0 bs)) cs)+b.y*j*(Q*part r0 bs b L cs):=by
   generalize det (L.map (NdR.row r0 bs)) cs=x;generalize part r0 bs b L cs=y;generalize b.y=t;ext<;>simp only[GQ.bR,GQ.bN,GQ.aZ,GQ.aY]<;>grind
  rw[e,R];have O:=(nX (D:=(U:Int)) (B:=K) (by simpa using V)).mul hp;refine((z1.mul (l L G hc)).add O).mono ?_;show f b*cz f K cs.length B0 bs+K*(cs.length*cz f K cs.length B0 bs)<=(f b+cs.length*K)*cz f K cs.length B0 bs;rw[Zb,<-χ,pz K];exact κ _
def Hy{a b}(h:a<=b):fct a<=fct b:=by
 induction b with
 |zero=>
  obtain rfl:a=0:=aa;exact κ _
 |succ b ih=>
  by_cases e:a=b+1
  .subst e;exact κ _
  .refine lh (ih aa) ?_;show fct b<=(b+1)*fct b;exact abD _ aa
def EJ{f:Bu->Nat}{K B0 k m}(h:k<=m):∀bs:List Bu,cz f K k B0 bs<=cz f K m B0 bs
 |[]=>Z6 (Hy h) (κ _)
 |b::bs=>Z6 (Nat.add_le_add_left (Z6 h (κ _)) _) (EJ h bs)
structure rD (Z0:Nat->Nat->GQ) (m W:Nat) (Q:GQ) (BD:Nat):Prop where
 q0:Q≠GQ.i 0 0
 min:∀(P:List (Nat->GQ)) (j:Nat) (cs:List Nat),(∀p∈P,∃i,i<m/\p=Z0 i)->(∀c∈cs,c<m)->(P.length=cs.length->P.length<=m->Wh (Q*det P cs) BD)/\(P.length=cs.length+1->P.length<=m->j<W->Wh (Q*det P (j::cs)) BD)
def GL{m Z0}:∀(P:List (Nat->GQ)),(∀p∈P,∃i,i<m/\p=Z0 i)->∃L:List Nat,L.length=P.length/\P=L.map Z0
 |[],_=>⟨[],rfl,rfl⟩
 |p::P,h=>by
  obtain⟨L,l,j⟩:=GL P (fun q hq=>h q (nG _ hq));obtain⟨i,_,rfl⟩:=h p wN;exact⟨i::L,by simp[l],by rw[j];rfl⟩
def Mx{w m}(Y:∀c,c<m->w c=1):∀(cs:List Nat),(∀c∈cs,c<m)->pw w cs=1
 |[],_=>rfl
 |c::cs,h=>by
  show w c*pw w cs=1;rw[Mx Y cs (fun d hd=>h d (nG _ hd)),Y c (h c wN)]
def af5{r0:Nat->Nat->GQ}{w:Nat->Nat}{f:Bu->Nat}{K m W B0:Nat}{bs:List Bu}{Z0:Nat->Nat->GQ}(T:∀b∈bs,Zu b (f b) K)(Y:∀c,c<m->w c=1)(I:∀c,c<W->w c<=B0)(Z:1<=B0)(N:∀b∈bs,∀c,c<W->Wh (b.u c) (w c))(M:∀i c,c<W->Wh (r0 i c) (w c))(F:m<=W)(U:∀i,i<m->Z0 i=nW r0 bs i):
  ∃Q,rD Z0 m W Q (cz f K m B0 bs):=by
 obtain⟨Q,q0,J⟩:=xC (r0:=r0) (w:=w) bs T;refine⟨Q,q0,fun P j cs V hc=> ?_⟩;have C:∀p∈P,∃i,i<m/\p=nW r0 bs i:=fun p hp=>by
  obtain⟨i,hi,e⟩:=V p hp;exact⟨i,hi,e.trans (U i hi)⟩
 obtain⟨L,hL,D⟩:=GL P C;have e:P=(L.map NdR.nd).map (NdR.row r0 bs):=by
  rw[D,List.map_map];rfl
 have l:∀cs,∀d∈L.map NdR.nd,Cok w cs d:=fun cs d hd=>by
  obtain⟨i,_,rfl⟩:=aaf.1 hd;trivial
 have H:=Mx Y cs hc;constructor
 .intro S R;have:=J B0 cs (by rw[H];exact Z) (fun b hb c G=>N b hb c (by have:=hc c G;omega)) (fun i c G=>M i c (by have:=hc c G;omega)) (L.map NdR.nd) (by rw[aaI];omega) (l cs);rw[<-e] at this;exact this.mono (EJ aa bs)
 .intro S R O;have B:∀c∈j::cs,c<W:=fun c G=>by
   rcases pq.1 G with rfl|G
   .exact O
   .have:=hc c G;omega
  have:=J B0 (j::cs) (by show w j*pw w cs<=B0;rw[H,aav];exact I j O) (fun b hb c G=>N b hb c (B c G)) (fun i c G=>M i c (B c G)) (L.map NdR.nd) (by rw[aaI,nC];omega) (l _);rw[<-e] at this;exact this.mono (EJ AbB bs)
section
variable {m W BD N Ns:Nat} {Z0:Nat->Nat->GQ} {Q:GQ}
def rD.Pe(h:rD Z0 m W Q BD){x A D}(B:Wh (Q*A) BD)(l:Wh (Q*D) BD)(C:D≠GQ.i 0 0)(J:A=x*D)(j:BD*BD<2^N):Bd x N:=by
 refine wL B l (GQ.iK h.q0 C) ?_ j j;rw[J];ext<;>simp only[GQ.aZ,GQ.aY]<;>grind
def Inv.bdM{c}{s:Ec}{o P}(h:Inv m Z0 c s o P)(B:rD Z0 m W Q BD)(I:BD*BD<2^N)(hc:c<=m){i j}(D:s.r<=i)(l:i<m)(F:j<W):Bd (s.X i j) N:=by
 have C:∀d∈s.q,d<m:=fun d hd=>by have:=h.qc d hd;omega
 have G:=(B.min (Z0 (o i)::P) j s.q (fun p hp=>by
  rcases pq.1 hp with rfl|hp
  .exact⟨o i,h.om i l,rfl⟩
  .exact h.pm p hp) C).2 (by rw[nC,h.pl,h.ql]) (by rw[nC,h.pl];omega) F
 have H:=(B.min P j s.q h.pm C).1 (by rw[h.pl,h.ql]) (by rw[h.pl];omega);exact B.Pe G H h.ne ((h.sy i D l).entry (fun d hd=>h.z i d D l (h.qc d hd)) j) I
def Inv.Wv{c k i}{s:Ec}{o P}(h:Inv m Z0 c s o P)(G:rD Z0 m W Q BD)(L:BD*BD<2^N)(hc:c<m)(j:c<W)(F:s.r<=i)(D:i<m)(B:s.r<=k)(V:k<m)(H:s.X k c≠GQ.i 0 0):Bd (s.X i c/s.X k c) N:=by
 have C:∀d∈s.q,d<m:=fun d hd=>by have:=h.qc d hd;omega
 have l:∀t,s.r<=t->t<m->Wh (Q*det (Z0 (o t)::P) (c::s.q)) BD:=fun t M J=>(G.min (Z0 (o t)::P) c s.q (fun p hp=>by
  rcases pq.1 hp with rfl|hp
  .exact⟨o t,h.om t J,rfl⟩
  .exact h.pm p hp) C).2 (by rw[nC,h.pl,h.ql]) (by rw[nC,h.pl];omega) j
 have K:=(h.sy i F D).entry (fun d hd=>h.z i d F D (h.qc d hd)) c;have I:=(h.sy k B V).entry (fun d hd=>h.z k d B V (h.qc d hd)) c;refine G.Pe (l i F D) (l k B V) (by rw[I];exact GQ.iK H h.ne) ?_ L;rw[K,I,<-GQ.bZ,ae5 H]
def VW(l:rD Z0 m (m+1) Q BD)(C:BD*BD<2^N):Room N m m 1 Z0:=by
 intro c hc M;obtain⟨o,P,B⟩:=oz m Z0 c;exact⟨fun i j F D J=>B.bdM l C aa F D J,fun i k K L G I H=>B.Wv l C hc aa K L G I H⟩
theorem KL(G:rD Z0 m W Q BD)(H:BD*BD<2^N):∀c,c<=m->∀i j,i<m->j<W->Bd ((ech m Z0 c).X i j) N
 |0,_,i,j,hi,hj=>by
  obtain⟨o,P,F⟩:=oz m Z0 0;exact F.bdM G H aa (y5 _) hi hj
 |c+1,hc,i,j,hi,hj=>by
  by_cases l:(ech m Z0 (c+1)).r<=i
  .obtain⟨o,P,F⟩:=oz m Z0 (c+1);exact F.bdM G H hc l hi hj
  have B:=KL G H c aa;have e:ech m Z0 (c+1)=jR m c (ech m Z0 c):=rfl;rw[e] at l⊢;cases D:fp (ech m Z0 c).X c (m-(ech m Z0 c).r) (ech m Z0 c).r with
  |none=>rw[eQ D];exact B i j hi hj
  |some k=>
   rw[dL D] at l⊢;obtain⟨K,I,L,J⟩:=iD D;have C:¬(ech m Z0 c).r+1<=i:=l;show Bd (clr (fun i=>(ech m Z0 c).X (swp k (ech m Z0 c).r i)) (ech m Z0 c).r c i j) N;unfold clr;rw[θ aa];exact B _ j (lM aa aa hi) hj
def vz{o P}(h:K8 m Z0 m (ech m Z0 m) (ny m Z0 m) o P)(I:(ech m Z0 m).r=m)(H:rD Z0 m W Q BD):
  ∃M,M≠GQ.i 0 0/\Wh M BD/\∀l j,l<m->j<W->Wh (M*(ny m Z0 m).X l j) BD:=by
 have N:P.length=m:=h.r.inv.pl.trans I;have hq:(ech m Z0 m).q.length=m:=h.r.inv.ql.trans I;have C:∀d∈(ech m Z0 m).q,d<m:=fun d hd=>h.r.inv.qc d hd;refine⟨Q*det P (ech m Z0 m).q,GQ.iK H.q0 h.r.inv.ne,(H.min P 0 _ h.r.inv.pm C).1 aa aa,fun l j B L=> ?_⟩;have D:((ech m Z0 m).q.eraseIdx (m-1-l)).length=m-1:=by
  rw[List.length_eraseIdx,ι aa];omega
 have G:∀d∈(ech m Z0 m).q.eraseIdx (m-1-l),d<m:=fun d hd=>C d (List.mem_of_mem_eraseIdx hd);have K:=(H.min P j _ h.r.inv.pm G).2 aa aa L;have J:=(h.r.sp l aa).entry (k:=m-1-l) (q:=(ech m Z0 m).q) aa (fun n d F=>by
  rw[h.r.un l aa n d F,I];have:n<(ech m Z0 m).q.length:=(ν.1 F).1;by_cases e:n=m-1-l
  .rw[ι e,ι aa]
  .rw[θ e,θ aa]) j
 have e:Q*det P (ech m Z0 m).q*(ny m Z0 m).X l j=Q*det P (j::(ech m Z0 m).q.eraseIdx (m-1-l))\/Q*det P (ech m Z0 m).q*(ny m Z0 m).X l j= -(Q*det P (j::(ech m Z0 m).q.eraseIdx (m-1-l))):=by
  rw[GQ.bZ,GQ.eD (det P _)];rcases J with J|J
  .left;rw[J]
  .right;rw[J]
   ext<;>simp only[GQ.aZ,GQ.aY,GQ.kI,GQ.kN]<;>grind
 rcases e with e|e
 .rw[e];exact K
 .rw[e];exact K.neg
theorem M9{i}(R:(ech m Z0 m).r=m)(hi:i<m)(I:rD Z0 m W Q BD):∃D,D≠GQ.i 0 0/\Wh D BD/\∀l,l<W->Wh (D*(ech m Z0 m).X i l) BD:=by
 have H:=yw (X:=Z0) (m:=m) aa (show i<=m by omega);have G:=yw (X:=Z0) (m:=m) aa (show i+1<=m by omega);obtain⟨o,P,h⟩:=oz m Z0 i;have M:ech m Z0 (i+1)=jR m i (ech m Z0 i):=rfl;cases J:fp (ech m Z0 i).X i (m-(ech m Z0 i).r) (ech m Z0 i).r with
 |none=>rw[M,eQ J] at G;omega
 |some k=>
  obtain⟨K,V,O,T⟩:=iD J;have F:(ech m Z0 m).X i=(ech m Z0 i).X k:=by
   rw[(Iu m Z0 (i+1) m aa i aa).1,M,dL J];funext j;show clr (fun t=>(ech m Z0 i).X (swp k (ech m Z0 i).r t)) (ech m Z0 i).r i i j=_;unfold clr;rw[θ aa];show(ech m Z0 i).X (swp k (ech m Z0 i).r i) j=_;rw[H,nU]
  have S:P.length=i:=h.pl.trans H;have hq:(ech m Z0 i).q.length=i:=h.ql.trans H;have C:∀d∈(ech m Z0 i).q,d<m:=fun d hd=>by have:=h.qc d hd;omega
  refine⟨Q*det P (ech m Z0 i).q,GQ.iK I.q0 h.ne,(I.min P 0 _ h.pm C).1 aa aa,fun l B=> ?_⟩;have N:=(I.min (Z0 (o k)::P) l _ (fun p hp=>by
   rcases pq.1 hp with rfl|hp
   .exact⟨o k,h.om k aa,rfl⟩
   .exact h.pm p hp) C).2 AbB AbB B
  have L:=(h.sy k K aa).entry (fun d hd'=>h.z k d K aa (h.qc d hd')) l;rw[L] at N;rw[F,GQ.bZ,GQ.eD (det P _)];exact N
end
section
variable {m BD N Ns:Nat} {Z0:Nat->Nat->GQ} {Q:GQ}
def KO{W}(F:(ech m Z0 m).r=m)(G:rD Z0 m W Q BD)(B:BD*BD<2^N){l j}(Z:l<m)(C:j<W):Bd ((ny m Z0 m).X l j) N:=by
 obtain⟨o,P,h⟩:=kS m Z0 m;obtain⟨M,I,H,D⟩:=vz h F G;exact wL (D l j Z C) H I (GQ.eD _ _) B B
def H5(F:(ech m Z0 m).r=m)(I:rD Z0 m (m+1) Q BD)(K:(BD*BD+m*(BD*BD))*(BD*BD)<2^Ns){k s}(N:k<m)(L:s<=k):
  Bd (bps (ech m Z0 m).X (iZ (ech m Z0 m).X m k) m (m-1-k) 0 s) Ns:=by
 obtain⟨o,P,h⟩:=kS m Z0 m;rw[FZ,AO (x':=fun t=>(ny m Z0 m).X (m-1-k+1+t) m) s (fun t J=>yV h F 0 k aa _ aa aa)];obtain⟨M,G,l,H⟩:=vz h F I;obtain⟨D,C,B,j⟩:=M9 (i:=m-1-k) F aa I;refine SB C G B l (j _ aa) (fun t J=>j _ aa) (fun t J=>H _ _ aa aa) (Γ (Z6 ?_ (κ _)) K) (Γ (Z6 ?_ (κ _)) K)
 .have:=Z6 (show s<=m by omega) (κ (BD*BD));omega
 .omega
def Vs(G:(ech m Z0 m).r=m)(F:rD Z0 m (m+1) Q BD)(J:BD*BD<2^N)(B:(BD*BD+m*(BD*BD))*(BD*BD)<2^Ns)(c1:2*max Ns (N+N+1)+65<=12800)(c3:Ns+N+1<=12800):
  Lm N Ns Ns N m 1 (ech m Z0 m).X:=by
 refine⟨fun i l hi Z=>KL F J m (κ m) i l hi aa,fun k j s D I C=> ?_,fun k j D I=> ?_,fun k i j D K H I=> ?_,c1,aa,c3,aa,aa⟩
 .obtain rfl:j=0:=aa;exact H5 G F B D aa
 .obtain rfl:j=0:=aa;exact H5 G F B D (κ k)
 .obtain rfl:j=0:=aa;obtain⟨o,P,h⟩:=kS m Z0 m;rw[yV h G 0 k D i K H];exact KO G F J H aa
end
def zq (z:Imp) (n d:Int):GQ:=⟨((n*z.r:Int):Rat)/(d:Rat),((n*z.x:Int):Rat)/(d:Rat)⟩
structure Nb where
 a:Nat
 b:Nat
 y:GQ
 e:GQ
def Nb.at_ (b:Nb) (k:Nat) (U:Nat->GQ):GQ:=(if k=b.a then b.y*(U b.a-U b.b) else GQ.i 0 0)+(if k=b.b then b.y*(U b.b-U b.a) else GQ.i 0 0)
def Nb.src (b:Nb) (k:Nat):GQ:=if b.b=17/\k=b.a then b.y*b.e else GQ.i 0 0
def Nb.br (rw_:Nat->Nat) (b:Nb):Br:=⟨rw_ b.a,rw_ b.b,decide (b.b=17),b.y⟩
def oU{α:Type}{f g:α->GQ}:∀l:List α,(∀a∈l,f a=g a)->gY f l=gY g l
 |[],_=>rfl
 |a::l,h=>by
  show gY f l+f a=gY g l+g a;rw[oU l (fun x J=>h x (nG _ J)),h a wN]
def Ii{α:Type}(c)(f:α->GQ):∀l:List α,gY (fun a=>c*f a) l=c*gY f l
 |[]=>(GQ.bJ _).symm
 |a::l=>by
  show gY (fun a=>c*f a) l+c*f a=c*(gY f l+f a);rw[Ii c f l,GQ.pM]
def rC{n C j:Nat}(l:j<n)(y:GQ)(x:Nat->GQ)(i:Nat):gV (fun c=>jB C j y i c*x c) n=if i=C then y*x j else GQ.i 0 0:=by
 rw[ry (c:=j) n l (fun c _ hc=>by show(if i=C/\c=j then y else GQ.i 0 0)*_=_;rw[θ (fun h=>hc h.2),GQ.eY])];show(if i=C/\j=j then y else GQ.i 0 0)*x j=_;by_cases h:i=C
 .rw[ι ⟨h,rfl⟩,ι h]
 .rw[θ (fun e=>h e.1),θ h,GQ.eY]
def Br.part (b:Br) (i:Nat) (x:Nat->GQ):GQ:=
 if b.nt then (if i=b.p then b.y*x b.p else GQ.i 0 0) else (if i=b.p then b.y*(x b.p-x b.q) else GQ.i 0 0)+(if i=b.q then b.y*(x b.q-x b.p) else GQ.i 0 0)
theorem Tj{n X}{b:Br}(x)(hp:b.p<n)(hq:b.nt=ζ->b.q<n)(i):gV (fun c=>stm X b i c*x c) n=gV (fun c=>X i c*x c) n+b.part i x:=by
 unfold stm Br.part;cases hb:b.nt
 .simp only[PI,abL];have hq:=hq hb;have e:(fun c=>(X i c+jB b.p b.p b.y i c+jB b.q b.q b.y i c+jB b.p b.q (-b.y) i c+jB b.q b.p (-b.y) i c)*x c)=fun c=>(((X i c*x c+jB b.p b.p b.y i c*x c)+jB b.q b.q b.y i c*x c)+jB b.p b.q (-b.y) i c*x c)+jB b.q b.p (-b.y) i c*x c:=funext fun c=>by
   ext<;>simp only[GQ.bR,GQ.bN,GQ.aZ,GQ.aY]<;>grind
  rw[e,kY,kY,kY,kY,rC hp,rC hq,rC hq,rC hp];generalize gV (fun c=>X i c*x c) n=s;by_cases l:i=b.p<;>by_cases j:i=b.q<;>simp only[l,j,Aa,abL]
  (all_goals (try subst l);(try subst j));all_goals (try split)<;>(ext<;>simp only[GQ.bR,GQ.bN,GQ.aZ,GQ.aY,GQ.dO,GQ.dQ,GQ.kI,GQ.kN,GQ.dE,GQ.dD]<;>grind)
 .simp only[Aa];have e:(fun c=>(X i c+jB b.p b.p b.y i c)*x c)=fun c=>X i c*x c+jB b.p b.p b.y i c*x c:=funext fun c=>by
   ext<;>simp only[GQ.bR,GQ.bN,GQ.aZ,GQ.aY]<;>grind
  rw[e,kY,rC hp]
def Gg{n}(x i):∀(bs:List Br) (X:Nat->Nat->GQ),(∀b∈bs,b.p<n/\(b.nt=ζ->b.q<n))->gV (fun c=>fq X bs i c*x c) n=gV (fun c=>X i c*x c) n+gY (fun b=>b.part i x) bs
 |[],X,_=>(GQ.add_zero' _).symm
 |b::bs,X,h=>by
  have hb:=h b wN;show gV (fun c=>fq (stm X b) bs i c*x c) n=_+(gY _ bs+b.part i x);rw[Gg x i bs (stm X b) (fun c hc=>h c (nG _ hc)),Tj x hb.1 hb.2];generalize gV (fun c=>X i c*x c) n=s;generalize gY _ bs=t;generalize b.part i x=u;ext<;>simp only[GQ.bR,GQ.bN]<;>grind
def QJ(i:Nat)(x:Nat->GQ)(n:Nat):gV (fun c=>zmx i c*x c) n=GQ.i 0 0:=by
 rw[iU (g:=fun _=>GQ.i 0 0) n (fun c _=>by show GQ.i 0 0*_=_;rw[GQ.eY]),lW]
structure Rwx (L:Nat->Bool) (rw_:Nat->Nat) (n:Nat):Prop where
 lt:∀k,L k=ε->rw_ k<n
 inj:∀j k,L j=ε->L k=ε->rw_ j=rw_ k->j=k
 onto:∀i,i<n->∃k,L k=ε/\rw_ k=i
structure Ws (L:Nat->Bool) (us:List Nb):Prop where
 none:L 17=ζ
 ab:∀b∈us,L b.a=ε/\(b.b=17\/L b.b=ε)/\b.a≠b.b
inductive JoinN (us:List Nb):Nat->Prop
 |neutral (b:Nb) (h:b∈us) (hn:b.b=17):JoinN us b.a
 |fro (b:Nb) (h:b∈us) (hn:b.b≠17) (hq:JoinN us b.b):JoinN us b.a
 |fwd (b:Nb) (h:b∈us) (hn:b.b≠17) (hp:JoinN us b.a):JoinN us b.b
def JoinN.br{us}(rw_){k}(h:JoinN us k):Joined (us.map (Nb.br rw_)) (rw_ k):=by
 induction h with
 |neutral b h hn=>exact Joined.neutral (Nb.br rw_ b) (abv h) (by simp[Nb.br,hn])
 |fro b h hn _ ih=>exact Joined.fro (Nb.br rw_ b) (abv h) (by simp[Nb.br,hn]) ih
 |fwd b h hn _ ih=>exact Joined.fwd (Nb.br rw_ b) (abv h) (by simp[Nb.br,hn]) ih
structure BQ (L:Nat->Bool) (rw_:Nat->Nat) (n:Nat) (us:List Nb):Prop where
 r:Rwx L rw_ n
 u:Ws L us
 im:∀b∈us,b.y.im<0
 jn:∀k,L k=ε->JoinN us k
section
variable {L:Nat->Bool} {rw_:Nat->Nat} {n:Nat} {us:List Nb}
def BQ.psv(h:BQ L rw_ n us):Psv n (us.map (Nb.br rw_)):=by
 refine⟨fun b hb=> ?_,fun p hp=> ?_⟩
 .obtain⟨c,hc,rfl⟩:=aaf.1 hb;obtain⟨B,l,C⟩:=h.u.ab c hc;refine⟨h.r.lt _ B,fun hn=> ?_,h.im c hc⟩;have:c.b≠17:=by simpa[Nb.br] using hn
  exact h.r.lt _ (l.resolve_left this)
 .obtain⟨k,j,rfl⟩:=h.r.onto p hp;exact(h.jn k j).br rw_
noncomputable def qy (L:Nat->Bool) (rw_:Nat->Nat) (n:Nat) (us:List Nb) (v:Nat->GQ) (k:Nat):GQ:=if L k=ε then sol n (fq zmx (us.map (Nb.br rw_))) (col v) (rw_ k) 0 else GQ.i 0 0
theorem pu{v k}(h:L k=ζ):qy L rw_ n us v k=GQ.i 0 0:=by unfold qy;rw[h];rfl
theorem rY{v k}(h:L k=ε):qy L rw_ n us v k=sol n (fq zmx (us.map (Nb.br rw_))) (col v) (rw_ k) 0:=by unfold qy;rw[ι h]
def BQ.kcl(h:BQ L rw_ n us){v k}(l:L k=ε):gY (fun b=>b.at_ k (qy L rw_ n us v)) us=v (rw_ k):=by
 have F:=h.psv.Fx (v:=v) (h.r.lt k l);rw[Gg _ _ _ _ (fun b hb=>⟨(h.psv.ok b hb).1,(h.psv.ok b hb).2.1⟩),QJ,rA] at F;have B:k≠17:=fun e=>by rw[e,h.u.none] at l;cases l
 rw[<-F,oU (g:=fun a=>(Nb.br rw_ a).part (rw_ k) (fun c=>sol n (fq zmx (us.map (Nb.br rw_))) (col v) c 0)) us]
 .ext<;>simp only[GQ.bR,GQ.bN,GQ.dE,GQ.dD]<;>grind
 .intro b hb;obtain⟨ha,D,G⟩:=h.u.ab b hb;show(if k=b.a then b.y*(qy L rw_ n us v b.a-qy L rw_ n us v b.b) else GQ.i 0 0)+(if k=b.b then b.y*(qy L rw_ n us v b.b-qy L rw_ n us v b.a) else GQ.i 0 0)=
   if decide (b.b=17)=ε then (if rw_ k=rw_ b.a then b.y*sol n (fq zmx (us.map (Nb.br rw_))) (col v) (rw_ b.a) 0 else GQ.i 0 0)
   else (if rw_ k=rw_ b.a then b.y*(sol n (fq zmx (us.map (Nb.br rw_))) (col v) (rw_ b.a) 0-sol n (fq zmx (us.map (Nb.br rw_))) (col v) (rw_ b.b) 0) else GQ.i 0 0)+
    (if rw_ k=rw_ b.b then b.y*(sol n (fq zmx (us.map (Nb.br rw_))) (col v) (rw_ b.b) 0-sol n (fq zmx (us.map (Nb.br rw_))) (col v) (rw_ b.a) 0) else GQ.i 0 0)
  rw[rY ha];by_cases hn:b.b=17
  .rw[ι (show decide (b.b=17)=ε by simp[hn]),θ (show ¬k=b.b by omega),GQ.add_zero',pu (k:=b.b) (by rw[hn];exact h.u.none)];by_cases j:k=b.a
   .rw[ι j,ι (by rw[j])];generalize sol n _ _ _ _=z;ext<;>simp only[GQ.dO,GQ.dQ,GQ.aZ,GQ.aY,GQ.dE,GQ.dD]<;>grind
   .rw[θ j,θ (fun e=>j (h.r.inj _ _ l ha e))]
  .have C:=D.resolve_left hn;rw[θ (show ¬decide (b.b=17)=ε by simp[hn]),rY C];have M:(rw_ k=rw_ b.a)=(k=b.a):=propext ⟨fun e=>h.r.inj _ _ l ha e,fun e=>by rw[e]⟩;have H:(rw_ k=rw_ b.b)=(k=b.b):=propext ⟨fun e=>h.r.inj _ _ l C e,fun e=>by rw[e]⟩;simp only[M,H]
def BQ.drive(h:BQ L rw_ n us){f}(j:L f=ε):0<(qy L rw_ n us (unit (rw_ f)) f).im:=by
 rw[rY j];exact h.psv.drive (x:=fun c=>sol n (fq zmx (us.map (Nb.br rw_))) (col (unit (rw_ f))) c 0) (h.r.lt f j) (fun i hi=>h.psv.Fx (v:=unit (rw_ f)) hi)
def feed (rw_:Nat->Nat) (us:List Nb) (i:Nat):GQ:=gY (fun b=>if b.b=17/\i=rw_ b.a then b.y*b.e else GQ.i 0 0) us
theorem BQ.Td(h:BQ L rw_ n us){k}(j:L k=ε):feed rw_ us (rw_ k)=gY (fun b=>b.src k) us:=by
 refine oU us fun b hb=> ?_;have M:(rw_ k=rw_ b.a)=(k=b.a):=propext ⟨fun e=>h.r.inj _ _ j (h.u.ab b hb).1 e,fun e=>by rw[e]⟩;unfold Nb.src;simp only[M]
end
def P7(g)(z:Imp)(n d w)(hc:bS w g)(F:0<=z.r/\z.r<=1000)(J:0<=z.x/\z.x<=1000)(hn:0<=n/\n<=16)(hd:1<=d/\d<=16):
  CV 156 #[.pointer (γ ⟨g,0,δ⟩),.agg #[.int .i64 z.r,.int .i64 z.x],.int .i64 n,.int .i64 d] w fun v w'=>GV w' v (zq z n d) 64:=by
 obtain⟨D,T,j⟩:=an2 w 54 #[.int .i64 z.r,.int .i64 z.x] 42 #[.bool ζ,.slice δ 0 0,.bool ζ,.slice δ 0 0,.bool ζ,.slice δ 0 0];have O:=hc.ext D;have P:=T.cell;have b1:0<=n*z.r/\n*z.r<=16000:=⟨aca hn.1 F.1,by have:=acb hn.2 F.2 F.1 aa;omega⟩;have b2:0<=n*z.x/\n*z.x<=16000:=⟨aca hn.1 J.1,by have:=acb hn.2 J.2 J.1 aa;omega⟩;have S:=aJ (fun w hc=>Qe g (n*z.r) (n*z.x) d w hc aa aa aa aa aa aa aa);clear F J hn hd;obtain⟨b10,l⟩:=b1;obtain⟨C,B⟩:=b2;go_enter func156,ntmps156;(go_wp2_with fail);clear P T;refine(S.o _ O).mono ?_;rintro e w3 ⟨v,rfl,hv,J⟩;replace D:=D.trans J;replace j:=j.ext J;clear J;obtain⟨WY,U,Z,M,V,K,N,WZ,H,Y,I,W,rfl⟩:=hv.opn;have k6:=j.cell;have f6:=j.frozen;obtain⟨p1,p2,G⟩:=eX D aa j hv;have Q:=aJ p1;have R:=aJ p2;have L:=aJ G;clear p1 p2 G D j hv;(go_wp2_with fail);exact cO rfl rfl rfl R.o ⟨_,rfl,L.o,Q.o⟩
def uN(g)(z:Imp)(w)(hc:bS w g)(B:0<=z.r/\z.r<=1000)(J:0<=z.x/\z.x<=1000):
  CV 120 #[.pointer (γ ⟨g,0,δ⟩),.agg #[.int .i64 z.r,.int .i64 z.x]] w fun v w'=>GV w' v (zq z 1 1) 64:=by
 obtain⟨D,T,j⟩:=an2 w 54 #[.int .i64 z.r,.int .i64 z.x] 42 #[.bool ζ,.slice δ 0 0,.bool ζ,.slice δ 0 0,.bool ζ,.slice δ 0 0];have O:=hc.ext D;have L:=T.cell;have P:=aJ (fun w hc=>P7 g z 1 1 w hc B J aa aa);clear B J;go_enter func120,ntmps120;(go_wp2_with fail);clear L T;refine(P.o _ O).mono ?_;rintro e Z ⟨v,rfl,hv,J⟩;replace D:=D.trans J;replace j:=j.ext J;clear J;obtain⟨W,Q,V,I,R,G,K,Y,C,U,F,S,rfl⟩:=hv.opn;have k6:=j.cell;have f6:=j.frozen;obtain⟨p1,p2,l⟩:=eX D aa j hv;have M:=aJ p1;have N:=aJ p2;have H:=aJ l;clear p1 p2 l D j hv;(go_wp2_with fail);exact cO rfl rfl rfl N.o ⟨_,rfl,H.o,M.o⟩
def Db(g v0 q0 n0 m w)(hc:bS w g)(L:GV w v0 q0 n0)(hm: -9223372036854775808<=m/\m<=9223372036854775807)(hn:2*max n0 64+1<=12800):
  CV 162 #[.pointer (γ ⟨g,0,δ⟩),v0,.int .i64 m] w fun v w'=>GV w' v (q0*GQ.i m 0) (n0+64+1):=by
 obtain⟨M,G,N,C,V,Q,S,U,Y,T,WI,Z,rfl⟩:=L.opn;obtain⟨D,F,j⟩:=an2 w 42 #[.bool M,.slice G N C,.bool V,.slice Q S U,.bool Y,.slice T WI Z] 42 #[.bool ζ,.slice δ 0 0,.bool ζ,.slice δ 0 0,.bool ζ,.slice δ 0 0];have HX:=aJ (L.ext D);have HC:=aJ (bS.ext hc D);have HE:=aJ D;have R:=aJ F;have l:=aJ j;have HN:=aJ hn;have HM:=aJ hm;clear hm;clear L D F j hn hc;go_enter func162,ntmps162;(go_wp2_with fail);generalize ((w.alloc (.cells #[.bool M,.slice G N C,.bool V,.slice Q S U,.bool Y,.slice T WI Z] 42)).alloc (.cells #[.bool ζ,.slice δ 0 0,.bool ζ,.slice δ 0 0,.bool ζ,.slice δ 0 0] 42))=w5 at HX HC HE R l⊢;have Y1:=aK.blk R.o;refine bz 6 [(ε,0),(ε,1),(ε,2),(ε,3),(ζ,4),(ζ,5)] ah ah ?_;refine aT [0,1,2,3] [(ζ,4),(ζ,5)] _ ah ?_;simp only[bP,aU,μ,ξ];(repeat (go_big_quiet_step (fail)));refine σ ?_;refine aR 4 [(ζ,5)] ah ?_;intro K I;simp only[aU];(go_wp2_with fail);refine(bW g m _ (HC.ext ((Ext.refl _).drew)) HM.o.1 HM.o.2).mono ?_;rintro e w2 ⟨u,rfl,O,J⟩;have P:=((Ext.refl w5).drew).trans J;have W:=aJ P;clear J;obtain⟨Xj,Xk,Xi,Xd,Xb,Xa,W9,Xl,Xm,Xg,Xc,Xf,rfl⟩:=O.opn;have HU:=aJ O;(go_wp2_with fail);refine I _ _ ⟨⟨w2,P⟩,rfl⟩ ?_;clear I K P O;have O:=HU.o;refine aR 5 [] ah ?_;intro K I;simp only[aU];(go_wp2_with fail);refine(EG g _ _ q0 (GQ.i m 0) n0 64 _ (HC.ext W.o) (HX.ext W.o) O HN.o).mono ?_;rintro e w3 ⟨v,rfl,hv,J⟩;have H:=W.trans J;have B:=aJ H;clear J;obtain⟨WY,WT,WX,WR,WU,WQ,WS,WZ,WN,WW,WO,WV,rfl⟩:=hv.opn;have HV:=aJ hv;(go_wp2_with fail);refine I _ _ ⟨⟨w3,H⟩,rfl⟩ ?_;clear I K H hv O Y1;simp only[bQ,ρ,φ];have k6:=(l.ext B.o).cell;have f6:=(l.ext B.o).frozen;obtain⟨p1,p2,p3⟩:=eX (HE.trans B.o) (show w.heap.size<=w.heap.size+1 by omega) (l.ext B.o) HV.o;have P1:=aJ p1;have P2:=aJ p2;have P3:=aJ p3;clear p1 p2 p3;(go_wp2_with fail);exact cO rfl rfl rfl P2.o ⟨_,rfl,P3.o,P1.o⟩
def QQ{w:World}{g n j:Nat}{f:Nat->En}{x:Nat->GQ}{e:En}(hb:Blk w g 42 (aO n f).toArray)(J:∀i,i<j->GV w (f i).v (x i) 12800)(C:j<n)(O:GV w e.v (x j) 12800):
  Blk (puts w g (j*6) e.cells) g 42 (aO n (upd f j e)).toArray/\(∀i,i<j+1->GV (puts w g (j*6) e.cells) (upd f j e i).v (x i) 12800)/\Mod (fun k=>k=g) w (puts w g (j*6) e.cells):=by
 have l:Mod (fun k=>k=g) w (puts w g (j*6) e.cells):=Mod.only (fM _ _ _ _) rfl;have hS:Far (fun k=>k=g) w:=fun k B _=>by subst B;exact⟨_,_,hb,dm _ _⟩
 refine⟨?_,fun i hi=> ?_,l⟩
 .rw[<-mZ e C];exact bY _ _ hb
 .by_cases h:i=j
  .subst h;rw[upd_same];exact O.mod l hS
  .rw[upd_ne h];exact(J i aa).mod l hS
theorem DZ(gf m na:Nat)(w)(hc:bS w gf)(hm:m<=24)(XG:na<=24):
  Calls prog 157 #[.pointer (γ ⟨gf,0,δ⟩),.int .i64 (m:Int),.int .i64 (na:Int)] w fun e w'=>∃(G:Nat) (l:Nat->Rw),e=.returned (.slice (γ ⟨G,0,δ⟩) m m)/\DI w w' G m na m (fun _ _=>GQ.i 0 0) l:=by
 have HC:=aJ hc;clear hc;have WQ:=EL m aa;have X8:=AJ na aa;go_enter func157,ntmps157;(go_wp2_with fail);clear WQ;go_loopw [14] (fun i wr=>∃(C:Nat) (l:Nat->Rw),C<=m/\i=.int .i64 C/\DI w wr w.heap.size m na C (fun _ _=>GQ.i 0 0) l) (fun i _=>m-(intOf i).toNat)
 case atStart=>exact⟨0,fun _=>Ag,aa,rfl,Blk.new _ _ _,κ _,by intros;omega,by intros;omega,by intros;omega,Ext.new _ _⟩
 case round=>
  obtain⟨i,l,hi,rfl,hD⟩:=hrel;obtain⟨wv,Xy⟩:∃wv,wv=wr:=⟨_,rfl⟩;subst Xy;have HD:=aJ hD;clear hD;by_cases WE:i<m
  .have hd:decide ((i:Int)<(m:Int))=ε:=ae;have WU:=HD.o.o;have fr:=WU.frozen;have k1:wv.cell? ⟨w.heap.size,i,δ⟩=γ (l i).v:=by rw[WU.cell];exact iM WE
   have Xj:w.heap.size<wv.heap.size:=WU.lt;have P:Blk (wv.setCell ⟨w.heap.size,i,δ⟩ (.slice (γ ⟨wv.heap.size,0,δ⟩) na na)) w.heap.size 174 (mxc m (upd l i ⟨γ ⟨wv.heap.size,0,δ⟩,wv.heap.size,0,na,na⟩)).toArray:=by
    rw[<-EZ];exact WU.nL _ _
   have V:(wv.setCell ⟨w.heap.size,i,δ⟩ (.slice (γ ⟨wv.heap.size,0,δ⟩) na na)).cell? ⟨w.heap.size,i,δ⟩=γ (.slice (γ ⟨wv.heap.size,0,δ⟩) na na):=by rw[P.cell,iM WE,upd_same];rfl
   have Xm:=P.alloc (.cells (aO na fun _=>zEn).toArray 42);have WR:Blk ((wv.setCell ⟨w.heap.size,i,δ⟩ (.slice (γ ⟨wv.heap.size,0,δ⟩) na na)).alloc (.cells (aO na fun _=>zEn).toArray 42)) wv.heap.size 42 (aO na fun _=>zEn).toArray:=aeS _ _ Abh;have Xe:Ext w ((wv.setCell ⟨w.heap.size,i,δ⟩ (.slice (γ ⟨wv.heap.size,0,δ⟩) na na)).alloc (.cells (aO na fun _=>zEn).toArray 42)):=(HD.o.ext.setCell (κ _) _).alloc _;have WI:Mod (fun k=>k=w.heap.size\/k=wv.heap.size) wv ((wv.setCell ⟨w.heap.size,i,δ⟩ (.slice (γ ⟨wv.heap.size,0,δ⟩) na na)).alloc (.cells (aO na fun _=>zEn).toArray 42)):=(Mod.only (Only.set _ _ _ _) (.inl rfl)).trans (aeW (Ext.new _ _));have W9:=aJ Xm;have U:=aJ WR;have W:=aJ Xe;have Xn:=aJ Xj;have WW:=aJ WI;clear WU Xm P WR Xe WI;(go_wp2_with fail);clear k1 V fr;generalize ((wv.setCell ⟨w.heap.size,i,δ⟩ (.slice (γ ⟨wv.heap.size,0,δ⟩) na na)).alloc (.cells (aO na fun _=>zEn).toArray 42))=w3 at W9 U W WW⊢;generalize Xr:wv.heap.size=g at W9 U Xn WW Xj⊢;have WS:=aJ Xr;clear Xr;clear Xj;go_loopw [27] (fun Q wz=>∃(j:Nat) (f:Nat->En),j<=na/\Q=.int .i64 j/\Blk wz g 42 (aO na f).toArray/\(∀H,H<j->GV wz (f H).v (GQ.i 0 0) 12800)/\Mod (fun k=>k=g) w3 wz) (fun Q _=>na-(intOf Q).toNat)
   case atStart=>exact⟨0,fun _=>zEn,aa,rfl,U.o,by intros;omega,Mod.refl _ _⟩
   case round=>
    obtain⟨j,f,hj,rfl,hb,Xd,Xw⟩:=hrel;have Xc:=aJ hb;have WZ:=aJ Xd;have WT:=aJ Xw;clear hb Xd Xw;have WP:w.heap.size≠g:=by have:=Xn.o;omega
    have T:=W9.o.mod WT.o WP;have XC:=aJ T;have R:=aJ (eH W.o WT.o (fun k hk=>by have:=Xn.o;omega));by_cases S:j<na
    .have WJ:decide ((j:Int)<(na:Int))=ε:=ae;have k3:wr.cell? ⟨w.heap.size,i,δ⟩=γ (.slice (γ ⟨g,0,δ⟩) na na):=by rw[T.cell,iM WE,upd_same];rfl
     have lz:=T.lt;have lg:=Xc.o.lt;clear T;have Y1:=aK.cell k3;(go_wp2_with fail);refine bz 7 [(ε,0),(ε,1),(ε,2),(ε,3),(ε,4),(ε,5),(ζ,6)] ah ah ?_;refine aT [0,1,2,3,4,5] [(ζ,6)] _ ah ?_;simp only[bP,aU,μ,ξ];(repeat (go_big_quiet_step (fail)));refine σ ?_;refine aR 6 [] ah ?_;intro K I;simp only[aU];(go_wp2_with fail);refine(bW gf 0 _ (HC.o.ext (R.o.trans ((Ext.refl _).drew))) aa aa).mono ?_;rintro e w4 ⟨u,rfl,hu,J⟩;have N:=((Ext.refl wr).drew).trans J;have Xl:=aJ N;clear J;obtain⟨en,L⟩:=hu.en;subst L;have HU:=aJ (hu.up (show 64<=12800 by omega));clear hu;(go_wp2_with fail);refine I _ _ ⟨⟨w4,N⟩,rfl⟩ ?_;clear I K N Y1 k3;simp only[bQ,ρ,φ];have hp:=QQ (Xc.o.ext Xl.o) (x:=fun _=>GQ.i 0 0) (fun i hi=>(WZ.o i hi).ext Xl.o) S HU.o;obtain⟨d0,d1,d2,d3,d4,d5⟩:=dz.cells (Xc.o.ext Xl.o) S rfl;have fr:=(Xc.o.ext Xl.o).frozen;have WG:=(Xc.o.ext Xl.o).lt;have B:=aJ hp.1;have X6:=aJ hp.2.1;have WF:=aJ hp.2.2;clear hp;unfold En.v gv;go_wp2_with fail
     go_roundw
     case rel=>exact⟨j+1,upd f j en,aa,au,B.o,X6.o,(WT.o.trans (aeW Xl.o)).trans WF.o⟩
     case measure=>simp[intOf];omega
    .obtain rfl:j=na:=aa;clear S hj;go_wp2_with fail
     go_roundw
     case rel=>
      have D:∀C,C<i->(l C).b≠g:=fun C M=>by
       obtain⟨f',WL,_⟩:=(HD.o.row C M).2.1;have:=WL.lt;have:=WS.o;omega
      have F:Mod (fun k=>k=w.heap.size\/k=g) wv wr:=WW.o.trans (WT.o.mono fun k hk=> .inr hk);have Y:Far (fun k=>k=w.heap.size\/k=g) wv:=fun k hk Z=>by
       rcases hk with hk|hk
       .subst hk;refine⟨_,_,HD.o.o,?_⟩;unfold kM;simp only[nH];intro v hv;simp only[mxc,aaf] at hv;obtain⟨C,_,rfl⟩:=hv;rfl
       .have:=WS.o;omega
      refine⟨i+1,upd l i ⟨γ ⟨g,0,δ⟩,g,0,j,j⟩,aa,au,XC.o,κ _,fun C M=> ?_,fun C M=> ?_,fun C H M WN O=> ?_,R.o⟩
      .exact AcN
      .by_cases e:C=i
       .exact Acl
       .rw[upd_ne e];have h3:=HD.o.row C aa;refine⟨h3.1,h3.2.1.mod F Y (fun hk=> ?_),h3.2.2⟩;rcases hk with hk|hk
        .obtain⟨f',WL,_⟩:=h3.2.1;have e1:Blk wv w.heap.size 42 (aO j f').toArray:=hk ▸ WL;have e2:=HD.o.o.symm.trans e1;simp at e2
        .exact D C aa hk
      .by_cases e:C=i
       .by_cases e':H=i
        .omega
        .subst e;rw[upd_same,upd_ne e'] at O;exact absurd O.symm (D H aa)
       .by_cases e':H=i
        .subst e';rw[upd_same,upd_ne e] at O;exact absurd O (D C aa)
        .rw[upd_ne e,upd_ne e'] at O;exact HD.o.inj C H aa aa O
     case measure=>simp[intOf];omega
  .obtain rfl:i=m:=aa;clear WE hi;(go_wp2_with fail);go_ret;exact⟨_,l,rfl,HD.o⟩
inductive NF where
 |any
 |gv (q:GQ) (n:Nat)
 |box (t:TypeId) (cs:Array Value)
 |eq (u:Value)
 |pt
def NF.holds:NF->Nat->Nat->Value->World->Prop
 | .any,_,_,_,_=>True
 | .gv q n,_,_,v,w=>∃e:En,v=e.v/\GV w e.v q n
 | .box t cs,lo,hi,v,w=>v=.pointer (γ ⟨lo,0,δ⟩)/\lo<hi/\Blk w lo t cs
 | .eq u,_,_,v,_=>v=u
 | .pt,lo,hi,v,_=>v=.pointer (γ ⟨lo,0,δ⟩)/\lo<hi
def afV(f:NF){lo hi v w w'}(h:f.holds lo hi v w)(x:Ext w w'):f.holds lo hi v w':=by
 cases f with
 |any=>trivial
 |gv q n=>obtain⟨e,l,j⟩:=h;exact⟨e,l,j.ext x⟩
 |box t cs=>exact⟨h.1,h.2.1,h.2.2.ext x⟩
 |eq u=>exact h
 |pt=>exact h
def ae0{q n lo hi v w}(h:NF.holds (.gv q n) lo hi v w):GV w v q n:=by
 obtain⟨e,l,j⟩:=h;rw[l];exact j
def zS:List (Nat×NF)->Nat->NF
 |[],_=> .any
 |p::r,i=>bif Nat.beq p.1 i then p.2 else zS r i
def qC:List (Nat×NF)->Nat->Bool
 |[],_=>ζ
 |p::r,i=>Nat.beq p.1 i||qC r i
def NFs (l:List (Nat×NF)):Nat->Nat->Nat->Value->World->Prop:=fun i lo hi v w=>(zS l i).holds lo hi v w
def iF(l):∀i lo hi v w w',NFs l i lo hi v w->Ext w w'->NFs l i lo hi v w':=fun _ _ _ _ _ _ h x=>afV _ h x
def IQ{w' v q n}(h:GV w' v q n):∃e:En,v=e.v/\GV w' e.v q n:=by
 obtain⟨e,rfl⟩:=h.en;exact⟨e,rfl,h⟩
def aQ{P ops rest op a w Q}(H:op.guard=δ)(F)(x y:Operand)(B:op.op=.store F x y)(b o cells)(J:a.eval x=.pointer (γ ⟨b,o,δ⟩))(R:a.eval y=.agg cells.toArray)(j:w.there b o cells.length)(hi:(P.info? F).map (·.size)=γ cells.length)(l:∀v∈cells,v.oneCell'=ε)(h:∀w',w'=puts w b o cells->wpList P ops Q rest (a.put op.dst undef) w'):wpList P ops Q (op::rest) a w:=by
 refine wpList_store_mid H F x y B b o cells.toArray J R (by simpa using j) (by simpa using hi) (adQ l) ?_;refine h _ ?_;rw[mI]
theorem dP(e:En):∀v∈e.cells,v.oneCell'=ε:=by
 intro v hv;unfold En.cells at hv;simp only[pq,Z5,aa2] at hv;rcases hv with rfl|rfl|rfl|rfl|rfl|rfl<;>rfl
def bC:(prog.info? 42).map (·.size)=γ (6:Nat):=ah
def Blk.there{w g o n t cs}(h:Blk w g t cs)(hn:o+n<=cs.size):w.there g o n:=fun j l=>
 ⟨by rw[h.cell,ab1 (show o+j<cs.size by omega)];rfl,h.frozen _⟩
def mo{w0 w2 w':World}{g}(e:En)(J:Ext w0 w2)(G:w0.heap.size<=g)(hb:Blk w2 g 42 #[.bool ζ,.slice δ 0 0,.bool ζ,.slice δ 0 0,.bool ζ,.slice δ 0 0])(Y:w'=puts w2 g 0 e.cells):
  Ext w0 w'/\Blk w' g 42 #[.bool e.s1,.slice e.A1 e.n1 e.c1,.bool e.s2,.slice e.A2 e.n2 e.c2,.bool e.s3,.slice e.A3 e.n3 e.c3]/\(∀v q n,GV w2 v q n->GV w' v q n)/\(∀g' t c,g'≠g->Blk w2 g' t c->Blk w' g' t c):=by
 have l:Mod (fun k=>k=g) w2 w':=by rw[Y];exact Mod.only (fM _ _ _ _) rfl
 have hn:kM #[.bool ζ,.slice δ 0 0,.bool ζ,.slice δ 0 0,.bool ζ,.slice δ 0 0]=ε:=rfl;have F:Far (fun k=>k=g) w2:=fun k C _=>by
  obtain rfl:k=g:=C;exact⟨_,_,hb,hn⟩
 have D:Ext w0 w':=by rw[Y];exact gz (G:Own w0 g) 0 e.cells J
 have B:Blk w' g 42 (fF #[.bool ζ,.slice δ 0 0,.bool ζ,.slice δ 0 0,.bool ζ,.slice δ 0 0] 0 e.cells):=by rw[Y];exact bY 0 e.cells hb
 exact⟨D,B,fun v q n h=>h.mod l F,fun g' t c j h=>h.mod l j⟩
def jQ{P:Program}{fn:Func}{R:Ending->World->Prop}{a:Act}{w:World}{t g:Nat}{F:TypeId}{cs:Array Value}{d:TypeDesc}(B:fn.results= #[.cell t F])(hd:a.defers=[])(hp:a.tmps[t]?.getD undef=.pointer (γ ⟨g,0,δ⟩))(hb:Blk w g F cs)(C:P.underlying F=γ d)(j:(match d with| .struct _| .array _ _=>ε|_=>ζ)=ε)(hi:(P.info? F).map (·.size)=γ cs.size)(l:R (.returned (.agg cs)) w):bodyPost P fn R .ret a w:=
 aag (results_cell_row B _ _ g F cs (0,0) _ (by simpa using hp) hb C j hi) hd l
def Ee{P:Program}{ops:Array Oper}{w0:World}{E:Nat->Bool}{Φ:Nat->Nat->Nat->Value->World->Prop}{Qt:Book->Act->Prop}{o:Oper}{l:List Oper}{k:Nat}{F:Book}{a:Act}{G:Value->World->Prop}{f:FuncId}{args:Array Value}{Q:En->Nat->Nat->Prop}(x:∀W,Kn ops w0 Φ k F W->Calls P f args W (fun e w'=>∃v,e=.returned v/\G v w'/\Ext W w'))(h:∀e lo hi,Q e lo hi)(t:(∀W,Kn ops w0 Φ k F W->Calls P f args W (fun e w'=>∃v,e=.returned v/\G v w'/\Ext W w'))->(∀e lo hi,Q e lo hi)->wpT P ops w0 E Φ Qt (o::l) k F a:=by
   intro x h;refine dJ (by rfl) (by rfl) (by rfl) ?_ ?_
   .intro W I;have y:=x W I;clear x h I;go_simp;exact⟨rfl,y.mono fun e w' ⟨v,O,hv,J⟩=>⟨v,O,J,IQ hv⟩⟩
   .intro v lo hi B;obtain⟨W,j⟩:=B;obtain⟨e,rfl,-⟩:=j.get;clear j W x;(try simp only[Act.put,nk,Ej,Ex]);exact h e lo hi):wpT P ops w0 E Φ Qt (o::l) k F a:=t x h
def tN{P:Program}{K:Nat}{Q:Exit->Act->World->Prop}{a:Act}{w:World}{l:List Oper}(n:Nat)(m:List (Nat×NF)){q:Prop}(h:q)(t:q->wpT P l.toArray w (qC m) (NFs m) (fun F a'=>∀w',dV w (NFs m) F w'->wpList P l.toArray Q (l.drop n) a' w') (l.take n) 0 Book.none a:=by
   intro h;simp only[aaq,abm,ρ,φ];exact h)(j:P.follows .mixedOrders=ε:=by kernel_rfl)(B:Region.lexTailB .any l.toArray n=ε:=by kernel_rfl):(Code.region K l.toArray ε).wp P Q a w:=bK n (qC m) (NFs m) (iF _) j B (t h)
def dV.hV{w W:World}{Φ:Nat->Nat->Nat->Value->World->Prop}{F:Book}(h:dV w Φ F W)(i:Nat){v:Value}{lo hi n:Nat}{q:GQ}(l:F i=γ (v,lo,hi):=by rfl)(j:Φ i lo hi v W=NF.holds (.gv q n) lo hi v W:=by rfl):Hid (GV W v q n):=aJ (ae0 (j ▸ h.at_ i l))
structure Sto (g:Nat) (w w':World):Prop where
 os:w'.os=w.os
 tape:w'.tape=w.tape
 output:w'.output=w.output
 size:w'.heap.size=w.heap.size
 block:∀i,i≠g->w'.heap[i]? =w.heap[i]?
 far:∃t cs,Blk w g t cs/\kM cs=ε
def Sto.ext{g w0 w w'}(h:Sto g w w')(J:Ext w0 w)(l:w0.heap.size<=g):Ext w0 w':=
 ⟨h.os.trans J.os,h.tape.trans J.tape,h.output.trans J.output,by rw[h.size];exact J.size,fun k j=>(h.block k aa).trans (J.block k j)⟩
def Sto.blk{g g' w w' t cs}(h:Sto g w w')(hb:Blk w g' t cs)(j:g'≠g):Blk w' g' t cs:=(h.block g' j).trans hb
def Sto.mod{g w w'}(h:Sto g w w'):Mod (fun k=>k=g) w w':=⟨h.os,h.tape,h.output,by rw[h.size];exact κ _,fun k _ j=>h.block k j⟩
def Sto.gv{g w w' v q n}(h:Sto g w w')(hv:GV w v q n):GV w' v q n:=by
 obtain⟨t,cs,hb,hn⟩:=h.far;exact hv.mod h.mod (fun k j _=>by
  obtain rfl:k=g:=j;exact⟨t,cs,hb,hn⟩)
section
variable {P:Program} {ops:Array Oper} {w0:World} {E:Nat->Bool} {Φ Pd Po:Nat->Nat->Nat->Value->World->Prop} {S:Nat->Option Nat}
structure Late (ops:Array Oper) (w0:World) (Φ Pd Po:Nat->Nat->Nat->Value->World->Prop) (S:Nat->Option Nat):Prop where
 ft:∀i lo hi v w w',Φ i lo hi v w->Ext w w'->Φ i lo hi v w'
 fs:∀i lo hi v g w w',Φ i lo hi v w->Sto g w w'->Φ i lo hi v w'
 pt:∀i lo hi v w w',Pd i lo hi v w->Ext w w'->Pd i lo hi v w'
 ps:∀i lo hi v g w w',Pd i lo hi v w->Sto g w w'->(g<lo\/hi<=g)->Pd i lo hi v w'
 qt:∀i lo hi v w w',Po i lo hi v w->Ext w w'->Po i lo hi v w'
 qs:∀i lo hi v g w w',Po i lo hi v w->Sto g w w'->(g<lo\/hi<=g)->Po i lo hi v w'
 sa:∀k j,S k=γ j->anc ops ops.size k j=ε
 si:∀k k' j,S k=γ j->S k'=γ j->k=k'
 sn:∀k j,S k=γ j->S j=δ
 fz:∀k j lo hi v w,S k=γ j->Φ k lo hi v w
structure jM (w0:World) (Φ Pd Po:Nat->Nat->Nat->Value->World->Prop) (S:Nat->Option Nat) (F:Book) (w:World):Prop extends dV w0 Φ F w where
 pend:∀k j e,S k=γ j->F j=γ e->F k=Option.none->Pd j e.2.1 e.2.2 e.1 w
 post:∀k j e x,S k=γ j->F j=γ e->F k=γ x->Po j e.2.1 e.2.2 e.1 w
 dep:∀k j,S k=γ j->F j=Option.none->F k=Option.none
def KnL (ops:Array Oper) (w0:World) (Φ Pd:Nat->Nat->Nat->Value->World->Prop) (S:Nat->Option Nat) (k:Nat) (F:Book) (w:World):Prop:=
 Ext w0 w/\(∀i e,F i=γ e->anc ops ops.size k i=ε->Φ i e.2.1 e.2.2 e.1 w)/\∀j e,S k=γ j->F j=γ e->Pd j e.2.1 e.2.2 e.1 w
def FU (Φ Pd Po:Nat->Nat->Nat->Value->World->Prop) (S:Nat->Option Nat) (k:Nat) (F:Book) (w:World) (v:Value) (w':World):Prop:=
 (S k=Option.none->Ext w w'/\Pd k w.heap.size w'.heap.size v w')/\(∀j e,S k=γ j->F j=γ e->Sto e.2.1 w w'/\Po j e.2.1 e.2.2 e.1 w')/\Φ k w.heap.size w'.heap.size v w'
def rJ (P:Program) (Φ Pd Po:Nat->Nat->Nat->Value->World->Prop) (S:Nat->Option Nat) (k:Nat) (F:Book) (w:World):Result Next->Prop
 | .ok (.value v) w'=>FU Φ Pd Po S k F w v w'
 | .ok .skip w'=>FU Φ Pd Po S k F w undef w'
 | .ok (.enter f args) w1=>w1=w/\S k=Option.none/\Calls P f args w (fun e w'=>∃v,e=.returned v/\Ext w w'/\Pd k w.heap.size w'.heap.size v w'/\Φ k w.heap.size w'.heap.size v w')
 |_=>False
def J7 (S:Nat->Option Nat) (k:Nat) (F:Book):Prop:=∀j,S k=γ j->∃e,F j=γ e/\e.2.1<e.2.2
def qN (P:Program) (ops:Array Oper) (w0:World) (E:Nat->Bool) (Φ Pd Po:Nat->Nat->Nat->Value->World->Prop) (S:Nat->Option Nat) (k:Nat) (K:Book->Act->Prop) (F:Book) (a:Act):Prop:=
 match ops[k]? with
 |Option.none=>K F a
 |some o=>
  if Region.wanted o (yielded ops a.tmps) then
   if E k then
    J7 S k F/\(∀w,KnL ops w0 Φ Pd S k F w->rJ P Φ Pd Po S k F w ((execOp a.eval o).run P w))/\
    (∀v lo hi,(∃w,dV w0 Φ (F.set k (v,lo,hi)) w)->K (F.set k (v,lo,hi)) (a.put o.dst v))
   else gI o.op=ε/\S k=Option.none/\∃v,(∀w,Ext w0 w->o.quietAt P a (fun w'=>w'=w) w v)/\K F (a.put o.dst v)
  else K F (a.put o.dst undef)
def uH (P:Program) (ops:Array Oper) (w0:World) (E:Nat->Bool) (Φ Pd Po:Nat->Nat->Nat->Value->World->Prop) (S:Nat->Option Nat) (Q:Book->Act->Prop):List Oper->Nat->Book->Act->Prop
 |[],_,F,a=>Q F a
 |_::rest,k,F,a=>qN P ops w0 E Φ Pd Po S k (uH P ops w0 E Φ Pd Po S Q rest (k+1)) F a
theorem Ci{k}{K M:Book->Act->Prop}{F a}(B:∃w,dV w0 Φ F w)(h:∀R a',(R=F\/∃e,R=F.set k e)->(∃w,dV w0 Φ R w)->K R a'->M R a')(j:qN P ops w0 E Φ Pd Po S k K F a):qN P ops w0 E Φ Pd Po S k M F a:=by
 unfold qN at*
 split
 .rename_i l;simp only[l] at j;exact h _ _ (.inl rfl) B j
 .rename_i o l
  simp only[l] at j;split
  .rename_i Y
   simp only[Y,Aa] at j;split
   .rename_i D
    simp only[D,Aa] at j;exact⟨j.1,j.2.1,fun v lo hi J=>h _ _ (.inr ⟨_,rfl⟩) J (j.2.2 v lo hi J)⟩
   .rename_i D
    simp only[D] at j;obtain⟨hp,hs,v,G,C⟩:=j;exact⟨hp,hs,v,G,h _ _ (.inl rfl) B C⟩
  .rename_i Y
   simp only[Y] at j;exact h _ _ (.inl rfl) B j
theorem MK{k}{K M:Book->Act->Prop}{F a}(h:∀F a,K F a->M F a)(j:qN P ops w0 E Φ Pd Po S k K F a):qN P ops w0 E Φ Pd Po S k M F a:=by
 unfold qN at*
 split
 .rename_i l;simp only[l] at j;exact h _ _ j
 .rename_i o l
  simp only[l] at j;split
  .rename_i Y
   simp only[Y,Aa] at j;split
   .rename_i D
    simp only[D,Aa] at j;exact⟨j.1,j.2.1,fun v lo hi J=>h _ _ (j.2.2 v lo hi J)⟩
   .rename_i D
    simp only[D] at j;obtain⟨hp,hs,v,C,B⟩:=j;exact⟨hp,hs,v,C,h _ _ B⟩
  .rename_i Y
   simp only[Y] at j;exact h _ _ j
def uG (P:Program) (ops:Array Oper) (w0:World) (E:Nat->Bool) (Φ Pd Po:Nat->Nat->Nat->Value->World->Prop) (S:Nat->Option Nat) (n:Nat) (L:Array Bool->Book->Act->Prop):Nat->Array Bool->Book->Act->Prop
 |0,listed,F,a=>L listed F a
 |f+1,listed,F,a=>Region.ready .any ops listed≠[]/\∀i∈Region.ready .any ops listed,i<n/\qN P ops w0 E Φ Pd Po S i (uG P ops w0 E Φ Pd Po S n L f (listed.setIfInBounds i ε)) F a
def jM.put{F w w' k v}(H:Late ops w0 Φ Pd Po S)(D:S k=Option.none)(hF:F k=Option.none)(h:jM w0 Φ Pd Po S F w)(J:Ext w w')(hp:Pd k w.heap.size w'.heap.size v w')(hv:Φ k w.heap.size w'.heap.size v w'):
  jM w0 Φ Pd Po S (F.set k (v,w.heap.size,w'.heap.size)) w':=by
 have B {V j:Nat} (hs:S V=γ j):V≠k:=fun e=>by rw[e,D] at hs;cases hs
 refine⟨h.todV.put H.ft hF J hv,fun V j e hs O hn=> ?_,fun V j e x hs O hn=> ?_,fun V j hs l=> ?_⟩
 .rw[Book.dK _ _ (B hs)] at hn;by_cases l:j=k
  .subst l;rw[aeZ] at O;cases O;exact hp
  .rw[Book.dK _ _ l] at O;exact H.pt _ _ _ _ _ _ (h.pend V j e hs O hn) J
 .rw[Book.dK _ _ (B hs)] at hn;by_cases l:j=k
  .subst l;rw[h.dep V j hs hF] at hn;cases hn
  .rw[Book.dK _ _ l] at O;exact H.qt _ _ _ _ _ _ (h.post V j e x hs O hn) J
 .rw[Book.dK _ _ (B hs)];by_cases C:j=k
  .subst C;rw[aeZ] at l;cases l
  .rw[Book.dK _ _ C] at l;exact h.dep V j hs l
def jM.Wn{F w w' k j}{e:Value×Nat×Nat}{v}(H:Late ops w0 Φ Pd Po S)(K:S k=γ j)(N:F j=γ e)(P:e.2.1<e.2.2)(hF:F k=Option.none)(h:jM w0 Φ Pd Po S F w)(J:Sto e.2.1 w w')(hp:Po j e.2.1 e.2.2 e.1 w')(hv:Φ k w.heap.size w'.heap.size v w'):
  jM w0 Φ Pd Po S (F.set k (v,w.heap.size,w'.heap.size)) w':=by
 have I {V C:Nat} (hs:S V=γ C):C≠k:=fun e=>by have:=H.sn _ _ hs;rw[e,K] at this;cases this
 have out {C:Nat} {f:Value×Nat×Nat} (D:C≠j) (G:F C=γ f):e.2.1<f.2.1\/f.2.2<=e.2.1:=by
  rcases h.disj C j f e D G N with R|R
  .exact .inr R
  .exact .inl (π P R)
 have T:=J.size;refine⟨⟨J.ext h.ext (h.low j e N),fun i f O=> ?_,fun i f O=> ?_,fun i f O=> ?_,fun i Q f U L O G=> ?_⟩,fun V C f hs O hn=> ?_,fun V C f x hs O hn=> ?_,fun V C hs B=> ?_⟩
 .by_cases hi:i=k
  .subst hi;rw[aeZ] at O;cases O;exact hv
  .rw[Book.dK _ _ hi] at O;exact H.fs _ _ _ _ _ _ _ (h.fact i f O) J
 .by_cases hi:i=k
  .subst hi;rw[aeZ] at O;cases O;exact κ _
  .rw[Book.dK _ _ hi] at O;rw[T];exact h.size i f O
 .by_cases hi:i=k
  .subst hi;rw[aeZ] at O;cases O;exact h.ext.size
  .rw[Book.dK _ _ hi] at O;exact h.low i f O
 .by_cases hi:i=k
  .subst hi;rw[aeZ] at O;cases O;rw[Book.dK _ _ (aax L)] at G;exact .inr (h.size Q U G)
  .rw[Book.dK _ _ hi] at O;by_cases B:Q=k
   .subst B;rw[aeZ] at G;cases G;exact .inl (h.size i f O)
   .rw[Book.dK _ _ B] at G;exact h.disj i Q f U L O G
 .have l:V≠k:=fun M=>by rw[M,aeZ] at hn;cases hn
  rw[Book.dK _ _ l] at hn;rw[Book.dK _ _ (I hs)] at O;have D:C≠j:=fun M=>l (H.si _ _ _ hs (by rw[M];exact K));exact H.ps _ _ _ _ _ _ _ (h.pend V C f hs O hn) J (out D O)
 .rw[Book.dK _ _ (I hs)] at O;by_cases l:V=k
  .subst l;rw[K] at hs;cases hs;rw[N] at O;cases O;exact hp
  .rw[Book.dK _ _ l] at hn;have D:C≠j:=fun M=>l (H.si _ _ _ hs (by rw[M];exact K));exact H.qs _ _ _ _ _ _ _ (h.post V C f x hs O hn) J (out D O)
 .rw[Book.dK _ _ (I hs)] at B;by_cases l:V=k
  .subst l;rw[K] at hs;cases hs;rw[N] at B;cases B
  .rw[Book.dK _ _ l];exact h.dep V C hs B
def jM.on{F w w' k v}(H:Late ops w0 Φ Pd Po S)(hF:F k=Option.none)(h:jM w0 Φ Pd Po S F w)(l:J7 S k F)(O:FU Φ Pd Po S k F w v w'):
  jM w0 Φ Pd Po S (F.set k (v,w.heap.size,w'.heap.size)) w':=by
 obtain⟨G,D,I⟩:=O;cases hs:S k with
 |none=>exact h.put H hs hF (G hs).1 (G hs).2 I
 |some j=>
  obtain⟨e,C,B⟩:=l j hs;exact h.Wn H hs C B hF (D j e hs C).1 (D j e hs C).2 I
def jM.kn{F w k}(h:jM w0 Φ Pd Po S F w)(hF:F k=Option.none):KnL ops w0 Φ Pd S k F w:=⟨h.ext,fun i e O _=>h.fact i e O,fun j e hs O=>h.pend k j e hs O hF⟩
theorem EB{k F a w}{K:Book->Act->Prop}{M:Act->World->Prop}{Q'}(H:Late ops w0 Φ Pd Po S)(hF:F k=Option.none)(Y:jM w0 Φ Pd Po S F w)(h:∀R a' w',jM w0 Φ Pd Po S R w'->(∀j,j≠k->F j=Option.none->R j=Option.none)->K R a'->M a' w')(G:qN P ops w0 E Φ Pd Po S k K F a):wpOp P ops Q' k M a w:=by
 unfold qN at G;unfold wpOp;split
 .rename_i T;simp only[T] at G;exact h F _ _ Y (fun _ _ h=>h) G
 .rename_i o T
  simp only[T] at G;split
  .rename_i l
   simp only[l,Aa] at G;refine .inl ?_;by_cases D:E k=ε
   .simp only[D,Aa] at G;obtain⟨U,Q,L⟩:=G;have C:=Q w (Y.kn hF);unfold Oper.wp;generalize (execOp a.eval o).run P w=r at*
    cases r with
    |ok nx w'=>
     cases nx<;>simp only[Oper.upon]
     case value v=>
      have I:=Y.on H hF U C;exact h _ _ _ I (fun j N hn=>by rw[Book.dK _ _ N];exact hn) (L v _ _ ⟨w',I.todV⟩)
     case skip=>
      have I:=Y.on H hF U C;exact h _ _ _ I (fun j N hn=>by rw[Book.dK _ _ N];exact hn) (L undef _ _ ⟨w',I.todV⟩)
     case enter f args=>
      simp only[rJ] at C;obtain⟨rfl,hs,hc⟩:=C;refine hc.mono fun e w'' ⟨v,O,J,hp,hv⟩=> ?_;subst O;have I:=Y.put H hs hF J hp hv;exact h _ _ _ I (fun j N hn=>by rw[Book.dK _ _ N];exact hn) (L v _ _ ⟨w'',I.todV⟩)
     all_goals simp only[rJ] at C
    |halt x w'=>simp only[rJ] at C
   .simp only[D] at G;obtain⟨_,_,v,Q,L⟩:=G;have C:=Q w Y.ext;unfold Oper.quietAt at C;unfold Oper.wp;generalize (execOp a.eval o).run P w=r at*
    cases r with
    |ok nx w'=>
     cases nx<;>simp only[Oper.quietUpon] at C<;>simp only[Oper.upon]
     case value u=>obtain⟨rfl,rfl⟩:=C;exact h F _ _ Y (fun _ _ h=>h) L
     case skip=>obtain⟨rfl,rfl⟩:=C;exact h F _ _ Y (fun _ _ h=>h) L
     case enter f args=>
      obtain⟨rfl,hc⟩:=C;exact hc.mono fun e w'' ⟨O,B⟩=>by subst O;subst B;exact h F _ _ Y (fun _ _ h=>h) L
    |halt x w'=>simp only[Oper.quietUpon] at C
  .rename_i l
   simp only[l] at G;exact h F _ _ Y (fun _ _ h=>h) G
def afD(H:Late ops w0 Φ Pd Po S){F w k i}{e:Value×Nat×Nat}(hF:F i=Option.none)(l:anc ops ops.size k i=ζ):KnL ops w0 Φ Pd S k (F.set i e) w↔KnL ops w0 Φ Pd S k F w:=by
 have D {j:Nat} (hs:S k=γ j):j≠i:=fun G=>by have:=H.sa _ _ hs;rw[G,l] at this;cases this
 constructor
 .exact fun h=>⟨h.1,fun x f J ha=>h.2.1 x f (afh hF x f J) ha,fun j f hs C=>h.2.2 j f hs (by rw[Book.dK _ _ (D hs)];exact C)⟩
 .refine fun h=>⟨h.1,fun x f J ha=> ?_,fun j f hs C=>h.2.2 j f hs (by rw[Book.dK _ _ (D hs)] at C;exact C)⟩;by_cases B:x=i
  .subst B;rw[l] at ha;cases ha
  .rw[Book.dK _ _ B] at J;exact h.2.1 x f J ha
def afS(H:Late ops w0 Φ Pd Po S){F k i}{e:Value×Nat×Nat}(l:anc ops ops.size k i=ζ):J7 S k (F.set i e)↔J7 S k F:=by
 have D {j:Nat} (hs:S k=γ j):j≠i:=fun G=>by have:=H.sa _ _ hs;rw[G,l] at this;cases this
 constructor<;>intro h j hs<;>obtain⟨f,C,B⟩:=h j hs
 .rw[Book.dK _ _ (D hs)] at C;exact⟨f,C,B⟩
 .exact⟨f,by rw[Book.dK _ _ (D hs)];exact C,B⟩
def afO(H:Late ops w0 Φ Pd Po S){F w k i}{e:Value×Nat×Nat}{r:Result Next}(l:anc ops ops.size k i=ζ):rJ P Φ Pd Po S k (F.set i e) w r↔rJ P Φ Pd Po S k F w r:=by
 have D {j:Nat} (hs:S k=γ j):j≠i:=fun G=>by have:=H.sa _ _ hs;rw[G,l] at this;cases this
 cases r with
 |ok nx w'=>
  cases nx<;>simp only[rJ,FU]
  all_goals
   constructor<;>rintro⟨I,C,J⟩<;>refine⟨I,fun j f hs B=>C j f hs ?_,J⟩
   .rw[Book.dK _ _ (D hs)];exact B
   .rw[Book.dK _ _ (D hs)] at B;exact B
 |halt x w'=>simp only[rJ]
def DF{F:Book}{i}{a:Act}{o}(H:Late ops w0 Φ Pd Po S)(hF:F i=Option.none)(C:∃w,dV w0 Φ F w)(B:∀w,KnL ops w0 Φ Pd S i F w->rJ P Φ Pd Po S i F w ((execOp a.eval o).run P w)):∃v lo hi,∃w,dV w0 Φ (F.set i (v,lo,hi)) w:=by
 obtain⟨w,Y⟩:=C;cases hs:S i with
 |some j=>exact⟨undef,w.heap.size,w.heap.size,w,Y.put H.ft hF (Ext.refl w) (H.fz _ _ _ _ _ _ hs)⟩
 |none=>
  have l:=B w ⟨Y.ext,fun x e O _=>Y.fact x e O,fun j e h=>by rw[hs] at h;cases h⟩;generalize (execOp a.eval o).run P w=r at*
  cases r with
  |ok nx w'=>
   cases nx
   case value v=>
    simp only[rJ,FU] at l;exact⟨v,_,_,w',Y.put H.ft hF (l.1 hs).1 l.2.2⟩
   case skip=>
    simp only[rJ,FU] at l;exact⟨undef,_,_,w',Y.put H.ft hF (l.1 hs).1 l.2.2⟩
   case enter f args=>
    simp only[rJ] at l;obtain⟨_,_,hc⟩:=l;obtain⟨e,w',D,⟨v,_,J,hp,hv⟩,_⟩:=hc [];exact⟨v,_,_,w',Y.put H.ft hF J hv⟩
   all_goals simp only[rJ] at l
  |halt x w'=>simp only[rJ] at l
theorem MO{i j l U}{K:Book->Act->Prop}{F a}(H:Late ops w0 Φ Pd Po S)(hi:ops[i]? =γ l)(hj:ops[j]? =γ U)(L:i≠j)(T:l.apart ops U=ε)(W:∀cs b,l.op≠ .select cs b)(Z:∀cs b,U.op≠ .select cs b)(O:F i=Option.none)(Q:F j=Option.none)(a1:anc ops ops.size i j=ζ)(a2:anc ops ops.size j i=ζ)(hr:∃w,dV w0 Φ F w)(h:qN P ops w0 E Φ Pd Po S i (qN P ops w0 E Φ Pd Po S j K) F a):
  qN P ops w0 E Φ Pd Po S j (qN P ops w0 E Φ Pd Po S i K) F a:=by
 obtain⟨p1,p2,p3⟩:=Oper.apart_spec T;have x1:∀(a:Act) v,execOp (a.put l.dst v).eval U=execOp a.eval U:=fun a v=>adw U Z a l.dst v p1;have x2:∀(a:Act) v,execOp (a.put U.dst v).eval l=execOp a.eval l:=fun a v=>adw l W a U.dst v p3;have y1:∀(a:Act) v,Region.wanted U (yielded ops (a.put l.dst v).tmps)=Region.wanted U (yielded ops a.tmps):=fun a v=>adx U a l.dst v p1;have y2:∀(a:Act) v,Region.wanted l (yielded ops (a.put U.dst v).tmps)=Region.wanted l (yielded ops a.tmps):=fun a v=>adx l a U.dst v p3;have z:∀(a:Act) v u,(a.put U.dst u).put l.dst v=(a.put l.dst v).put U.dst u:=fun a v u=>(Act.put_comm a v u p2).symm;have q1:∀(a:Act) v w u,U.quietAt P (a.put l.dst v) (fun w'=>w'=w) w u↔U.quietAt P a (fun w'=>w'=w) w u:=fun a v w u=>by unfold Oper.quietAt;rw[x1]
 have q2:∀(a:Act) v w u,l.quietAt P (a.put U.dst v) (fun w'=>w'=w) w u↔l.quietAt P a (fun w'=>w'=w) w u:=fun a v w u=>by unfold Oper.quietAt;rw[x2]
 unfold qN at h⊢;simp only[hi,hj] at h⊢;simp only[y1,x1,q1] at h;simp only[y2,x2,q2,z];by_cases wi:Region.wanted l (yielded ops a.tmps)=ε
 .simp only[wi,Aa] at h⊢;by_cases Ei:E i=ε
  .simp only[Ei,Aa] at h⊢;obtain⟨h0,h1,h2⟩:=h;obtain⟨v0,WN,WG,WR⟩:=DF H O hr h1;by_cases wj:Region.wanted U (yielded ops a.tmps)=ε
   .simp only[wj,Aa] at h2⊢;by_cases N:E j=ε
    .simp only[N,Aa] at h2⊢;refine⟨(afS H a2).1 (h2 v0 WN WG WR).1,fun w Y=>(afO H a2).1 ((h2 v0 WN WG WR).2.1 w ((afD H O a2).2 Y)),fun u lo hi D=>⟨(afS H a1).2 h0,fun w Y=>(afO H a1).2 (h1 w ((afD H Q a1).1 Y)),fun v C M B=> ?_⟩⟩;obtain⟨w,Y⟩:=B;have Xt:dV w0 Φ (F.set i (v,C,M)) w:=Y.sub (afv (afh Q));rw[afw _ (aax L)] at Y⊢;exact(h2 v C M ⟨w,Xt⟩).2.2 u lo hi ⟨w,Y⟩
    .simp only[N] at h2⊢;obtain⟨hp,G,u,hu,_⟩:=h2 v0 WN WG WR;refine⟨hp,G,u,hu,h0,h1,fun v lo hi B=> ?_⟩;obtain⟨_,_,u',V,I⟩:=h2 v lo hi B;obtain⟨w,Y⟩:=hr;rw[xk hp (hu w Y.ext) (V w Y.ext)];exact I
   .simp only[wj] at h2⊢;exact⟨h0,h1,fun v lo hi B=>h2 v lo hi B⟩
  .simp only[Ei] at h⊢;obtain⟨hp,G,v,hv,h2⟩:=h;by_cases wj:Region.wanted U (yielded ops a.tmps)=ε
   .simp only[wj,Aa] at h2⊢;by_cases N:E j=ε
    .simp only[N,Aa] at h2⊢;exact⟨h2.1,h2.2.1,fun u lo hi D=>⟨hp,G,v,hv,h2.2.2 u lo hi D⟩⟩
    .simp only[N] at h2⊢;obtain⟨J,R,u,hu,I⟩:=h2;exact⟨J,R,u,hu,hp,G,v,hv,I⟩
   .simp only[wj] at h2⊢;exact⟨hp,G,v,hv,h2⟩
 .simp only[wi] at h⊢;by_cases wj:Region.wanted U (yielded ops a.tmps)=ε
  .simp only[wj,Aa] at h⊢;by_cases N:E j=ε
   .simp only[N,Aa] at h⊢;exact⟨h.1,h.2.1,fun u lo hi D=>h.2.2 u lo hi D⟩
   .simp only[N] at h⊢;obtain⟨J,R,u,hu,I⟩:=h;exact⟨J,R,u,hu,I⟩
  .simp only[wj] at h⊢;exact h
def sH{n g}{L:Array Bool->Book->Act->Prop}{Q'}(H:Late ops w0 Φ Pd Po S)(J:∀B F a w,jM w0 Φ Pd Po S F w->L B F a->wpAny P .any ops Q' g B a w):
  ∀(f:Nat) (B:Array Bool) (F:Book) (a:Act) (w:World),jM w0 Φ Pd Po S F w->(∀j,B.getD j ε=ζ->F j=Option.none)->uG P ops w0 E Φ Pd Po S n L f B F a->wpAny P .any ops Q' (f+g) B a w
 |0,B,F,a,w,hw,_,h=>by rw[aaA];exact J _ _ _ _ hw h
 |f+1,B,F,a,w,hw,hF,h=>by
  rw[show f+1+g=(f+g)+1 by omega];refine⟨fun K=>absurd K h.1,fun i hi=> ?_⟩;have T:=(aaO.1 hi).1;refine EB H (hF i T) hw (fun R a' w' M C I=>sH H J f _ R a' w' M (fun j G=> ?_) I) (h.2 i hi).2;by_cases D:j=i
  .subst D;exfalso;have l:j<B.size:=by
    exact Abw
   simp[l] at G
  .rw[abW ε (aax D)] at G;exact C j D (hF j G)
theorem Cw{n i l}{L:Array Bool->Book->Act->Prop}(HL:Late ops w0 Φ Pd Po S)(hi:ops[i]? =γ l)(C:∀(j:Nat) (o:Oper) cs b,ops[j]? =γ o->o.op≠ .select cs b)(hs:Region.sinkB .any ops n=ε)(hc:Region.chainB .any ops n=ε)(hn:n<ops.size)(Q:i<n)(W:∀B F a,L B F a->∀j∈Region.ready .any ops B,n<=j):
  ∀(f:Nat) (B:Array Bool) (F:Book) (a:Act),HeadInv .any ops n B->(∀j,B.getD j ε=ζ->F j=Option.none)->(∃w,dV w0 Φ F w)->
   (∀j U,ops[j]? =γ U->j≠i->B.getD j ε=ζ->(∀e∈U.after,Region.binds .any e=ε->e.on≠i)->l.apart ops U=ε)->
   i∈Region.ready .any ops B->qN P ops w0 E Φ Pd Po S i (uG P ops w0 E Φ Pd Po S n L f (B.setIfInBounds i ε)) F a->uG P ops w0 E Φ Pd Po S n L (f+1) B F a:=by
 intro f
 induction f with
 |zero=>
  intro B F a inv hF WR _ hr H;have T:=(aaO.1 hr).1;refine⟨fun h=>Adn,fun j hj=> ?_⟩;have V:j<n:=by
   exact AaE
  refine⟨V,?_⟩;by_cases D:j=i
  .subst D;exact H
  .exfalso;have WF:∀R a',uG P ops w0 E Φ Pd Po S n L 0 (B.setIfInBounds i ε) R a'->False:=fun R a' h=>by
    have:=W _ _ _ h j (abz hj D);omega
   unfold qN at H;simp only[hi] at H;split at H
   .split at H
    .obtain⟨v,lo,M,WT⟩:=DF HL (hF i T) WR H.2.1;exact WF _ _ (H.2.2 v lo M WT)
    .obtain⟨_,_,v,_,h2⟩:=H;exact WF _ _ h2
   .exact WF _ _ H
 |succ f ih=>
  intro B F a inv hF WR Z hr H;have T:=(aaO.1 hr).1;refine⟨fun h=>Adn,fun j hj=> ?_⟩;have V:j<n:=by
   exact AaE
  refine⟨V,?_⟩;by_cases D:j=i
  .subst D;exact H
  .obtain⟨Y,U,WG,K⟩:=aaO.1 hj;have WM:∀e∈U.after,Region.binds .any e=ε->e.on≠i:=fun e O hb WH=>by
    exact Ac7
   have H1:=MK (fun R a' h=>(h.2 j (abz hj D)).2) H;have H2:=MO HL hi WG (aax D) (Z j U WG D Y WM) (fun cs b=>C i l cs b hi) (fun cs b=>C j U cs b WG) (hF i T) (hF j Y) (ui inv hr Y) (ui inv hj T) WR H1;have G:∀k ok,ops[k]? =γ ok->k≠i->(B.setIfInBounds j ε).getD k ε=ζ->
     (∀e∈ok.after,Region.binds .any e=ε->e.on≠i)->l.apart ops ok=ε:=fun k ok hk WO WJ WL=>by
    exact AcK
   refine Ci WR (fun R a' WK N h3=>ih (B.setIfInBounds j ε) R a' (inv.set hj V) (fun x J=> ?_) N G (abz hr (aax D)) ?_) H2
   .exact AbW
   .rw[ab4 _ _ D];exact h3
def yn{n g}{L:Book->Act->Prop}(H:Late ops w0 Φ Pd Po S)(C:Region.noSelect ops=ε)(hs:Region.sinkB .any ops n=ε)(hc:Region.chainB .any ops n=ε)(hn:n<ops.size):
  ∀(l:List Oper) (k:Nat) (B:Array Bool) (F:Book) (a:Act),(∀j,j<l.length->l[j]? =ops[k+j]?)->k+l.length=n->HeadInv .any ops n B->(∀j,B.getD j ε=ζ->F j=Option.none)->(∃w,dV w0 Φ F w)->
  Region.lexHead .any ops g l.length k B=ε->uH P ops w0 E Φ Pd Po S L l k F a->
  uG P ops w0 E Φ Pd Po S n (fun D R a'=>Region.seqB .any ops g n D=ε/\L R a') l.length B F a
 |[],k,B,F,a,_,hk,_,_,_,hB,h=>by
  exact Acm
 |o::l,k,B,F,a,hl,hk,inv,hF,hr0,hB,h=>by
  have O:ops[k]? =γ o:=by simpa using(hl 0 ag).symm
  simp only[nC,Region.lexHead,τ] at hB;obtain⟨⟨Z,W⟩,K⟩:=hB;have V:k<n:=by simp only[nC] at hk;omega
  have N:k∈Region.ready .any ops B:=by simpa using Z
  have T:=(aaO.1 N).1;refine Cw H O (aaz C) hs hc hn V (fun D R a' U=>abO U.1) l.length B F a inv hF hr0 (aaT O W) N ?_;refine Ci hr0 (fun R a' M Q I=>yn H C hs hc hn l (k+1) _ R a' (fun j hj=>by have:=hl (j+1) ae;simpa[abS,aaZ 1 j] using this) (by simp only[nC] at hk;omega) (inv.set N V) (fun x J=> ?_) Q K I) h;have Y:x≠k:=by
   rintro rfl;have G:x<B.size:=by
    exact AcR
   simp[G] at J
  exact Abb
end
def BC{P:Program}{K Q a w}{l:List Oper}(n E Φ Pd Po)(S:Nat->Option Nat)(H:Late l.toArray w Φ Pd Po S)(hm:P.follows .mixedOrders=ε)(W:Region.lexTailB .any l.toArray n=ε)(h:uH P l.toArray w E Φ Pd Po S (fun F a'=>∀w',jM w Φ Pd Po S F w'->wpList P l.toArray Q (l.drop n) a' w') (l.take n) 0 Book.none a):(Code.region K l.toArray ε).wp P Q a w:=by
 simp only[Region.lexTailB,τ,Λ] at W;obtain⟨⟨⟨⟨C,hn⟩,hs⟩,hc⟩,L⟩:=W;have WM:n<l.length:=by simpa using hn
 have J:(l.take n).length=n:=ae;have I:(l.drop n).length=l.toArray.size-n:=ag;have D:HeadInv .any l.toArray n (Array.replicate l.toArray.size ζ):=
  ⟨ag,fun j U _ Z=>AaP,fun t _ Y=>adp (by simpa using Y) (aaM _ _)⟩
 have G:dV w Φ Book.none {w with drawn:=w.drawn+1}:=⟨(Ext.refl w).drew,fun _ _ h=>Ach,fun _ _ h=>Ach,fun _ _ h=>Ach,fun _ _ _ _ _ h=>Ach⟩;have N:jM w Φ Pd Po S Book.none {w with drawn:=w.drawn+1}:=⟨G,fun _ _ _ _ h=>Ach,fun _ _ _ _ _ h=>Ach,fun _ _ _ _=>rfl⟩;have H1:=yn (P:=P) (E:=E) (g:=l.toArray.size-n) H C hs hc hn (l.take n) 0 _ Book.none a (fun j V=>by
  have O:j<n:=by rw[J] at V;exact V
  simp[O]) (by simpa using J) D (fun _ _=>rfl) ⟨_,G⟩ (by rw[J];exact L) h
 refine acm hm ?_;have R:=sH (P:=P) (n:=n) (g:=l.toArray.size-n) (Q':=Q) H (fun B F a' w' M T=>by
  have:=ab5 (P:=P) (ops:=l.toArray) (md:=.any) (Q':=Q) (l.drop n) n B a' w' (fun j=>ag) (by rw[I];exact T.1) (T.2 w' M);rwa[I] at this) _ _ _ _ _ N (fun _ _=>rfl) H1
 rw[J] at R;have e:n+(l.toArray.size-n)=l.toArray.size:=by simp at hn⊢;omega
 rw[e] at R;exact R
section
variable {P:Program} {ops:Array Oper} {w0:World} {E:Nat->Bool} {Φ Pd Po:Nat->Nat->Nat->Value->World->Prop} {S:Nat->Option Nat} {Q:Book->Act->Prop}
theorem GU(m){l k F a}(B:∀j,j<m->l[j]? =ops[k+j]?)(D:(List.range m).all (fun j=>(!E (k+j)&&(S (k+j)).isNone)&&((ops[k+j]?).map fun o=>gI o.op).getD ζ)=ε)(h:wpQuiet P ops (fun w'=>∃x:aK w0,w'=x.val) (fun a'=>uH P ops w0 E Φ Pd Po S Q (l.drop m) (k+m) F a') (l.take m) a):uH P ops w0 E Φ Pd Po S Q l k F a:=by
 induction m generalizing l k a with
 |zero=>simpa[wpQuiet] using h
 |succ m ih=>
  cases l with
  |nil=>simp[wpQuiet] at h;simpa[uH] using h
  |cons o r=>
   have M:ops[k]? =γ o:=by simpa using(B 0 aa).symm
   have K:=nH.1 D;have I:=K 0 ag;simp only[Bn,M,Option.map_some,Option.getD_some,τ,acW,Option.isNone_iff_eq_none] at I;have H:(List.range m).all (fun j=>(!E (k+1+j)&&(S (k+1+j)).isNone)&&((ops[k+1+j]?).map fun o=>gI o.op).getD ζ)=ε:=by
    exact Abe
   have G:=fun a'=>ih (l:=r) (k:=k+1) (a:=a') (fun j U=>by have:=B (j+1) aa;simpa[abS,aaZ 1 j] using this) H;simp only[aaq,ρ,wpQuiet] at h;have T:k+(m+1)=k+1+m:=aa;rw[T] at h;unfold uH qN;simp only[M];by_cases Y:Region.wanted o (yielded ops a.tmps)=ε
   .simp only[Y,Aa] at h⊢;simp only[I.1.1,PI,abL];obtain⟨v,O,N⟩:=h;refine⟨I.2,I.1.2,v,fun w J=> ?_,G _ N⟩;have L:=O w ⟨⟨w,J⟩,rfl⟩;unfold Oper.quietAt at*
    generalize R:(execOp a.eval o).run P w=C at*
    cases C with
    |ok nx w'=>
     cases nx<;>simp only[Oper.quietUpon] at L⊢
     case value u=>exact L
     case skip=>exact L
     case enter f args=>exact(jU I.2 R).elim
    |halt x w'=>simp only[Oper.quietUpon] at L
   .simp only[Y] at h⊢;exact G _ h
def rP(m){l k F a}(B:l.take m=(ops.toList.drop k).take m)(D:(List.range m).all (fun j=>(!E (k+j)&&(S (k+j)).isNone)&&((ops[k+j]?).map fun o=>gI o.op).getD ζ)=ε)(h:wpQuiet P ops (fun w'=>∃x:aK w0,w'=x.val) (fun a'=>uH P ops w0 E Φ Pd Po S Q (l.drop m) (k+m) F a') (l.take m) a):uH P ops w0 E Φ Pd Po S Q l k F a:=
 GU m (fun j C=>by
  have G:(l.take m)[j]? =((ops.toList.drop k).take m)[j]? :=by rw[B]
  rw[BB C,BB C,RS] at G;simpa using G) D h
theorem mW{l o k F a}(H:ops[k]? =γ o)(Y:Region.wanted o (yielded ops a.tmps)=ε)(D:E k=ε)(hS:S k=Option.none)(J:∀w,Ext w0 w->(∀i e,F i=γ e->anc ops ops.size k i=ε->Φ i e.2.1 e.2.2 e.1 w)->mM P (fun lo hi v w'=>Pd k lo hi v w'/\Φ k lo hi v w') w ((execOp a.eval o).run P w))(G:∀v lo hi,(∃w,dV w0 Φ (F.set k (v,lo,hi)) w)->uH P ops w0 E Φ Pd Po S Q l (k+1) (F.set k (v,lo,hi)) (a.put o.dst v)):uH P ops w0 E Φ Pd Po S Q (o::l) k F a:=by
 unfold uH qN;simp only[H,Y,D,Aa];refine⟨fun j C=>(by rw[hS] at C;cases C),fun w I=> ?_,G⟩;have B:=J w I.1 I.2.1;generalize (execOp a.eval o).run P w=r at*
 cases r with
 |ok nx w'=>
  cases nx<;>simp only[mM,rJ,FU] at B⊢
  case value v=>exact⟨fun _=>⟨B.1,B.2.1⟩,fun j e C=>(by rw[hS] at C;cases C),B.2.2⟩
  case enter f args=>exact⟨B.1,hS,B.2⟩
 |halt x w'=>simp only[mM] at B
theorem Ht{l o k j F a}{e:Value×Nat×Nat}(J:ops[k]? =γ o)(Y:Region.wanted o (yielded ops a.tmps)=ε)(D:E k=ε)(hS:S k=γ j)(hF:F j=γ e)(C:e.2.1<e.2.2)(hd:o.dst=δ)(L:∀lo hi v w',Φ k lo hi v w')(K:∀w,Pd j e.2.1 e.2.2 e.1 w->∃w',(execOp a.eval o).run P w=.ok .skip w'/\Sto e.2.1 w w'/\Po j e.2.1 e.2.2 e.1 w')(G:∀x,uH P ops w0 E Φ Pd Po S Q l (k+1) (F.set k x) a):uH P ops w0 E Φ Pd Po S Q (o::l) k F a:=by
 unfold uH qN;simp only[J,Y,D,Aa];refine⟨fun H B=>(by rw[hS] at B;cases B;exact⟨e,hF,C⟩),fun w I=> ?_,fun v lo hi _=>(by rw[hd];exact G (v,lo,hi))⟩;obtain⟨w',M,hs,hp⟩:=K w (I.2.2 j e hS hF);rw[M];simp only[rJ,FU];exact⟨fun h=>(by rw[hS] at h;cases h),fun H N B O=>(by rw[hS] at B;cases B;rw[hF] at O;cases O;exact⟨hs,hp⟩),L _ _ _ _⟩
def OE{k F a}(h:Q F a):uH P ops w0 E Φ Pd Po S Q [] k F a:=h
end
def PdG (al:List Nat):Nat->Nat->Nat->Value->World->Prop:=fun i lo hi _ w=>al.contains i=ε->lo<hi/\Blk w lo 42 #[.bool ζ,.slice δ 0 0,.bool ζ,.slice δ 0 0,.bool ζ,.slice δ 0 0]
def PoG (cs:Nat->En):Nat->Nat->Nat->Value->World->Prop:=fun i lo hi _ w=>lo<hi/\Blk w lo 42 #[.bool (cs i).s1,.slice (cs i).A1 (cs i).n1 (cs i).c1,.bool (cs i).s2,.slice (cs i).A2 (cs i).n2 (cs i).c2,.bool (cs i).s3,.slice (cs i).A3 (cs i).n3 (cs i).c3]
def SG:List (Nat×Nat)->Nat->Option Nat
 |[],_=>Option.none
 |p::r,k=>if p.1=k then γ p.2 else SG r k
theorem EO:∀{l:List (Nat×Nat)} {k j:Nat},SG l k=γ j->(k,j)∈l
 |[],_,_,h=>by cases h
 |p::r,k,j,h=>by
  unfold SG at h;split at h
  .rename_i e
   cases h
   subst e;exact wN
  .exact nG _ (EO h)
def Ls:List (Nat×NF)->Bool
 |[]=>ε
 |p::r=>(match p.2 with| .box _ _=>ζ|_=>ε)&&Ls r
theorem AB:∀{l:List (Nat×NF)},Ls l=ε->∀i,(match zS l i with| .box _ _=>ζ|_=>ε)=ε
 |[],_,_=>rfl
 |p::r,h,i=>by
  unfold Ls at h;rw[τ] at h;unfold zS;cases Nat.beq p.1 i with
  |true=>exact h.1
  |false=>exact AB h.2 i
def VI (ops:Array Oper) (nf:List (Nat×NF)) (l:List (Nat×Nat)):Bool:=
 l.all fun p=>anc ops ops.size p.1 p.2&&l.all (fun q=>(p.1==q.1)|| !(p.2==q.2))&&l.all (fun q=> !(p.2==q.1))&& !(qC nf p.1)
theorem AL:∀{l:List (Nat×NF)} {i:Nat},qC l i=ζ->zS l i=.any
 |[],_,_=>rfl
 |p::r,i,h=>by
  unfold qC at h;rw[Bool.or_eq_false_iff] at h;unfold zS;rw[h.1];exact AL h.2
theorem afZ{ops w0}(nf l al cs)(F:Ls nf=ε)(B:VI ops nf l=ε):Late ops w0 (NFs nf) (PdG al) (PoG cs) (SG l):=by
 have Z:∀k j,SG l k=γ j->(anc ops ops.size k j=ε/\(∀q∈l,k=q.1\/j≠q.2))/\(∀q∈l,j≠q.1)/\qC nf k=ζ:=fun k j hs=>by
  have:=nH.1 B _ (EO hs);simp only[τ,nH,abb,beq_iff_eq,acW,beq_eq_false_iff_ne] at this;exact⟨⟨this.1.1.1,this.1.1.2⟩,this.1.2,this.2⟩
 refine⟨fun i lo hi v w w' h x=>afV _ h x,fun i lo hi v g w w' h x=> ?_,fun i lo hi v w w' h x hc=>⟨(h hc).1,(h hc).2.ext x⟩,fun i lo hi v g w w' h x G hc=>⟨(h hc).1,x.blk (h hc).2 (show lo≠g by have:=(h hc).1;omega)⟩,fun i lo hi v w w' h x=>⟨h.1,h.2.ext x⟩,fun i lo hi v g w w' h x G=>⟨h.1,x.blk h.2 (show lo≠g by have:=h.1;omega)⟩,fun k j hs=>(Z k j hs).1.1,fun k J j hs C=> ?_,fun k j hs=> ?_,fun k j lo hi v w hs=> ?_⟩
 .have hb:=AB F i;unfold NFs at h⊢;cases hn:zS nf i with
  |any=>trivial
  |gv q n=>rw[hn] at h;obtain⟨e,H,D⟩:=h;exact⟨e,H,x.gv D⟩
  |box t cs=>rw[hn] at hb;cases hb
  |eq u=>rw[hn] at h;exact h
  |pt=>rw[hn] at h;exact h
 .rcases(Z k j hs).1.2 _ (EO C) with e|e
  .exact e
  .exact absurd rfl e
 .cases I:SG l j with
  |none=>rfl
  |some m=>exact absurd rfl ((Z k j hs).2.1 _ (EO I))
 .unfold NFs;rw[AL (Z k j hs).2.2];trivial
def AU(g):∀(B:List Value) (i:Nat) (w:World) (k:Nat),k≠g->(puts w g i B).heap[k]? =w.heap[k]?
 |[],_,_,_,_=>rfl
 |v::r,i,w,k,hne=>(AU g r (i+1) (w.setCell ⟨g,i,δ⟩ v) k hne).trans (ab3 w ⟨g,i,δ⟩ v k (fun e=>hne (by rw[e])))
def DC(g):∀(B:List Value) (i:Nat) (w:World),(puts w g i B).heap.size=w.heap.size
 |[],_,_=>rfl
 |v::r,i,w=>(DC g r (i+1) (w.setCell ⟨g,i,δ⟩ v)).trans Abh
theorem Vg{ev:Operand->Value}{o:Oper}{x y:Operand}{g w}(e:En)(C:o.op=.store 42 x y)(J:ev x=.pointer (γ ⟨g,0,δ⟩))(R:ev y=e.v)(hb:Blk w g 42 #[.bool ζ,.slice δ 0 0,.bool ζ,.slice δ 0 0,.bool ζ,.slice δ 0 0]):∃w',(execOp ev o).run prog w=.ok .skip w'/\Sto g w w'/\Blk w' g 42 #[.bool e.s1,.slice e.A1 e.n1 e.c1,.bool e.s2,.slice e.A2 e.n2 e.c2,.bool e.s3,.slice e.A3 e.n3 e.c3]:=by
 have D:=run_storeAt_mid (P:=prog) w g 0 42 e.cells.toArray (hb.there (o:=0) (n:=6) ag) bC (adQ (dP e));have N:(Instr.storeAt 42 (.pointer (γ ⟨g,0,δ⟩)) e.v).run prog w=.ok () (w.setCells g 0 e.cells):=D;refine⟨w.setCells g 0 e.cells,?_,?_,?_⟩
 .unfold execOp;simp only[C,J,R];simp only[aaK,aa7,N,aaF]
 .rw[mI];have j:=fM w g 0 e.cells;have hn:kM #[.bool ζ,.slice δ 0 0,.bool ζ,.slice δ 0 0,.bool ζ,.slice δ 0 0]=ε:=rfl;exact⟨j.os,j.tape,j.output,DC g _ _ _,fun i l=>AU g _ _ _ i l,⟨_,_,hb,hn⟩⟩
 .rw[mI];have B:Blk (puts w g 0 e.cells) g 42 (fF #[.bool ζ,.slice δ 0 0,.bool ζ,.slice δ 0 0,.bool ζ,.slice δ 0 0] 0 e.cells):=bY 0 e.cells hb;exact B
def P5{ev:Operand->Value}{o}{x y:Operand}{j lo hi v w cs}(B:o.op=.store 42 x y)(J:ev x=.pointer (γ ⟨lo,0,δ⟩))(R:ev y=(cs j).v)(l:lo<hi/\Blk w lo 42 #[.bool ζ,.slice δ 0 0,.bool ζ,.slice δ 0 0,.bool ζ,.slice δ 0 0]):∃w',(execOp ev o).run prog w=.ok .skip w'/\Sto lo w w'/\PoG cs j lo hi v w':=by
 obtain⟨w',D,C,F⟩:=Vg (cs j) B J R l.2;exact⟨w',D,C,l.1,F⟩
section
variable {W W':World} {G m n:Nat} {P:Nat->Prop} {R:Nat->Rw} {X:Nat->Nat->GQ}
def MxI.hd(h:MxI W G m n P R X){i}(hi:i<m)(hn:0<n):W.cell? ⟨G,i,δ⟩=γ (.slice (γ ⟨(R i).b,0,δ⟩) n n):=by
 rw[h.o.cell,iM hi,h.v hi hn]
def MxI.rb(h:MxI W G m n P R X){i}(hi:i<m)(hn:0<n):(R i).b<W.heap.size:=by
 obtain⟨f,hb,_⟩:=(h.row i hi hn).2;exact hb.lt
def MxI.put(h:MxI W G m n P R X){i j}(hi:i<m)(D:j<n){e:En}{q}(O:GV W e.v q 12800):
  MxI (puts W (R i).b (j*6) e.cells) G m n P R (upd X i (upd (X i) j q))/\Mod (fun k=>k=(R i).b) W (puts W (R i).b (j*6) e.cells)/\Far (fun k=>k=(R i).b) W/\W.there (R i).b (j*6) 6:=by
 have hn:0<n:=aa;obtain⟨f,hb,J⟩:=(h.row i hi hn).2;have hp:=dz.put hb J D O;have B:=(h.row i hi hn).2.far;refine⟨h.Ta hp.2 B (fun e=> ?_) (fun k C l _ e=>l (h.inj k i C hi hn e)) (fun _=>hp.1),hp.2,B,hb.there (by simp[aX];omega)⟩;exact h.o.fQ hb aj e
end
structure BrV where
 a:Nat
 b:Nat
 z0:En
 z1:En
 e:En
def BrV.z (b:BrV) (sq:Nat):En:=if sq=0 then b.z0 else b.z1
def BrV.cs (b:BrV):List Value:=[.int .i64 (b.a:Int),.int .i64 (b.b:Int),.bool b.z0.s1,.slice b.z0.A1 b.z0.n1 b.z0.c1,.bool b.z0.s2,.slice b.z0.A2 b.z0.n2 b.z0.c2,.bool b.z0.s3,.slice b.z0.A3 b.z0.n3 b.z0.c3,.bool b.z1.s1,.slice b.z1.A1 b.z1.n1 b.z1.c1,.bool b.z1.s2,.slice b.z1.A2 b.z1.n2 b.z1.c2,.bool b.z1.s3,.slice b.z1.A3 b.z1.n3 b.z1.c3,.bool b.e.s1,.slice b.e.A1 b.e.n1 b.e.c1,.bool b.e.s2,.slice b.e.A2 b.e.n2 b.e.c2,.bool b.e.s3,.slice b.e.A3 b.e.n3 b.e.c3]
theorem BrV.zat(b:BrV){sq}(h:sq<=1){t v}(hv:(b.z sq).cells[t]? =γ v):b.cs[2+sq*6+t]? =γ v:=by
 have j:t<6:=(ν.1 hv).1;have l:sq=0\/sq=1:=aa;rcases l with rfl|rfl
 .unfold BrV.z at hv;rw[ι rfl] at hv
  match t,j with
  |0,_=>exact hv
  |1,_=>exact hv
  |2,_=>exact hv
  |3,_=>exact hv
  |4,_=>exact hv
  |5,_=>exact hv
 .unfold BrV.z at hv;rw[θ aa] at hv
  match t,j with
  |0,_=>exact hv
  |1,_=>exact hv
  |2,_=>exact hv
  |3,_=>exact hv
  |4,_=>exact hv
  |5,_=>exact hv
structure StI (w W:World) (gf Ga Gb n:Nat) (Pa Pb:Nat->Prop) (Ra Rb:Nat->Rw) (X Y:Nat->Nat->GQ) (gy q1 q2:Nat) (ey:En) (y:GQ) (Ny:Nat) (em:GQ) (Ne:Nat) (rwf:Nat->Nat) (bv:BrV):Prop where
 a:MxI W Ga n n Pa Ra X
 b:MxI W Gb n 1 Pb Rb Y
 c:bS W gf
 y:GV W ey.v y Ny
 by_:Blk W gy 42 #[.bool ey.s1,.slice ey.A1 ey.n1 ey.c1,.bool ey.s2,.slice ey.A2 ey.n2 ey.c2,.bool ey.s3,.slice ey.A3 ey.n3 ey.c3]
 r1:fu W q1 222 18 (fun k=> .int .i64 (rwf k:Int))
 r2:Blk W q2 167 bv.cs.toArray
 em:GV W bv.e.v em Ne
 mod:Mod (fun k=>Pa k\/Pb k) w W
 hp:∀k,Pa k\/Pb k->k≠gf/\k≠Ga/\k≠Gb
 dj:∀k,Pa k->¬Pb k
 la:∀i,i<n->(Ra i).b<w.heap.size
 lb:∀i,i<n->(Rb i).b<w.heap.size
 lg:w.heap.size<=gy/\w.heap.size<=q1/\w.heap.size<=q2
section
variable {w W W':World} {gf Ga Gb n:Nat} {Pa Pb:Nat->Prop} {Ra Rb:Nat->Rw} {X Y:Nat->Nat->GQ} {gy q1 q2:Nat} {ey:En} {y:GQ} {Ny:Nat} {em:GQ} {Ne:Nat} {rwf:Nat->Nat} {b:BrV}
def StI.ext(h:StI w W gf Ga Gb n Pa Pb Ra Rb X Y gy q1 q2 ey y Ny em Ne rwf b)(x:Ext W W'):StI w W' gf Ga Gb n Pa Pb Ra Rb X Y gy q1 q2 ey y Ny em Ne rwf b:=
 ⟨h.a.ext x,h.b.ext x,h.c.ext x,h.y.ext x,h.by_.ext x,h.r1.ext x,h.r2.ext x,h.em.ext x,h.mod.trans (aeW x),h.hp,h.dj,h.la,h.lb,h.lg⟩
def StI.SC(h:StI w W gf Ga Gb n Pa Pb Ra Rb X Y gy q1 q2 ey y Ny em Ne rwf b){i j}(hi:i<n)(H:j<n){e:En}{q}(O:GV W e.v q 12800):
  StI w (puts W (Ra i).b (j*6) e.cells) gf Ga Gb n Pa Pb Ra Rb (upd X i (upd (X i) j q)) Y gy q1 q2 ey y Ny em Ne rwf b/\W.there (Ra i).b (j*6) 6:=by
 obtain⟨J,l,G,I⟩:=h.a.put hi H O;have C:=h.a.mem i hi aa;have Z:=h.la i hi;have F:=h.lg;have B (k:Nat) (K:w.heap.size<=k):¬(fun k=>k=(Ra i).b) k:=fun e=>by have e:k=(Ra i).b:=e;omega
 have D:=h.hp _ (Or.inl C);refine⟨⟨J,h.b.mod l G (fun e=>D.2.2 e.symm) (fun j H _ e=>h.dj _ C (by have e:(Rb j).b=(Ra i).b:=e;rw[<-e];exact h.b.mem j H aa)),Blk.mod h.c l (fun e=>D.1 e.symm),h.y.mod l G,h.by_.mod l (B _ F.1),h.r1.mod l (B _ F.2.1),h.r2.mod l (B _ F.2.2),h.em.mod l G,h.mod.trans (l.mono (fun k e=>by rw[show k=(Ra i).b from e];exact Or.inl C)),h.hp,h.dj,h.la,h.lb,h.lg⟩,I⟩
def StI.Wj(h:StI w W gf Ga Gb n Pa Pb Ra Rb X Y gy q1 q2 ey y Ny em Ne rwf b){i}(hi:i<n){e:En}{q}(O:GV W e.v q 12800):
  StI w (puts W (Rb i).b 0 e.cells) gf Ga Gb n Pa Pb Ra Rb X (upd Y i (upd (Y i) 0 q)) gy q1 q2 ey y Ny em Ne rwf b/\W.there (Rb i).b 0 6:=by
 obtain⟨I,l,G,H⟩:=h.b.put hi (show 0<1 by omega) O;rw[aa5] at I l H;have B:=h.b.mem i hi aa;have Z:=h.lb i hi;have F:=h.lg;have C (k:Nat) (K:w.heap.size<=k):¬(fun k=>k=(Rb i).b) k:=fun e=>by have e:k=(Rb i).b:=e;omega
 have D:=h.hp _ (Or.inr B);refine⟨⟨h.a.mod l G (fun e=>D.2.1 e.symm) (fun j J _ e=>h.dj _ (h.a.mem j J aa) (by have e:(Ra j).b=(Rb i).b:=e;rw[e];exact B)),I,Blk.mod h.c l (fun e=>D.1 e.symm),h.y.mod l G,h.by_.mod l (C _ F.1),h.r1.mod l (C _ F.2.1),h.r2.mod l (C _ F.2.2),h.em.mod l G,h.mod.trans (l.mono (fun k e=>by rw[show k=(Rb i).b from e];exact Or.inr B)),h.hp,h.dj,h.la,h.lb,h.lg⟩,H⟩
def MxI.en(h:MxI W Ga n n Pa Ra X){i j}(hi:i<n)(l:j<n):∃e:En,GV W e.v (X i j) 12800/\∀t u,e.cells[t]? =γ u->W.cell? ⟨(Ra i).b,j*6+t,δ⟩=γ u:=by
 obtain⟨f,hb,J⟩:=(h.row i hi aa).2;refine⟨f j,J j l,fun t u B=> ?_⟩;have C:t<6:=(ν.1 B).1;rw[hb.cell,Ω,dN C l];exact B
def MxI.en1(h:MxI W Gb n 1 Pb Rb Y){i}(hi:i<n):∃e:En,GV W e.v (Y i 0) 12800/\∀t u,e.cells[t]? =γ u->W.cell? ⟨(Rb i).b,t,δ⟩=γ u:=by
 obtain⟨f,hb,J⟩:=(h.row i hi aa).2;refine⟨f 0,J 0 aa,fun t u j=> ?_⟩;have l:t<6:=(ν.1 j).1;have:=dN (f:=f) l (show 0<1 by omega);exact Abv
end
theorem UQ{n}(X){i k}(y):∀p q,p<n->q<n->upd X i (upd (X i) i (X i i+y)) p q=stm X ⟨i,k,ε,y⟩ p q:=by
 intro p q _ _;show _=X p q+jB i i y p q;unfold jB;by_cases hp:p=i
 .subst hp;rw[upd_same];by_cases hq:q=p
  .subst hq;rw[upd_same,ι ⟨rfl,rfl⟩]
  .rw[upd_ne hq,θ (fun e=>hq e.2),GQ.add_zero']
 .rw[upd_ne hp,θ (fun e=>hp e.1),GQ.add_zero']
theorem SH{n}(X){i j}(L:i≠j)(y):∀p q,p<n->q<n->
  (fun X=>upd X j (upd (X j) i (X j i-y))) ((fun X=>upd X i (upd (X i) j (X i j-y))) ((fun X=>upd X j (upd (X j) j (X j j+y))) (upd X i (upd (X i) i (X i i+y))))) p q=stm X ⟨i,j,ζ,y⟩ p q:=by
 intro p q _ _;show _=X p q+jB i i y p q+jB j j y p q+jB i j (-y) p q+jB j i (-y) p q;unfold jB upd;by_cases p1:p=i<;>by_cases p2:p=j<;>by_cases r1:q=i<;>by_cases r2:q=j<;>simp only[p1,p2,r1,r2,L,aax L,Aa,abL,and_self,adb,true_and,and_false,false_and]
 (all_goals (try omega));all_goals (ext<;>simp only[GQ.bR,GQ.bN,GQ.dO,GQ.dQ,GQ.kI,GQ.kN,GQ.dE,GQ.dD]<;>grind)
def SL(gx gf Ga Gb n sq Na Ny Nz Nb Ne:Nat)(Pa Pb:Nat->Prop)(Ra Rb:Nat->Rw)(X Y:Nat->Nat->GQ)(rwf:Nat->Nat)(b:BrV)(z em:GQ)(w:World)(hc:bS w gf)(ha:MxI w Ga n n Pa Ra X)(hb:MxI w Gb n 1 Pb Rb Y)(hP:∀k,Pa k\/Pb k->k≠gf/\k≠Ga/\k≠Gb)(hd:∀k,Pa k->¬Pb k)(XJ:sq<=1)(hz:GV w (b.z sq).v z Nz)(WU:z≠GQ.i 0 0)(O:GV w b.e.v em Ne)(WW:b.a<17)(Q:rwf b.a<n)(WH:b.b=17\/b.b<17/\rwf b.b<n/\rwf b.a≠rwf b.b)(by_:Bd (GQ.i 1 0/z) Ny)(bx:∀i j,i<n->j<n->Bd (X i j) Na)(bb:∀i,i<n->Bd (Y i 0) Nb)(n1:64+Nz+1<=12800)(n2:Nz+Nz+1<=12800)(n3:2*max Na Ny+65<=12800)(n4:2*max Ny Ne+1<=12800)(n5:2*max Nb (Ny+Ne+1)+65<=12800):
  Calls prog 158 #[.pointer (γ ⟨gx,0,δ⟩),.pointer (γ ⟨gf,0,δ⟩),.slice (γ ⟨Ga,0,δ⟩) n n,.slice (γ ⟨Gb,0,δ⟩) n n,.agg (ofC 18 (fun k=> .int .i64 (rwf k:Int))),.agg #[.int .i64 (b.a:Int),.int .i64 (b.b:Int),.bool b.z0.s1,.slice b.z0.A1 b.z0.n1 b.z0.c1,.bool b.z0.s2,.slice b.z0.A2 b.z0.n2 b.z0.c2,.bool b.z0.s3,.slice b.z0.A3 b.z0.n3 b.z0.c3,.bool b.z1.s1,.slice b.z1.A1 b.z1.n1 b.z1.c1,.bool b.z1.s2,.slice b.z1.A2 b.z1.n2 b.z1.c2,.bool b.z1.s3,.slice b.z1.A3 b.z1.n3 b.z1.c3,.bool b.e.s1,.slice b.e.A1 b.e.n1 b.e.c1,.bool b.e.s2,.slice b.e.A2 b.e.n2 b.e.c2,.bool b.e.s3,.slice b.e.A3 b.e.n3 b.e.c3],.int .i64 (sq:Int)] w fun e w'=>e=.returned (.tuple #[])/\
   MxI w' Ga n n Pa Ra (stm X ⟨rwf b.a,rwf b.b,decide (b.b=17),GQ.i 1 0/z⟩)/\MxI w' Gb n 1 Pb Rb (fun i j=>if b.b=17/\i=rwf b.a then Y i j+GQ.i 1 0/z*em else Y i j)/\Mod (fun k=>Pa k\/Pb k) w w':=by
 have M:0<n:=aa;have x2:Ext w ((w.alloc (.cells (ofC 18 (fun k=> .int .i64 (rwf k:Int))) 222)).alloc (.cells #[.int .i64 (b.a:Int),.int .i64 (b.b:Int),.bool b.z0.s1,.slice b.z0.A1 b.z0.n1 b.z0.c1,.bool b.z0.s2,.slice b.z0.A2 b.z0.n2 b.z0.c2,.bool b.z0.s3,.slice b.z0.A3 b.z0.n3 b.z0.c3,.bool b.z1.s1,.slice b.z1.A1 b.z1.n1 b.z1.c1,.bool b.z1.s2,.slice b.z1.A2 b.z1.n2 b.z1.c2,.bool b.z1.s3,.slice b.z1.A3 b.z1.n3 b.z1.c3,.bool b.e.s1,.slice b.e.A1 b.e.n1 b.e.c1,.bool b.e.s2,.slice b.e.A2 b.e.n2 b.e.c2,.bool b.e.s3,.slice b.e.A3 b.e.n3 b.e.c3] 167)):=(Ext.new _ _).alloc _;have b1:fu ((w.alloc (.cells (ofC 18 (fun k=> .int .i64 (rwf k:Int))) 222)).alloc (.cells #[.int .i64 (b.a:Int),.int .i64 (b.b:Int),.bool b.z0.s1,.slice b.z0.A1 b.z0.n1 b.z0.c1,.bool b.z0.s2,.slice b.z0.A2 b.z0.n2 b.z0.c2,.bool b.z0.s3,.slice b.z0.A3 b.z0.n3 b.z0.c3,.bool b.z1.s1,.slice b.z1.A1 b.z1.n1 b.z1.c1,.bool b.z1.s2,.slice b.z1.A2 b.z1.n2 b.z1.c2,.bool b.z1.s3,.slice b.z1.A3 b.z1.n3 b.z1.c3,.bool b.e.s1,.slice b.e.A1 b.e.n1 b.e.c1,.bool b.e.s2,.slice b.e.A2 b.e.n2 b.e.c2,.bool b.e.s3,.slice b.e.A3 b.e.n3 b.e.c3] 167)) w.heap.size 222 18 (fun k=> .int .i64 (rwf k:Int)):=(Blk.new _ _ _).alloc _;have b2:Blk ((w.alloc (.cells (ofC 18 (fun k=> .int .i64 (rwf k:Int))) 222)).alloc (.cells #[.int .i64 (b.a:Int),.int .i64 (b.b:Int),.bool b.z0.s1,.slice b.z0.A1 b.z0.n1 b.z0.c1,.bool b.z0.s2,.slice b.z0.A2 b.z0.n2 b.z0.c2,.bool b.z0.s3,.slice b.z0.A3 b.z0.n3 b.z0.c3,.bool b.z1.s1,.slice b.z1.A1 b.z1.n1 b.z1.c1,.bool b.z1.s2,.slice b.z1.A2 b.z1.n2 b.z1.c2,.bool b.z1.s3,.slice b.z1.A3 b.z1.n3 b.z1.c3,.bool b.e.s1,.slice b.e.A1 b.e.n1 b.e.c1,.bool b.e.s2,.slice b.e.A2 b.e.n2 b.e.c2,.bool b.e.s3,.slice b.e.A3 b.e.n3 b.e.c3] 167)) (w.heap.size+1) 167 b.cs.toArray:=aeS _ _ ag;have HX:=aJ x2;have WS:=aJ b1;have WI:=aJ b2;have HA:=aJ (ha.ext x2);have HB:=aJ (hb.ext x2);have HC:=aJ (hc.ext x2);have P:=aJ (hz.ext x2);have WO:=aJ (O.ext x2);have Xa:Hid (∀k,Pa k\/Pb k->k≠gf/\k≠Ga/\k≠Gb):=aJ hP;have HD:=aJ hd;have WY:=aJ WU;have Xb:=aJ by_;have WT:=aJ bx;have W9:=aJ bb;have C:=aJ WH;have X8:=aJ XJ;have Xq:Hid (∀i,i<n->(Ra i).b<w.heap.size):=aJ fun i hi=>ha.rb hi M;have T:Hid (∀i,i<n->(Rb i).b<w.heap.size):=aJ fun i hi=>hb.rb hi aa;clear x2 b1 b2 ha hb hc hz O hP hd WU by_ bx bb WH;go_enter func158,ntmps158;(go_wp2_with fail);have WP:Hid (∀t v,(b.z sq).cells[t]? =γ v->((w.alloc (.cells (ofC 18 (fun k=> .int .i64 (rwf k:Int))) 222)).alloc (.cells #[.int .i64 (b.a:Int),.int .i64 (b.b:Int),.bool b.z0.s1,.slice b.z0.A1 b.z0.n1 b.z0.c1,.bool b.z0.s2,.slice b.z0.A2 b.z0.n2 b.z0.c2,.bool b.z0.s3,.slice b.z0.A3 b.z0.n3 b.z0.c3,.bool b.z1.s1,.slice b.z1.A1 b.z1.n1 b.z1.c1,.bool b.z1.s2,.slice b.z1.A2 b.z1.n2 b.z1.c2,.bool b.z1.s3,.slice b.z1.A3 b.z1.n3 b.z1.c3,.bool b.e.s1,.slice b.e.A1 b.e.n1 b.e.c1,.bool b.e.s2,.slice b.e.A2 b.e.n2 b.e.c2,.bool b.e.s3,.slice b.e.A3 b.e.n3 b.e.c3] 167)).cell? ⟨w.heap.size+1,2+sq*6+t,δ⟩=γ v):=aJ fun t v hv=>(WI.cell _).trans (by
  have:=b.zat X8.o hv;simpa using this)
 generalize ((w.alloc (.cells (ofC 18 (fun k=> .int .i64 (rwf k:Int))) 222)).alloc (.cells #[.int .i64 (b.a:Int),.int .i64 (b.b:Int),.bool b.z0.s1,.slice b.z0.A1 b.z0.n1 b.z0.c1,.bool b.z0.s2,.slice b.z0.A2 b.z0.n2 b.z0.c2,.bool b.z0.s3,.slice b.z0.A3 b.z0.n3 b.z0.c3,.bool b.z1.s1,.slice b.z1.A1 b.z1.n1 b.z1.c1,.bool b.z1.s2,.slice b.z1.A2 b.z1.n2 b.z1.c2,.bool b.z1.s3,.slice b.z1.A3 b.z1.n3 b.z1.c3,.bool b.e.s1,.slice b.e.A1 b.e.n1 b.e.c1,.bool b.e.s2,.slice b.e.A2 b.e.n2 b.e.c2,.bool b.e.s3,.slice b.e.A3 b.e.n3 b.e.c3] 167))=w5 at HX WS WI HA HB HC P WO WP⊢;generalize Xe:w.heap.size+1=q2 at WI WP⊢;generalize WZ:w.heap.size=q1 at WS⊢;have WX:Hid (w.heap.size<=q1/\w.heap.size<=q2):=aJ ⟨aa,aa⟩;clear WZ Xe;generalize b.z sq=zE at P WP;have WQ:w.heap.size<=w5.heap.size:=HX.size;have E0:=aK.cell (show w5.cell? ⟨q2,2+sq*6,δ⟩=γ (.bool zE.s1) from WP.o 0 _ rfl);have E1:=aK.cell (WP.o 1 _ rfl);have E2:=aK.cell (WP.o 2 _ rfl);have E3:=aK.cell (WP.o 3 _ rfl);have E4:=aK.cell (WP.o 4 _ rfl);have E5:=aK.cell (WP.o 5 _ rfl);refine tN 9 [(2,.gv (GQ.i 1 0) (64)),(7,.gv ((GQ.i 1 0)/z) (Ny)),(8,.box 42 #[.bool ζ,.slice δ 0 0,.bool ζ,.slice δ 0 0,.bool ζ,.slice δ 0 0])] ?_;refine Qs ?_;refine Ee (fun R I=>bW gf 1 _ (HC.ext I.1) aa aa) ?_;intro Xh XV ZK;refine Qs ?_;refine Ee (fun R I=>xy gf Xh.v zE.v (GQ.i 1 0) z (64) (Nz) _ (HC.ext I.1) (ae0 (I.f 2 (Xh.v,XV,ZK))) (P.ext I.1) WY.o (Ny) aa aa Xb.o aa) ?_;intro L YM Zd;refine Eb ?_;intro Xj XQ Z;refine bD ?_;intro w6 I;have F:=I.ext;have WJ:=I.hV 2;have S:=I.hV 7;have WF:=I.hB 8;have WN:=aJ (I.lw 8);clear I Z E0 E1 E2 E3 E4 E5;have N:=aJ (WF.there (o:=0) (n:=6) ag);refine aQ rfl 42 (.tmp 14) (.tmp 24) rfl Xj 0 L.cells rf rf N.o bC (dP L) ?_;intro w7 l;refine Qp ?_;obtain⟨F,WM,H,V⟩:=mo L F WN.o WF.o l;clear l N;replace WJ:=aJ (H _ _ _ WJ.o);replace S:=aJ (H _ _ _ S.o);replace WF:=aJ WM;clear WM H V;replace HA:=HA.aA F;replace HB:=HB.aA F;replace HC:=HC.aA F;replace WS:=WS.aA F;replace WI:=WI.aA F;replace WO:=WO.aA F;replace P:=P.aA F;replace HX:=HX.aC F;clear F;have Xc:Hid (w.heap.size<=w5.heap.size):=aJ WQ;clear WQ;have WL:Hid (StI w w7 gf Ga Gb n Pa Pb Ra Rb (X) (Y) Xj q1 q2 L (GQ.i 1 0/z) Ny em Ne rwf b):=aJ ⟨HA.o,HB.o,HC.o,S.o,WF.o,WS.o,WI.o,WO.o,aeW HX.o,Xa.o,HD.o,Xq.o,T.o,lh Xc.o WN.o,WX.o⟩;clear HA HB HC WS WI WO Xa HD Xq T WX S WF P WJ WP WN Xc HX;have kq:w7.cell? ⟨q2,0,δ⟩=γ (.int .i64 (b.a:Int)):=(Blk.cell WL.r2 0).trans rfl;have kr:=WL.r1.cell (k:=b.a) aa;(go_wp2_with fail);clear kq kr;obtain⟨eA,H,D⟩:=WL.a.en Q Q;have J:=H.to (show Bd (X (rwf b.a) (rwf b.a)) Na by exact WT.o _ _ Q Q);have Xr:=aJ J;clear J H;have K0:=aK.cell (show _=γ (Value.bool eA.s1) from D 0 _ rfl);rw[Bn] at K0;have K1:=aK.cell (D 1 _ rfl);have U:=aK.cell (D 2 _ rfl);have K3:=aK.cell (D 3 _ rfl);have K4:=aK.cell (D 4 _ rfl);have K5:=aK.cell (D 5 _ rfl);have KH:=aK.cell (WL.a.hd Q M);have KY:=aK.blk WL.by_;clear D;refine tN 16 [(14,.gv (X (rwf b.a) (rwf b.a)+GQ.i 1 0/z) (Na+Ny+65))] ?_;refine Qs ?_;refine Ee (fun R I=>uz gf eA.v L.v (X (rwf b.a) (rwf b.a)) (GQ.i 1 0/z) Na Ny _ (WL.c.ext I.1) (Xr.ext I.1) (WL.y.ext I.1) aa) ?_;intro eN WK Xt;refine Qs ?_;refine bD ?_;intro w8 I;have F:=I.ext;have K:=aJ (ae0 (I.at_ 14 (e:=(eN.v,WK,Xt)) rf));have G:=(WL.ext F).SC Q Q (K.up (show Na+Ny+65<=12800 by omega));clear I F K0 K1 U K3 K4 K5 KH KY Xr K;have N:=aJ G.2;replace WL:=aJ G.1;clear G;refine aQ rfl 42 (.tmp 44) (.tmp 43) rfl (Ra ((rwf b.a))).b (((rwf b.a))*6) eN.cells rf rf N.o bC (dP eN) ?_;intro w9 l;refine Qp ?_;replace WL:Hid (StI w w9 gf Ga Gb n Pa Pb Ra Rb (upd X (rwf b.a) (upd (X (rwf b.a)) (rwf b.a) (X (rwf b.a) (rwf b.a)+GQ.i 1 0/z))) (Y) Xj q1 q2 L (GQ.i 1 0/z) Ny em Ne rwf b):=aJ AbG;clear l N;rcases C.o with B|⟨WE,hr,WG⟩
 .have Xn:((b.b:Int)==17)=ε:=by simp[B]
  have HH:=aJ B;clear B;have kq:w9.cell? ⟨q2,1,δ⟩=γ (.int .i64 (b.b:Int)):=(Blk.cell WL.r2 1).trans rfl;(go_wp2_with fail);clear kq Xn;obtain⟨eA,H,D⟩:=WL.b.en1 Q;have J:=H.to (W9.o _ Q);have Xr:=aJ J;clear J H;have K0:=aK.cell (D 0 _ rfl);have K1:=aK.cell (D 1 _ rfl);have U:=aK.cell (D 2 _ rfl);have K3:=aK.cell (D 3 _ rfl);have K4:=aK.cell (D 4 _ rfl);have K5:=aK.cell (D 5 _ rfl);have KH:=aK.cell (WL.b.hd Q aa);have KY:=aK.blk WL.by_;clear D;have W:∀t v,b.e.cells[t]? =γ v->w9.cell? ⟨q2,14+t,δ⟩=γ v:=fun t v hv=>(Blk.cell WL.r2 (14+t)).trans (by have ht:t<6:=(ν.1 hv).1;match t,ht with|0,_=>exact hv|1,_=>exact hv|2,_=>exact hv|3,_=>exact hv|4,_=>exact hv|5,_=>exact hv);have J0:=aK.cell (W 0 _ rfl);have J1:=aK.cell (W 1 _ rfl);have J2:=aK.cell (W 2 _ rfl);have J3:=aK.cell (W 3 _ rfl);have J4:=aK.cell (W 4 _ rfl);have J5:=aK.cell (W 5 _ rfl);clear W;refine tN 18 [(15,.gv (GQ.i 1 0/z*em) (Ny+Ne+1)),(16,.gv (Y (rwf b.a) 0+GQ.i 1 0/z*em) (Nb+(Ny+Ne+1)+65))] ?_;refine Qs ?_;refine Ee (fun R I=>EG gf L.v b.e.v (GQ.i 1 0/z) em Ny Ne _ (WL.c.ext I.1) (WL.y.ext I.1) (WL.em.ext I.1) aa) ?_;intro eM WK Xt;refine Ee (fun R I=>uz gf eA.v eM.v (Y (rwf b.a) 0) (GQ.i 1 0/z*em) Nb (Ny+Ne+1) _ (WL.c.ext I.1) (Xr.ext I.1) (ae0 (I.f 15 (eM.v,WK,Xt))) aa) ?_;intro eN Xd Xg;refine Qs ?_;refine bD ?_;intro XF I;have F:=I.ext;have K:=aJ (ae0 (I.at_ 16 (e:=(eN.v,Xd,Xg)) rf));have G:=(WL.ext F).Wj Q (K.up (show Nb+(Ny+Ne+1)+65<=12800 by omega));clear I F K0 K1 U K3 K4 K5 J0 J1 J2 J3 J4 J5 KH KY Xr K;have N:=aJ G.2;replace WL:=aJ G.1;clear G;refine aQ rfl 42 (.tmp 65) (.tmp 64) rfl (Rb (rwf b.a)).b 0 eN.cells rf rf N.o bC (dP eN) ?_;intro Xf l;refine Qp ?_;replace WL:=aJ (show StI w Xf gf Ga Gb n Pa Pb Ra Rb (upd X (rwf b.a) (upd (X (rwf b.a)) (rwf b.a) (X (rwf b.a) (rwf b.a)+GQ.i 1 0/z))) (upd Y (rwf b.a) (upd (Y (rwf b.a)) 0 (Y (rwf b.a) 0+GQ.i 1 0/z*em))) Xj q1 q2 L (GQ.i 1 0/z) Ny em Ne rwf b from by rw[l];exact WL.o);clear l N;(go_wp2_with fail);refine aag (v:=.tuple #[]) (aaB rfl _ _ _) rfl ⟨rfl,?_,?_,WL.mod⟩
  .rw[show decide (b.b=17)=ε from Ξ HH.o];exact WL.a.congr (fun i j hi hj=>UQ (n:=n) X _ i j hi hj)
  .refine WL.b.congr (fun i j hi hj=> ?_);obtain rfl:j=0:=aa;by_cases WV:i=rwf b.a
   .subst WV;rw[upd_same,upd_same,ι ⟨HH.o,rfl⟩]
   .rw[upd_ne WV,θ (fun e=>WV e.2)]
 .have Xn:((b.b:Int)==17)=ζ:=ae;have Xm:=aJ WE;clear WE;have kq:w9.cell? ⟨q2,1,δ⟩=γ (.int .i64 (b.b:Int)):=(Blk.cell WL.r2 1).trans rfl;have kr:=WL.r1.cell (k:=b.b) (π Xm.o aa);have Yu:b.b<18:=π Xm.o aa;(go_wp2_with fail);clear kq Xn kr Yu;have WR:=aJ WG;clear WG;obtain⟨eA,H,D⟩:=WL.a.en hr hr;have J:=H.to (show Bd ((upd X (rwf b.a) (upd (X (rwf b.a)) (rwf b.a) (X (rwf b.a) (rwf b.a)+GQ.i 1 0/z))) (rwf b.b) (rwf b.b)) Na by rw[upd_ne (WR.o.symm)];exact WT.o _ _ hr hr);have Xr:=aJ J;clear J H;have K0:=aK.cell (show _=γ (Value.bool eA.s1) from D 0 _ rfl);rw[Bn] at K0;have K1:=aK.cell (D 1 _ rfl);have U:=aK.cell (D 2 _ rfl);have K3:=aK.cell (D 3 _ rfl);have K4:=aK.cell (D 4 _ rfl);have K5:=aK.cell (D 5 _ rfl);have KH:=aK.cell (WL.a.hd hr M);have KY:=aK.blk WL.by_;clear D;refine tN 16 [(14,.gv ((upd X (rwf b.a) (upd (X (rwf b.a)) (rwf b.a) (X (rwf b.a) (rwf b.a)+GQ.i 1 0/z))) (rwf b.b) (rwf b.b)+GQ.i 1 0/z) (Na+Ny+65))] ?_;refine Qs ?_;refine Ee (fun R I=>uz gf eA.v L.v ((upd X (rwf b.a) (upd (X (rwf b.a)) (rwf b.a) (X (rwf b.a) (rwf b.a)+GQ.i 1 0/z))) (rwf b.b) (rwf b.b)) (GQ.i 1 0/z) Na Ny _ (WL.c.ext I.1) (Xr.ext I.1) (WL.y.ext I.1) aa) ?_;intro eN WK Xt;refine Qs ?_;refine bD ?_;intro XF I;have F:=I.ext;have K:=aJ (ae0 (I.at_ 14 (e:=(eN.v,WK,Xt)) rf));have G:=(WL.ext F).SC hr hr (K.up (show Na+Ny+65<=12800 by omega));clear I F K0 K1 U K3 K4 K5 KH KY Xr K;have N:=aJ G.2;replace WL:=aJ G.1;clear G;refine aQ rfl 42 (.tmp 85) (.tmp 84) rfl (Ra ((rwf b.b))).b (((rwf b.b))*6) eN.cells rf rf N.o bC (dP eN) ?_;intro Xf l;refine Qp ?_;replace WL:Hid (StI w Xf gf Ga Gb n Pa Pb Ra Rb (upd (upd X (rwf b.a) (upd (X (rwf b.a)) (rwf b.a) (X (rwf b.a) (rwf b.a)+GQ.i 1 0/z))) (rwf b.b) (upd ((upd X (rwf b.a) (upd (X (rwf b.a)) (rwf b.a) (X (rwf b.a) (rwf b.a)+GQ.i 1 0/z))) (rwf b.b)) (rwf b.b) ((upd X (rwf b.a) (upd (X (rwf b.a)) (rwf b.a) (X (rwf b.a) (rwf b.a)+GQ.i 1 0/z))) (rwf b.b) (rwf b.b)+GQ.i 1 0/z))) (Y) Xj q1 q2 L (GQ.i 1 0/z) Ny em Ne rwf b):=aJ AbG;clear l N;(go_wp2_with fail);obtain⟨eA,H,D⟩:=WL.a.en Q hr;have J:=H.to (show Bd ((upd (upd X (rwf b.a) (upd (X (rwf b.a)) (rwf b.a) (X (rwf b.a) (rwf b.a)+GQ.i 1 0/z))) (rwf b.b) (upd ((upd X (rwf b.a) (upd (X (rwf b.a)) (rwf b.a) (X (rwf b.a) (rwf b.a)+GQ.i 1 0/z))) (rwf b.b)) (rwf b.b) ((upd X (rwf b.a) (upd (X (rwf b.a)) (rwf b.a) (X (rwf b.a) (rwf b.a)+GQ.i 1 0/z))) (rwf b.b) (rwf b.b)+GQ.i 1 0/z))) (rwf b.a) (rwf b.b)) Na by rw[upd_ne WR.o,upd_same,upd_ne (WR.o.symm)];exact WT.o _ _ Q hr);have Xr:=aJ J;clear J H;have K0:=aK.cell (show _=γ (Value.bool eA.s1) from D 0 _ rfl);rw[Bn] at K0;have K1:=aK.cell (D 1 _ rfl);have U:=aK.cell (D 2 _ rfl);have K3:=aK.cell (D 3 _ rfl);have K4:=aK.cell (D 4 _ rfl);have K5:=aK.cell (D 5 _ rfl);have KH:=aK.cell (WL.a.hd Q M);have KY:=aK.blk WL.by_;clear D;refine tN 16 [(14,.gv ((upd (upd X (rwf b.a) (upd (X (rwf b.a)) (rwf b.a) (X (rwf b.a) (rwf b.a)+GQ.i 1 0/z))) (rwf b.b) (upd ((upd X (rwf b.a) (upd (X (rwf b.a)) (rwf b.a) (X (rwf b.a) (rwf b.a)+GQ.i 1 0/z))) (rwf b.b)) (rwf b.b) ((upd X (rwf b.a) (upd (X (rwf b.a)) (rwf b.a) (X (rwf b.a) (rwf b.a)+GQ.i 1 0/z))) (rwf b.b) (rwf b.b)+GQ.i 1 0/z))) (rwf b.a) (rwf b.b)-GQ.i 1 0/z) (Na+Ny+65))] ?_;refine Qs ?_;refine Ee (fun R I=>vQ gf eA.v L.v ((upd (upd X (rwf b.a) (upd (X (rwf b.a)) (rwf b.a) (X (rwf b.a) (rwf b.a)+GQ.i 1 0/z))) (rwf b.b) (upd ((upd X (rwf b.a) (upd (X (rwf b.a)) (rwf b.a) (X (rwf b.a) (rwf b.a)+GQ.i 1 0/z))) (rwf b.b)) (rwf b.b) ((upd X (rwf b.a) (upd (X (rwf b.a)) (rwf b.a) (X (rwf b.a) (rwf b.a)+GQ.i 1 0/z))) (rwf b.b) (rwf b.b)+GQ.i 1 0/z))) (rwf b.a) (rwf b.b)) (GQ.i 1 0/z) Na Ny _ (WL.c.ext I.1) (Xr.ext I.1) (WL.y.ext I.1) aa) ?_;intro eN WK Xt;refine Qs ?_;refine bD ?_;intro Yq I;have F:=I.ext;have K:=aJ (ae0 (I.at_ 14 (e:=(eN.v,WK,Xt)) rf));have G:=(WL.ext F).SC Q hr (K.up (show Na+Ny+65<=12800 by omega));clear I F K0 K1 U K3 K4 K5 KH KY Xr K;have N:=aJ G.2;replace WL:=aJ G.1;clear G;refine aQ rfl 42 (.tmp 101) (.tmp 100) rfl (Ra ((rwf b.a))).b (((rwf b.b))*6) eN.cells rf rf N.o bC (dP eN) ?_;intro Yr l;refine Qp ?_;replace WL:Hid (StI w Yr gf Ga Gb n Pa Pb Ra Rb (upd (upd (upd X (rwf b.a) (upd (X (rwf b.a)) (rwf b.a) (X (rwf b.a) (rwf b.a)+GQ.i 1 0/z))) (rwf b.b) (upd ((upd X (rwf b.a) (upd (X (rwf b.a)) (rwf b.a) (X (rwf b.a) (rwf b.a)+GQ.i 1 0/z))) (rwf b.b)) (rwf b.b) ((upd X (rwf b.a) (upd (X (rwf b.a)) (rwf b.a) (X (rwf b.a) (rwf b.a)+GQ.i 1 0/z))) (rwf b.b) (rwf b.b)+GQ.i 1 0/z))) (rwf b.a) (upd ((upd (upd X (rwf b.a) (upd (X (rwf b.a)) (rwf b.a) (X (rwf b.a) (rwf b.a)+GQ.i 1 0/z))) (rwf b.b) (upd ((upd X (rwf b.a) (upd (X (rwf b.a)) (rwf b.a) (X (rwf b.a) (rwf b.a)+GQ.i 1 0/z))) (rwf b.b)) (rwf b.b) ((upd X (rwf b.a) (upd (X (rwf b.a)) (rwf b.a) (X (rwf b.a) (rwf b.a)+GQ.i 1 0/z))) (rwf b.b) (rwf b.b)+GQ.i 1 0/z))) (rwf b.a)) (rwf b.b) ((upd (upd X (rwf b.a) (upd (X (rwf b.a)) (rwf b.a) (X (rwf b.a) (rwf b.a)+GQ.i 1 0/z))) (rwf b.b) (upd ((upd X (rwf b.a) (upd (X (rwf b.a)) (rwf b.a) (X (rwf b.a) (rwf b.a)+GQ.i 1 0/z))) (rwf b.b)) (rwf b.b) ((upd X (rwf b.a) (upd (X (rwf b.a)) (rwf b.a) (X (rwf b.a) (rwf b.a)+GQ.i 1 0/z))) (rwf b.b) (rwf b.b)+GQ.i 1 0/z))) (rwf b.a) (rwf b.b)-GQ.i 1 0/z))) (Y) Xj q1 q2 L (GQ.i 1 0/z) Ny em Ne rwf b):=aJ AbG;clear l N;(go_wp2_with fail);obtain⟨eA,H,D⟩:=WL.a.en hr Q;have J:=H.to (show Bd ((upd (upd (upd X (rwf b.a) (upd (X (rwf b.a)) (rwf b.a) (X (rwf b.a) (rwf b.a)+GQ.i 1 0/z))) (rwf b.b) (upd ((upd X (rwf b.a) (upd (X (rwf b.a)) (rwf b.a) (X (rwf b.a) (rwf b.a)+GQ.i 1 0/z))) (rwf b.b)) (rwf b.b) ((upd X (rwf b.a) (upd (X (rwf b.a)) (rwf b.a) (X (rwf b.a) (rwf b.a)+GQ.i 1 0/z))) (rwf b.b) (rwf b.b)+GQ.i 1 0/z))) (rwf b.a) (upd ((upd (upd X (rwf b.a) (upd (X (rwf b.a)) (rwf b.a) (X (rwf b.a) (rwf b.a)+GQ.i 1 0/z))) (rwf b.b) (upd ((upd X (rwf b.a) (upd (X (rwf b.a)) (rwf b.a) (X (rwf b.a) (rwf b.a)+GQ.i 1 0/z))) (rwf b.b)) (rwf b.b) ((upd X (rwf b.a) (upd (X (rwf b.a)) (rwf b.a) (X (rwf b.a) (rwf b.a)+GQ.i 1 0/z))) (rwf b.b) (rwf b.b)+GQ.i 1 0/z))) (rwf b.a)) (rwf b.b) ((upd (upd X (rwf b.a) (upd (X (rwf b.a)) (rwf b.a) (X (rwf b.a) (rwf b.a)+GQ.i 1 0/z))) (rwf b.b) (upd ((upd X (rwf b.a) (upd (X (rwf b.a)) (rwf b.a) (X (rwf b.a) (rwf b.a)+GQ.i 1 0/z))) (rwf b.b)) (rwf b.b) ((upd X (rwf b.a) (upd (X (rwf b.a)) (rwf b.a) (X (rwf b.a) (rwf b.a)+GQ.i 1 0/z))) (rwf b.b) (rwf b.b)+GQ.i 1 0/z))) (rwf b.a) (rwf b.b)-GQ.i 1 0/z))) (rwf b.b) (rwf b.a)) Na by rw[upd_ne (WR.o.symm),upd_same,upd_ne WR.o,upd_ne (WR.o.symm)];exact WT.o _ _ hr Q);have Xr:=aJ J;clear J H;have K0:=aK.cell (show _=γ (Value.bool eA.s1) from D 0 _ rfl);rw[Bn] at K0;have K1:=aK.cell (D 1 _ rfl);have U:=aK.cell (D 2 _ rfl);have K3:=aK.cell (D 3 _ rfl);have K4:=aK.cell (D 4 _ rfl);have K5:=aK.cell (D 5 _ rfl);have KH:=aK.cell (WL.a.hd hr M);have KY:=aK.blk WL.by_;clear D;refine tN 16 [(14,.gv ((upd (upd (upd X (rwf b.a) (upd (X (rwf b.a)) (rwf b.a) (X (rwf b.a) (rwf b.a)+GQ.i 1 0/z))) (rwf b.b) (upd ((upd X (rwf b.a) (upd (X (rwf b.a)) (rwf b.a) (X (rwf b.a) (rwf b.a)+GQ.i 1 0/z))) (rwf b.b)) (rwf b.b) ((upd X (rwf b.a) (upd (X (rwf b.a)) (rwf b.a) (X (rwf b.a) (rwf b.a)+GQ.i 1 0/z))) (rwf b.b) (rwf b.b)+GQ.i 1 0/z))) (rwf b.a) (upd ((upd (upd X (rwf b.a) (upd (X (rwf b.a)) (rwf b.a) (X (rwf b.a) (rwf b.a)+GQ.i 1 0/z))) (rwf b.b) (upd ((upd X (rwf b.a) (upd (X (rwf b.a)) (rwf b.a) (X (rwf b.a) (rwf b.a)+GQ.i 1 0/z))) (rwf b.b)) (rwf b.b) ((upd X (rwf b.a) (upd (X (rwf b.a)) (rwf b.a) (X (rwf b.a) (rwf b.a)+GQ.i 1 0/z))) (rwf b.b) (rwf b.b)+GQ.i 1 0/z))) (rwf b.a)) (rwf b.b) ((upd (upd X (rwf b.a) (upd (X (rwf b.a)) (rwf b.a) (X (rwf b.a) (rwf b.a)+GQ.i 1 0/z))) (rwf b.b) (upd ((upd X (rwf b.a) (upd (X (rwf b.a)) (rwf b.a) (X (rwf b.a) (rwf b.a)+GQ.i 1 0/z))) (rwf b.b)) (rwf b.b) ((upd X (rwf b.a) (upd (X (rwf b.a)) (rwf b.a) (X (rwf b.a) (rwf b.a)+GQ.i 1 0/z))) (rwf b.b) (rwf b.b)+GQ.i 1 0/z))) (rwf b.a) (rwf b.b)-GQ.i 1 0/z))) (rwf b.b) (rwf b.a)-GQ.i 1 0/z) (Na+Ny+65))] ?_;refine Qs ?_;refine Ee (fun R I=>vQ gf eA.v L.v ((upd (upd (upd X (rwf b.a) (upd (X (rwf b.a)) (rwf b.a) (X (rwf b.a) (rwf b.a)+GQ.i 1 0/z))) (rwf b.b) (upd ((upd X (rwf b.a) (upd (X (rwf b.a)) (rwf b.a) (X (rwf b.a) (rwf b.a)+GQ.i 1 0/z))) (rwf b.b)) (rwf b.b) ((upd X (rwf b.a) (upd (X (rwf b.a)) (rwf b.a) (X (rwf b.a) (rwf b.a)+GQ.i 1 0/z))) (rwf b.b) (rwf b.b)+GQ.i 1 0/z))) (rwf b.a) (upd ((upd (upd X (rwf b.a) (upd (X (rwf b.a)) (rwf b.a) (X (rwf b.a) (rwf b.a)+GQ.i 1 0/z))) (rwf b.b) (upd ((upd X (rwf b.a) (upd (X (rwf b.a)) (rwf b.a) (X (rwf b.a) (rwf b.a)+GQ.i 1 0/z))) (rwf b.b)) (rwf b.b) ((upd X (rwf b.a) (upd (X (rwf b.a)) (rwf b.a) (X (rwf b.a) (rwf b.a)+GQ.i 1 0/z))) (rwf b.b) (rwf b.b)+GQ.i 1 0/z))) (rwf b.a)) (rwf b.b) ((upd (upd X (rwf b.a) (upd (X (rwf b.a)) (rwf b.a) (X (rwf b.a) (rwf b.a)+GQ.i 1 0/z))) (rwf b.b) (upd ((upd X (rwf b.a) (upd (X (rwf b.a)) (rwf b.a) (X (rwf b.a) (rwf b.a)+GQ.i 1 0/z))) (rwf b.b)) (rwf b.b) ((upd X (rwf b.a) (upd (X (rwf b.a)) (rwf b.a) (X (rwf b.a) (rwf b.a)+GQ.i 1 0/z))) (rwf b.b) (rwf b.b)+GQ.i 1 0/z))) (rwf b.a) (rwf b.b)-GQ.i 1 0/z))) (rwf b.b) (rwf b.a)) (GQ.i 1 0/z) Na Ny _ (WL.c.ext I.1) (Xr.ext I.1) (WL.y.ext I.1) aa) ?_;intro eN WK Xt;refine Qs ?_;refine bD ?_;intro ac I;have F:=I.ext;have K:=aJ (ae0 (I.at_ 14 (e:=(eN.v,WK,Xt)) rf));have G:=(WL.ext F).SC hr Q (K.up (show Na+Ny+65<=12800 by omega));clear I F K0 K1 U K3 K4 K5 KH KY Xr K;have N:=aJ G.2;replace WL:=aJ G.1;clear G;refine aQ rfl 42 (.tmp 117) (.tmp 116) rfl (Ra ((rwf b.b))).b (((rwf b.a))*6) eN.cells rf rf N.o bC (dP eN) ?_;intro Ym l;refine Qp ?_;replace WL:Hid (StI w Ym gf Ga Gb n Pa Pb Ra Rb (upd (upd (upd (upd X (rwf b.a) (upd (X (rwf b.a)) (rwf b.a) (X (rwf b.a) (rwf b.a)+GQ.i 1 0/z))) (rwf b.b) (upd ((upd X (rwf b.a) (upd (X (rwf b.a)) (rwf b.a) (X (rwf b.a) (rwf b.a)+GQ.i 1 0/z))) (rwf b.b)) (rwf b.b) ((upd X (rwf b.a) (upd (X (rwf b.a)) (rwf b.a) (X (rwf b.a) (rwf b.a)+GQ.i 1 0/z))) (rwf b.b) (rwf b.b)+GQ.i 1 0/z))) (rwf b.a) (upd ((upd (upd X (rwf b.a) (upd (X (rwf b.a)) (rwf b.a) (X (rwf b.a) (rwf b.a)+GQ.i 1 0/z))) (rwf b.b) (upd ((upd X (rwf b.a) (upd (X (rwf b.a)) (rwf b.a) (X (rwf b.a) (rwf b.a)+GQ.i 1 0/z))) (rwf b.b)) (rwf b.b) ((upd X (rwf b.a) (upd (X (rwf b.a)) (rwf b.a) (X (rwf b.a) (rwf b.a)+GQ.i 1 0/z))) (rwf b.b) (rwf b.b)+GQ.i 1 0/z))) (rwf b.a)) (rwf b.b) ((upd (upd X (rwf b.a) (upd (X (rwf b.a)) (rwf b.a) (X (rwf b.a) (rwf b.a)+GQ.i 1 0/z))) (rwf b.b) (upd ((upd X (rwf b.a) (upd (X (rwf b.a)) (rwf b.a) (X (rwf b.a) (rwf b.a)+GQ.i 1 0/z))) (rwf b.b)) (rwf b.b) ((upd X (rwf b.a) (upd (X (rwf b.a)) (rwf b.a) (X (rwf b.a) (rwf b.a)+GQ.i 1 0/z))) (rwf b.b) (rwf b.b)+GQ.i 1 0/z))) (rwf b.a) (rwf b.b)-GQ.i 1 0/z))) (rwf b.b) (upd ((upd (upd (upd X (rwf b.a) (upd (X (rwf b.a)) (rwf b.a) (X (rwf b.a) (rwf b.a)+GQ.i 1 0/z))) (rwf b.b) (upd ((upd X (rwf b.a) (upd (X (rwf b.a)) (rwf b.a) (X (rwf b.a) (rwf b.a)+GQ.i 1 0/z))) (rwf b.b)) (rwf b.b) ((upd X (rwf b.a) (upd (X (rwf b.a)) (rwf b.a) (X (rwf b.a) (rwf b.a)+GQ.i 1 0/z))) (rwf b.b) (rwf b.b)+GQ.i 1 0/z))) (rwf b.a) (upd ((upd (upd X (rwf b.a) (upd (X (rwf b.a)) (rwf b.a) (X (rwf b.a) (rwf b.a)+GQ.i 1 0/z))) (rwf b.b) (upd ((upd X (rwf b.a) (upd (X (rwf b.a)) (rwf b.a) (X (rwf b.a) (rwf b.a)+GQ.i 1 0/z))) (rwf b.b)) (rwf b.b) ((upd X (rwf b.a) (upd (X (rwf b.a)) (rwf b.a) (X (rwf b.a) (rwf b.a)+GQ.i 1 0/z))) (rwf b.b) (rwf b.b)+GQ.i 1 0/z))) (rwf b.a)) (rwf b.b) ((upd (upd X (rwf b.a) (upd (X (rwf b.a)) (rwf b.a) (X (rwf b.a) (rwf b.a)+GQ.i 1 0/z))) (rwf b.b) (upd ((upd X (rwf b.a) (upd (X (rwf b.a)) (rwf b.a) (X (rwf b.a) (rwf b.a)+GQ.i 1 0/z))) (rwf b.b)) (rwf b.b) ((upd X (rwf b.a) (upd (X (rwf b.a)) (rwf b.a) (X (rwf b.a) (rwf b.a)+GQ.i 1 0/z))) (rwf b.b) (rwf b.b)+GQ.i 1 0/z))) (rwf b.a) (rwf b.b)-GQ.i 1 0/z))) (rwf b.b)) (rwf b.a) ((upd (upd (upd X (rwf b.a) (upd (X (rwf b.a)) (rwf b.a) (X (rwf b.a) (rwf b.a)+GQ.i 1 0/z))) (rwf b.b) (upd ((upd X (rwf b.a) (upd (X (rwf b.a)) (rwf b.a) (X (rwf b.a) (rwf b.a)+GQ.i 1 0/z))) (rwf b.b)) (rwf b.b) ((upd X (rwf b.a) (upd (X (rwf b.a)) (rwf b.a) (X (rwf b.a) (rwf b.a)+GQ.i 1 0/z))) (rwf b.b) (rwf b.b)+GQ.i 1 0/z))) (rwf b.a) (upd ((upd (upd X (rwf b.a) (upd (X (rwf b.a)) (rwf b.a) (X (rwf b.a) (rwf b.a)+GQ.i 1 0/z))) (rwf b.b) (upd ((upd X (rwf b.a) (upd (X (rwf b.a)) (rwf b.a) (X (rwf b.a) (rwf b.a)+GQ.i 1 0/z))) (rwf b.b)) (rwf b.b) ((upd X (rwf b.a) (upd (X (rwf b.a)) (rwf b.a) (X (rwf b.a) (rwf b.a)+GQ.i 1 0/z))) (rwf b.b) (rwf b.b)+GQ.i 1 0/z))) (rwf b.a)) (rwf b.b) ((upd (upd X (rwf b.a) (upd (X (rwf b.a)) (rwf b.a) (X (rwf b.a) (rwf b.a)+GQ.i 1 0/z))) (rwf b.b) (upd ((upd X (rwf b.a) (upd (X (rwf b.a)) (rwf b.a) (X (rwf b.a) (rwf b.a)+GQ.i 1 0/z))) (rwf b.b)) (rwf b.b) ((upd X (rwf b.a) (upd (X (rwf b.a)) (rwf b.a) (X (rwf b.a) (rwf b.a)+GQ.i 1 0/z))) (rwf b.b) (rwf b.b)+GQ.i 1 0/z))) (rwf b.a) (rwf b.b)-GQ.i 1 0/z))) (rwf b.b) (rwf b.a)-GQ.i 1 0/z))) (Y) Xj q1 q2 L (GQ.i 1 0/z) Ny em Ne rwf b):=aJ AbG;clear l N;(go_wp2_with fail);refine aa8 (aaB rfl _ _ _) rfl ⟨rfl,?_,?_,WL.mod⟩
  .rw[show decide (b.b=17)=ζ from υ (by have:=Xm.o;omega)];exact WL.a.congr (fun i j hi hj=>SH (n:=n) X WR.o _ i j hi hj)
  .refine WL.b.congr (fun i j hi hj=> ?_);rw[θ (fun e=>by have:=Xm.o;omega)]
def Qn{a b}(h:a<=b):2^a<=2^b:=Ab aa h
def dlt (i k:Nat):GQ:=if i=k then GQ.i 1 0 else GQ.i 0 0
theorem Hm(C H y i j):jB C H y i j=y*(dlt i C*dlt j H):=by
 unfold jB dlt;by_cases h:i=C<;>by_cases l:j=H
 .rw[ι ⟨h,l⟩,ι h,ι l];ext<;>simp only[GQ.aZ,GQ.aY,GQ.dE,GQ.dD]<;>grind
 .rw[θ (fun e=>l e.2),θ l,GQ.bJ,GQ.bJ]
 .rw[θ (fun e=>h e.1),θ h,GQ.eY,GQ.bJ]
 .rw[θ (fun e=>h e.1),θ h,GQ.eY,GQ.bJ]
def Br.al (b:Br) (i:Nat):GQ:=dlt i b.p-(if b.nt then GQ.i 0 0 else dlt i b.q)
theorem Mf(X)(b:Br)(i j):stm X b i j=X i j+b.y*(b.al i*b.al j):=by
 unfold stm Br.al;cases hb:b.nt
 .simp only[PI,abL,Hm];generalize dlt i b.p=c1;generalize dlt i b.q=c2;generalize dlt j b.p=c3;generalize dlt j b.q=c4;ext<;>simp only[GQ.bR,GQ.bN,GQ.aZ,GQ.aY,GQ.kI,GQ.kN,GQ.dO,GQ.dQ]<;>grind
 .simp only[Aa,Hm];generalize dlt i b.p=c1;generalize dlt j b.p=c3;ext<;>simp only[GQ.bR,GQ.bN,GQ.aZ,GQ.aY,GQ.dO,GQ.dQ,GQ.dE,GQ.dD]<;>grind
def Ia:∀(bs:List Br) (X:Nat->Nat->GQ) (i j:Nat),fq X bs i j=X i j+gY (fun b=>b.y*(b.al i*b.al j)) bs
 |[],X,i,j=>(GQ.add_zero' _).symm
 |b::bs,X,i,j=>by
  show fq (stm X b) bs i j=X i j+(gY (fun b=>b.y*(b.al i*b.al j)) bs+b.y*(b.al i*b.al j));rw[Ia bs (stm X b) i j,Mf];generalize gY _ bs=t;generalize b.y*(b.al i*b.al j)=u;generalize X i j=v;ext<;>simp only[GQ.bR,GQ.bN]<;>grind
def Hf(r0):∀(bs:List Bu) (i c:Nat),nW r0 bs i c=r0 i c+gY (fun b=>b.y*(b.al i*b.u c)) bs
 |[],i,c=>(GQ.add_zero' _).symm
 |b::bs,i,c=>by
  show nW r0 bs i c+b.y*(b.al i*b.u c)=r0 i c+(gY (fun b=>b.y*(b.al i*b.u c)) bs+b.y*(b.al i*b.u c));rw[Hf r0 bs i c];generalize gY _ bs=t;generalize b.y*(b.al i*b.u c)=u;generalize r0 i c=v;ext<;>simp only[GQ.bR,GQ.bN]<;>grind
def rhs (rw_:Nat->Nat) (us:List Nb) (f:Nat) (al be:Nat->GQ):Nat->Nat->GQ:=fun i j=>al j*feed rw_ us i+be j*unit f i
def afo (n:Nat) (rw_:Nat->Nat) (al:Nat->GQ) (b:Nb):Bu:=⟨b.y,(b.br rw_).al,fun c=>if c<n then (b.br rw_).al c else if b.b=17 then al (c-n)*b.e else GQ.i 0 0⟩
def r0u (n f:Nat) (be:Nat->GQ):Nat->Nat->GQ:=fun i c=>if c<n then GQ.i 0 0 else be (c-n)*unit f i
theorem M8{n f rw_ al be}(us i):side n (fq zmx (us.map (Nb.br rw_))) (rhs rw_ us f al be) i=nW (r0u n f be) (us.map (afo n rw_ al)) i:=by
 funext c;rw[Hf,rA];unfold side r0u;by_cases hc:c<n
 .rw[ι hc,ι hc,Ia,rA];show zmx i c+_=_;congr 1;refine oU us fun b hb=> ?_;show _=b.y*((b.br rw_).al i*(if c<n then (b.br rw_).al c else _));rw[ι hc];rfl
 .rw[θ hc,θ hc];unfold rhs feed;rw[<-Ii];have e:gY (fun b=>al (c-n)*if b.b=17/\i=rw_ b.a then b.y*b.e else GQ.i 0 0) us=gY (fun a=>(afo n rw_ al a).y*((afo n rw_ al a).al i*(afo n rw_ al a).u c)) us:=by
   refine oU us fun b hb=> ?_;show _=b.y*((b.br rw_).al i*(if c<n then (b.br rw_).al c else if b.b=17 then al (c-n)*b.e else GQ.i 0 0));rw[θ hc];by_cases B:b.b=17
   .have l:(if b.b=17/\i=rw_ b.a then b.y*b.e else GQ.i 0 0)=if i=rw_ b.a then b.y*b.e else GQ.i 0 0:=by
     by_cases hi:i=rw_ b.a
     .rw[ι ⟨B,hi⟩,ι hi]
     .rw[θ (fun e=>hi e.2),θ hi]
    have j:(b.br rw_).al i=dlt i (rw_ b.a):=by
     unfold Br.al;show dlt i (rw_ b.a)-(if decide (b.b=17)=ε then GQ.i 0 0 else dlt i (rw_ b.b))=_;rw[ι (show decide (b.b=17)=ε by simp[B])];generalize dlt i (rw_ b.a)=z;ext<;>simp only[GQ.dO,GQ.dQ,GQ.dE,GQ.dD]<;>grind
    rw[l,j,ι (show b.b=17 from B)];unfold dlt;by_cases hi:i=rw_ b.a
    .rw[ι hi,ι hi];ext<;>simp only[GQ.aZ,GQ.aY,GQ.dE,GQ.dD]<;>grind
    .rw[θ hi,θ hi];ext<;>simp only[GQ.aZ,GQ.aY,GQ.dE,GQ.dD]<;>grind
   .rw[θ B,θ (fun e=>B e.1),GQ.bJ,GQ.bJ,GQ.bJ]
  rw[e];generalize gY _ us=t;generalize be (c-n)*unit f i=u;ext<;>simp only[GQ.bR,GQ.bN]<;>grind
structure Rp (b:Nb):Prop where
 z:∃(zn:GQ) (zd:Nat),zn≠GQ.i 0 0/\Wh zn 32000/\b.y*zn=GQ.i zd 0/\zd<=16
 e:Wh b.e 1000000
theorem zJ(b:Br)(i):Wh (b.al i) 1:=by
 have j (i k:Nat):dlt i k=GQ.i 1 0\/dlt i k=GQ.i 0 0:=by
  unfold dlt;split
  .exact Or.inl rfl
  .exact Or.inr rfl
 have B:(if b.nt then GQ.i 0 0 else dlt i b.q)=GQ.i 1 0\/(if b.nt then GQ.i 0 0 else dlt i b.q)=GQ.i 0 0:=by
  split
  .exact Or.inr rfl
  .exact j _ _
 unfold Br.al;rcases j i b.p with e|e<;>rcases B with l|l<;>rw[e,l]
 .exact AbM
 .exact⟨1,0,by ext<;>simp only[GQ.dO,GQ.dQ,GQ.dE,GQ.dD]<;>grind,aj⟩
 .exact⟨-1,0,by ext<;>simp only[GQ.dO,GQ.dQ,GQ.dE,GQ.dD]<;>grind,aj⟩
 .exact AbM
theorem Rl(f i):Wh (unit f i) 1:=by
 unfold unit;split
 .exact uV
 .exact gM _
def BD:Nat:=2^420
def TW{m}(B:m<=17):∀(bs:List Bu),cz (fun _=>32000) 16 m 1000000 bs<=2^(15*bs.length)*(2^49*2^20)
 |[]=>by
  show fct m*1000000<=2^(15*0)*_;have l:fct m<=fct 17:=Hy B;have j:fct 17<=2^49:=aj;have:=Z6 (lh l j) (show 1000000<=2^20 by decide);simpa using this
 |b::bs=>by
  show(32000+m*16)*cz _ 16 m 1000000 bs<=_;have l:32000+m*16<=2^15:=aa;have j:=Z6 l (TW B bs);rw[nC,show 15*(bs.length+1)=15+15*bs.length by omega,aaD,χ];exact j
def rD.mono{Z0 m W B C Q}(h:rD Z0 m W Q B)(l:B<=C):rD Z0 m W Q C:=
 ⟨h.q0,fun P j cs G hc=>⟨fun F D=>((h.min P j cs G hc).1 F D).mono l,fun F D H=>((h.min P j cs G hc).2 F D H).mono l⟩⟩
section
variable {L:Nat->Bool} {rw_:Nat->Nat} {n:Nat} {us:List Nb}
theorem zZ{f W al be}(hs:∀b∈us,Rp b)(hn:n<=17)(Z:us.length<=23)(B:n<=W)(ha:∀j,Wh (al j) 1)(hb:∀j,Wh (be j) 1):
  ∃Q,rD (side n (fq zmx (us.map (Nb.br rw_))) (rhs rw_ us f al be)) n W Q BD:=by
 obtain⟨Q,l⟩:=af5 (r0:=r0u n f be) (w:=fun c=>if c<n then 1 else 1000000) (f:=fun _=>32000) (K:=16) (m:=n) (W:=W) (B0:=1000000) (bs:=us.map (afo n rw_ al)) (Z0:=side n (fq zmx (us.map (Nb.br rw_))) (rhs rw_ us f al be))
  (fun b hb=>by
   obtain⟨c,hc,rfl⟩:=aaf.1 hb;exact⟨(hs c hc).z,fun i=>zJ _ i⟩)
  (fun c hc=>show(if c<n then 1 else 1000000)=1 from ι hc) (fun c _=>by show(if c<n then 1 else 1000000)<=1000000;split<;>omega) aa
  (fun b hb c hc=>by
   obtain⟨d,hd,rfl⟩:=aaf.1 hb;show Wh (if c<n then _ else _) (if c<n then 1 else 1000000);by_cases h:c<n
   .rw[ι h,ι h];exact zJ _ c
   .rw[θ h,θ h];split
    .exact((ha (c-n)).mul (hs d hd).e).mono aa
    .exact gM _)
  (fun i c hc=>by
   show Wh (if c<n then _ else _) (if c<n then 1 else 1000000);by_cases h:c<n
   .rw[ι h,ι h];exact gM _
   .rw[θ h,θ h];exact((hb (c-n)).mul (Rl f i)).mono aa)
  B (fun i hi=>M8 us i)
 refine⟨Q,l.mono (lh (TW hn _) ?_)⟩;rw[aaI];unfold BD;rw[<-aaD,<-aaD];exact Qn (a:=15*us.length+(49+20)) (b:=420) aa
def Rm{f}:rhs rw_ us f (fun _=>GQ.i 1 0) (fun _=>GQ.i 0 0)=col (feed rw_ us):=by
 funext i j;show GQ.i 1 0*feed rw_ us i+GQ.i 0 0*unit f i=feed rw_ us i;rw[GQ.jK,GQ.eY,GQ.add_zero']
def OP{f}:rhs rw_ us f (fun _=>GQ.i 0 0) (fun _=>GQ.i 1 0)=col (unit f):=by
 funext i j;show GQ.i 0 0*feed rw_ us i+GQ.i 1 0*unit f i=unit f i;rw[GQ.jK,GQ.eY];generalize unit f i=u;ext<;>simp only[GQ.bR,GQ.bN,GQ.dE,GQ.dD]<;>grind
def QL{f}:rhs rw_ us f (fun j=>if j=0 then GQ.i 1 0 else GQ.i 0 0) (fun j=>if j=0 then GQ.i 0 0 else GQ.i 1 0)=EY (feed rw_ us) (unit f):=by
 funext i j;show(if j=0 then GQ.i 1 0 else GQ.i 0 0)*feed rw_ us i+(if j=0 then GQ.i 0 0 else GQ.i 1 0)*unit f i=if j=0 then feed rw_ us i else unit f i;by_cases h:j=0
 .rw[ι h,ι h,ι h,GQ.jK,GQ.eY,GQ.add_zero']
 .rw[θ h,θ h,θ h,GQ.jK,GQ.eY];generalize unit f i=u;ext<;>simp only[GQ.bR,GQ.bN,GQ.dE,GQ.dD]<;>grind
def BQ.den(h:BQ L rw_ n us)(hs:∀b∈us,Rp b)(hn:n<=17)(Z:us.length<=23)(f):
  ∃M,M≠GQ.i 0 0/\Wh M BD/\(∀k,Wh (M*qy L rw_ n us (feed rw_ us) k) BD)/\∀k,Wh (M*qy L rw_ n us (unit f) k) BD:=by
 obtain⟨Q,F⟩:=zZ (rw_:=rw_) (f:=f) (W:=n+2) (al:=fun j=>if j=0 then GQ.i 1 0 else GQ.i 0 0) (be:=fun j=>if j=0 then GQ.i 0 0 else GQ.i 1 0) hs hn Z aa (fun j=>by split;exact uV;exact gM _) (fun j=>by split;exact gM _;exact uV);rw[QL] at F;have C:(ech n (side n (fq zmx (us.map (Nb.br rw_))) (EY (feed rw_ us) (unit f))) n).r=n:=Aw h.psv.full;obtain⟨o,P,H⟩:=kS n (side n (fq zmx (us.map (Nb.br rw_))) (EY (feed rw_ us) (unit f))) n;obtain⟨M,m0,G,D⟩:=vz H C F;refine⟨M,m0,G,fun k=> ?_,fun k=> ?_⟩
 .cases B:L k with
  |false=>rw[pu B,GQ.bJ];exact gM _
  |true=>
   have l:=h.r.lt k B;rw[rY B,(h.psv.Mr (v:=feed rw_ us) (u:=unit f) l).1,EN C l];exact D _ _ l aa
 .cases B:L k with
  |false=>rw[pu B,GQ.bJ];exact gM _
  |true=>
   have l:=h.r.lt k B;rw[rY B,(h.psv.Mr (v:=feed rw_ us) (u:=unit f) l).2,EN C l];exact D _ _ l aa
end
def q2 (n:Nat):Nat:=2^n
def Uk{a b}(h:a<=b):q2 a<=q2 b:=Qn h
def oO(a b):q2 (a+b)=q2 a*q2 b:=aaD 2 a b
def qg(a):q2 (a+1)=q2 a*2:=y8 2 a
def Dc{a b}(h:a<b):q2 a<2^b:=Nat.pow_lt_pow_right aa h
def p2 (h:Nat):GQ:=GQ.i ((2^h:Nat):Int) 0
def LQ:p2 0=GQ.i 1 0:=rfl
theorem Ey(h):p2 (h+1)=GQ.i 2 0*p2 h:=by
 unfold p2;rw[y8];ext<;>simp only[GQ.aZ,GQ.aY,GQ.dE,GQ.dD]<;>push_cast<;>grind
def VT(h):p2 h≠GQ.i 0 0:=by
 induction h with
 |zero=>rw[LQ];decide
 |succ h ih=>rw[Ey];exact GQ.iK aj ih
theorem V9(h):Wh (p2 h) (q2 h):=nX (by unfold q2;simp)
def Fr (D:GQ) (h e:Nat) (x:GQ):Prop:=Wh (p2 h*(D*x)) (q2 e)
section
variable {D:GQ} {h e:Nat} {x y:GQ}
theorem afl(J:Wh (D*x) (q2 e)):Fr D 0 e x:=by unfold Fr;rw[LQ,GQ.jK];exact J
def Fr.le{j}(J:Fr D h e x)(O:e<=j):Fr D h j x:=Wh.mono J (Uk O)
theorem Fr.up(J:Fr D h e x):Fr D (h+1) (e+1) x:=by
 unfold Fr at*
 rw[Ey,GQ.bZ,qg,pz];exact Wh.mul (B:=2) ⟨2,0,rfl,aj⟩ J
theorem Fr.add(J:Fr D h e x)(R:Fr D h e y):Fr D h (e+1) (x+y):=by
 unfold Fr at*
 rw[GQ.pM,GQ.pM,qg,abX];exact J.add R
theorem Fr.sub(J:Fr D h e x)(R:Fr D h e y):Fr D h (e+1) (x-y):=by
 unfold Fr at*
 rw[GQ.lN,GQ.lN,qg,abX];exact J.sub R
theorem Fr.Su{c k}(J:Fr D h e x)(hc:Wh c (q2 k)):Fr D h (e+k) (x*c):=by
 unfold Fr at*
 have j:p2 h*(D*(x*c))=p2 h*(D*x)*c:=by ext<;>simp only[GQ.aZ,GQ.aY]<;>grind
 rw[j,oO];exact J.mul hc
def Fr.Wo{c k}(J:Fr D h e x)(hc:Wh c (q2 k)):Fr D h (e+k) (c*x):=by rw[GQ.eD];exact J.Su hc
theorem Fr.zero:Fr D h e (GQ.i 0 0):=by unfold Fr;rw[GQ.bJ,GQ.bJ];exact gM _
theorem Fr.half(J:Fr D h e x):Fr D (h+1) e (x*⟨1/2,0⟩):=by
 unfold Fr at*
 have j:p2 (h+1)*(D*(x*⟨1/2,0⟩))=p2 h*(D*x):=by
  rw[Ey];ext<;>simp only[GQ.aZ,GQ.aY,GQ.dE,GQ.dD]<;>grind
 rw[j];exact J
def wU{x N M a b n}(D:Wh N (q2 a))(l:Wh M (q2 b))(C:M≠GQ.i 0 0)(J:x*M=N)(B:a+b<n)(j:b+b<n):Bd x n:=by
 refine wL D l C J ?_ ?_
 .rw[<-oO];exact Dc B
 .rw[<-oO];exact Dc j
def Fr.bd{d n}(J:Fr D h e x)(C:Wh D (q2 d))(B:D≠GQ.i 0 0)(l:e+(h+d)<n)(j:h+d+(h+d)<n):Bd x n:=by
 have hq:=(V9 h).mul C;rw[<-oO] at hq;refine wL (N:=p2 h*(D*x)) (M:=p2 h*D) J hq (GQ.iK (VT h) B) ?_ ?_ ?_
 .ext<;>simp only[GQ.aZ,GQ.aY]<;>grind
 .rw[<-oO];exact Dc l
 .rw[<-oO];exact Dc j
end
end Go.Proofs.YtbfnfkppkmpieaaGreat
