import Derived.Test.YtbfnfkppkmpieaaGreatQdd
set_option linter.unusedVariables false
set_option linter.unusedSimpArgs false
set_option maxHeartbeats 25600000
set_option maxRecDepth 200000
set_option linter.defProp false
namespace Go.Proofs.YtbfnfkppkmpieaaGreat
open Go.RowKit
open Go.Proofs.Tryz
open Option renaming some->γ,none->δ
open Bool renaming true->ε,false->ζ
open Inhabited renaming default->η
theorem Hw(nm){A0 n0 c0 A1 n1 c1 A2 n2 c2 A3 n3 c3 L s PA pn pc PB qn qc K p GA gn V}(i w)(hs:kY w A0 n0 c0 A1 n1 c1 A2 n2 c2 A3 n3 c3 L s)(hp:iW w PA pn PB qn K p)(Wu:iT s)(Xm:∀i,i<s.bays.length->(p.links.getD i []).length=(s.bays.getD i η).links.length)(hg:uL w GA gn (groups s p))(D:gn=s.buses.length)(hi:i<n3)(hq:i<qn)(hk:(s.bays.getD i η).kind=1):
  CE 155 #[pE nm A0 n0 c0 A1 n1 c1 A2 n2 c2 A3 n3 c3 PA pn pc PB qn qc GA gn V,.int .i64 (i:Int)] w (uX (sides s p i)):=by
 have Wp:=hs.mx;obtain⟨m0,m1,m2,m3⟩:=Wp;have Wx:=hs.l3;have hL:=(hs.links i hi);have Xl:=Wu.link (show i<s.bays.length by omega);have l:=fun k hk=>Wu.bus (i:=i) (k:=k) (show i<s.bays.length by omega) hk;have XZ:gn<=4:=by have:=Wu.nb;omega
 obtain⟨lb,lo,hA,hb,e0,e1,e2,e3,e4,e5,e6,e7,e8,e9,WA,WG⟩:=hs.bays.bay hi;subst hA;have d0:decide ((i:Int)<0)=ζ:=ag;have d1:decide ((n3:Int)<=(i:Int))=ζ:=ae;have HS:=aJ hs;have HP:=aJ hp;have S:=aJ hg;have Wo:=aJ Xl;have O:=aJ l;have R:=aJ hL;have WI:Hid ((s.bays.getD i η).links.length=(L i).n):=aJ hL.1;have XL:=aJ (Xm i aa);have W9:Hid (i<qn):=aJ hq;clear hs hp hg Xl l hL Wu Xm D Wx hq;have XN:Hid (sides s p i=(qV s p i,(2,(s.bays.getD i η).obj))):=aJ AcH;have Q:∀k,k<(s.bays.getD i η).links.length->fQ s i k<gn:=fun k WF=>by have:=(O.o k WF).2;have:=S.o.1;rw[j5] at this;omega
 have WJ:=aJ Q;clear Q;rw[hk] at e1;generalize Xb:L i=F at e6;have J:Hid (Lks w F.A F.n (s.bays.getD i η).links):=aJ (by rw[<-Xb];exact R.o);have WC:Hid ((s.bays.getD i η).links.length=F.n):=aJ J.o.1;clear Xb WI R;have WB:=aJ hk;clear hk;have Wz:F.n<=2:=by have:=Wo.o.1.2;have:=WC.o;omega
 have XK:0<F.n:=by have:=Wo.o.1.1;have:=WC.o;omega
 obtain⟨kb,ko,hI,Xg,_⟩:=J.o.2.at_ XK;obtain⟨lA,ln,lc⟩:=F;simp only at hI XK Wz;subst hI;generalize Ww:s.bays.getD i η=b at e0 e1 e2 e3 e4 e5 e6 e7 e8 e9 WA WG XN;have WR:=aJ Ww;clear Ww;obtain⟨w4,b0,b1,-,-⟩:=an4 w 215 #[.string nm,.slice A0 n0 c0,.slice A1 n1 c1,.slice A2 n2 c2,.slice (γ ⟨lb,lo,δ⟩) n3 c3,.slice PA pn pc,.slice PB qn qc,.slice GA gn V] 187 #[.int .i64 0,.int .i64 0,.int .i64 0,.int .i64 0] 57 #[.string b.name,.int .i64 1,.int .i64 b.obj,.int .i64 b.en,.int .i64 b.z.r,.int .i64 b.z.x,.slice (γ ⟨kb,ko,δ⟩) ln lc,.bool b.closed,.int .i64 b.ct,.int .i64 b.vt,.int .i64 b.sat,.int .i64 b.travel] 187 #[.int .i64 0,.int .i64 0,.int .i64 2,.int .i64 b.obj];have b2:Blk ((((w.alloc (.cells #[.string nm,.slice A0 n0 c0,.slice A1 n1 c1,.slice A2 n2 c2,.slice (γ ⟨lb,lo,δ⟩) n3 c3,.slice PA pn pc,.slice PB qn qc,.slice GA gn V] 215)).alloc (.cells #[.int .i64 0,.int .i64 0,.int .i64 0,.int .i64 0] 187)).alloc (.cells #[.string b.name,.int .i64 1,.int .i64 b.obj,.int .i64 b.en,.int .i64 b.z.r,.int .i64 b.z.x,.slice (γ ⟨kb,ko,δ⟩) ln lc,.bool b.closed,.int .i64 b.ct,.int .i64 b.vt,.int .i64 b.sat,.int .i64 b.travel] 57)).alloc (.cells #[.int .i64 0,.int .i64 0,.int .i64 2,.int .i64 b.obj] 187)) (w.heap.size+1+1) 57 #[.string b.name,.int .i64 1,.int .i64 b.obj,.int .i64 b.en,.int .i64 b.z.r,.int .i64 b.z.x,.slice (γ ⟨kb,ko,δ⟩) ln lc,.bool b.closed,.int .i64 b.ct,.int .i64 b.vt,.int .i64 b.sat,.int .i64 b.travel]:=(aeE _ _ ag).alloc _;have b3:Blk ((((w.alloc (.cells #[.string nm,.slice A0 n0 c0,.slice A1 n1 c1,.slice A2 n2 c2,.slice (γ ⟨lb,lo,δ⟩) n3 c3,.slice PA pn pc,.slice PB qn qc,.slice GA gn V] 215)).alloc (.cells #[.int .i64 0,.int .i64 0,.int .i64 0,.int .i64 0] 187)).alloc (.cells #[.string b.name,.int .i64 1,.int .i64 b.obj,.int .i64 b.en,.int .i64 b.z.r,.int .i64 b.z.x,.slice (γ ⟨kb,ko,δ⟩) ln lc,.bool b.closed,.int .i64 b.ct,.int .i64 b.vt,.int .i64 b.sat,.int .i64 b.travel] 57)).alloc (.cells #[.int .i64 0,.int .i64 0,.int .i64 2,.int .i64 b.obj] 187)) (w.heap.size+1+1+1) 187 #[.int .i64 0,.int .i64 0,.int .i64 2,.int .i64 b.obj]:=aeE _ _ ag;have HW:=aJ w4;have Z:=aJ b0;have G:=aJ b1;have Wq:=aJ b2;have Wm:=aJ b3;clear w4 b0 b1 b2 b3;unfold pE;go_enter ad5,adw;(go_wp2_with fail);generalize ((((w.alloc (.cells #[.string nm,.slice A0 n0 c0,.slice A1 n1 c1,.slice A2 n2 c2,.slice (γ ⟨lb,lo,δ⟩) n3 c3,.slice PA pn pc,.slice PB qn qc,.slice GA gn V] 215)).alloc (.cells #[.int .i64 0,.int .i64 0,.int .i64 0,.int .i64 0] 187)).alloc (.cells #[.string b.name,.int .i64 1,.int .i64 b.obj,.int .i64 b.en,.int .i64 b.z.r,.int .i64 b.z.x,.slice (γ ⟨kb,ko,δ⟩) ln lc,.bool b.closed,.int .i64 b.ct,.int .i64 b.vt,.int .i64 b.sat,.int .i64 b.travel] 57)).alloc (.cells #[.int .i64 0,.int .i64 0,.int .i64 2,.int .i64 b.obj] 187))=w5 at HW Z G Wq Wm⊢;clear e0 e1 e2 e3 e4 e5 e6 e7 e8 e9 WA WG;generalize Y:w.heap.size+1+1+1=q3 at Wm⊢;generalize Xo:w.heap.size+1+1=q2 at Wq⊢;generalize Wv:w.heap.size+1=q1 at G⊢;generalize WN:w.heap.size=q0 at Z⊢;have B:Hid (w.heap.size<=q3/\q1<q3):=aJ aa;have Wn:Hid (w.heap.size<=q1):=aJ aa;clear Y Xo Wv WN;have k2:=Wq.cell;go_loopw [58] (fun j wr=>∃t:Nat,t<=ln/\j=.int .i64 (t:Int)/\(∀u,u<t->(p.links.getD i []).getD u 0≠1)/\Ext w5 wr) (fun j _=>ln-(intOf j).toNat)
 case atStart=>exact⟨0,aa,rfl,by intros;omega,Ext.refl _⟩
 case round=>
  obtain⟨t,ht,rfl,hz,hx⟩:=hrel;have HZ:=aJ hz;have HX:=aJ hx;clear hz hx k2;have k0:=(Z.ext HX.o).cell;have l0:=(Z.ext HX.o).lt;have l3:=(Wm.ext HX.o).lt;have l1:=(G.ext HX.o).lt;have l2:=(Wq.ext HX.o).lt;by_cases Wj:t<ln
  .have hd:decide (t<ln)=ε:=ae;obtain⟨Xu,Xt,U,WS,hc⟩:=(J.ext (HW.trans HX.o)).2.at_ Wj;injection U with U;injection U with Xd M _;subst Xd M;have g0:wr.cell? ⟨kb,ko+t*2,δ⟩=γ (.int .i64 ((s.bays.getD i η).links.getD t η).bus):=hc 0 _ rfl;have g1:wr.cell? ⟨kb,ko+t*2+1,δ⟩=γ (.int .i64 ((s.bays.getD i η).links.getD t η).pos):=hc 1 _ rfl;rw[(O.o t AaR).1] at g0;clear hc;have N:=WJ.o t AaR;have WH:Hid (t<(p.links.getD i []).length):=aJ (by have:=WC.o;have:=XL.o;omega);have WV:Hid ((p.links.getD i []).getD t 0=1->qV s p i=vO s p (fQ s i t)):=aJ (FZ AaR AaR HZ.o);generalize fQ s i t=u at g0 N WV;generalize ((s.bays.getD i η).links.getD t η).pos=ps at g1;have W:Hid (Ext w5 (wr.alloc (.cells #[.int .i64 (u:Int),.int .i64 ps] 137))):=aJ (HX.alloc _);obtain⟨-,WL⟩:=an1 wr 137 #[.int .i64 (u:Int),.int .i64 ps];have WK:=aJ WL;clear WL;(go_wp2_with fail);refine(rX nm GA gn V i t _ rfl _ (HP.ext (HW.trans W.o)) W9.o WH.o).mono ?_;rintro e w6 ⟨rfl,hx⟩;have WE:=aJ (W.trans hx);have kl:=(WK.ext hx).cell;have ll:=(WK.ext hx).lt;have WO:=(Z.ext WE.o).cell;have WM:q0<w6.heap.size:=(Z.ext WE.o).lt;have I:q3<w6.heap.size:=(Wm.ext WE.o).lt;clear hx;by_cases H:(p.links.getD i []).getD t 0=1
   .have dx:decide ((p.links.getD i []).getD t 0=1)=ε:=pq H;rw[dx];have P:=aJ (WV.o H);clear H dx;(go_wp2_with fail);refine(uz nm PA pn pc PB qn qc u _ (S.ext (HW.trans WE.o)) N).mono ?_;rintro e w7 ⟨rfl,hx⟩;have WQ:=aJ (WE.trans hx);clear hx kl ll WO WM I;have b7:=Wm.ext WQ.o;have T:=G.ext WQ.o;have WW:=b7.cell;have WU:=b7.frozen;have Xa:=T.cell;have Xv:=T.frozen;have WZ:q1<w7.heap.size:=T.lt;have WY:q3<w7.heap.size:=b7.lt;have b8:=bR 0 [.int .i64 1,.int .i64 ((groups s p).getD u 0)] b7;have c8:Blk (puts w7 q3 0 [.int .i64 1,.int .i64 ((groups s p).getD u 0)]) q1 187 #[.int .i64 0,.int .i64 0,.int .i64 0,.int .i64 0]:=((T.far AbY _).far AbY _);have x8:Ext w (puts w7 q3 0 [.int .i64 1,.int .i64 ((groups s p).getD u 0)]):=fw (g:=q3) B.o.1 0 _ (HW.trans WQ.o);have Wy:=aJ b8;have WP:=aJ c8;have WX:=aJ x8;clear b7 T b8 c8 x8;have WT:¬q1=q3:=by have:=B.o.2;omega
    have Ws:¬q3=q1:=by have:=B.o.2;omega
    (go_wp2_with fail);refine pM rfl rfl rfl (bR 0 [.int .i64 1,.int .i64 ((groups s p).getD u 0),.int .i64 2,.int .i64 b.obj] WP.o) aa9 rfl ah ⟨?_,fw (g:=q1) Wn.o 0 [.int .i64 1,.int .i64 ((groups s p).getD u 0),.int .i64 2,.int .i64 b.obj] WX.o⟩;rw[XN.o,P.o];rfl
   .have dx:decide ((p.links.getD i []).getD t 0=1)=ζ:=Γ H;rw[dx];have Wt:=aJ H;clear H dx;go_wp2_with fail
    go_roundw
    case rel=>exact⟨t+1,aa,au,fun v hv=>by
     by_cases e:v=t
     .rw[e];exact Wt.o
     .exact HZ.o v aa,WE.o⟩
    case measure=>simp[intOf];omega
  .obtain rfl:t=ln:=aa;clear Wj ht;have Wl:Hid (qV s p i=(0,0)):=aJ (AX WC.o (by have:=Wo.o.1.1;have:=WC.o;omega) HZ.o);have k3:=(Wm.ext HX.o).cell;have C:=(G.ext HX.o).cell;have f1:=(G.ext HX.o).frozen;(go_wp2_with fail);refine pM rfl rfl rfl (bR 0 [.int .i64 0,.int .i64 0,.int .i64 2,.int .i64 b.obj] (G.ext HX.o)) aa9 rfl ah ⟨?_,fw (g:=q1) Wn.o 0 [.int .i64 0,.int .i64 0,.int .i64 2,.int .i64 b.obj] (HW.trans HX.o)⟩;rw[XN.o,Wl.o];rfl
theorem Fj(nm){A0 n0 c0 A1 n1 c1 A2 n2 c2 A3 n3 c3 L s PA pn pc PB qn qc K p GA gn V}(i w)(hs:kY w A0 n0 c0 A1 n1 c1 A2 n2 c2 A3 n3 c3 L s)(hp:iW w PA pn PB qn K p)(Wu:iT s)(Xm:∀i,i<s.bays.length->(p.links.getD i []).length=(s.bays.getD i η).links.length)(hg:uL w GA gn (groups s p))(D:gn=s.buses.length)(hi:i<n3)(hq:i<qn)(hk:(s.bays.getD i η).kind=2):
  CE 155 #[pE nm A0 n0 c0 A1 n1 c1 A2 n2 c2 A3 n3 c3 PA pn pc PB qn qc GA gn V,.int .i64 (i:Int)] w (uX (sides s p i)):=by
 have Wp:=hs.mx;obtain⟨m0,m1,m2,m3⟩:=Wp;have Wx:=hs.l3;have hL:=(hs.links i hi);have Xl:=Wu.link (show i<s.bays.length by omega);have l:=fun k hk=>Wu.bus (i:=i) (k:=k) (show i<s.bays.length by omega) hk;have XZ:gn<=4:=by have:=Wu.nb;omega
 obtain⟨lb,lo,hA,hb,e0,e1,e2,e3,e4,e5,e6,e7,e8,e9,WA,WG⟩:=hs.bays.bay hi;subst hA;have d0:decide ((i:Int)<0)=ζ:=ag;have d1:decide ((n3:Int)<=(i:Int))=ζ:=ae;have HS:=aJ hs;have HP:=aJ hp;have S:=aJ hg;have Wo:=aJ Xl;have O:=aJ l;have R:=aJ hL;have WI:Hid ((s.bays.getD i η).links.length=(L i).n):=aJ hL.1;have XL:=aJ (Xm i aa);have W9:Hid (i<qn):=aJ hq;clear hs hp hg Xl l hL Wu Xm D Wx hq;have XN:Hid (sides s p i=(qV s p i,(3,(s.bays.getD i η).obj))):=aJ AcH;have Q:∀k,k<(s.bays.getD i η).links.length->fQ s i k<gn:=fun k WF=>by have:=(O.o k WF).2;have:=S.o.1;rw[j5] at this;omega
 have WJ:=aJ Q;clear Q;rw[hk] at e1;generalize Xb:L i=F at e6;have J:Hid (Lks w F.A F.n (s.bays.getD i η).links):=aJ (by rw[<-Xb];exact R.o);have WC:Hid ((s.bays.getD i η).links.length=F.n):=aJ J.o.1;clear Xb WI R;have WB:=aJ hk;clear hk;have Wz:F.n<=2:=by have:=Wo.o.1.2;have:=WC.o;omega
 have XK:0<F.n:=by have:=Wo.o.1.1;have:=WC.o;omega
 obtain⟨kb,ko,hI,Xg,_⟩:=J.o.2.at_ XK;obtain⟨lA,ln,lc⟩:=F;simp only at hI XK Wz;subst hI;generalize Ww:s.bays.getD i η=b at e0 e1 e2 e3 e4 e5 e6 e7 e8 e9 WA WG XN;have WR:=aJ Ww;clear Ww;obtain⟨w4,b0,b1,-,-⟩:=an4 w 215 #[.string nm,.slice A0 n0 c0,.slice A1 n1 c1,.slice A2 n2 c2,.slice (γ ⟨lb,lo,δ⟩) n3 c3,.slice PA pn pc,.slice PB qn qc,.slice GA gn V] 187 #[.int .i64 0,.int .i64 0,.int .i64 0,.int .i64 0] 57 #[.string b.name,.int .i64 2,.int .i64 b.obj,.int .i64 b.en,.int .i64 b.z.r,.int .i64 b.z.x,.slice (γ ⟨kb,ko,δ⟩) ln lc,.bool b.closed,.int .i64 b.ct,.int .i64 b.vt,.int .i64 b.sat,.int .i64 b.travel] 187 #[.int .i64 0,.int .i64 0,.int .i64 3,.int .i64 b.obj];have b2:Blk ((((w.alloc (.cells #[.string nm,.slice A0 n0 c0,.slice A1 n1 c1,.slice A2 n2 c2,.slice (γ ⟨lb,lo,δ⟩) n3 c3,.slice PA pn pc,.slice PB qn qc,.slice GA gn V] 215)).alloc (.cells #[.int .i64 0,.int .i64 0,.int .i64 0,.int .i64 0] 187)).alloc (.cells #[.string b.name,.int .i64 2,.int .i64 b.obj,.int .i64 b.en,.int .i64 b.z.r,.int .i64 b.z.x,.slice (γ ⟨kb,ko,δ⟩) ln lc,.bool b.closed,.int .i64 b.ct,.int .i64 b.vt,.int .i64 b.sat,.int .i64 b.travel] 57)).alloc (.cells #[.int .i64 0,.int .i64 0,.int .i64 3,.int .i64 b.obj] 187)) (w.heap.size+1+1) 57 #[.string b.name,.int .i64 2,.int .i64 b.obj,.int .i64 b.en,.int .i64 b.z.r,.int .i64 b.z.x,.slice (γ ⟨kb,ko,δ⟩) ln lc,.bool b.closed,.int .i64 b.ct,.int .i64 b.vt,.int .i64 b.sat,.int .i64 b.travel]:=(aeE _ _ ag).alloc _;have b3:Blk ((((w.alloc (.cells #[.string nm,.slice A0 n0 c0,.slice A1 n1 c1,.slice A2 n2 c2,.slice (γ ⟨lb,lo,δ⟩) n3 c3,.slice PA pn pc,.slice PB qn qc,.slice GA gn V] 215)).alloc (.cells #[.int .i64 0,.int .i64 0,.int .i64 0,.int .i64 0] 187)).alloc (.cells #[.string b.name,.int .i64 2,.int .i64 b.obj,.int .i64 b.en,.int .i64 b.z.r,.int .i64 b.z.x,.slice (γ ⟨kb,ko,δ⟩) ln lc,.bool b.closed,.int .i64 b.ct,.int .i64 b.vt,.int .i64 b.sat,.int .i64 b.travel] 57)).alloc (.cells #[.int .i64 0,.int .i64 0,.int .i64 3,.int .i64 b.obj] 187)) (w.heap.size+1+1+1) 187 #[.int .i64 0,.int .i64 0,.int .i64 3,.int .i64 b.obj]:=aeE _ _ ag;have HW:=aJ w4;have Z:=aJ b0;have G:=aJ b1;have Wq:=aJ b2;have Wm:=aJ b3;clear w4 b0 b1 b2 b3;unfold pE;go_enter ad5,adw;(go_wp2_with fail);generalize ((((w.alloc (.cells #[.string nm,.slice A0 n0 c0,.slice A1 n1 c1,.slice A2 n2 c2,.slice (γ ⟨lb,lo,δ⟩) n3 c3,.slice PA pn pc,.slice PB qn qc,.slice GA gn V] 215)).alloc (.cells #[.int .i64 0,.int .i64 0,.int .i64 0,.int .i64 0] 187)).alloc (.cells #[.string b.name,.int .i64 2,.int .i64 b.obj,.int .i64 b.en,.int .i64 b.z.r,.int .i64 b.z.x,.slice (γ ⟨kb,ko,δ⟩) ln lc,.bool b.closed,.int .i64 b.ct,.int .i64 b.vt,.int .i64 b.sat,.int .i64 b.travel] 57)).alloc (.cells #[.int .i64 0,.int .i64 0,.int .i64 3,.int .i64 b.obj] 187))=w5 at HW Z G Wq Wm⊢;clear e0 e1 e2 e3 e4 e5 e6 e7 e8 e9 WA WG;generalize Y:w.heap.size+1+1+1=q3 at Wm⊢;generalize Xo:w.heap.size+1+1=q2 at Wq⊢;generalize Wv:w.heap.size+1=q1 at G⊢;generalize WN:w.heap.size=q0 at Z⊢;have B:Hid (w.heap.size<=q3/\q1<q3):=aJ aa;have Wn:Hid (w.heap.size<=q1):=aJ aa;clear Y Xo Wv WN;have k2:=Wq.cell;go_loopw [58] (fun j wr=>∃t:Nat,t<=ln/\j=.int .i64 (t:Int)/\(∀u,u<t->(p.links.getD i []).getD u 0≠1)/\Ext w5 wr) (fun j _=>ln-(intOf j).toNat)
 case atStart=>exact⟨0,aa,rfl,by intros;omega,Ext.refl _⟩
 case round=>
  obtain⟨t,ht,rfl,hz,hx⟩:=hrel;have HZ:=aJ hz;have HX:=aJ hx;clear hz hx k2;have k0:=(Z.ext HX.o).cell;have l0:=(Z.ext HX.o).lt;have l3:=(Wm.ext HX.o).lt;have l1:=(G.ext HX.o).lt;have l2:=(Wq.ext HX.o).lt;by_cases Wj:t<ln
  .have hd:decide (t<ln)=ε:=ae;obtain⟨Xu,Xt,U,WS,hc⟩:=(J.ext (HW.trans HX.o)).2.at_ Wj;injection U with U;injection U with Xd M _;subst Xd M;have g0:wr.cell? ⟨kb,ko+t*2,δ⟩=γ (.int .i64 ((s.bays.getD i η).links.getD t η).bus):=hc 0 _ rfl;have g1:wr.cell? ⟨kb,ko+t*2+1,δ⟩=γ (.int .i64 ((s.bays.getD i η).links.getD t η).pos):=hc 1 _ rfl;rw[(O.o t AaR).1] at g0;clear hc;have N:=WJ.o t AaR;have WH:Hid (t<(p.links.getD i []).length):=aJ (by have:=WC.o;have:=XL.o;omega);have WV:Hid ((p.links.getD i []).getD t 0=1->qV s p i=vO s p (fQ s i t)):=aJ (FZ AaR AaR HZ.o);generalize fQ s i t=u at g0 N WV;generalize ((s.bays.getD i η).links.getD t η).pos=ps at g1;have W:Hid (Ext w5 (wr.alloc (.cells #[.int .i64 (u:Int),.int .i64 ps] 137))):=aJ (HX.alloc _);obtain⟨-,WL⟩:=an1 wr 137 #[.int .i64 (u:Int),.int .i64 ps];have WK:=aJ WL;clear WL;(go_wp2_with fail);refine(rX nm GA gn V i t _ rfl _ (HP.ext (HW.trans W.o)) W9.o WH.o).mono ?_;rintro e w6 ⟨rfl,hx⟩;have WE:=aJ (W.trans hx);have kl:=(WK.ext hx).cell;have ll:=(WK.ext hx).lt;have WO:=(Z.ext WE.o).cell;have WM:q0<w6.heap.size:=(Z.ext WE.o).lt;have I:q3<w6.heap.size:=(Wm.ext WE.o).lt;clear hx;by_cases H:(p.links.getD i []).getD t 0=1
   .have dx:decide ((p.links.getD i []).getD t 0=1)=ε:=pq H;rw[dx];have P:=aJ (WV.o H);clear H dx;(go_wp2_with fail);refine(uz nm PA pn pc PB qn qc u _ (S.ext (HW.trans WE.o)) N).mono ?_;rintro e w7 ⟨rfl,hx⟩;have WQ:=aJ (WE.trans hx);clear hx kl ll WO WM I;have b7:=Wm.ext WQ.o;have T:=G.ext WQ.o;have WW:=b7.cell;have WU:=b7.frozen;have Xa:=T.cell;have Xv:=T.frozen;have WZ:q1<w7.heap.size:=T.lt;have WY:q3<w7.heap.size:=b7.lt;have b8:=bR 0 [.int .i64 1,.int .i64 ((groups s p).getD u 0)] b7;have c8:Blk (puts w7 q3 0 [.int .i64 1,.int .i64 ((groups s p).getD u 0)]) q1 187 #[.int .i64 0,.int .i64 0,.int .i64 0,.int .i64 0]:=((T.far AbY _).far AbY _);have x8:Ext w (puts w7 q3 0 [.int .i64 1,.int .i64 ((groups s p).getD u 0)]):=fw (g:=q3) B.o.1 0 _ (HW.trans WQ.o);have Wy:=aJ b8;have WP:=aJ c8;have WX:=aJ x8;clear b7 T b8 c8 x8;have WT:¬q1=q3:=by have:=B.o.2;omega
    have Ws:¬q3=q1:=by have:=B.o.2;omega
    (go_wp2_with fail);refine pM rfl rfl rfl (bR 0 [.int .i64 1,.int .i64 ((groups s p).getD u 0),.int .i64 3,.int .i64 b.obj] WP.o) aa9 rfl ah ⟨?_,fw (g:=q1) Wn.o 0 [.int .i64 1,.int .i64 ((groups s p).getD u 0),.int .i64 3,.int .i64 b.obj] WX.o⟩;rw[XN.o,P.o];rfl
   .have dx:decide ((p.links.getD i []).getD t 0=1)=ζ:=Γ H;rw[dx];have Wt:=aJ H;clear H dx;go_wp2_with fail
    go_roundw
    case rel=>exact⟨t+1,aa,au,fun v hv=>by
     by_cases e:v=t
     .rw[e];exact Wt.o
     .exact HZ.o v aa,WE.o⟩
    case measure=>simp[intOf];omega
  .obtain rfl:t=ln:=aa;clear Wj ht;have Wl:Hid (qV s p i=(0,0)):=aJ (AX WC.o (by have:=Wo.o.1.1;have:=WC.o;omega) HZ.o);have k3:=(Wm.ext HX.o).cell;have C:=(G.ext HX.o).cell;have f1:=(G.ext HX.o).frozen;(go_wp2_with fail);refine pM rfl rfl rfl (bR 0 [.int .i64 0,.int .i64 0,.int .i64 3,.int .i64 b.obj] (G.ext HX.o)) aa9 rfl ah ⟨?_,fw (g:=q1) Wn.o 0 [.int .i64 0,.int .i64 0,.int .i64 3,.int .i64 b.obj] (HW.trans HX.o)⟩;rw[XN.o,Wl.o];rfl
theorem iT.kind{s}(h:iT s){i}(hi:i<s.bays.length):(s.bays.getD i η).kind=1\/(s.bays.getD i η).kind=2\/(s.bays.getD i η).kind=3:=by
 have j:=h.obj i hi;unfold jc at j;by_cases B:(s.bays.getD i η).kind=1
 .exact .inl B
 by_cases l:(s.bays.getD i η).kind=2
 .exact .inr (.inl l)
 by_cases C:(s.bays.getD i η).kind=3
 .exact .inr (.inr C)
 rw[θ B,θ l,θ C] at j;cases j
def Jr(nm){A0 n0 c0 A1 n1 c1 A2 n2 c2 A3 n3 c3 L s PA I J PB C qc K p H G V}(i w)(hs:kY w A0 n0 c0 A1 n1 c1 A2 n2 c2 A3 n3 c3 L s)(hp:iW w PA I PB C K p)(j:iT s)(l:∀i,i<s.bays.length->(p.links.getD i []).length=(s.bays.getD i η).links.length)(F:uL w H G (groups s p))(D:G=s.buses.length)(hi:i<n3)(hq:i<C):
  CE 155 #[pE nm A0 n0 c0 A1 n1 c1 A2 n2 c2 A3 n3 c3 PA I J PB C qc H G V,.int .i64 (i:Int)] w (uX (sides s p i)):=by
 rcases j.kind (show i<s.bays.length by have:=hs.l3;omega) with B|B|B
 .exact Hw nm i w hs hp j l F D hi hq B
 .exact Fj nm i w hs hp j l F D hi hq B
 .exact F6 nm i w hs hp j l F D hi hq B
def Cu(s p k):je s p (k+1)=pV s p k (je s p k):=rfl
theorem wZ{s p k}(h:(s.bays.getD k η).kind=3\/(s.bays.getD k η).links.length≠2\/(p.links.getD k []).getD 0 0≠1\/(p.links.getD k []).getD 1 0≠1):je s p (k+1)=je s p k:=by
 rw[Cu];unfold pV;rw[θ];unfold joins;intro e;simp only[υ,Θ] at e;rcases h with h|h|h|h
 .exact e.1.1.1 h
 .exact h e.1.1.2
 .exact h e.1.2
 .exact h e.2
theorem MK{s p k}(B:(s.bays.getD k η).kind≠3)(j:(s.bays.getD k η).links.length=2)(C:(p.links.getD k []).getD 0 0=1)(l:(p.links.getD k []).getD 1 0=1):
  je s p (k+1)=merge ((je s p k).getD (fQ s k 0) 0) ((je s p k).getD (fQ s k 1) 0) (je s p k):=by
 rw[Cu];unfold pV;rw[ι];unfold joins;simp only[υ,Θ];exact⟨⟨⟨B,j⟩,C⟩,l⟩
theorem CY{s p}(h:jb s p=0):p.closed.length=s.bays.length/\p.links.length=s.bays.length/\∀i,i<s.bays.length->(p.links.getD i []).length=(s.bays.getD i η).links.length:=by
 unfold jb at h;split at h
 .rename_i Z
  refine⟨Z.1,Z.2,?_⟩;split at h
  .rename_i ha
   intro i hi;exact abf (wo.1 ha i (aaz.2 hi))
  .cases h
 .cases h
def iota (k:Nat):List Int:=(List.range k).map (fun j:Nat=>(j:Int))
theorem Ml(k):(iota k).map (Value.int .i64)++[Value.int .i64 (k:Int)]=(iota (k+1)).map (Value.int .i64):=by
 unfold iota;rw[abX,aaN,aaN];rfl
def Qf{l:List Int}{j}(h:j<l.length):l[j]? =γ (l.getD j 0):=by
 rw[φ,ν h];rfl
theorem Gr{A0 n0 c0 A1 n1 c1 A2 n2 c2 A3 n3 c3 L s PA pn pc PB qn qc K p}(w)(hs:kY w A0 n0 c0 A1 n1 c1 A2 n2 c2 A3 n3 c3 L s)(hp:iW w PA pn PB qn K p)(hc:chk s=0)(XR:jb s p=0):
  Calls prog 154 #[stV s.name A0 n0 c0 A1 n1 c1 A2 n2 c2 A3 n3 c3,nu PA pn pc PB qn qc] w fun e w'=>∃GA V,e=.returned (.tuple #[pE s.name A0 n0 c0 A1 n1 c1 A2 n2 c2 A3 n3 c3 PA pn pc PB qn qc GA n0 V,.bool ε])/\uL w' GA n0 (groups s p)/\Ext w w':=by
 have D:Hid (Ext w (((w.alloc (.cells #[.string s.name,.slice A0 n0 c0,.slice A1 n1 c1,.slice A2 n2 c2,.slice A3 n3 c3] 27)).alloc (.cells #[.slice PA pn pc,.slice PB qn qc] 31)).alloc (.cells #[.string ByteArray.empty,.slice δ 0 0,.slice δ 0 0,.slice δ 0 0,.slice δ 0 0,.slice δ 0 0,.slice δ 0 0,.slice δ 0 0] 215))):=aJ (((Ext.new _ _).trans (Ext.new _ _)).trans (Ext.new _ _));have HS:=aJ (hs.ext D.o);have HP:=aJ (hp.ext D.o);have HC:=aJ hc;have Ya:=aJ XR;have WH:=aJ (xh hc);obtain⟨m0,m1,m2,m3⟩:=hs.mx;have Z:=aJ hs.l3;have Wz:Hid (s.buses.length=n0):=aJ (by have:=hs.buses.1;simpa using this);have XO:Hid (1<=n0/\n0<=4):=aJ (by have:=WH.nb;have:=Wz.o;omega);have WV:=XO.o.1;have XL:=aJ (CY XR);have HQ:Hid (qn=n3):=aJ (by have:=hp.ll;have:=XL.o.2.1;have:=Z.o;omega);clear hs hp hc XR;obtain⟨-,G,Wq,-⟩:=ah3 w 27 #[.string s.name,.slice A0 n0 c0,.slice A1 n1 c1,.slice A2 n2 c2,.slice A3 n3 c3] 31 #[.slice PA pn pc,.slice PB qn qc] 215 #[.string ByteArray.empty,.slice δ 0 0,.slice δ 0 0,.slice δ 0 0,.slice δ 0 0,.slice δ 0 0,.slice δ 0 0,.slice δ 0 0];have Wm:Hid (Blk (((w.alloc (.cells #[.string s.name,.slice A0 n0 c0,.slice A1 n1 c1,.slice A2 n2 c2,.slice A3 n3 c3] 27)).alloc (.cells #[.slice PA pn pc,.slice PB qn qc] 31)).alloc (.cells #[.string ByteArray.empty,.slice δ 0 0,.slice δ 0 0,.slice δ 0 0,.slice δ 0 0,.slice δ 0 0,.slice δ 0 0,.slice δ 0 0] 215)) (w.heap.size+1+1) 215 #[.string ByteArray.empty,.slice δ 0 0,.slice δ 0 0,.slice δ 0 0,.slice δ 0 0,.slice δ 0 0,.slice δ 0 0,.slice δ 0 0]):=aJ (aeE _ _ ag);unfold stV nu;go_enter func154,ntmps154;(go_wp2_with fail);refine(yz _ HS.o).mono ?_;rintro e w1 ⟨rfl,hx⟩;rw[HC.o];replace D:=D.aC hx;replace HS:=HS.aA hx;replace HP:=HP.aA hx;replace G:=G.aA hx;replace Wq:=Wq.aA hx;replace Wm:=Wm.aA hx;have h1:=G.lt;have h2:=Wq.lt;have C:=G.cell;have k2:=Wq.cell;clear hx;(go_wp2_with fail);refine(yD s.name _ HS.o HP.o).mono ?_;rintro e w2 ⟨rfl,hx⟩;rw[Ya.o];replace D:=D.aC hx;replace HS:=HS.aA hx;replace HP:=HP.aA hx;replace G:=G.aA hx;replace Wq:=Wq.aA hx;replace Wm:=Wm.aA hx;clear h1 h2 C k2 hx;have h1:=G.lt;have h2:=Wq.lt;have C:=G.cell;have k2:=Wq.cell;obtain⟨-,Wx⟩:=an1 w2 215 #[.string s.name,.slice A0 n0 c0,.slice A1 n1 c1,.slice A2 n2 c2,.slice A3 n3 c3,.slice PA pn pc,.slice PB qn qc,.slice δ 0 0];have WB:=aJ Wx;clear Wx;have W9:Hid (Ext w2 (w2.alloc (.cells #[.string s.name,.slice A0 n0 c0,.slice A1 n1 c1,.slice A2 n2 c2,.slice A3 n3 c3,.slice PA pn pc,.slice PB qn qc,.slice δ 0 0] 215))):=aJ (Ext.new _ _);(go_wp2_with fail);clear C k2 h1 h2;generalize Xo:w.heap.size+1+1=q2 at Wm⊢;generalize Wv:w.heap.size+1=q1 at Wq⊢;generalize WN:w.heap.size=q0 at G⊢;have WK:Hid (w.heap.size<=q2):=aJ aa;clear Xo Wv WN;generalize Xw:w2.alloc (.cells #[.string s.name,.slice A0 n0 c0,.slice A1 n1 c1,.slice A2 n2 c2,.slice A3 n3 c3,.slice PA pn pc,.slice PB qn qc,.slice δ 0 0] 215)=w6 at WB W9⊢;clear Xw;generalize Xl:w2.heap.size=g6 at WB⊢;have Xq:=aJ Xl;clear Xl;go_loopw [32] (fun i wr=>∃(k:Nat) (v:Value),k<=n0/\i=.int .i64 (k:Int)/\Blk wr g6 215 #[.string s.name,.slice A0 n0 c0,.slice A1 n1 c1,.slice A2 n2 c2,.slice A3 n3 c3,.slice PA pn pc,.slice PB qn qc,v]/\wr.ownsRow (g6+1) 3 1 v k ((iota k).map (.int .i64))/\Ext w2 wr) (fun i _=>n0-(intOf i).toNat)
 case atStart=>exact⟨0,_,aa,rfl,WB.o,aaA _ _ _ _,W9.o⟩
 case round=>
  clear WB W9;obtain⟨k,v,hk,rfl,Wx,Wn,hx⟩:=hrel;obtain⟨Av,cv,rfl,_,_,_⟩:=iX Wn;have WB:=aJ Wx;have B:=aJ Wn;have HX:=aJ hx;have k6:=Wx.cell;have l6:=Wx.lt;have k0:=(G.ext hx).cell;have l0:=(G.ext hx).lt;clear Wx Wn hx;by_cases Wj:k<n0
  .have hd:decide (k<n0)=ε:=ae;(go_wp2_with (at_builtin;refine gK GD rfl (.tmp 36) (.tmp 38) rfl (g6+1) _ k _ rf (B.alloc _) wr.heap.size 1 1 [.int .i64 (k:Int)] rf (Blk.new _ _ _) rfl AcI aa aa aa ae ?_));intro gA H w7 Xc XB Xy XE;rw[Ml] at Xc;have WT:=dW XB (WB.alloc (.cells #[.int .i64 (k:Int)] 3)) (ig B.o aa);have WO:Mod (fun g=>g=g6\/(Value.slice Av k cv).ownBlock=γ g) wr (w7.setCell ⟨g6,7,δ⟩ (.slice (γ ⟨gA,0,δ⟩) (k+1) H)):=((aeI (Ext.new _ _)).trans (Mod.grown XB (fun g h=> .inr h))).trans (Mod.only (Only.set w7 g6 7 _) (.inl rfl));have k7:=WT.cell;have f7:=WT.frozen;have l7:=WT.lt;have WL:Blk (w7.setCell ⟨g6,7,δ⟩ (.slice (γ ⟨gA,0,δ⟩) (k+1) H)) g6 215 #[.string s.name,.slice A0 n0 c0,.slice A1 n1 c1,.slice A2 n2 c2,.slice A3 n3 c3,.slice PA pn pc,.slice PB qn qc,.slice (γ ⟨gA,0,δ⟩) (k+1) H]:=by simpa using WT.qg 7 (.slice (γ ⟨gA,0,δ⟩) (k+1) H)
   have Xi:=qO Xc (Only.set w7 g6 7 (.slice (γ ⟨gA,0,δ⟩) (k+1) H)) (ig Xc aa);have Wy:=aJ WL;have XA:=aJ Xi;have WI:=aJ WO;clear WT WO WL Xi Xc XB Xy;go_wp2_with fail
   go_roundw
   case rel=>
    refine⟨k+1,_,aa,au,Wy.o,XA.o,HX.mod WI.o (fun g hg=> ?_)⟩;have:=Xq.o;rcases hg with hg|hg
    .omega
    .have:=(B.lt g hg).1;omega
   case measure=>simp[intOf];omega
  .obtain rfl:n0=k:=aa;clear Wj hk;(go_wp2_with fail);clear k6 l6 k0 l0;go_loopw [45] (fun i wr=>∃(j:Nat) (v:Value),j<=n3/\i=.int .i64 (j:Int)/\Blk wr g6 215 #[.string s.name,.slice A0 n0 c0,.slice A1 n1 c1,.slice A2 n2 c2,.slice A3 n3 c3,.slice PA pn pc,.slice PB qn qc,v]/\wr.ownsRow (g6+1) 3 1 v n0 ((je s p j).map (.int .i64))/\Ext w2 wr) (fun i _=>n3-(intOf i).toNat)
   case atStart=>exact⟨0,_,aa,rfl,WB.o,by rw[show je s p 0=iota n0 from by rw[<-Wz.o];rfl];exact B.o,HX.o⟩
   case round=>
    clear WB B HX;obtain⟨j,v,hj,rfl,Wx,Wn,hx⟩:=hrel;obtain⟨gr,T,rfl,X9,X8⟩:=Wn.form aa;obtain⟨wv,WZ⟩:∃wv,wv=wr:=⟨_,rfl⟩;subst WZ;have WB:=aJ Wx;have B:=aJ Wn;have HX:=aJ hx;have k6:=Wx.cell;have l6:=Wx.lt;have k0:=(G.ext hx).cell;have l0:=(G.ext hx).lt;clear Wx Wn hx;by_cases Wj:j<n3
    .have hd:decide (j<n3)=ε:=ae;obtain⟨lb,lo,hA,hb,e0,e1,e2,e3,e4,e5,e6,e7,e8,e9,WA,WG⟩:=(HS.ext HX.o).bays.bay Wj;subst hA;generalize Xb:L j=F at e6;have R:Hid (Lks wv F.A F.n (s.bays.getD j η).links):=aJ (by rw[<-Xb];exact((HS.ext HX.o).links j Wj));have WC:Hid ((s.bays.getD j η).links.length=F.n):=aJ R.o.1;clear Xb;generalize Ww:s.bays.getD j η=b at e0 e1 e2 e3 e4 e5 e6 e7 e8 e9 WA WG;have WR:=aJ Ww;clear Ww;have WM:Hid (Ext w2 (wv.alloc (.cells #[.string b.name,.int .i64 b.kind,.int .i64 b.obj,.int .i64 b.en,.int .i64 b.z.r,.int .i64 b.z.x,.slice F.A F.n F.c,.bool b.closed,.int .i64 b.ct,.int .i64 b.vt,.int .i64 b.sat,.int .i64 b.travel] 57))):=aJ (HX.alloc _);have Xn:=aJ (B.alloc (.cells #[.string b.name,.int .i64 b.kind,.int .i64 b.obj,.int .i64 b.en,.int .i64 b.z.r,.int .i64 b.z.x,.slice F.A F.n F.c,.bool b.closed,.int .i64 b.ct,.int .i64 b.vt,.int .i64 b.sat,.int .i64 b.travel] 57));have Wt:=aJ (WB.alloc (.cells #[.string b.name,.int .i64 b.kind,.int .i64 b.obj,.int .i64 b.en,.int .i64 b.z.r,.int .i64 b.z.x,.slice F.A F.n F.c,.bool b.closed,.int .i64 b.ct,.int .i64 b.vt,.int .i64 b.sat,.int .i64 b.travel] 57));obtain⟨-,Xk⟩:=an1 wv 57 #[.string b.name,.int .i64 b.kind,.int .i64 b.obj,.int .i64 b.en,.int .i64 b.z.r,.int .i64 b.z.x,.slice F.A F.n F.c,.bool b.closed,.int .i64 b.ct,.int .i64 b.vt,.int .i64 b.sat,.int .i64 b.travel];have WP:=aJ Xk;clear Xk;by_cases h1:b.kind=3
     .have q1:((b.kind:Int)==3)=ε:=by simp[h1]
      have HJ:Hid (je s p (j+1)=je s p j):=aJ (wZ (.inl (by rw[WR.o];exact h1)));clear h1;go_wp2_with fail
      exact Aco
     have q1:((b.kind:Int)==3)=ζ:=by simp[h1]
     have H1:=aJ h1;clear h1;by_cases h2:F.n=2
     rotate_left
     .have q2:((F.n:Int) !=2)=ε:=ae;have HJ:Hid (je s p (j+1)=je s p j):=aJ (wZ (.inr (.inl (by rw[WC.o];exact h2))));clear h2;go_wp2_with fail
      exact Aco
     obtain⟨kb,ko,hI,Xg,WJ⟩:=R.o.2.at_ (show 0<F.n by omega);obtain⟨Xu,Xt,U,_,I⟩:=R.o.2.at_ (show 1<F.n by omega);rw[hI] at U;injection U with U;injection U with Xd M _;subst Xd M;have Wo:Hid (j<s.bays.length):=aJ AbK;have f0:wv.cell? ⟨kb,ko,δ⟩=γ (.int .i64 (fQ s j 0:Int)):=by
      have:=WJ 0 _ rfl;rw[(WH.o.bus Wo.o AaR).1] at this;simpa using this
     have f1:wv.cell? ⟨kb,ko+2,δ⟩=γ (.int .i64 (fQ s j 1:Int)):=by
      have:=I 0 _ rfl;rw[(WH.o.bus Wo.o AaR).1] at this;simpa using this
     have WU:fQ s j 0<n0:=by have:=(WH.bus Wo.o (show 0<_ by have:=WC.o;omega)).2;have:=Wz.o;omega
     have WW:fQ s j 1<n0:=by have:=(WH.bus Wo.o (show 1<_ by have:=WC.o;omega)).2;have:=Wz.o;omega
     have YV:Hid ((p.links.getD j []).length=2):=aJ (by have:=XL.o.2.2 j Wo.o;have:=WC.o;omega);have XH:Hid (j<qn):=aJ (by have:=HQ.o;omega);have Q:Hid ((p.links.getD j []).getD 0 0=1->(p.links.getD j []).getD 1 0=1->je s p (j+1)=merge ((je s p j).getD (fQ s j 0) 0) ((je s p j).getD (fQ s j 1) 0) (je s p j)):=aJ (fun h3 h4=>MK (by rw[WR.o];exact H1.o) (by rw[WC.o];exact h2) h3 h4);have Xh:Hid ((je s p j).length=n0):=aJ (by rw[jO];exact Wz.o);generalize fQ s j 0=u0 at f0 WU Q;generalize fQ s j 1=u1 at f1 WW Q;obtain⟨lA,ln,lc⟩:=F;simp only at hI h2;subst hI h2;clear WJ I;have XM:=(Ext.new wv (.cells #[.string b.name,.int .i64 b.kind,.int .i64 b.obj,.int .i64 b.en,.int .i64 b.z.r,.int .i64 b.z.x,.slice (γ ⟨kb,ko,δ⟩) 2 lc,.bool b.closed,.int .i64 b.ct,.int .i64 b.vt,.int .i64 b.sat,.int .i64 b.travel] 57)).cell_ f0;have XG:=(Ext.new wv (.cells #[.string b.name,.int .i64 b.kind,.int .i64 b.obj,.int .i64 b.en,.int .i64 b.z.r,.int .i64 b.z.x,.slice (γ ⟨kb,ko,δ⟩) 2 lc,.bool b.closed,.int .i64 b.ct,.int .i64 b.vt,.int .i64 b.sat,.int .i64 b.travel] 57)).cell_ f1;(go_wp2_with fail);refine(rX s.name (γ ⟨gr,0,δ⟩) n0 T j 0 _ rfl _ (HP.ext WM.o) XH.o (by rw[YV.o];decide)).mono ?_;rintro e w6 ⟨rfl,hx⟩;have WE:=aJ (WM.trans hx);have Xz:=aJ (fE Xn.o hx);have Ws:=aJ (Wt.ext hx);have WF:=aJ (WP.ext hx);have XF:=hx.cell_ XM;have XD:=hx.cell_ XG;clear hx f0 f1 XM XG e0 e1 e2 e3 e4 e5 e6 e7 e8 e9 WA WG;have X4:=Ws.cell;have XT:=Ws.lt;have XP:=WF.cell;have XX:=WF.lt;by_cases h3:(p.links.getD j []).getD 0 0=1
     rotate_left
     .have q3:decide ((p.links.getD j []).getD 0 0=1)=ζ:=Γ h3;rw[q3];have HJ:Hid (je s p (j+1)=je s p j):=aJ (wZ (.inr (.inr (.inl h3))));clear h3 q3;go_wp2_with fail
      go_roundw
      case rel=>exact⟨j+1,_,aa,au,Ws.o,by rw[HJ.o];exact Xz.o,WE.o⟩
      case measure=>simp[intOf];omega
     have q3:decide ((p.links.getD j []).getD 0 0=1)=ε:=pq h3;rw[q3];replace Q:=aJ (Q.o h3);clear h3 q3;(go_wp2_with fail);refine(rX s.name (γ ⟨gr,0,δ⟩) n0 T j 1 _ rfl _ (HP.ext WE.o) XH.o (by rw[YV.o];decide)).mono ?_;rintro e w7 ⟨rfl,hx⟩;have WQ:=aJ (WE.trans hx);have Xf:=aJ (fE Xz.o hx);have Y:=aJ (Ws.ext hx);have Xm:=aJ (WF.ext hx);have XK:=hx.cell_ XF;have Xv:=hx.cell_ XD;clear hx XF XD X4 XT XP XX;have X6:=Y.cell;have XQ:=Y.lt;have XN:=Xm.cell;have XY:=Xm.lt;by_cases h3:(p.links.getD j []).getD 1 0=1
     rotate_left
     .have q3:decide ((p.links.getD j []).getD 1 0=1)=ζ:=Γ h3;rw[q3];have HJ:Hid (je s p (j+1)=je s p j):=aJ (wZ (.inr (.inr (.inr h3))));clear h3 q3;go_wp2_with fail
      go_roundw
      case rel=>exact⟨j+1,_,aa,au,Y.o,by rw[HJ.o];exact Xf.o,WQ.o⟩
      case measure=>simp[intOf];omega
     have q3:decide ((p.links.getD j []).getD 1 0=1)=ε:=pq h3;rw[q3];replace Q:=aJ (Q.o h3);clear h3 q3;have XC:=(DD Xf.o WU (Qf (by have:=Xh.o;omega))).1;have XI:=(DD Xf.o WW (Qf (by have:=Xh.o;omega))).1;have Yc:=(Xf.lt gr rfl).2;have X7:kb<w7.heap.size:=by
      have:=(HX.size);exact block_lt_of_cell XK
     generalize (je s p j).getD u0 0=x0 at XC Q;generalize (je s p j).getD u1 0=x1 at XI Q;(go_wp2_with fail);go_quiet (fail);have X5:=(Y.drewN nq).cell;have XU:=(Y.drewN nq).lt;(go_wp2_with fail);clear XC XI XK Xv X6 XQ XN XY X5 XU;have WX:=aJ (WQ.drewN nq);have Wy:=aJ (Y.drewN nq);have Xx:Hid ((w7.drewN nq).ownsRow (g6+1) 3 1 (.slice (γ ⟨gr,0,δ⟩) n0 T) n0 ((je s p j).map (.int .i64))):=aJ (fE Xf.o ((Ext.refl _).drewN nq));generalize w7.drewN nq=w8 at WX Wy Xx⊢;have S:Hid ((je s p j).map (fun v=>if v=max x0 x1 then min x0 x1 else v)=merge x0 x1 (je s p j)):=aJ (Mm _);rw[<-S.o] at Q;generalize max x0 x1=mx at Q S⊢;generalize min x0 x1=mn at Q S⊢;generalize je s p j=l at Xx Xh Q S;clear WM WE WQ Wt Ws Y WP WF Xm Xn Xz Xf S;go_loopw [98] (fun i wq=>∃t:Nat,t<=n0/\i=.int .i64 (t:Int)/\wq.ownsRow (g6+1) 3 1 (.slice (γ ⟨gr,0,δ⟩) n0 T) n0 ((uV (fun v=>if v=mx then mn else v) l t).map (.int .i64))/\Mod (fun g=>g=gr) w8 wq) (fun i _=>n0-(intOf i).toNat)
     case atStart=>exact⟨0,aa,rfl,by rw[Qa];exact Xx.o,Mod.refl _ _⟩
     case round=>
      obtain⟨t,ht,rfl,Xj,Xa⟩:=hrel;have Wl:=aJ Xj;have Xe:=aJ Xa;have Xp:=Wy.mod Xa (fun h=>aa);have WS:=aJ Xp;have kq:=Xp.cell;have lq:=Xp.lt;clear Xj Xa Xp;by_cases J:t<n0
      .have XV:decide (t<n0)=ε:=ae;have Wu:t<l.length:=by have:=Xh.o;omega
       obtain⟨q1,q2⟩:=DD Wl.o J (DN Wu);have Yb:=(Wl.lt gr rfl).2;have Wp:=aJ (JU Wl.o t (.int .i64 mn));have WY:=aJ (AZ (f:=fun v=>if v=mx then mn else v) Wu);have N:=aJ (Cs (f:=fun v=>if v=mx then mn else v) Wu);generalize l.getD t 0=x at q1 WY N;by_cases P:x=mx
       .have dx:((x:Int)==mx)=ε:=ae;have W:=aJ P;clear P;go_wp2_with fail
        go_roundw
        case rel=>
         refine⟨t+1,aa,au,?_,?_⟩
         .have h1:=Wp.o.1;rw[<-adH (f:=Value.int .i64) (a:=mn)] at h1;have h2:=WY.o;simp only[ι W.o] at h2;rw[<-h2];exact h1
         .exact Xe.trans Wp.o.2
        case measure=>simp[intOf];omega
       .have dx:((x:Int)==mx)=ζ:=ae;have W:=aJ P;clear P;go_wp2_with fail
        go_roundw
        case rel=>exact⟨t+1,aa,au,by rw[N.o (θ W.o)];exact Wl.o,Xe.o⟩
        case measure=>simp[intOf];omega
      .obtain rfl:n0=t:=aa;clear J ht;have XJ:=aJ (GR (f:=fun v=>if v=mx then mn else v) Xh.o);go_wp2_with fail
       go_roundw
       case rel=>exact⟨j+1,_,aa,au,WS.o,by rw[Q.o,<-XJ.o];exact Wl.o,WX.mod Xe.o (fun g hg=>by have:=Xq.o;omega)⟩
       case measure=>simp[intOf];omega
    .obtain rfl:n3=j:=aa;clear Wj hj;have O:=Wm.ext HX.o;have kr:=O.cell;have fr:=O.frozen;have lr:=O.lt;(go_wp2_with fail);have XW:Hid (groups s p=je s p n3):=aJ (by unfold groups;rw[Z.o]);have r1:=qO B.o (fD wv q2 0 [.string s.name,.slice A0 n0 c0,.slice A1 n1 c1,.slice A2 n2 c2,.slice A3 n3 c3,.slice PA pn pc,.slice PB qn qc,.slice (γ ⟨gr,0,δ⟩) n0 T]) (rE B.o O aj);obtain⟨GA,V,eg,_,XZ,Xr⟩:=ae8 0 r1;injection eg with X3 _ _;subst X3;refine EN rfl rfl rfl (bR 0 [.string s.name,.slice A0 n0 c0,.slice A1 n1 c1,.slice A2 n2 c2,.slice A3 n3 c3,.slice PA pn pc,.slice PB qn qc,.slice (γ ⟨gr,0,δ⟩) n0 T] O) underlying215 rfl ah ⟨_,T,rfl,?_,fw (g:=q2) WK.o 0 [.string s.name,.slice A0 n0 c0,.slice A1 n1 c1,.slice A2 n2 c2,.slice A3 n3 c3,.slice PA pn pc,.slice PB qn qc,.slice (γ ⟨gr,0,δ⟩) n0 T] (D.trans HX.o)⟩;rw[XW.o];exact⟨XZ,Xr⟩
theorem F4{A0 n0 c0 A1 n1 c1 A2 n2 c2 A3 n3 c3 L s PA H M PB C qc K p}(i w)(hs:kY w A0 n0 c0 A1 n1 c1 A2 n2 c2 A3 n3 c3 L s)(hp:iW w PA H PB C K p)(hc:chk s=0)(F:jb s p=0)(hi:i<n3):
  CE 119 #[stV s.name A0 n0 c0 A1 n1 c1 A2 n2 c2 A3 n3 c3,nu PA H M PB C qc,.int .i64 (i:Int)] w (uX (sides s p i)):=by
 have D:Hid (Ext w (((w.alloc (.cells #[.string s.name,.slice A0 n0 c0,.slice A1 n1 c1,.slice A2 n2 c2,.slice A3 n3 c3] 27)).alloc (.cells #[.slice PA H M,.slice PB C qc] 31)).alloc (.cells #[.int .i64 0,.int .i64 0,.int .i64 0,.int .i64 0] 187))):=aJ (((Ext.new _ _).trans (Ext.new _ _)).trans (Ext.new _ _));have N:=aJ (hs.ext D.o);have O:=aJ (hp.ext D.o);have HC:=aJ hc;have P:=aJ F;have Q:=aJ (xh hc);have J:=aJ (CY F);have j:Hid (n0=s.buses.length):=aJ (by have:=hs.buses.1;simpa using this.symm);have Y:Hid (i<C):=aJ (by have:=hp.ll;have:=J.o.2.1;have:=hs.l3;omega);have Z:=aJ hi;clear hs hp hc F hi;obtain⟨-,G,R,-⟩:=ah3 w 27 #[.string s.name,.slice A0 n0 c0,.slice A1 n1 c1,.slice A2 n2 c2,.slice A3 n3 c3] 31 #[.slice PA H M,.slice PB C qc] 187 #[.int .i64 0,.int .i64 0,.int .i64 0,.int .i64 0];have l:Hid (Blk (((w.alloc (.cells #[.string s.name,.slice A0 n0 c0,.slice A1 n1 c1,.slice A2 n2 c2,.slice A3 n3 c3] 27)).alloc (.cells #[.slice PA H M,.slice PB C qc] 31)).alloc (.cells #[.int .i64 0,.int .i64 0,.int .i64 0,.int .i64 0] 187)) (w.heap.size+1+1) 187 #[.int .i64 0,.int .i64 0,.int .i64 0,.int .i64 0]):=aJ (aeE _ _ ag);unfold stV nu;go_enter func119,ntmps119;(go_wp2_with fail);refine(Gr _ N.o O.o HC.o P.o).mono ?_;rintro e w1 ⟨GA,V,rfl,U,B⟩;have T:=aJ (D.trans B);have I:Hid (Ext w1 (w1.alloc (.cells #[.string s.name,.slice A0 n0 c0,.slice A1 n1 c1,.slice A2 n2 c2,.slice A3 n3 c3,.slice PA H M,.slice PB C qc,.slice GA n0 V] 215))):=aJ (Ext.new _ _);have S:=aJ (U.ext I.o);clear U;replace N:=N.aA (B.trans I.o);replace O:=O.aA (B.trans I.o);replace l:=l.aA (B.trans I.o);clear B G R;unfold pE;(go_wp2_with fail);refine(Jr s.name i _ N.o O.o Q.o J.o.2.2 S.o j.o Z.o Y.o).mono ?_;rintro e w2 ⟨rfl,B⟩;replace l:=l.aA B;have W:=aJ ((T.trans I.o).trans B);clear B;have kr:=l.cell;have fr:=l.frozen;have lr:=l.lt;unfold uX;(go_wp2_with fail);exact pM rfl rfl rfl (bR 0 [.int .i64 (sides s p i).1.1,.int .i64 (sides s p i).1.2,.int .i64 (sides s p i).2.1,.int .i64 (sides s p i).2.2] l.o) aa9 rfl ah ⟨rfl,fw (g:=w.heap.size+1+1) (show w.heap.size<=w.heap.size+1+1 by omega) 0 [.int .i64 (sides s p i).1.1,.int .i64 (sides s p i).1.2,.int .i64 (sides s p i).2.1,.int .i64 (sides s p i).2.2] W.o⟩
theorem Ew{A0 n0 c0 A1 n1 c1 A2 n2 c2 A3 n3 c3 L s PA C G PB B qc K p}(w)(hs:kY w A0 n0 c0 A1 n1 c1 A2 n2 c2 A3 n3 c3 L s)(hp:iW w PA C PB B K p)(hc:chk s=0)(j:jb s p=0):
  Calls prog 121 #[stV s.name A0 n0 c0 A1 n1 c1 A2 n2 c2 A3 n3 c3,nu PA C G PB B qc] w fun e w'=>∃l V,e=.returned (.slice l n0 V)/\uL w' l n0 (groups s p)/\Ext w w':=by
 have D:Hid (Ext w ((w.alloc (.cells #[.string s.name,.slice A0 n0 c0,.slice A1 n1 c1,.slice A2 n2 c2,.slice A3 n3 c3] 27)).alloc (.cells #[.slice PA C G,.slice PB B qc] 31))):=aJ ((Ext.new _ _).trans (Ext.new _ _));have O:=aJ (hs.ext D.o);have P:=aJ (hp.ext D.o);have N:=aJ hc;have F:=aJ j;clear hs hp hc j;unfold stV nu;go_enter func121,ntmps121;(go_wp2_with fail);refine(Gr _ O.o P.o N.o F.o).mono ?_;rintro e w1 ⟨l,V,rfl,I,M⟩;have H:=aJ (D.trans M);have J:Hid (Ext w1 (w1.alloc (.cells #[.string s.name,.slice A0 n0 c0,.slice A1 n1 c1,.slice A2 n2 c2,.slice A3 n3 c3,.slice PA C G,.slice PB B qc,.slice l n0 V] 215))):=aJ (Ext.new _ _);have S:=aJ (I.ext J.o);clear I;clear M;unfold pE;(go_wp2_with fail);go_ret;exact⟨l,V,rfl,S.o,H.trans J.o⟩
def pQ:List Value:=[.string ByteArray.empty,.int .i64 0,.int .i64 0,.int .i64 0,.int .i64 0,.int .i64 0,.slice δ 0 0,.bool ζ,.int .i64 0,.int .i64 0,.int .i64 0,.int .i64 0]
def wH:(prog.info? 57).map (·.zero)=γ (γ (.agg pQ.toArray)):=ah
def mG:(prog.info? 57).map (·.size)=γ (12:Nat):=ah
theorem yR(b h):∀v∈ja b h,v.oneCell'=ε:=by
 intro v hv;unfold ja at hv;simp only[ψ,RS,aaU] at hv;rcases hv with rfl|rfl|rfl|rfl|rfl|rfl|rfl|rfl|rfl|rfl|rfl|rfl<;>rfl
def QB{w g b h}(hb:Blk w g 57 pQ.toArray):Blk (puts w g 0 (ja b h)) g 57 (ja b h).toArray:=by
 have j:Blk (puts w g 0 (ja b h)) g 57 (fI pQ.toArray 0 (ja b h)):=bR 0 (ja b h) hb;rw[fU pQ (ja b h) rfl] at j;exact j
def yO{w wd j b h}(hd:wd=w.alloc (.cells pQ.toArray 57))(U:j=puts wd w.heap.size 0 (ja b h)):Blk j w.heap.size 57 (ja b h).toArray/\Ext w j:=by
 have l:Blk wd w.heap.size 57 pQ.toArray:=by rw[hd];exact Blk.new _ _ _
 have H:Ext w wd:=by rw[hd];exact Ext.new _ _
 exact⟨by rw[U];exact QB l,by rw[U];exact fw (κ _:Own w w.heap.size) 0 _ H⟩
theorem Mf(gx gf i C E){A0 n0 c0 A1 n1 c1 A2 n2 c2 A3 n3 c3 LH s p f}(w)(hc:bM w gf)(hg:fA w gx 105 393 (eY C E))(hv:mY w gx C E s p f)(hs:kY w A0 n0 c0 A1 n1 c1 A2 n2 c2 A3 n3 c3 LH s)(Wu:iT s)(hi:i<n3):
  Calls prog 46 #[.pointer (γ ⟨gx,0,δ⟩),.pointer (γ ⟨gf,0,δ⟩),stV s.name A0 n0 c0 A1 n1 c1 A2 n2 c2 A3 n3 c3,.int .i64 (i:Int)] w fun r w'=>∃a:Nat->En,r=.returned (.agg (aM 3 a).toArray)/\lJ w' 3 a (j6 s p f i) 4600/\Ext w w':=by
 have HC:=aJ hc;have S:=aJ hg;have HV:=aJ hv;have Wp:=aJ hs;have WH:=aJ Wu;have X4:=aJ hi;have Wx:=hs.l3;have WS:i<s.bays.length:=aa;obtain⟨b,WU⟩:∃b,s.bays.getD i η=b:=⟨_,rfl⟩;have Yi:=Wu.obj i WS;have WN:=Wu.rng i WS;have Xa:=Wu.kind WS;rw[WU] at Yi WN Xa;have WO:=aJ WU;have Wl:=aJ WS;have YW:=aJ Yi;have YJ:=aJ WN;have XP:=aJ Xa;obtain⟨gb,ob,X7,WL,Xb⟩:=hs.bays.at_ hi;rw[WU] at Xb;subst X7;have YU:=aJ Xb;have WK:=aJ WL;clear hc hg hv hs Wu hi WU Yi WN Xa WS Xb WL Wx;unfold stV;go_enter func46,ntmps46;(go_wp2_with (refine aS rfl 102 rfl _ uk (fun w_ Q=>Hid.o ?_)));refine aJ ?_;refine Qp ?_;replace Q:=Hid.o Q;have HX:Hid (Ext w w_):=aJ (by rw[Q];exact(Ext.new _ _).alloc _);have Ws:Hid (Blk w_ w.heap.size 27 #[.string s.name,.slice A0 n0 c0,.slice A1 n1 c1,.slice A2 n2 c2,.slice (γ ⟨gb,ob,δ⟩) n3 c3]):=aJ (by rw[Q];exact(Blk.new _ _ _).alloc _);have Wy:Hid (Blk w_ (w.heap.size+1) 102 (aM 3 fun _=>zEn).toArray):=aJ (by rw[Q];exact aeE _ _ (bF _ _));clear Q;(try simp only[bF]);generalize Xg:w.heap.size+1=g8 at Wy⊢;have WY:Hid (w.heap.size<=g8):=aJ aa;clear Xg;generalize w.heap.size=g6 at Ws⊢;(go_wp2_with fail);refine(bO gf 0 _ (bM.ext HC.o HX.o) aa aa).mono ?_;rintro _ wa ⟨_,rfl,M,F⟩;obtain⟨P,rfl⟩:=M.en;replace HX:=HX.aC F;replace Ws:=Ws.aA F;replace Wy:=Wy.aA F;have G:=aJ M;clear M F;(go_wp2_with fail);refine(bO gf 0 _ (bM.ext HC.o HX.o) aa aa).mono ?_;rintro _ wb ⟨_,rfl,M,F⟩;obtain⟨fb,rfl⟩:=M.en;replace HX:=HX.aC F;replace Ws:=Ws.aA F;replace Wy:=Wy.aA F;replace G:=G.aA F;have K:=aJ M;clear M F;(go_wp2_with fail);refine(bO gf 0 _ (bM.ext HC.o HX.o) aa aa).mono ?_;rintro _ wc ⟨_,rfl,M,F⟩;obtain⟨fc,rfl⟩:=M.en;replace HX:=HX.aC F;replace Ws:=Ws.aA F;replace Wy:=Wy.aA F;replace G:=G.aA F;replace K:=K.aA F;have WR:=aJ M;clear M F;(iterate 2 (try (first|go_values|go_skip|go_guarded|go_step|go_upon|go_in|go_back|go_simp)));simp only[En.v,gv];(go_wp2_with (refine aS rfl 102 rfl _ uk (fun WM Q=>Hid.o ?_)));refine aJ ?_;refine Qp ?_;replace Q:=Hid.o Q;have F:Ext wc WM:=by rw[Q];exact Ext.new _ _
 have WT:Blk WM wc.heap.size 102 (aM 3 fun _=>zEn).toArray:=by rw[Q];exact Blk.new _ _ _
 have O:Hid (WM.there wc.heap.size 0 18):=aJ (WT.there Acj);have WE:=Wy.lt;clear Q;generalize XB:wc.heap.size=g9 at WT O WE⊢;(go_wp2_with (refine aL rfl 102 (.tmp 9) (.tmp 17) rfl g9 (0) (P.cells++(fb.cells++fc.cells)) rf rf O.o kS (nK _ _ _) (fun W Q=>Hid.o ?_)));refine aJ ?_;refine Qp ?_;replace Q:=Hid.o Q;have WX:W=puts WM g9 0 (aM 3 (pk3 P fb fc)):=by rw[vQ];exact Q
 have HO:=eZ (w:=wc) F aa WT WX;have L:lJ W 3 (pk3 P fb fc) (fun _=>GQ.i 0 0) 4600:=fun k hk=>by
  have h3:k=0\/k=1\/k=2:=aa;rcases h3 with rfl|rfl|rfl
  .exact(HO.2.2 _ _ _ (G.ext F)).up aa
  .exact(HO.2.2 _ _ _ (K.ext F)).up aa
  .exact(HO.2.2 _ _ _ (WR.ext F)).up aa
 have WW:=aJ L;have WG:=aJ HO.1;replace HX:=HX.aC HO.2.1;replace Ws:=Ws.aA HO.2.1;replace Wy:=Wy.aA HO.2.1;have Xy:Hid (g8<g9):=aJ WE;clear G K WR F WT O WE XB WX HO Q L;obtain⟨fz,WI⟩:∃f,pk3 P fb fc=f:=⟨_,rfl⟩;rw[WI] at WW WG;clear WI;have k6:=Ws.cell;have q1:(0:Int)<=(i:Int):=aa;have q2:(i:Int)<(n3:Int):=by have:=X4.o;omega
 have Wn:=aJ (show W.rangeAt gb (ob+i*12) (ja b (LH i)) from fun j v hv=>HX.cell_ (YU.o j v hv));(go_wp2_with (refine σ rfl 57 _ rfl gb (ob+i*12) rf (ja b (LH i)) _ Wn.o abD rfl mG (Hid.o ?_)));refine aJ ?_;refine Qp ?_;(go_wp2_with (refine aS rfl 57 rfl _ wH (fun Yw Q=>Hid.o ?_)));refine aJ ?_;refine Qp ?_;replace Q:=Hid.o Q;have Xx:=aJ Q;clear Q;refine aL rfl 57 (.tmp 10) (.tmp 22) rfl W.heap.size 0 (ja b (LH i)) rf rf (by rw[Xx.o];exact(Blk.new W 57 pQ.toArray).there (show 0+(ja b (LH i)).length<=pQ.toArray.size from κ 12)) mG (yR _ _) (fun Xq Q=> ?_);refine Qp ?_;replace Q:=Hid.o Q;have HO:=yO Xx.o Q;have B:=aJ HO.1;replace HX:=HX.aC HO.2;replace Ws:=Ws.aA HO.2;replace Wy:=Wy.aA HO.2;replace WG:=WG.aA HO.2;replace WW:=WW.aA HO.2;clear HO Xx Q Wn k6;generalize W.heap.size=g10 at B⊢;have kk:Xq.cell? ⟨g10,1,δ⟩=γ (.int .i64 b.kind):=(B.cell 1).trans rfl;have ko:Xq.cell? ⟨g10,2,δ⟩=γ (.int .i64 b.obj):=(B.cell 2).trans rfl;have ke:Xq.cell? ⟨g10,3,δ⟩=γ (.int .i64 b.en):=(B.cell 3).trans rfl;by_cases h1:b.kind=1
 .have Xw:(b.kind==1)=ε:=by rw[h1];rfl
  have H1:=aJ h1;clear h1;have ho:=MF YW.o H1.o;have U:=IW YJ.o;have h6:=WH.nl;obtain⟨l,Z⟩:∃l:Nat,b.obj=(l:Int):=⟨b.obj.toNat,aa⟩;obtain⟨e,WP⟩:∃e:Nat,b.en=(e:Int):=⟨b.en.toNat,aa⟩;rw[Z] at ko;rw[WP] at ke;have Yn:l<6:=aa;have Yl:e<2:=aa;have WC:=aJ (And.intro Z WP);clear Z WP ho U h6;have Xc:=(rP (p:=p) WH.o (l:=l) (e:=e) Yn aa _ (κ _)).1;obtain⟨nd,I⟩:∃n,dY s p l e=n:=⟨_,rfl⟩;have Xd:nd<=17:=by unfold dY at I;omega
  have Xf:=aJ I;clear I Xc;have ZW:=aK.cell ((S.ext HX.o).cell_ (k:=1+l*2+e) (v:=.int .i64 (nd:Int)) aa ((dz aa).trans (by rw[show 1+l*2+e=1+2*l+e by omega,HV.o.ends l e Yn Yl,Xf.o])));have ZJ:=aK.cell ko;have ZK:=aK.cell ke;have p1:(0:Int)<=(l:Int):=aa;have p2:(l:Int)<6:=aa;have p3:(0:Int)<=(e:Int):=aa;have p4:(e:Int)<2:=aa;(go_wp2_with fail);refine tN 12 [(6,.eq (.pointer (γ ⟨gx,0,δ⟩))),(11,.eq (.agg (aM 3 fun k=>E (k*18+nd)).toArray))] ?_;refine Qs ?_;refine En_ ?_;intro Yf Yg;refine Qs ?_;refine dR rf rf rf ?_ ?_
  .intro T J;have hW:=J.1;clear J;go_simp;exact⟨rfl,(U7 gx nd C E _ ((S.ext HX.o).ext hW) Xd).mono fun e w' ⟨U,hx⟩=>⟨_,U,hx,rfl⟩⟩
  intro v_ Xp Xo WA;obtain⟨T,Wv⟩:=WA;obtain rfl:v_=_:=Wv.get;clear Wv T;refine Qp ?_;refine bz ?_;intro wE J;have F:=J.ext;have R:=aJ F;clear J F;have O:=aJ (dF (f:=fun k=>E (k*18+nd)) (Wy.ext R.o));refine aL rfl 102 (.tmp 8) (.tmp 38) rfl g8 (0) (aM 3 fun k=>E (k*18+nd)) rf rf O.o (jA _) (bY 3 _) (fun we Q=> ?_);refine Qp ?_;replace Q:=Hid.o Q;have Y:=aJ (eZ (HX.trans R.o) WY.o (Wy.ext R.o) Q);clear Q ZW ZJ ZK kk ko ke;(go_wp2_with fail);exact iC rfl rfl rf Y.o.1 Bn rfl (nI _) ⟨_,rfl,fun k hk=>Y.o.2.2 _ _ _ (by
   have h:=HV.v k nd hk aa;have e1:j6 s p f i k=iL (bI s p f) (dK s p f) f k nd:=by
    unfold j6;simp only[WO.o,ι H1.o];rw[WC.o.1,WC.o.2,I6,I6,Xf.o]
   rw[e1];exact((h.ext HX.o).ext R.o).up aa),Y.o.2.1⟩
 .have Xw:(b.kind==1)=ζ:=by simpa using h1
  have H1:=aJ h1;clear h1;obtain⟨BA,bc,wv,W9,WV,Wt⟩:=HV.bays;have Xe:=Wt i Wl.o;have D:way s p f i=fV s p i:=by unfold way;rw[WO.o,θ H1.o]
  rw[D] at Xe;obtain⟨gq,oq,rfl,V,Xi⟩:=WV.at_ Wl.o;have kq:Xq.cell? ⟨gq,oq+i,δ⟩=γ (wv i):=HX.cell_ (by have:=Xi 0 _ rfl;simpa using this);have XY:=(S.ext HX.o).cell_ (k:=13) aa ((dz aa).trans W9);have q3:(i:Int)<(s.bays.length:Int):=by have:=Wl.o;omega
  have Xk:=aJ Xe;clear Xe D WV Wt W9 V Xi;by_cases h2:b.kind=2
  .have WF:(b.kind==2)=ε:=by rw[h2];rfl
   have H2:=aJ h2;clear h2;cases WQ:fV s p i with
   |none=>
    have H:wv i=.pointer δ:=by have:=Xk.o;rw[WQ] at this;exact this
    rw[H] at kq;have Yy:=aJ WQ;clear WQ H;have ho:=Qu YW.o H2.o;obtain⟨l,Z⟩:∃l:Nat,b.obj=(l:Int):=⟨b.obj.toNat,aa⟩;rw[Z] at ko;have Xl:l<n2:=by have:=Wp.l2;omega
    obtain⟨gs,os,X6,ZV,Zr⟩:=Wp.srcs.at_ Xl;subst X6;obtain⟨em,Yr⟩:∃m,(s.srcs.getD l η).emf=m:=⟨_,rfl⟩;have ks:Xq.cell? ⟨gs,os+l*6+1,δ⟩=γ (.int .i64 em):=HX.cell_ (by have:=Zr 1 _ rfl;rw[<-Yr];exact this);have XU:=WH.src l (by have:=Wp.l2;omega);unfold jE at XU;simp only[υ] at XU;have WB:=fe.1 XU.1.1;rw[Yr] at WB;have Xn:Xq.cell? ⟨g6,3,δ⟩=γ (.slice (γ ⟨gs,os,δ⟩) n2 c2):=(Ws.cell 3).trans rfl;have p1:(0:Int)<=(l:Int):=aa;have p2:(l:Int)<(n2:Int):=aa;have Zz:=aJ (And.intro Z Yr);have Wq:=aJ WB;clear Z Yr ho ZV Zr XU WB;(go_wp2_with fail);clear ks Xn kk ko ke kq XY;refine(bO gf em _ (bM.ext HC.o HX.o) (by have:=Wq.o;omega) (by have:=Wq.o;omega)).mono ?_;rintro _ w5 ⟨_,rfl,M,F⟩;obtain⟨en,rfl⟩:=M.en;have HS:=aJ (AtS.mk (n:=3) (Wy.ext F) (WG.ext F) (HX.trans F) WY.o Xy.o);have Xh:=aJ M;replace WW:=WW.aA F;clear M F Wy WG HX;have O:Hid (w5.there g9 6 6):=aJ (HS.there (i:=1) aa);(go_wp2_with (refine aL rfl 42 (.tmp 78) (.tmp 77) rfl g9 (6) (en.cells) rf rf O.o bE (dM en) (fun w6 Q=>Hid.o ?_)));refine aJ ?_;refine Qp ?_;replace Q:=Hid.o Q;obtain⟨N,YL⟩:=HS.put (i:=1) (a:=6) aa en aa Q;have L:lJ w6 3 (upd fz 1 en) (j6 s p f i) 4600:=fun k hk=>by
     have e1:j6 s p f i k=if k=1 then GQ.i em 0 else GQ.i 0 0:=(by unfold j6;simp only[WO.o,θ H1.o,ι H2.o,Yy.o];rw[Zz.o.1,I6,Zz.o.2]);rw[e1];by_cases Xw:k=1
     .subst Xw;rw[upd_same,ι rfl];exact(Xh.mod YL HS.far).up aa
     .rw[upd_ne Xw,θ Xw];exact(WW.o k hk).mod YL HS.far
    have Xm:=aJ L;have Wy:=aJ N.b4;have WG:=aJ N.b5;have HX:=aJ N.x;clear L N YL HS O Q WW Xh;have Wn:=aJ WG.rng;have O:=aJ (dF (f:=(upd fz 1 en)) Wy.o);(go_wp2_with (refine σ rfl 102 _ rfl g9 (0) rf (aM 3 (upd fz 1 en)) _ Wn.o Bn rfl (jA _) (Hid.o ?_)));refine aJ ?_;refine Qp ?_;refine aL rfl 102 (.tmp 8) (.tmp 79) rfl g8 (0) (aM 3 (upd fz 1 en)) rf rf O.o (jA _) (bY 3 _) (fun we Q=> ?_);refine Qp ?_;replace Q:=Hid.o Q;have Y:=aJ (eZ HX.o WY.o Wy.o Q);clear Q;(go_wp2_with fail);exact iC rfl rfl rf Y.o.1 Bn rfl (nI _) ⟨_,rfl,fun k hk=>Y.o.2.2 _ _ _ (Xm.o k hk),Y.o.2.1⟩
   |some br=>
    have H:=Xk.o;rw[WQ] at H;obtain⟨gw,ow,bv,WZ,Wo,Wj,Wz,Xj,Ww,-⟩:=H;rw[WZ] at kq;have Wm:=xe WH.o Wl.o WQ;have Xr:=Wm.1.a;have kf:Xq.cell? ⟨gw,ow,δ⟩=γ (.int .i64 (br.a:Int)):=HX.cell_ (by have:=Wz 0 _ rfl;rw[Xj] at this;exact this);have Yy:=aJ WQ;have WJ:=aJ Xr;clear WQ WZ Wo Wj Wz Xj Ww Wm;(go_wp2_with fail);clear kk ko ke kq XY kf;refine(U7 gx br.a C E _ (S.ext HX.o) AbM).mono ?_;rintro _ w5 ⟨rfl,F⟩;replace HX:=HX.aC F;replace Wy:=Wy.aA F;clear F;have O:=aJ (dF (f:=fun k=>E (k*18+br.a)) Wy.o);(go_wp2_with (refine aL rfl 102 (.tmp 8) (.tmp 64) rfl g8 (0) (aM 3 fun k=>E (k*18+br.a)) rf rf O.o (jA _) (bY 3 _) (fun we Q=>Hid.o ?_)));refine aJ ?_;refine Qp ?_;replace Q:=Hid.o Q;have Y:=aJ (eZ HX.o WY.o Wy.o Q);clear Q;(go_wp2_with fail);exact iC rfl rfl rf Y.o.1 Bn rfl (nI _) ⟨_,rfl,fun k hk=>Y.o.2.2 _ _ _ (by
     have h:=HV.v k br.a hk AbM;have e1:j6 s p f i k=iL (bI s p f) (dK s p f) f k br.a:=by
      unfold j6;simp only[WO.o,θ H1.o,ι H2.o,Yy.o]
     rw[e1];exact(h.ext HX.o).up aa),Y.o.2.1⟩
  .have WF:(b.kind==2)=ζ:=by simpa using h2
   have H2:=aJ h2;clear h2;have Wn:=aJ WG.rng;have O:=aJ (dF (f:=fz) Wy.o);(go_wp2_with (refine σ rfl 102 _ rfl g9 (0) rf (aM 3 fz) _ Wn.o Bn rfl (jA _) (Hid.o ?_)));refine aJ ?_;refine Qp ?_;refine aL rfl 102 (.tmp 8) (.tmp 79) rfl g8 (0) (aM 3 fz) rf rf O.o (jA _) (bY 3 _) (fun we Q=> ?_);refine Qp ?_;replace Q:=Hid.o Q;have Y:=aJ (eZ HX.o WY.o Wy.o Q);clear Q;(go_wp2_with fail);exact iC rfl rfl rf Y.o.1 Bn rfl (nI _) ⟨_,rfl,fun k hk=>Y.o.2.2 _ _ _ (by have h:=WW.o k hk;have e1:j6 s p f i k=GQ.i 0 0:=(by unfold j6;simp only[WO.o,θ H1.o,θ H2.o]);rw[e1];exact h),Y.o.2.1⟩
def jY:BrV:=⟨0,0,zEn,zEn,zEn⟩
def brc (n:Nat) (B:Nat->BrV):List Value:=(List.range n).flatMap fun j=>(B j).cs
theorem mq(n B):brc (n+1) B=brc n B++(B n).cs:=by
 unfold brc;exact Abo
def fJ(b:BrV):b.cs.length=20:=rfl
def iJ:∀(n:Nat) (B:Nat->BrV),(brc n B).length=n*20
 |0,_=>rfl
 |n+1,B=>by rw[mq,q8,iJ n B,fJ];omega
def xE:∀{n:Nat} {B D:Nat->BrV},(∀i,i<n->B i=D i)->brc n B=brc n D
 |0,_,_,_=>rfl
 |n+1,B,D,h=>by rw[mq,mq,xE (fun i hi=>h i aa),h n aa]
def uU{B j t}(l:t<20):∀{n:Nat},j<n->(brc n B)[j*20+t]? =(B j).cs[t]?
 |0,h=>absurd h aa
 |n+1,h=>by
  rw[mq];by_cases e:j=n
  .subst e;rw[nG (by rw[iJ];omega),iJ,show j*20+t-j*20=t by omega]
  .rw[Ω (by rw[iJ];omega)];exact uU l aa
def yQ(a B):∀b,brc a B++brc b (fun _=>jY)=brc (a+b) (fun i=>if i<a then B i else jY)
 |0=>by
  show brc a B++[]=_;rw[aaj];exact xE fun i hi=>by rw[ι hi]
 |b+1=>by
  rw[mq,<-Ha,yQ a B b,show a+(b+1)=(a+b)+1 by omega,mq,θ aa]
def Le{B k n}(r)(F:k<n):(brc n B).take (k*20)++r.cs++(brc n B).drop (k*20+20)=brc n (upd B k r):=by
 apply aap;intro p;have l1:((brc n B).take (k*20)).length=k*20:=by rw[PI,iJ];omega
 by_cases hp:p<n*20
 .obtain⟨j,t,rfl,l⟩:∃j t,p=j*20+t/\t<20:=⟨p/20,p%20,aa,aa⟩;have C:j<n:=aa;rw[uU l C];by_cases G:j<k
  .rw[Ha,Ω (by rw[l1];omega),Zb aa,uU l C,upd_ne aa]
  .by_cases D:j=k
   .subst D;rw[Ha,nG (by rw[l1];omega),l1,show j*20+t-j*20=t by omega,Ω (by rw[fJ];exact l),upd_same]
   .rw[nG (by rw[q8,l1,fJ];omega),q8,l1,fJ,aaf,show k*20+20+(j*20+t-(k*20+20))=j*20+t by omega,uU l C,upd_ne D]
 .rw[Be (by simp only[q8,l1,fJ,acS,iJ];omega),Be (by rw[iJ];omega)]
theorem Nl(b:BrV):∀(t:Nat) (v:Value),b.cs[t]? =γ v->mr v=ε:=by
 intro t v hv;have j:t<20:=by have:=(μ.1 hv).1;rwa[fJ] at this
 have V:∀u∈b.cs,mr u=ε:=by
  intro u N;unfold BrV.cs at N;simp only[ψ,RS,aaU] at N;rcases N with rfl|rfl|rfl|rfl|rfl|rfl|rfl|rfl|rfl|rfl|rfl|rfl|rfl|rfl|rfl|rfl|rfl|rfl|rfl|rfl<;>rfl
 exact V v (xx hv)
def EY{n:Nat}{B}(p:Nat)(v)(h:(brc n B)[p]? =γ v):mr v=ε:=by
 have hp:p<n*20:=by have:=(μ.1 h).1;rwa[iJ] at this
 obtain⟨j,t,rfl,l⟩:∃j t,p=j*20+t/\t<20:=⟨p/20,p%20,aa,aa⟩;rw[uU l aa] at h;exact Nl _ t v h
def Ru:(prog.info? 167).map (fun i=>(i.zero,i.size,i.bytes))=γ (γ (.agg jY.cs.toArray),20,304):=ah
def mQ (n:Nat) (l:List Value):List Value:=(List.range n).flatMap fun _=>l
theorem pI(n l):mQ (n+1) l=mQ n l++l:=by
 unfold mQ;exact Abo
def oF(l):∀n,(mQ n l).length=n*l.length
 |0=>by simp[mQ]
 |n+1=>by rw[pI,q8,oF l n,Nat.succ_mul]
def Cf{l j t}(C:t<l.length):∀{n:Nat},j<n->(mQ n l)[j*l.length+t]? =l[t]?
 |0,h=>absurd h aa
 |n+1,h=>by
  rw[pI];by_cases e:j=n
  .subst e;rw[nG (by rw[oF];omega),oF,show j*l.length+t-j*l.length=t by omega]
  .have B:j<n:=aa;have D:j*l.length+l.length<=n*l.length:=by rw[<-Nat.succ_mul];exact Aa _ B
   rw[Ω (by rw[oF];omega)];exact Cf C B
theorem pW(l)(D:0<l.length)(n):madeCells l.toArray (n*l.length)=(mQ n l).toArray:=by
 unfold madeCells;apply Array.ext';apply aap;intro p;by_cases hp:p<n*l.length
 .have B:p%l.length<l.length:=Ab _ D;have hd:p/l.length<n:=(aaW D).2 hp;have e:p=p/l.length*l.length+p%l.length:=(Nat.div_add_mod' p l.length).symm;have C:=Cf (l:=l) (j:=p/l.length) (t:=p%l.length) B hd;rw[<-e] at C;rw[C];simp[I5,hp,aaD,B]
 .rw[Be ae,Be (by simp[oF];omega)]
def Jz(n):mQ n jY.cs=brc n fun _=>jY:=rfl
def Fy(n):Builtin.zeroCells (Value.agg jY.cs.toArray).cells n=(brc n fun _=>jY).toArray:=by
 rw[<-Jz,<-pW _ aj];rfl
def mK (w:World) (B0:Nat) (v:Value) (k:Nat) (B:Nat->BrV):Prop:=
 (v=.slice δ 0 0/\k=0)\/∃(g F:Nat) (B':Nat->BrV),v=.slice (γ ⟨g,0,δ⟩) k F/\B0<=g/\k<=F/\Blk w g 167 (brc F B').toArray/\∀i,i<k->B' i=B i
def mK.ext{w w' B0 v k B}(h:mK w B0 v k B)(e:Ext w w'):mK w' B0 v k B:=by
 rcases h with h|⟨g,F,B',C,j,D,l,H⟩
 .exact .inl h
 .exact .inr ⟨g,F,B',C,j,D,l.ext e,H⟩
def mK.mod{S w w' B0 v k B}(h:mK w B0 v k B)(m:Mod S w w')(hs:∀g,v.ownBlock=γ g->¬S g):mK w' B0 v k B:=by
 rcases h with h|⟨g,F,B',j,l,D,C,H⟩
 .exact .inl h
 .exact .inr ⟨g,F,B',j,l,D,C.mod m (hs g (by rw[j];rfl)),H⟩
def mK.far{w B0 v k B}(h:mK w B0 v k B):gu (fun g=>v.ownBlock=γ g) w:=fun g l _=>by
 rcases h with ⟨rfl,_⟩|⟨g',F,B',rfl,D,G,C,H⟩
 .cases l
 .have:g'=g:=by simpa[Value.ownBlock] using l
  subst this;exact⟨_,_,C,fun j v hv=>EY j v (by rwa[Ξ] at hv)⟩
def mK.low{w B0 v k B}(h:mK w B0 v k B){g}(j:v.ownBlock=γ g):B0<=g/\g<w.heap.size:=by
 rcases h with ⟨rfl,_⟩|⟨g',F,B',rfl,l,D,C,H⟩
 .cases j
 .have:g'=g:=by simpa[Value.ownBlock] using j
  subst this;exact⟨l,C.lt⟩
def mK.arr{w B0 v k B}(h:mK w B0 v k B):∃A c,v=.slice A k c/\Arr w A k 20 (fun i=>(B i).cs)/\∀b o,A=γ ⟨b,o,δ⟩->B0<=b:=by
 rcases h with ⟨rfl,rfl⟩|⟨g,F,B',rfl,C,G,j,H⟩
 .exact⟨δ,0,rfl,fun h=>absurd h aa,fun b o e=>by cases e⟩
 .refine⟨γ ⟨g,0,δ⟩,F,rfl,fun D=>⟨g,0,rfl,j.lt,fun i hi t u N=> ?_⟩,fun b o e=>by injection e with e;injection e with I;omega⟩;have l:t<20:=by have:=(μ.1 N).1;rwa[fJ] at this
  rw[j.cell,Ξ,aaw,uU l aa,H i hi];exact N
def IA{w B0 k v B}(h:mK w B0 v k B)(hk:k<=1000)(O:B0<=w.heap.size){r R}(hb:Blk w R 167 r.cs.toArray)(c G):
  ∃K w',(Builtin.append_ #[96,96] G #[v,.slice (γ ⟨R,0,δ⟩) 1 c]).run prog w=.ok K w'/\mK w' B0 K (k+1) (upd B k r)/\Mod (fun g=>v.ownBlock=γ g) w w'/\(∀g,K.ownBlock=γ g->v.ownBlock=γ g\/g=w.heap.size):=by
 obtain⟨i0,Q,S,I,T⟩:=abL Ru;have hn:∀j u,r.cs[j]? =γ u->w.cell? ((⟨R,0,δ⟩:Addr).add j)=γ u:=fun j u N=>by
  have:=acp hb j u;simpa using this AcB
 have Z:∀u∈r.cs,u.oneCell'=ε:=ve r;have C:brc 1 (fun _=>r)=r.cs:=by rw[mq];rfl
 rcases h with ⟨rfl,rfl⟩|⟨g,F,B',rfl,U,H,L,W⟩
 .have J:=run_append_nil (P:=prog) w 96 G 167 i0 (.agg jY.cs.toArray) acN Q S ⟨R,0,δ⟩ 1 c r.cs (by rw[I];rfl) hn aa aa (by rw[T];omega);have l:=grownCap_ge w 1 0 167;have ec:(r.cs.toArray++Builtin.zeroCells (Value.agg jY.cs.toArray).cells (grownCap w 1 0 167-1))=(brc (grownCap w 1 0 167) (fun i=>if i<1 then r else jY)).toArray:=by
   rw[Fy];have:=yQ 1 (fun _=>r) (grownCap w 1 0 167-1);rw[show 1+(grownCap w 1 0 167-1)=grownCap w 1 0 167 by omega] at this;rw[<-this,C];simp
  rw[ec] at J;refine⟨_,_,J,.inr ⟨w.heap.size,_,(fun i=>if i<1 then r else jY),rfl,O,l,?_,fun i hi=> ?_⟩,aeI ((Ext.refl w).drew.alloc _),fun g U=>Or.inr (by simpa[Value.ownBlock] using U.symm)⟩
  .have:=Blk.new w.drew 167 (brc (grownCap w 1 0 167) (fun i=>if i<1 then r else jY)).toArray;exact this
  .obtain rfl:i=0:=aa;show r=upd B 0 r 0;rw[upd_same]
 .have V:(brc F B').toArray.size=F*20:=by simp[iJ]
  by_cases M:k+1<=F
  .have J:=run_append_room (P:=prog) w 96 G 167 i0 acN Q g k F _ L ⟨R,0,δ⟩ 1 c r.cs (by rw[I];rfl) hn Z M (by rw[I,V,fJ];omega);have ec:((brc F B').toArray.toList.take (k*i0.size)++r.cs++(brc F B').toArray.toList.drop (k*i0.size+r.cs.length)).toArray=(brc F (upd B' k r)).toArray:=by
    rw[I,fJ];exact congrArg List.toArray (Le r aa)
   rw[ec] at J;refine⟨_,_,J,.inr ⟨g,F,(upd B' k r),rfl,U,M,I9 L,fun i hi=> ?_⟩,(af8 w g _).mono fun j hj=>by subst hj;rfl,fun g' Y=>Or.inl Y⟩;by_cases e:i=k
   .subst e;rw[upd_same,upd_same]
   .rw[upd_ne e,upd_ne e];exact W i aa
  .obtain rfl:F=k:=aa;have ho:∀j u,(brc F B')[j]? =γ u->w.cell? ((⟨g,0,δ⟩:Addr).add j)=γ u:=fun j u N=>acp L j u AcB;have J:=run_append_grow (P:=prog) w 96 G 167 i0 (.agg jY.cs.toArray) acN Q S ⟨g,0,δ⟩ F F (brc F B') (by rw[I,iJ]) ho ⟨R,0,δ⟩ 1 c r.cs (by rw[I];rfl) hn aa aa (by
    have:=nextslicecap_le (need:=F+1) (old:=F) aa;rw[T];omega)
   have l:=grownCap_ge w (F+1) F 167;have ec:((brc F B').toArray++r.cs.toArray++Builtin.zeroCells (Value.agg jY.cs.toArray).cells (grownCap w (F+1) F 167-(F+1)))=(brc (grownCap w (F+1) F 167) (fun i=>if i<F+1 then upd B' F r i else jY)).toArray:=by
    rw[Fy];have:=yQ (F+1) (upd B' F r) (grownCap w (F+1) F 167-(F+1));rw[show F+1+(grownCap w (F+1) F 167-(F+1))=grownCap w (F+1) F 167 by omega] at this;rw[<-this,mq,upd_same,xE (B:=upd B' F r) (D:=B') (fun i hi=>upd_ne aa)];simp
   rw[ec] at J;refine⟨_,_,J,.inr ⟨w.heap.size,_,(fun i=>if i<F+1 then upd B' F r i else jY),rfl,O,l,?_,fun i hi=> ?_⟩,aeI ((Ext.refl w).drew.alloc _),fun g' Y=>Or.inr (by simpa[Value.ownBlock] using Y.symm)⟩
   .have:=Blk.new w.drew 167 (brc (grownCap w (F+1) F 167) (fun i=>if i<F+1 then upd B' F r i else jY)).toArray;exact this
   .show(if i<F+1 then upd B' F r i else jY)=upd B F r i;rw[ι hi];by_cases e:i=F
    .subst e;rw[upd_same,upd_same]
    .rw[upd_ne e,upd_ne e];exact W i aa
def shf (kind:Int):Nat:=if kind=2\/kind=6\/kind=9 then 1 else if kind=3\/kind=4\/kind=7 then 2 else 0
theorem Ii(kind):shf kind<3:=by
 unfold shf;split
 .omega
 .split<;>omega
section
variable {x y d c:Nat->GQ} {z0 z1 k:GQ} {sh:Nat}
def PQ.qN(p t:PQ):p+t=t+p:=by ext<;>simp only[PQ.iZ,PQ.iR,GQ.bf,GQ.aY]<;>grind
def PQ.nU(p t s:PQ):p+t+s=p+(t+s):=by ext<;>simp only[PQ.iZ,PQ.iR,GQ.bf,GQ.aY]<;>grind
theorem DU(h:∀n,n<3->d n=x n-y n)(m):phv x sh m+(phv y sh m).sc (GQ.i (-1) 0)=phv d sh m:=by
 unfold phv;rw[R9 h,aeO,aeV]
theorem RU(hs:sh<3):phv d sh 0+(phv d sh 1+phv d sh 2)=⟨GQ.i 3 0*d 0,GQ.i 0 0⟩*PQ.zp (8*sh%12):=by
 rw[<-J7 (q:=d)];unfold phv;rw[<-aeO,<-aeO];have j:sh=0\/sh=1\/sh=2:=aa;congr 1;rcases j with rfl|rfl|rfl
 .rfl
 .show phq d 2+(phq d 0+phq d 1)=_;rw[PQ.qN,PQ.nU]
 .show phq d 1+(phq d 2+phq d 0)=_;rw[<-PQ.nU,PQ.qN]
theorem OL(j:d 1=c 1*z1)(l:d 2=c 2*z1)(a b):phv d sh a+(phv d sh b).sc (GQ.i (-1) 0)=(phv c sh a+(phv c sh b).sc (GQ.i (-1) 0)).sc z1:=by
 unfold phv;rw[aeV,aeV,<-aeO,<-aeO,aeV,P6 j l]
theorem Sb{N}(hs:sh<3)(C:d 0=c 0*z0)(B:d 1=c 1*z1)(l:d 2=c 2*z1)(D:N*GQ.i 3 0=z0-z1)(a):
  phv d sh a=(phv c sh a).sc z1+(phv c sh 0+phv c sh 1+phv c sh 2).sc N:=by
 rw[PQ.nU,RU hs];unfold phv;rw[nN (q:=d),nN (q:=c),xL B l,C,aeV,aeV,<-aeO];congr 1;generalize phx c _=p;have j:z0=N*GQ.i 3 0+z1:=by rw[D];ext<;>simp only[GQ.bf,GQ.aY,GQ.bX,GQ.cu]<;>grind
 rw[j];ext<;>simp only[PQ.sc,PQ.iZ,PQ.iR,GQ.aR,GQ.aQ,GQ.bf,GQ.aY,GQ.bU,GQ.bS]<;>grind
theorem Cnd.shift{kind r}(h:Cnd kind r (phq x) (phq y))(hs:sh<3):Cnd kind r (fun n=>phv x sh ((n+sh)%3)) (fun n=>phv y sh ((n+sh)%3)):=by
 have e:∀(q:Nat->GQ) n,n<3->phv q sh ((n+sh)%3)=phq q n*PQ.zp (8*sh%12):=fun q n hn=>by
  unfold phv;rw[show((n+sh)%3+3-sh)%3=n by omega]
 have j:=h.mul (PQ.zp (8*sh%12));unfold Cnd at j⊢;simp only[e _ 0 aa,e _ 1 aa,e _ 2 aa];split
 .rename_i B;rw[ι B] at j;exact j
 .rename_i B;rw[θ B] at j
  split
  .rename_i l;rw[ι l] at j;exact j
  .rename_i l;rw[θ l] at j
   split
   .rename_i C;rw[ι C] at j;exact j
   .rename_i C;rw[θ C] at j
    exact⟨j.1,fun n hn=>by rw[e _ n hn,e _ n hn];exact j.2 n hn⟩
end
section
variable {s:StD} {p:dA} {f:dZ}
theorem OO{bs fN}(hb:∀b∈bs,iD b)(Z:bs.length<=23)(C:0<=f.r/\f.r<=1000):
  Cnd f.kind (GQ.i f.r 0) (phq (xq bs fN f)) (phq fun n=>if f.kind=0 then GQ.i 0 0 else iL bs fN f n fN):=by
 by_cases h:f.kind≠0/\lv bs fN=ε
 .obtain⟨M0,M1,hS,_⟩:=yT hb Z h.2;have hc:=hS.cond f.kind C (fun n=>if f.kind=0 then GQ.i 0 0 else iL bs fN f n fN) (fun n hn=>by
   show(if f.kind=0 then _ else iL bs fN f n fN)=_;rw[θ h.1];unfold iL;rw[ι h];show vbe bs n fN-fcu bs fN f.kind f.r n*drp bs fN (min n 1) fN=_;unfold vbe;by_cases l:n=0
   .subst l;rfl
   .rw[θ l,show min n 1=1 by omega];rfl)
  have e:xq bs fN f=gP f.kind (bef bs fN) (drp bs fN 1 fN) (drp bs fN 0 fN) (GQ.i f.r 0):=by
   funext n;unfold xq;rw[ι h];rfl
  rw[e];exact hc
 .refine Cnd.zero (fun n=>FE (fun m _=>by unfold xq;rw[θ h]) n) (fun n=>FE (fun m _=> ?_) n);show(if f.kind=0 then GQ.i 0 0 else iL bs fN f m fN)=_;by_cases j:f.kind=0
  .rw[ι j]
  .rw[θ j];exact AP (by
    cases B:lv bs fN with
    |false=>rfl
    |true=>exact absurd ⟨j,B⟩ h)
end
structure Gr0 (w0 w:World) (gx gf:Nat) (C:Nat->Value) (nb:Nat) (Bv:Nat->BrV) (brs:List BrD):Prop where
 g:fA w gx 105 393 (eY C fun _=>zEn)
 c:bM w gf
 m:Mod (fun k=>k=gx) w0 w
 own:mK w w0.heap.size (C 0) nb Bv
 len:brs.length=nb
 br:∀i,i<nb->oW w (Bv i) (brs.getD i η)
 n32:∀i,i<33->mr (C i)=ε
 lx:gx<w0.heap.size
 lf:gf<w0.heap.size
section
variable {w0 w w' w2:World} {gx gf nb:Nat} {C:Nat->Value} {Bv:Nat->BrV} {brs:List BrD}
def Gr0.ne(h:Gr0 w0 w gx gf C nb Bv brs):gf≠gx:=Blk.eF h.c h.g aj
def Gr0.far(h:Gr0 w0 w gx gf C nb Bv brs):gu (fun k=>k=gx) w:=ae6 h.g (fun k _=>oh h.n32 k) (fun k j=>j)
def Gr0.ext(h:Gr0 w0 w gx gf C nb Bv brs)(x:Ext w w'):Gr0 w0 w' gx gf C nb Bv brs:=⟨h.g.ext x,h.c.ext x,h.m.trans (aeI x),h.own.ext x,h.len,fun i hi=>(h.br i hi).ext x,h.n32,h.lx,h.lf⟩
def Gr0.mod{S}(h:Gr0 w0 w gx gf C nb Bv brs)(m:Mod S w w')(hs:∀k,S k->w0.heap.size<=k)(l:gu S w)(B:∀g,(C 0).ownBlock=γ g->¬S g):Gr0 w0 w' gx gf C nb Bv brs:=by
 have lx:=h.lx;have lf:=h.lf;refine⟨h.g.mod m (fun e=>by have:=hs _ e;omega),Blk.mod h.c m (fun e=>by have:=hs _ e;omega),?_,h.own.mod m B,h.len,fun i hi=>(h.br i hi).fo m l,h.n32,h.lx,h.lf⟩;exact⟨m.os.trans h.m.os,m.tape.trans h.m.tape,m.output.trans h.m.output,nk h.m.size m.size,fun k j hn=>(m.block k (π j h.m.size) (fun e=>by have:=hs _ e;omega)).trans (h.m.block k j hn)⟩
theorem Dc{C E i}(v)(hi:i<33)(k):upd (eY C E) i v k=eY (upd C i v) E k:=by
 by_cases h:k=i
 .subst h;rw[upd_same,dz hi,upd_same]
 .rw[upd_ne h];unfold eY;by_cases j:k<33
  .rw[ι j,ι j,upd_ne h]
  .rw[θ j,θ j]
def Gr0.set(h:Gr0 w0 w gx gf C nb Bv brs){i}(v)(hi:i<33)(D:i≠0)(hv:mr v=ε):Gr0 w0 (w.setCell ⟨gx,i,δ⟩ v) gx gf (upd C i v) nb Bv brs/\Mod (fun k=>k=gx) w (w.setCell ⟨gx,i,δ⟩ v):=by
 have l:Mod (fun k=>k=gx) w (w.setCell ⟨gx,i,δ⟩ v):=Mod.set _ _ _ _ rfl;have G:∀g,(C 0).ownBlock=γ g->g≠gx:=fun g F=>by have:=(h.own.low F).1;have:=h.lx;omega
 refine⟨⟨(h.g.set v aa).congr (fun k _=>Dc v hi k),Blk.mod h.c l h.ne,h.m.trans l,?_,h.len,fun j B=>(h.br j B).fo l h.far,fun j B=> ?_,h.lx,h.lf⟩,l⟩
 .rw[upd_ne (aaO D)];exact h.own.mod l G
 .by_cases e:j=i
  .subst e;rw[upd_same];exact hv
  .rw[upd_ne e];exact h.n32 j B
def L8{l:List BrD}{b i}:(l++[b]).getD i η=if i<l.length then l.getD i η else if i=l.length then b else η:=by
 rw[φ,φ];by_cases h:i<l.length
 .rw[ι h,Ω h]
 .rw[θ h,nG aa];by_cases j:i=l.length
  .rw[ι j,j,aa7];rfl
  .rw[θ j,Be ae];rfl
def NI{w B0 v k B}(h:mK w B0 v k B):mr v=ε:=by
 rcases h with ⟨rfl,_⟩|⟨g',F,B',rfl,_⟩<;>rfl
def Gr0.push(h:Gr0 w0 w gx gf C nb Bv brs){r b K}(N:oW w r b)(L:mK w' w0.heap.size K (nb+1) (upd Bv nb r))(G:Mod (fun g=>(C 0).ownBlock=γ g) w w')(M:w2=w'.setCell ⟨gx,0,δ⟩ K):
  Gr0 w0 w2 gx gf (upd C 0 K) (nb+1) (upd Bv nb r) (brs++[b])/\Mod (fun g=>g=gx\/(C 0).ownBlock=γ g) w w2/\gu (fun g=>g=gx\/(C 0).ownBlock=γ g) w:=by
 subst M;have B:∀g,(C 0).ownBlock=γ g->w0.heap.size<=g:=fun g D=>(h.own.low D).1;have lx:=h.lx;have lf:=h.lf;have O:∀g,(C 0).ownBlock=γ g->g≠gx:=fun g D=>by have:=B g D;omega
 have g1:fA w' gx 105 393 (eY C fun _=>zEn):=h.g.mod G (fun e=>O _ e rfl);have c1:bM w' gf:=Blk.mod h.c G (fun e=>by have:=B _ e;omega);have l:Mod (fun k=>k=gx) w' (w'.setCell ⟨gx,0,δ⟩ K):=Mod.set _ _ _ _ rfl;have Q:gu (fun k=>k=gx) w':=ae6 g1 (fun k _=>oh h.n32 k) (fun k H=>H);have I:∀g,K.ownBlock=γ g->¬g=gx:=fun g D=>by have:=(L.low D).1;omega
 have F:Mod (fun g=>g=gx\/(C 0).ownBlock=γ g) w (w'.setCell ⟨gx,0,δ⟩ K):=
  ⟨l.os.trans G.os,l.tape.trans G.tape,l.output.trans G.output,nk G.size l.size,fun k H hn=>(l.block k (π H G.size) (fun e=>hn (Or.inl e))).trans (G.block k H (fun e=>hn (Or.inr e)))⟩
 have hF:gu (fun g=>g=gx\/(C 0).ownBlock=γ g) w:=fun g D Z=>by
  rcases D with D|D
  .exact h.far g D Z
  .exact h.own.far g D Z
 refine⟨⟨(g1.set K aa).congr (fun k _=>Dc K aa k),Blk.mod c1 l h.ne,?_,?_,by rw[q8,h.len];rfl,fun i hi=> ?_,fun j P=> ?_,h.lx,h.lf⟩,F,hF⟩
 .exact⟨F.os.trans h.m.os,F.tape.trans h.m.tape,F.output.trans h.m.output,nk h.m.size F.size,fun k H hn=>(F.block k (π H h.m.size) (fun e=>by
   rcases e with e|e
   .exact hn e
   .have:=B _ e;omega)).trans (h.m.block k H hn)⟩
 .rw[upd_same];exact L.mod l I
 .rw[L8,h.len];by_cases J:i<nb
  .rw[ι J,upd_ne aa];exact(h.br i J).fo F hF
  .rw[θ J,ι aa,show i=nb by omega,upd_same];exact N.fo F hF
 .by_cases e:j=0
  .subst e;rw[upd_same];exact NI L
  .rw[upd_ne e];exact h.n32 j P
end
def Dj (B:Nat) (PA PB:Option Addr) (j:Nat) (K:Nat->Hd):Prop:=
 (∀b o,PA=γ ⟨b,o,δ⟩->B<=b)/\(∀b o,PB=γ ⟨b,o,δ⟩->B<=b)/\∀i,i<j->∀b o,(K i).A=γ ⟨b,o,δ⟩->B<=b
def iW.mod{S w w' B PA l PB j K p}(h:iW w PA l PB j K p)(hn:Dj B PA PB j K)(m:Mod S w w')(hS:∀g,S g->g<B):iW w' PA l PB j K p:=
 ⟨h.lc,h.closed.mod m (fun b o e hs=>by have:=hn.1 b o e;have:=hS b hs;omega),h.ll,h.rows.mod m (fun b o e hs=>by have:=hn.2.1 b o e;have:=hS b hs;omega),h.lens,fun i hi=>(h.ints i hi).mod m (fun b o e hs=>by have:=hn.2.2 i hi b o e;have:=hS b hs;omega),h.mx⟩
structure Kp3 (w:World) (a b c:Nat) where
 val:World
 ha:val.heap[a]? =w.heap[a]?
 hb:val.heap[b]? =w.heap[b]?
 hc:val.heap[c]? =w.heap[c]?
instance (w:World) (a b c:Nat):Nonempty (Kp3 w a b c):=⟨⟨w,rfl,rfl,rfl⟩⟩
theorem zD{w w':World}{g i v}(h:w'.heap[g]? =w.heap[g]?)(hv:w.cell? ⟨g,i,δ⟩=γ v):w'.cell? ⟨g,i,δ⟩=γ v:=by
 unfold World.cell? at hv⊢;simp only[h] at hv⊢;exact hv
def Kp3.a{w a b c i v}(h:w.cell? ⟨a,i,δ⟩=γ v)(x:Kp3 w a b c):x.val.cell? ⟨a,i,δ⟩=γ v:=zD x.ha h
def Kp3.b{w a b c i v}(h:w.cell? ⟨b,i,δ⟩=γ v)(x:Kp3 w a b c):x.val.cell? ⟨b,i,δ⟩=γ v:=zD x.hb h
def Kp3.of{S w w' a b c}(m:Mod S w w')(la:a<w.heap.size)(lb:b<w.heap.size)(lc:c<w.heap.size)(ha:¬S a)(hb:¬S b)(hc:¬S c):∃x:Kp3 w a b c,w'=x.val:=
 ⟨⟨w',m.block a la ha,m.block b lb hb,m.block c lc hc⟩,rfl⟩
def jw{w ops rest o a Q}(D:o.guard=δ)(s x:Operand)(I:o.op=.call {callee:=.builtin .append,args:= #[s,x],argTypes:= #[96,96]}){B0 k j c v B r}(hs:a.eval s=v)(L:a.eval x=.slice (γ ⟨j,0,δ⟩) 1 c)(H:mK w B0 v k B)(C:k<=1000)(O:B0<=w.heap.size)(hb:Blk w j 167 r.cs.toArray)(h:∀K w',mK w' B0 K (k+1) (upd B k r)->Mod (fun g=>v.ownBlock=γ g) w w'->(∀g,K.ownBlock=γ g->v.ownBlock=γ g\/g=w.heap.size)->wpList prog ops Q rest (a.put o.dst K) w'):
  wpList prog ops Q (o::rest) a w:=by
 obtain⟨K,w',G,l,J,F⟩:=IA H C O hb c o.type;exact JL D s x _ I hs L G (h K w' l J F)
theorem BZ{PA pn pc PB qn qc K p}(w)(hp:iW w PA pn PB qn K p)(hb:pn<=1000)(hq:qn<=1000)(hk:∀i,i<qn->(K i).n<=1000):
  Calls prog 82 #[nu PA pn pc PB qn qc,.bool ζ] w fun e w'=>∃R WR U WV I,e=.returned (nu R pn WR U qn WV)/\iW w' R pn U qn I (resolve 0 p)/\(∀i,i<qn->(I i).n=(K i).n)/\Dj w.heap.size R U qn I/\Ext w w':=by
 have D:Hid (Ext w ((w.alloc (.cells #[.slice PA pn pc,.slice PB qn qc] 31)).alloc (.cells #[.slice δ 0 0,.slice δ 0 0] 31))):=aJ ((Ext.new _ _).trans (Ext.new _ _));have HP:=aJ (hp.ext D.o);clear hp;have WQ:=aJ hk;clear hk;obtain⟨-,G,Wq⟩:=ah2 w 31 #[.slice PA pn pc,.slice PB qn qc] 31 #[.slice δ 0 0,.slice δ 0 0];unfold nu;go_enter func82,ntmps82;(go_wp2_with fail);refine(IZ PA pn pc p.closed _ HP.closed HP.lc aa).mono ?_;rintro e w1 ⟨v1,rfl,ho,hx⟩;have WW:=aJ (D.trans hx);have WC:=aJ (HP.ext hx);have WP:=aJ (G.ext hx);have Yy:=aJ (Wq.ext hx);obtain⟨A1,c1,rfl,_,_,_⟩:=iX ho;have HO:=aJ (ho.less (base':=w.heap.size) ae);have Y:w.heap.size+1<w1.heap.size:=(Wq.ext hx).lt;have WX:w.heap.size<w1.heap.size:=aa;have C:=WP.cell;clear hx ho HP G Wq;obtain⟨-,Wx⟩:=an1 w1 31 #[.slice A1 pn c1,.slice δ 0 0];have WB:=aJ Wx;clear Wx;have W9:Hid (Ext w1 (w1.alloc (.cells #[.slice A1 pn c1,.slice δ 0 0] 31))):=aJ (Ext.new _ _);(go_wp2_with fail);generalize Xw:w1.alloc (.cells #[.slice A1 pn c1,.slice δ 0 0] 31)=w6 at WB W9⊢;clear Xw;generalize Xl:w1.heap.size=g6 at WB WX Y⊢;have Xq:=aJ Xl;clear Xl;clear C;go_loopw [19] (fun i wr=>∃(k:Nat) (v:Value) (I:Nat->Hd),k<=qn/\i=.int .i64 (k:Int)/\Blk wr g6 31 #[.slice A1 pn c1,v]/\wr.ownsRow (g6+1) 92 1 v k (Ea I k)/\JO wr (g6+1) k I (fun i=>(p.links.getD i []).map (mv 0))/\(∀i,i<k->(I i).n=(K i).n)/\Ext w1 wr) (fun i _=>qn-(intOf i).toNat)
 case atStart=>exact⟨0,_,K,aa,rfl,WB.o,aaA _ _ _ _,fun i hi=>absurd hi aa,fun i hi=>absurd hi aa,W9.o⟩
 case round=>
  clear WB W9;obtain⟨k,v,I,O,rfl,Wx,Wn,Wt,M,hx⟩:=hrel;obtain⟨wv,WZ⟩:∃wv,wv=wr:=⟨_,rfl⟩;subst WZ;obtain⟨Av,cv,rfl,_,_,_⟩:=iX Wn;have WB:=aJ Wx;have B:=aJ Wn;have F:=aJ Wt;have WK:=aJ M;have HX:=aJ hx;have Xf:g6<wv.heap.size:=Wx.lt;clear Wx Wn Wt M hx;by_cases Wj:k<qn
  .have hd:decide (k<qn)=ε:=ae;have Xg:=WQ.o k Wj;obtain⟨pb,WH,Wm,Q,f0⟩:=(WC.ext HX.o).rows.one Wj;have Wo:Hid ((p.links.getD k []).length=(K k).n):=aJ (WC.lens k Wj);have V:=aJ ((WC.ext HX.o).ints k Wj);unfold Hd.v at f0;generalize WS:K k=kh at f0 Wo V Xg;have WM:Hid ((K k).n=kh.n):=aJ (by rw[WS]);clear WS;subst Wm;generalize Z:p.links.getD k []=l at Wo V;have HL:=aJ Z;clear Z;have T:w.heap.size<wv.heap.size:=aa;have L:w.heap.size+1<wv.heap.size:=aa;(go_wp2_with fail);refine(Jb kh.A kh.n kh.c l _ V.o Wo.o aa).mono ?_;rintro e w2 ⟨v3,rfl,WF,P⟩;obtain⟨A3,c3,rfl,_,_,_⟩:=iX WF;have Ws:=aJ WF;have W:=aJ P;have XW:=P.size;clear WF P f0;go_wp2_with fail
   go_loopw [27] (fun i wq=>∃t:Nat,t<=kh.n/\i=.int .i64 (t:Int)/\wq.ownsRow wv.heap.size 3 1 (.slice A3 kh.n c3) kh.n ((uV (mv 0) l t).map (.int .i64))/\Mod (fun g=>(Value.slice A3 kh.n c3).ownBlock=γ g) w2 wq) (fun i _=>kh.n-(intOf i).toNat)
   case atStart=>exact⟨0,aa,rfl,by rw[Qa];exact Ws.o,Mod.refl _ _⟩
   case round=>
    obtain⟨t,ht,rfl,Xj,Xa⟩:=hrel;have Wl:=aJ Xj;have Xe:=aJ Xa;clear Xj Xa;by_cases J:t<kh.n
    .have XV:decide (t<kh.n)=ε:=ae;have Wu:t<l.length:=by have:=Wo.o;omega
     obtain⟨g3,Xb,WG,WU,Ww⟩:=Wl.form aa;injection WG with X7 _ Xk;subst X7 Xk;obtain⟨q1,q2⟩:=DD Wl.o J (DN Wu);have Wp:=JU Wl.o t (.int .i64 0);have WY:=AZ (f:=mv 0) Wu;have N:=Cs (f:=mv 0) Wu;generalize l.getD t 0=x at q1 WY N;have Wp:=aJ Wp;have WY:=aJ WY;have N:=aJ N;by_cases P:x=2
     .have dx:((x:Int)==2)=ε:=ae;subst P;go_wp2_with fail
      go_roundw
      case rel=>
       refine⟨t+1,aa,au,?_,?_⟩
       .have h1:=Wp.o.1;rw[<-adH (f:=Value.int .i64) (a:=(0:Int))] at h1;rw[<-WY.o];exact h1
       .exact Xe.trans (Wp.o.2.mono fun k hk=>by rw[hk];rfl)
      case measure=>simp[intOf];omega
     .have dx:((x:Int)==2)=ζ:=ae;have WN:=aJ P;clear P;go_wp2_with fail
      go_roundw
      case rel=>exact⟨t+1,aa,au,by rw[N.o (by unfold mv;rw[θ WN.o])];exact Wl.o,Xe.o⟩
      case measure=>simp[intOf];omega
    .obtain rfl:t=kh.n:=aa;clear J ht;have WJ:Ext wv wr:=W.mod Xe.o (fun g hg=>(Wl.lt g hg).1);have Xn:=aJ WJ;have WA:=WB.ext WJ;have k6:=WA.cell;have Yn:=WA.lt;have WE:=WJ.size;have j:=aJ (fE B.o WJ);clear WJ WA;(go_wp2_with (at_builtin;refine gK LB rfl (.tmp 40) (.tmp 42) rfl (g6+1) _ k (Ea I k) rf (j.alloc _) wr.heap.size 1 1 [.slice A3 kh.n c3] rf (Blk.new _ _ _) rfl AcI aa aa aa ae ?_));intro gA H w7 Xc XB Xy XE;have WT:=dW XB ((WB.ext Xn.o).alloc (.cells #[.slice A3 kh.n c3] 92)) (ig j.o aa);have WO:Mod (fun g=>g=g6\/(Value.slice Av k cv).ownBlock=γ g) wr (w7.setCell ⟨g6,1,δ⟩ (.slice (γ ⟨gA,0,δ⟩) (k+1) H)):=((aeI (Ext.new _ _)).trans (Mod.grown XB (fun g h=> .inr h))).trans (Mod.only (Only.set w7 g6 1 _) (.inl rfl));have k7:=WT.cell;have f7:=WT.frozen;have WL:Blk (w7.setCell ⟨g6,1,δ⟩ (.slice (γ ⟨gA,0,δ⟩) (k+1) H)) g6 31 #[.slice A1 pn c1,.slice (γ ⟨gA,0,δ⟩) (k+1) H]:=by simpa using WT.qg 1 (.slice (γ ⟨gA,0,δ⟩) (k+1) H)
     have Xi:=qO Xc (Only.set w7 g6 1 (.slice (γ ⟨gA,0,δ⟩) (k+1) H)) (ig Xc aa);have Wy:=aJ WL;have XA:=aJ Xi;have WI:=aJ WO;clear WT WO WL Xi Xc XB Xy;go_wp2_with fail
     go_roundw
     case rel=>
      refine⟨k+1,_,upd I k ⟨A3,kh.n,c3⟩,aa,au,Wy.o,?_,fun i hi=> ?_,fun i hi=> ?_,(HX.trans Xn.o).mod WI.o (fun g hg=> ?_)⟩
      .rw[Mg,upd_same,IR (fun i hi=>upd_ne (show i≠k by omega))];exact XA.o
      .by_cases e:i=k
       .subst e;simp only[upd_same,HL.o];rw[<-GR Wo.o];refine(lZ (Wl.less aa) WI.o fun g hg hS=> ?_);have:=(Wl.lt g hg).1;rcases hS with hS|hS
        .omega
        .have:=(B.lt g hS).2;omega
       .rw[upd_ne e];have h1:=fE (F.o i aa) Xn.o;refine lZ h1 WI.o fun g hg hS=> ?_;rcases hS with hS|hS
        .have:=(h1.lt g hg).1;omega
        .rcases yx h1 j.o aj with h2|h2
         .rw[h2] at hg;cases hg
         .exact h2 (hg.trans hS.symm)
      .by_cases e:i=k
       .subst e;rw[upd_same];exact WM.symm
       .rw[upd_ne e];exact WK.o i aa
      .have:=Xq.o;rcases hg with hg|hg
       .omega
       .have:=(B.lt g hg).1;omega
     case measure=>simp[intOf];omega
  .obtain rfl:k=qn:=aa;clear Wj O;have Wz:=(Yy.ext HX.o);have k6:=WB.cell;have kr:=Wz.cell;have fr:=Wz.frozen;have Xd:=Wz.lt;(go_wp2_with fail);have Xp:=fD wv (w.heap.size+1) 0 [.slice A1 pn c1,.slice Av k cv];have r1:=qO (fE HO.o HX.o) Xp (rE (fE HO.o HX.o) Wz aj);have r2:=qO (B.less (base':=w.heap.size) aa) Xp (rE B.o Wz aj);have r3:JO (puts wv (w.heap.size+1) 0 [.slice A1 pn c1,.slice Av k cv]) w.heap.size k I (fun i=>(resolve 0 p).links.getD i []):=fun i hi=>by
    have h:=F.o i hi;have:=qO (h.less (base':=w.heap.size) aa) Xp (rE h Wz aj);simp only[uM];exact this
   have XQ:=WC.ll;obtain⟨R,WR,U,WV,e1,e2,S⟩:=iW.made r1 r2 (p:=resolve 0 p) (by rw[<-XQ];simp[resolve]) r3 aa aa (fun i hi=>by rw[WK.o i hi];have:=WQ.o i hi;omega);have Wv:Dj w.heap.size R U k I:=by
    refine⟨fun b o e=> ?_,fun b o e=> ?_,fun i hi b o e=> ?_⟩
    .rw[e] at e1;exact(r1.lt b (by rw[e1];rfl)).1
    .rw[e] at e2;exact(r2.lt b (by rw[e2];rfl)).1
    .exact((r3 i hi).lt b (by unfold Hd.v;rw[e];rfl)).1
   refine pM rfl rfl rfl (bR 0 [.slice A1 pn c1,.slice Av k cv] Wz) acO rfl ah ⟨R,WR,U,WV,I,?_,S,WK.o,Wv,fw (g:=w.heap.size+1) (show w.heap.size<=w.heap.size+1 by omega) 0 [.slice A1 pn c1,.slice Av k cv] (WW.trans HX.o)⟩;rw[<-e1,<-e2];rfl
def jF (C:Nat->Value) (L:Nat->Bool) (i:Nat):Value:=if 15<=i/\i<33 then .bool (L (i-15)) else C i
theorem mD{C L k}(j:k<18):jF C L (15+k)=.bool (L k):=by
 unfold jF;rw[ι aa,show 15+k-15=k by omega]
theorem kQ{C L i}(h:i<15):jF C L i=C i:=by unfold jF;rw[θ aa]
theorem Iq{C L}(h:∀i,i<33->mr (C i)=ε)(i)(hi:i<33):mr (jF C L i)=ε:=by
 unfold jF;split
 .rfl
 .exact h i hi
theorem Mw{C E L k}(B:k<18)(i):upd (eY (jF C L) E) (15+k) (.bool ε) i=eY (jF C (upd L k ε)) E i:=by
 by_cases h:i=15+k
 .subst h;rw[upd_same,dz aa,mD B,upd_same]
 .rw[upd_ne h];unfold eY;by_cases l:i<33
  .rw[ι l,ι l];unfold jF;by_cases j:15<=i/\i<33
   .rw[ι j,ι j,upd_ne aa]
   .rw[θ j,θ j]
  .rw[θ l,θ l]
def yU{L n}(l:L n=ζ):∀k,cnt (upd L n ε) k=cnt L k+(if n<k then 1 else 0)
 |0=>rfl
 |k+1=>by
  show cnt (upd L n ε) k+(if upd L n ε k=ε then 1 else 0)=cnt L k+(if L k=ε then 1 else 0)+_;rw[yU l k];by_cases h:k=n
  .subst h;rw[upd_same,l,ι rfl,θ aa,θ aj,ι aa]
  .rw[upd_ne h];by_cases j:n<k
   .rw[ι j,ι (show n<k+1 by omega)];omega
   .rw[θ j,θ (show ¬n<k+1 by omega)];omega
def tY (lb:Bool) (n:Nat) (L:Nat->Bool):Nat->Bool:=if lb=ε/\n≠17/\L n=ζ then upd L n ε else L
def mI (L:Nat->Bool) (b:BrD):Bool:=decide (b.b=17)||(L b.a||L b.b)
def stp (b:BrD) (L:Nat->Bool) (j:Nat):Nat->Bool:=if j=0 then L else if j=1 then tY (mI L b) b.a L else tY (mI L b) b.b (tY (mI L b) b.a L)
theorem AA(lb n L k):tY lb n L k=(L k||(lb&&decide (k≠17)&&decide (k=n))):=by
 unfold tY;by_cases h:lb=ε/\n≠17/\L n=ζ
 .rw[ι h];by_cases e:k=n
  .subst e;rw[upd_same,h.1];simp[h.2.1]
  .rw[upd_ne e];simp[e]
 .rw[θ h];by_cases e:k=n
  .subst e;cases Z:lb
   .simp
   .by_cases D:k=17
    .simp[D]
    .have:L k=ε:=by
      cases j:L k with
      |true=>rfl
      |false=>exact absurd ⟨Z,D,j⟩ h
     simp[this]
  .simp[e]
theorem Q8(b L k):stp b L 2 k=qD L b k:=by
 unfold stp qD;rw[θ aa,θ aa,AA,AA];unfold mI;cases L k<;>cases decide (b.b=17)<;>cases L b.a<;>cases L b.b<;>cases decide (k≠17)<;>cases decide (k=b.a)<;>cases decide (k=b.b)<;>rfl
def wR(b L){j}(B:j<2):stp b L (j+1)=tY (mI L b) (if j=0 then b.a else b.b) (stp b L j):=by
 have l:j=0\/j=1:=aa;rcases l with rfl|rfl<;>rfl
def Aw{lb n L}(h:L 17=ζ):tY lb n L 17=ζ:=by rw[AA,h];simp
theorem DL{b L}(h:L 17=ζ)(j):stp b L j 17=ζ:=by
 unfold stp;split
 .exact h
 .split
  .exact Aw h
  .exact Aw (Aw h)
theorem oM{lb n L}(h:lb=ζ\/n=17\/L n=ε):tY lb n L=L:=by
 unfold tY;refine θ fun hc=> ?_;rcases h with h|h|h
 .rw[h] at hc;cases hc.1
 .exact hc.2.1 h
 .rw[h] at hc;cases hc.2.2
theorem jQ{lb n L}(h:lb=ε)(l:n≠17)(j:L n=ζ):tY lb n L=upd L n ε:=by
 unfold tY;exact ι ⟨h,l,j⟩
def Ur(L):cnt L 18<=18:=JF 18
structure Rv (w wr:World) (gx:Nat) (C:Nat->Value) (E:Nat->En) (bs:List BrD) (L:Nat->Bool):Prop where
 g:fA wr gx 105 393 (eY (jF C L) E)
 m:Mod (fun k=>k=gx) w wr
 sub:∀k,L k=ε->JoinD bs k
section
variable {w wr wr':World} {gx:Nat} {C:Nat->Value} {E:Nat->En} {bs:List BrD} {L:Nat->Bool}
def Rv.ext(h:Rv w wr gx C E bs L)(x:Ext wr wr'):Rv w wr' gx C E bs L:=⟨h.g.ext x,h.m.trans (aeI x),h.sub⟩
def Rv.set(h:Rv w wr gx C E bs L){n}(hn:n<18)(l:JoinD bs n):Rv w (wr.setCell ⟨gx,15+n,δ⟩ (.bool ε)) gx C E bs (upd L n ε):=by
 refine⟨(h.g.set (.bool ε) aa).congr (fun k _=>Mw hn k),h.m.trans (Mod.set _ _ _ _ rfl),fun k j=> ?_⟩;by_cases e:k=n
 .subst e;exact l
 .rw[upd_ne e] at j;exact h.sub k j
theorem Jh{b}(hb:b∈bs)(hs:∀k,L k=ε->JoinD bs k)(D:L 17=ζ)(h:mI L b=ε):JoinD bs b.a:=by
 unfold mI at h;simp only[acj,Θ] at h;rcases h with h|h|h
 .exact .neutral b hb h
 .exact hs _ h
 .exact .fro b hb (fun e=>by rw[e,D] at h;cases h) (hs _ h)
theorem JJ{b}(hb:b∈bs)(hs:∀k,L k=ε->JoinD bs k)(D:L 17=ζ)(h:mI L b=ε)(hn:b.b≠17):JoinD bs b.b:=by
 unfold mI at h;simp only[acj,Θ] at h;rcases h with h|h|h
 .exact absurd h hn
 .exact .fwd b hb hn (hs _ h)
 .exact hs _ h
end
structure Rnd (bs:List BrD) (Lr L:Nat->Bool) (ch:Bool) (i:Nat):Prop where
 no:ch=ζ->L=Lr/\∀j,j<i->∀n,qD Lr (bs.getD j η) n=Lr n
 yes:ch=ε->cnt Lr 18<cnt L 18
def Rnd.le{bs l L j i}(h:Rnd bs l L j i):cnt l 18<=cnt L 18:=by
 cases hc:j with
 |false=>rw[(h.no hc).1];exact κ _
 |true=>exact aaH (h.yes hc)
def Rnd.next{bs l L C F i b}(h:Rnd bs l L C i)(hb:bs.getD i η=b)(Z:cnt l 18<=cnt (stp b L 2) 18)(hn:F=ζ->C=ζ/\stp b L 2=L)(I:F=ε->cnt l 18<cnt (stp b L 2) 18):Rnd bs l (stp b L 2) F (i+1):=by
 refine⟨fun hc=> ?_,I⟩;obtain⟨H,B⟩:=hn hc;obtain⟨D,G⟩:=h.no H;refine⟨B.trans D,fun j J n=> ?_⟩;by_cases e:j=i
 .subst e;rw[hb,<-D,<-Q8,B]
 .exact G j aa n
def Ry{a b:Nat}{j:Nat}(B:j<2)(w):Sem.run prog (Instr.index 64 (.agg #[.int .i64 (a:Int),.int .i64 (b:Int)]) (.int .i64 (j:Int))) w=.ok (.int .i64 ((if j=0 then a else b:Nat):Int)) w:=by
 have l:j=0\/j=1:=aa;rcases l with rfl|rfl<;>simp[Instr.index,abh underlying64,asIntOf,go_sem,isAgg3,sizeOf3,part]
theorem OJ(gx nb cb C E A Bv bs w)(hg:fA w gx 105 393 (eY C E))(hn:r9 w C A nb cb Bv bs (fun _=>ζ))(Wy:∀i,i<33->mr (C i)=ε)(hA:∀b o,A=γ ⟨b,o,δ⟩->b≠gx):
  Calls prog 83 #[.pointer (γ ⟨gx,0,δ⟩)] w fun e w'=>e=.returned (.tuple #[])/\fA w' gx 105 393 (eY (jF C (lv bs)) E)/\Mod (fun k=>k=gx) w w':=by
 have S:=aJ hg;have HN:=aJ hn;have Xn:=aJ Wy;have HA:=aJ hA;have X4:Hid (Rv w w gx C E bs (fun _=>ζ)):=aJ ⟨hg.congr (fun k _=>by
  unfold eY;by_cases h:k<33
  .rw[ι h,ι h];unfold jF;by_cases h2:15<=k/\k<33
   .rw[ι h2,<-hn.live (k-15) aa,show 15+(k-15)=k by omega]
   .rw[θ h2]
  .rw[θ h,θ h]),aeI (Ext.refl _),fun k hk=>by cases hk⟩
 clear hg hn Wy hA;go_enter func83,ntmps83;go_wp2_with fail
 go_loopg [2] 40 (fun gk cv wr=>∃(L:Nat->Bool) (ch:Bool),cv=.bool ch/\Rv w wr gx C E bs L/\L 17=ζ/\(ch=ε->37<=gk+2*cnt L 18)/\(ch=ζ->36<=gk+2*cnt L 18/\∀j,j<nb->∀n,qD L (bs.getD j η) n=L n))
 case atStart=>exact⟨_,ε,rfl,X4.o,rfl,fun _=>aa,fun h=>by cases h⟩
 case round=>
  clear X4;obtain⟨L,ch,rfl,hR,D,Xm,WU⟩:=hrel;have I:=aJ hR;have Xi:=aJ D;have Xa:=aJ Xm;have WX:=aJ WU;clear hR D Xm WU;cases ch with
  |false=>
   have WS:=aJ (WX.o rfl);clear WX Xa;(go_wp2_with fail);have hL:L=lv bs:=VG HN.ok (agn Xi.o (fun b hb n=>by
    obtain⟨j,hj,e⟩:=acv hb;have:=WS.o.2 j (by have:=HN.len;omega) n;rw[φ,ν hj] at this;simpa[e] using this)) I.sub
   refine aa1 (aaq rfl _ _ _) rfl ⟨rfl,by rw[<-hL];exact I.g,I.m⟩
  |true=>
   have Xk:=aJ (Xa.o rfl);clear WX Xa;have Xj:=I.g.cell_ (k:=0) aa ((dz aa).trans ((kQ aa).trans HN.br));(go_wp2_with fail);clear Xj;go_loopw [2,14] (fun cv iv wz=>∃(i:Nat) (G:Nat->Bool) (ch:Bool),i<=nb/\iv=.int .i64 i/\cv=.bool ch/\Rv w wz gx C E bs G/\G 17=ζ/\Rnd bs L G ch i) (fun _ iv _=>nb-(intOf iv).toNat)
   case atStart=>exact⟨0,L,ζ,aa,rfl,rfl,I.o,Xi.o,fun _=>⟨rfl,fun j hj=>aa⟩,fun h=>by cases h⟩
   case round=>
    rename World=>wz;obtain⟨i,G,ch,hi,rfl,rfl,YL,W9,Xv⟩:=hrel;have Wq:=aJ YL;have Q:=aJ W9;have T:=aJ Xv;clear YL W9 Xv;by_cases Wj:i<nb
    .have hd:decide ((i:Int)<(nb:Int))=ε:=ae;obtain⟨bA,oA,hA,WL,Xl⟩:=HN.arr aa;subst hA;have Xh:bA≠gx:=HA.o _ _ rfl;have XP:=aJ (show wz.rangeAt bA (oA+i*20) (Bv i).cs from fun j v hv=>by
      have h1:=Xl i Wj j v hv;unfold World.cell? at h1⊢;simp only[Wq.o.m.block bA WL Xh] at h1⊢;exact h1)
     clear Xl WL Xh;(iterate 21 (try (first|go_values|go_skip|go_guarded|go_step|go_upon|go_in|go_back|go_simp)));refine σ rfl 167 _ rfl bA (oA+i*20) rf (Bv i).cs _ XP.o aas rfl wG ?_;refine eP rfl 167 rfl _ Kq ?_;intro wd WT;refine aN rfl 167 (.tmp 4) (.tmp 17) rfl wz.heap.size 0 (Bv i).cs rf rf Acm wG (ve _) ?_;intro we WK;refine Qp ?_;have Wz:Blk wd wz.heap.size 167 zBr:=by rw[WT];exact Blk.new _ _ _
     have H:Ext wz wd:=by rw[WT];exact Ext.new _ _
     have P:Ext wz we:=by rw[WK];exact fw (κ _:Own wz wz.heap.size) 0 _ H
     have WB:Blk we wz.heap.size 167 (Bv i).cs.toArray:=by rw[WK];exact Pg Wz
     have Wl:=aJ WB;replace Wq:=Wq.aA P;clear WT WK Wz H P WB;generalize wz.heap.size=WI at Wl⊢;have Xb:wrap64 ((i:Int)+1)=(i:Int)+1:=pz _ (by have:=HN.len;have:=HN.l23;omega);have K:=aJ Xb;clear Xb;have hm:bs.getD i η∈bs:=AL (by have:=HN.len;omega);have Wu:=HN.ok _ hm;have Ws:=HN.ab i Wj;obtain⟨b,Xc⟩:∃b,bs.getD i η=b:=⟨_,rfl⟩;rw[Xc] at hm Wu Ws;have WZ:=aJ Xc;have HM:=aJ hm;have WH:=aJ Wu;have U:=aJ Ws;clear Wu Ws hm Xc;have Xr:b.a<17:=WH.a;have Xd:b.b<=17:=WH.b;have WQ:we.cell? ⟨WI,0,δ⟩=γ (.int .i64 (b.a:Int)):=(Wl.cell 0).trans (by rw[<-U.o.1];rfl);have WO:we.cell? ⟨WI,1,δ⟩=γ (.int .i64 (b.b:Int)):=(Wl.cell 1).trans (by rw[<-U.o.2];rfl);have WE:=Wq.g.cell_ (k:=15+b.a) aa ((dz aa).trans (mD aa));have WN:=Wq.g.cell_ (k:=15+b.b) aa ((dz aa).trans (mD aa));have p1:(0:Int)<=(b.a:Int):=aa;have p2:(b.a:Int)<18:=aa;have p3:(0:Int)<=(b.b:Int):=aa;have p4:(b.b:Int)<18:=aa;by_cases hb:b.b=17
     .have hq:((b.b:Int)==17)=ε:=by rw[hb];rfl
      have WR:=aJ hb;clear hb;have Xg:=aJ Wq.o;have WF:Hid (mI G b=ε):=aJ (by unfold mI;simp[WR.o]);exact Aab
     .have hq:((b.b:Int)==17)=ζ:=ae;have WR:=aJ hb;clear hb;cases Xu:G b.a with
      |true=>
       rw[Xu] at WE;have Xg:=aJ Wq.o;have WF:Hid (mI G b=ε):=aJ (by unfold mI;simp[Xu]);exact Aab
      |false=>
       rw[Xu] at WE;cases XJ:G b.b with
       |true=>
        rw[XJ] at WN;have Xg:=aJ Wq.o;have WF:Hid (mI G b=ε):=aJ (by unfold mI;simp[XJ]);exact Aab
       |false=>
        rw[XJ] at WN;have Xg:=aJ Wq.o;have WF:Hid (mI G b=ζ):=aJ (by unfold mI;simp[Xu,XJ,WR.o]);(go_wp2_with fail);go_quiet (fail);generalize Wp:we.drewN nq=wq;have WJ:Ext we wq:=by rw[<-Wp];exact(Ext.refl _).drewN _
        replace Wq:=Wq.aA WJ;replace Wl:=Wl.aA WJ;clear WJ Wp WQ WO WE WN;have WQ:wq.cell? ⟨WI,0,δ⟩=γ (.int .i64 (b.a:Int)):=(Wl.cell 0).trans (by rw[<-U.o.1];rfl);have WO:wq.cell? ⟨WI,1,δ⟩=γ (.int .i64 (b.b:Int)):=(Wl.cell 1).trans (by rw[<-U.o.2];rfl);clear hq Wl;(go_wp2_with fail);clear WQ WO;go_loopw [2,44] (fun cv jv wx=>∃(j:Nat) (F:Bool),j<=2/\jv=.int .i64 j/\cv=.bool F/\Rv w wx gx C E bs (stp b G j)/\cnt L 18<=cnt (stp b G j) 18/\(F=ζ->ch=ζ/\stp b G j=G)/\(F=ε->cnt L 18<cnt (stp b G j) 18)) (fun _ jv _=>2-(intOf jv).toNat)
        case atStart=>exact⟨0,ch,aa,rfl,rfl,Wq.o,T.le,fun h=>⟨h,rfl⟩,T.yes⟩
        case round=>
         rename World=>wx;obtain⟨j,F,hj,rfl,rfl,WM,WP,Wm,Wt⟩:=hrel;have Y:=aJ WM;have WC:=aJ WP;have W:=aJ Wm;have Wn:=aJ Wt;clear WM WP Wm Wt Wq;by_cases M:j<2
         .have WA:decide ((j:Int)<2)=ε:=ae;have Yp:=Ry (a:=b.a) (b:=b.b) M wx;obtain⟨n,hn⟩:∃n,(if j=0 then b.a else b.b)=n:=⟨_,rfl⟩;rw[hn] at Yp;have WW:n<=17:=by rw[<-hn];split<;>omega
          have J:=wR b G M;rw[hn,WF.o] at J;have l:=aJ J;have WG:=aJ hn;clear J hn;have B:=aJ (oM (lb:=ζ) (n:=n) (L:=stp b G j) (Or.inl rfl));go_wp2_with fail
          go_roundw
          case rel=>exact⟨j+1,F,aa,au,rfl,by rw[l.o,B.o];exact Y.o,by rw[l.o,B.o];exact WC.o,fun h=>by rw[l.o,B.o];exact W.o h,fun h=>by rw[l.o,B.o];exact Wn.o h⟩
          case measure=>simp[intOf];omega
         .obtain rfl:j=2:=aa;have WA:decide ((2:Int)<2)=ζ:=aj
          go_wp2_with fail
          go_roundw
          case rel=>exact⟨i+1,stp b G 2,F,aa,by rw[K.o];rfl,rfl,Y.o,DL Q.o 2,T.next WZ.o WC.o (W.o) (Wn.o)⟩
          case measure=>rw[K.o];simp[intOf];omega
    .obtain rfl:i=nb:=aa;have hd:decide ((i:Int)<(i:Int))=ζ:=ag
     go_wp2_with fail
     go_roundg (gk-1)
     case measure=>have:=Xk.o;have:=Ur L;omega
     case rel=>exact⟨G,ch,rfl,Wq.o,Q.o,fun hc=>by have:=T.yes hc;have:=Xk.o;omega,fun hc=>⟨by have h1:=(T.no hc).1;rw[h1];have:=Xk.o;omega,fun j hj n=>by have h1:=(T.no hc).1;rw[h1];exact(T.no hc).2 j hj n⟩⟩
def lL (W:World) (B0:Nat) (v0:Value) (gB gH:Nat) (v:Value) (o:Option BrD):Prop:=
 match o with
 |none=>v=.pointer δ
 |some b=>∃(g k:Nat) (bv:BrV),v=.pointer (γ ⟨g,k,δ⟩)/\B0<=g/\v0.ownBlock≠γ g/\g≠gB/\g≠gH/\g<W.heap.size/\(∀t u,bv.cs[t]? =γ u->W.cell? ⟨g,k+t,δ⟩=γ u)/\oW W bv b
section
variable {W W':World} {B0:Nat} {v0 v1:Value} {gB gH:Nat} {v:Value} {o:Option BrD}
def lL.ext(h:lL W B0 v0 gB gH v o)(x:Ext W W'):lL W' B0 v0 gB gH v o:=by
 cases o with
 |none=>exact h
 |some b=>
  obtain⟨g,k,bv,D,B,G,C,H,j,F,l⟩:=h;exact⟨g,k,bv,D,B,G,C,H,π j x.size,fun t u N=>x.cell_ (F t u N),l.ext x⟩
def vX{S}(m:Mod S W W'){g i u}(Z:g<W.heap.size)(hS:¬S g)(h:W.cell? ⟨g,i,δ⟩=γ u):W'.cell? ⟨g,i,δ⟩=γ u:=zD (m.block g Z hS) h
def lL.mod{S}(h:lL W B0 v0 gB gH v o)(m:Mod S W W')(G:gu S W)(hS:∀g,S g->g<B0\/v0.ownBlock=γ g\/g=gB\/g=gH):lL W' B0 v0 gB gH v o:=by
 cases o with
 |none=>exact h
 |some b=>
  obtain⟨g,k,bv,D,C,l,j,H,B,F,I⟩:=h;have hn:¬S g:=fun e=>by
   rcases hS g e with e|e|e|e
   .omega
   .exact l e
   .exact j e
   .exact H e
  exact⟨g,k,bv,D,C,l,j,H,π B m.size,fun t u N=>vX m B hn (F t u N),I.fo m G⟩
def lL.own(h:lL W B0 v0 gB gH v o)(hv:∀g,v1.ownBlock=γ g->v0.ownBlock=γ g\/W.heap.size<=g):lL W B0 v1 gB gH v o:=by
 cases o with
 |none=>exact h
 |some b=>
  obtain⟨g,k,bv,D,l,G,B,H,j,F,C⟩:=h;refine⟨g,k,bv,D,l,fun e=> ?_,B,H,j,F,C⟩;rcases hv g e with e|e
  .exact G e
  .omega
def lL.Wi(h:lL W B0 v0 gB gB v o)(x:Ext W W'){g}(I:W.heap.size<=g):lL W' B0 v0 gB g v o:=by
 cases o with
 |none=>exact h
 |some b=>
  obtain⟨g',k,bv,D,B,G,C,H,j,F,l⟩:=h;exact⟨g',k,bv,D,B,G,C,aa,π j x.size,fun t u N=>x.cell_ (F t u N),l.ext x⟩
def lL.is(h:lL W B0 v0 gB gH v o){X}(F:X<B0):mW W X v o:=by
 cases o with
 |none=>exact h
 |some b=>
  obtain⟨g,k,bv,B,D,I,G,H,l,C,j⟩:=h;exact⟨g,k,bv,B,aa,l,C,j.pa,j.pb,j.z0,j.z1,j.e⟩
def lL.low(h:lL W B0 v0 gB gH v o){g k}(e:v=.pointer (γ ⟨g,k,δ⟩)):B0<=g:=by
 cases o with
 |none=>have h:v=.pointer δ:=h;rw[h] at e;injection e with e;cases e
 |some b=>
  obtain⟨g',B,bv,j,l,_⟩:=h;rw[j] at e;injection e with e;injection e with e;injection e with e _ _;omega
def afJ{g bv b}(hb:Blk W g 167 bv.cs.toArray)(hi:oW W bv b)(B:B0<=g)(l:v0.ownBlock≠γ g)(j:g≠gB)(C:g≠gH):lL W B0 v0 gB gH (.pointer (γ ⟨g,0,δ⟩)) (γ b):=
 ⟨g,0,bv,rfl,B,l,j,C,hb.lt,fun t u N=>by rw[aaw,hb.cell,Ξ];exact N,hi⟩
end
structure Gs (w W:World) (gx gf gB gH:Nat) (C:Nat->Value) (Bv:Nat->BrV) (brs:List BrD) (n:Nat) (wv:Nat->Value) (wd:Nat->Option BrD):Prop where
 r:Gr0 w W gx gf C brs.length Bv brs
 c13:C 13=.slice (γ ⟨gB,0,δ⟩) n n
 bB:fA W gB 165 n wv
 lB:w.heap.size<=gB
 wy:∀j,j<n->lL W w.heap.size (C 0) gB gH (wv j) (wd j)
section
variable {w W W':World} {gx gf gB gH n:Nat} {C:Nat->Value} {Bv:Nat->BrV} {brs:List BrD} {wv:Nat->Value} {wd:Nat->Option BrD}
def Gs.ext(h:Gs w W gx gf gB gH C Bv brs n wv wd)(x:Ext W W'):Gs w W' gx gf gB gH C Bv brs n wv wd:=
 ⟨h.r.ext x,h.c13,h.bB.ext x,h.lB,fun j l=>(h.wy j l).ext x⟩
def mK.ne{v k B0}(h:mK W B0 v k Bv){g t cs}(hb:Blk W g t cs)(l:t≠167):v.ownBlock≠γ g:=fun e=>by
 rcases h with ⟨rfl,_⟩|⟨g',F,B',rfl,_,_,j,_⟩
 .cases e
 .have:g'=g:=by simpa[Value.ownBlock] using e
  subst this;exact Blk.eF hb j l rfl
def Gs.set(h:Gs w W gx gf gB gH C Bv brs n wv wd){i v}(hi:i<33)(D:i≠0)(l:i≠13)(hv:mr v=ε)(G:W'=W.setCell ⟨gx,i,δ⟩ v):Gs w W' gx gf gB gH (upd C i v) Bv brs n wv wd/\Mod (fun k=>k=gx) W W':=by
 subst G;obtain⟨H,B⟩:=h.r.set v hi D hv;have lx:=h.r.lx;have lB:=h.lB;refine⟨⟨H,by rw[upd_ne (aaO l)];exact h.c13,h.bB.mod B aa,lB,fun j I=> ?_⟩,B⟩;rw[upd_ne (aaO D)];exact(h.wy j I).mod B h.r.far (fun g F=> .inl (by have F:g=gx:=F;omega))
def Gs.VI(h:Gs w W gx gf gB gH C Bv brs n wv wd)(hn:∀j,j<n->mr (wv j)=ε):gu (fun k=>k=gB) W:=ae6 h.bB (fun k l=>hn k l) (fun k l=>l)
def lL.mr{B0:Nat}{v0:Value}{v:Value}{o:Option BrD}(h:lL W B0 v0 gB gH v o):mr v=ε:=by
 cases o with
 |none=>have h:v=.pointer δ:=h;rw[h];rfl
 |some b=>obtain⟨g,k,bv,j,_⟩:=h;rw[j];rfl
def Gs.ptr(h:Gs w W gx gf gB gH C Bv brs n wv wd){i v}{o:Option BrD}(hi:i<n)(hv:lL W w.heap.size (C 0) gB gH v o)(H:W'=W.setCell ⟨gB,i,δ⟩ v):Gs w W' gx gf gB gH C Bv brs n (upd wv i v) (upd wd i o)/\Mod (fun k=>k=gB) W W'/\gu (fun k=>k=gB) W:=by
 subst H;have B:Mod (fun k=>k=gB) W (W.setCell ⟨gB,i,δ⟩ v):=Mod.set _ _ _ _ rfl;have D:=h.VI (fun j F=>(h.wy j F).mr);have lB:=h.lB;refine⟨⟨h.r.mod B (fun k G=>by have G:k=gB:=G;omega) D (fun g l e=> ?_),h.c13,h.bB.set v hi,lB,fun j F=> ?_⟩,B,D⟩
 .have e:g=gB:=e;subst e;exact h.r.own.ne h.bB aj l
 .by_cases e:j=i
  .subst e;rw[upd_same,upd_same];exact hv.mod B D (fun g l=> .inr (.inr (.inl l)))
  .rw[upd_ne e,upd_ne e];exact(h.wy j F).mod B D (fun g l=> .inr (.inr (.inl l)))
def Gs.push{W2}(h:Gs w W gx gf gB gH C Bv brs n wv wd){r b K}(V:oW W r b)(U:mK W' w.heap.size K (brs.length+1) (upd Bv brs.length r))(hm:Mod (fun g=>(C 0).ownBlock=γ g) W W')(hv:∀g,K.ownBlock=γ g->(C 0).ownBlock=γ g\/g=W.heap.size)(T:W2=W'.setCell ⟨gx,0,δ⟩ K):
  Gs w W2 gx gf gB gH (upd C 0 K) (upd Bv brs.length r) (brs++[b]) n wv wd/\Mod (fun g=>g=gx\/(C 0).ownBlock=γ g) W W2/\gu (fun g=>g=gx\/(C 0).ownBlock=γ g) W:=by
 obtain⟨Q,B,J⟩:=h.r.push V U hm T;have lx:=h.r.lx;have lB:=h.lB;have Z:(brs++[b]).length=brs.length+1:=ag;refine⟨⟨by rw[Z];exact Q,by rw[upd_ne aj];exact h.c13,h.bB.mod B (fun e=> ?_),lB,fun j G=> ?_⟩,B,J⟩
 .rcases e with e|e
  .omega
  .exact h.r.own.ne h.bB aj e
 .rw[upd_same];have H:=((h.wy j G).own (v1:=K) (fun g P=>(hv g P).imp id (fun e=>aa)));cases D:wd j with
  |none=>have F:=h.wy j G;rw[D] at F;exact F
  |some d=>
   have F:=h.wy j G;rw[D] at H F;obtain⟨g,k,bv,L,S,e3,e4,M,I,O,Y⟩:=H;obtain⟨g',k',l,q1,q2,R,_⟩:=F;rw[L] at q1;injection q1 with q1;injection q1 with q1;injection q1 with q1 _ _;subst q1;have hn:¬(g=gx\/(C 0).ownBlock=γ g):=fun e=>by
    rcases e with e|e
    .omega
    .exact R e
   exact⟨g,k,bv,L,S,e3,e4,M,π I B.size,fun t u N=>vX B I hn (O t u N),Y.fo B J⟩
def Gs.older(h:Gs w W gx gf gB gH C Bv brs n wv wd){wa}(x:Ext wa w)(Z:wa.heap.size<=gx):Ext wa W:=fC x h.r.m (fun k j=>by have j:k=gx:=j;omega)
end
theorem P5{s p}(h:jb s p=0):jb s (resolve 0 p)=0:=by
 have Z:∀i,((resolve 0 p).links.getD i [])=(p.links.getD i []).map (mv 0):=fun i=>uM 0 p i;have j:(resolve 0 p).links.length=p.links.length:=by simp[resolve]
 have l:(resolve 0 p).closed=p.closed:=rfl;unfold jb at h⊢;rw[j,l];split at h
 .rename_i G
  rw[ι G];split at h
  .rename_i B
   rw[ι (by
    rw[wo] at B⊢;intro i hi;have:=B i hi;rw[Z,aaM];exact this)]
   split at h
   .rename_i D
    rw[ι (by
     rw[wo] at D⊢;intro i hi;have C:=D i hi;rw[wo] at C⊢;rw[Z];intro x I;obtain⟨y,F,rfl⟩:=aad.1 I;have H:=C y F;unfold mv;split
     .unfold kG at H⊢;simp_all
     .exact H)]
   .exact absurd h aj
  .exact absurd h aj
 .exact absurd h aj
def G6{s p i b}(h:fV s p i=γ b):fM s p (i+1)=fM s p i++[b]:=by
 show fM s p i++(fV s p i).toList=_;rw[h];rfl
def yt{s p i}(h:fV s p i=δ):fM s p (i+1)=fM s p i:=by
 show fM s p i++(fV s p i).toList=_;rw[h];simp
theorem Ap{s p i}(h:lV s p i=ζ):fV s p i=δ:=by
 unfold fV;simp only[];rw[θ (by rw[h];decide)]
theorem BF{s p i l e}(h:lV s p i=ζ):mE s p l e i=ζ:=by
 unfold mE;rw[h];rfl
theorem rG{s p i l e}(h:(s.bays.getD i η).kind≠1):mE s p l e i=ζ:=by
 unfold mE;rw[Γ h];simp
def wd0 (s:StD) (p:dA) (k j:Nat):Option BrD:=if j<k then fV s p j else δ
structure Bt (w W:World) (gx gf gB g7 g8 g9:Nat) (ST PO FL:Array Value) (C:Nat->Value) (Bv:Nat->BrV) (wv:Nat->Value) (s:StD) (p:dA) (i k:Nat):Prop where
 g:Gs w W gx gf gB gB C Bv (fM s p i) s.bays.length wv (wd0 s p k)
 b7:Blk W g7 27 ST
 b8:Blk W g8 31 PO
 b9:Blk W g9 33 FL
 ends:∀l e,l<6->e<2->C (1+2*l+e)=.int .i64 (vD s p l e i:Nat)
 c14:C 14=.int .i64 0
 liv:∀k,k<18->C (15+k)=.bool ζ
section
variable {w W W' W2:World} {gx gf gB g7 g8 g9:Nat} {ST PO FL:Array Value} {C:Nat->Value} {Bv:Nat->BrV} {wv:Nat->Value} {s:StD} {p:dA} {i k:Nat}
def Bt.ext(h:Bt w W gx gf gB g7 g8 g9 ST PO FL C Bv wv s p i k)(x:Ext W W'):Bt w W' gx gf gB g7 g8 g9 ST PO FL C Bv wv s p i k:=
 ⟨h.g.ext x,h.b7.ext x,h.b8.ext x,h.b9.ext x,h.ends,h.c14,h.liv⟩
def Gs.congr{n gH brs}{wd l:Nat->Option BrD}(h:Gs w W gx gf gB gH C Bv brs n wv wd)(e:∀j,j<n->wd j=l j):Gs w W gx gf gB gH C Bv brs n wv l:=
 ⟨h.r,h.c13,h.bB,h.lB,fun j B=>by rw[<-e j B];exact h.wy j B⟩
theorem FQ{j}(hb:fV s p k=δ):wd0 s p k j=wd0 s p (k+1) j:=by
 unfold wd0;by_cases l:j<k
 .rw[ι l,ι aa]
 .by_cases B:j=k
  .subst B;rw[θ l,ι aa,hb]
  .rw[θ l,θ aa]
theorem OM{j b}(hb:fV s p k=γ b):upd (wd0 s p k) k (γ b) j=wd0 s p (k+1) j:=by
 by_cases l:j=k
 .subst l;rw[upd_same];unfold wd0;rw[ι aa,hb]
 .rw[upd_ne l];unfold wd0;by_cases B:j<k
  .rw[ι B,ι aa]
  .rw[θ B,θ aa]
def xB{l e}(h:mE s p l e i=ζ):vD s p l e (i+1)=vD s p l e i:=by
 show(if mE s p l e i=ε then iw s p i else vD s p l e i)=_;rw[h,θ aj]
def Bt.skip(h:Bt w W gx gf gB g7 g8 g9 ST PO FL C Bv wv s p i i)(hb:fV s p i=δ)(U:∀l e,mE s p l e i=ζ):Bt w W gx gf gB g7 g8 g9 ST PO FL C Bv wv s p (i+1) (i+1):=
 ⟨by rw[yt hb];exact h.g.congr fun j _=>FQ hb,h.b7,h.b8,h.b9,fun l e Z B=>by rw[xB (U l e)];exact h.ends l e Z B,h.c14,h.liv⟩
theorem Bt.line(h:Bt w W gx gf gB g7 g8 g9 ST PO FL C Bv wv s p i i)(K:lV s p i=ε){x:gJ}(J:s.bays.getD i η=x)(I:x.kind=1){l e:Nat}(N:x.obj=(l:Int))(F:x.en=(e:Int))(Z:l<6)(U:e<2){a:Nat}(ha:a=1+2*l+e)(M:W'=W.setCell ⟨gx,a,δ⟩ (.int .i64 (iw s p i:Nat))):Bt w W' gx gf gB g7 g8 g9 ST PO FL (upd C a (.int .i64 (iw s p i:Nat))) Bv wv s p (i+1) (i+1):=by
 subst ha;have hb:fV s p i=δ:=by
  unfold fV;simp only[];rw[J,ι K,θ aa,θ (fun e=>aa)]
 obtain⟨L,H⟩:=h.g.set (i:=1+2*l+e) (v:=.int .i64 (iw s p i:Nat)) aa aa aa rfl M;refine⟨by rw[yt hb];exact L.congr fun j _=>FQ hb,h.b7.mod H (Blk.eF h.b7 h.g.r.g aj),h.b8.mod H (Blk.eF h.b8 h.g.r.g aj),h.b9.mod H (Blk.eF h.b9 h.g.r.g aj),fun D T B G=> ?_,?_,fun k I=> ?_⟩
 .have hi:mE s p D T i=(decide (l=D)&&decide (e=T)):=by
   unfold mE;rw[K,J,I,N,F];simp only[acx,abQ,Int.natCast_inj]
  by_cases O:D=l/\T=e
  .obtain⟨rfl,rfl⟩:=O;rw[upd_same];show _=Value.int .i64 ((if mE s p D T i=ε then iw s p i else vD s p D T i:Nat):Int);rw[hi,ι ag]
  .rw[upd_ne aa,xB (by rw[hi];simp;omega)];exact h.ends D T B G
 .rw[upd_ne aa];exact h.c14
 .rw[upd_ne aa];exact h.liv k I
def Bt.ptr(h:Bt w W gx gf gB g7 g8 g9 ST PO FL C Bv wv s p i i)(hi:i<s.bays.length){b}(hb:fV s p i=γ b){v}(hv:lL W w.heap.size (C 0) gB gB v (γ b))(B:W'=W.setCell ⟨gB,i,δ⟩ v):Bt w W' gx gf gB g7 g8 g9 ST PO FL C Bv (upd wv i v) s p i (i+1)/\Mod (fun k=>k=gB) W W'/\gu (fun k=>k=gB) W:=by
 obtain⟨D,l,F⟩:=h.g.ptr hi hv B;exact⟨⟨D.congr fun j _=>OM hb,h.b7.mod l (Blk.eF h.b7 h.g.bB aj),h.b8.mod l (Blk.eF h.b8 h.g.bB aj),h.b9.mod l (Blk.eF h.b9 h.g.bB aj),h.ends,h.c14,h.liv⟩,l,F⟩
def Bt.push(h:Bt w W gx gf gB g7 g8 g9 ST PO FL C Bv wv s p i (i+1)){b}(hb:fV s p i=γ b)(U:∀l e,mE s p l e i=ζ){r K}(H:oW W r b)(G:mK W' w.heap.size K ((fM s p i).length+1) (upd Bv (fM s p i).length r))(I:Mod (fun g=>(C 0).ownBlock=γ g) W W')(hv:∀g,K.ownBlock=γ g->(C 0).ownBlock=γ g\/g=W.heap.size)(F:W2=W'.setCell ⟨gx,0,δ⟩ K):
  Bt w W2 gx gf gB g7 g8 g9 ST PO FL (upd C 0 K) (upd Bv (fM s p i).length r) wv s p (i+1) (i+1):=by
 obtain⟨D,j,J⟩:=h.g.push H G I hv F;refine⟨by rw[G6 hb];exact D,h.b7.mod j ?_,h.b8.mod j ?_,h.b9.mod j ?_,fun l e Z j=> ?_,?_,fun k B=> ?_⟩
 .exact Abv
 .rintro(e|e)
  .exact Blk.eF h.b8 h.g.r.g aj e
  .exact h.g.r.own.ne h.b8 aj e
 .rintro(e|e)
  .exact Blk.eF h.b9 h.g.r.g aj e
  .exact h.g.r.own.ne h.b9 aj e
 .rw[upd_ne aa,xB (U l e)];exact h.ends l e Z j
 .rw[upd_ne aa];exact h.c14
 .rw[upd_ne aa];exact h.liv k B
end
structure BH (w W:World) (gx gf:Nat) (C:Nat->Value) (Bv:Nat->BrV) (s:StD) (p:dA) (f:dZ):Prop where
 r:Gr0 w W gx gf C (bI s p f).length Bv (bI s p f)
 ends:∀l e,l<6->e<2->C (1+2*l+e)=.int .i64 (dY s p l e:Nat)
 c14:C 14=.int .i64 (dK s p f:Nat)
 liv:∀k,k<18->C (15+k)=.bool ζ
 bays:∃(gB:Nat) (wv:Nat->Value),C 13=.slice (γ ⟨gB,0,δ⟩) s.bays.length s.bays.length/\w.heap.size<=gB/\fA W gB 165 s.bays.length wv/\∀i,i<s.bays.length->mW W gx (wv i) (way s p f i)/\∀g k,wv i=.pointer (γ ⟨g,k,δ⟩)->w.heap.size<=g
def OZ:(prog.info? 165).map (fun i=>(i.zero,i.size,i.bytes))=γ (γ (.pointer δ),1,8):=ah
theorem Mt(n:Nat)(hn:n<=1000)(W:World):(Instr.makeSlice 98 (.int .i64 n) (.int .i64 n)).run prog W=.ok (.slice (γ ⟨W.heap.size,0,δ⟩) n n) (W.alloc (.cells (ofC n fun _=> .pointer δ) 165)):=by
 obtain⟨i0,Q,l,B,j⟩:=abL OZ;have h:=acV (P:=prog) W 98 165 i0 (.pointer δ) underlying98 Q l .i64 .i64 n n aa aa Abj aa;rw[h,B];have e:=pW [Value.pointer δ] aj n;have C:(mQ n [Value.pointer δ]).toArray=ofC n fun _=>Value.pointer δ:=by
  apply Array.ext';unfold mQ ofC;simp[List.flatMap,List.map_const']
 rw[C] at e;simp only[I6];rw[show(Value.pointer δ).cells=[Value.pointer δ].toArray from rfl];exact congrArg (fun c=>Result.ok (Value.slice (γ ⟨W.heap.size,0,δ⟩) n n) (W.alloc (.cells c 165))) e
def oC:Op->Bool
 | .nilCheck _=>ε
 |o=>gD o
def yY{P w w'}{n:Next}(h:Sem.run P (runtimePanic (α:=Next) .nilDeref) w=.ok n w'):False:=by
 simp[runtimePanic,aaG] at h
theorem Vl{P}{ev:Operand->Value}{o}{x:Operand}{w w'}{n:Next}(j:o.op=.nilCheck x)(h:(execOp ev o).run P w=.ok n w'):∃v,n=.value v:=by
 unfold execOp at h;simp only[j] at h;split at h
 .exact(yY h).elim
 .exact(yY h).elim
 .exact(yY h).elim
 .split at h
  .exact(yY h).elim
  .simp only[aaG] at h;generalize Sem.run P program w=r1 at h;cases r1 with
   |halt x w=>simp[Result.andThen] at h
   |ok p w1=>
    simp only[aaB] at h;generalize Sem.run P (nilAhead _ _ _ _) w1=r2 at h;cases r2 with
    |halt x w=>simp[Result.andThen] at h
    |ok b w2=>
     simp only[aaB] at h;split at h
     .simp[unsupported,Result.andThen] at h
     .simp at h;exact⟨_,h.1.symm⟩
  .simp at h;exact⟨_,h.1.symm⟩
 .simp at h;exact⟨_,h.1.symm⟩
def zS{P}{ev:Operand->Value}{o w w'}(hp:oC o.op=ε)(h:(execOp ev o).run P w=.ok .skip w'):False:=by
 by_cases hn:∃x,o.op=.nilCheck x
 .obtain⟨x,j⟩:=hn;obtain⟨v,hv⟩:=Vl j h;cases hv
 .refine uE (o:=o) ?_ h;exact Abs
def yJ{P}{ev:Operand->Value}{o w w' f args}(hp:oC o.op=ε)(h:(execOp ev o).run P w=.ok (.enter f args) w'):False:=by
 by_cases hn:∃x,o.op=.nilCheck x
 .obtain⟨x,j⟩:=hn;obtain⟨v,hv⟩:=Vl j h;cases hv
 .refine jP (o:=o) ?_ h;exact Abs
section
variable {P:Program} {ops:Array Oper} {Q Q':Exit->Act->World->Prop} {S:World->Prop}
theorem BP{o a v}(hp:oC o.op=ε)(B:Region.wanted o (yielded ops a.tmps)=ε)(h:∀w,S w->o.quietAt P a S w v):YieldsIf P ops S o v a:=by
 refine .inl ⟨B,fun w hS=> ?_⟩;have j:=h w hS;unfold Oper.quietAt at j;generalize l:(execOp a.eval o).run P w=C at*
 cases C with
 |ok nx w'=>
  cases nx<;>simp only[Oper.quietUpon] at j
  case value u=>obtain⟨rfl,rfl⟩:=j;rfl
  case skip=>exact(zS hp l).elim
  case enter f args=>exact(yJ hp l).elim
 |halt x w'=>simp only[Oper.quietUpon] at j
def vL (ops:Array Oper) (n:Nat):List (Bool×Nat)->Array Bool->Bool
 |[],listed=>Region.seqB .any ops (ops.size-n) n listed
 |(ε,i)::rest,listed=>((ops[i]?).map fun o=>oC o.op).getD ζ&&Region.free .any ops listed i&&(Region.ready .any ops listed).contains i&&decide (i<n)&&vL ops n rest (listed.setIfInBounds i ε)
 |(ζ,i)::rest,listed=>decide (Region.ready .any ops listed=[i])&&decide (i<n)&&vL ops n rest (listed.setIfInBounds i ε)
theorem nD{n}{L:Act->World->Prop}(C:Region.noSelect ops=ε)(hs:Region.sinkB .any ops n=ε)(hc:Region.chainB .any ops n=ε)(hn:n<ops.size):
  ∀(ord:List (Bool×Nat)) (B:Array Bool) (a:Act) (w:World),HeadInv .any ops n B->vL ops n ord B=ε->S w->bT P ops S L ord a w->
  rM P ops S n (fun I a' w'=>Region.seqB .any ops (ops.size-n) n I=ε/\L a' w') ord.length B a w
 |[],B,a,w,_,hB,_,h=>⟨by simpa[vL] using hB,h⟩
 |(ε,i)::rest,B,a,w,inv,hB,hS,h=>by
  simp only[vL,υ,Θ] at hB;obtain⟨⟨⟨⟨hp,N⟩,R⟩,K⟩,J⟩:=hB;have W:i∈Region.ready .any ops B:=by simpa using R
  unfold bT at h;cases l:ops[i]? with
  |none=>simp[l] at h
  |some o=>
   simp only[l] at h;have M:oC o.op=ε:=by simpa[l] using hp
   by_cases D:Region.wanted o (yielded ops a.tmps)=ε
   .rw[ι D] at h;obtain⟨v,Q,O⟩:=h;exact jy (v:=v) l (aau C) hs hc hn K (fun _ _ _ F=>abK F.1) _ _ _ _ inv (aaT l N) W (BP M D Q) hS (nD C hs hc hn rest _ _ _ (inv.set W K) J hS O)
   .rw[θ D] at h;exact jy (v:=undef) l (aau C) hs hc hn K (fun _ _ _ F=>abK F.1) _ _ _ _ inv (aaT l N) W (.inr ⟨by simpa using D,rfl⟩) hS (nD C hs hc hn rest _ _ _ (inv.set W K) J hS h)
 |(ζ,i)::rest,B,a,w,inv,hB,hS,h=>by
  simp only[vL,υ,Θ] at hB;unfold bT at h;refine⟨by rw[hB.1.1];simp,fun j H=> ?_⟩;have G:=H;rw[hB.1.1] at H;obtain rfl:j=i:=by simpa using H
  exact⟨hB.1.2,acA (fun a' w' h=>⟨h.1,nD C hs hc hn rest _ _ _ (inv.set G hB.1.2) hB.2 h.1 h.2⟩) h⟩
def gz{L a}{w:World}{l:List Oper}(n S)(ord:List (Bool×Nat))(R:P.follows .mixedOrders=ε)(O:(Region.noSelect l.toArray&&Region.sinkB .any l.toArray n&&Region.chainB .any l.toArray n&&decide (n<l.length)&&decide (ord.length=n)&&vL l.toArray n ord (Array.replicate l.length ζ))=ε)(hS:S w.drew)(h:bT P l.toArray S (fun a' w'=>wpList P l.toArray Q (l.drop n) a' w') ord a w.drew):(Code.region L l.toArray ε).wp P Q a w:=by
 simp only[υ,Θ] at O;obtain⟨⟨⟨⟨⟨C,hs⟩,hc⟩,hn⟩,V⟩,D⟩:=O;have F:n<l.toArray.size:=by simpa using hn
 have G:HeadInv .any l.toArray n (Array.replicate l.length ζ):=
  ⟨ag,fun j I _ Z=>AaJ,fun t _ N=>ade AcB (aaK _ _)⟩
 have H:=nD (P:=P) C hs hc F ord _ a w.drew G D hS h;have J:(l.drop n).length=l.toArray.size-n:=ag;have K:=mh (P:=P) (Q:=Q) (n:=n) (g:=l.toArray.size-n) (fun B a' w' M=>by
  have:=ab3 (P:=P) (ops:=l.toArray) (md:=.any) (Q':=Q) (l.drop n) n B a' w' (fun j=>ag) (by rw[J];exact M.1) M.2;rwa[J] at this) _ _ _ _ H
 exact AbV
end
def hfs (s:StD) (p:dA) (f:dZ) (k:Nat):BrD:=half s p f (k/2) (k%2)
structure Li (w W:World) (gx gf gB gH g6 g7:Nat) (ST FL:Array Value) (C:Nat->Value) (Bv:Nat->BrV) (wv:Nat->Value) (H:Nat->BrV) (s:StD) (p:dA) (f:dZ) (n1:Nat) (brs:List BrD) (fv m:Nat):Prop where
 g:Gs w W gx gf gB gH C Bv brs s.bays.length wv (wd0 s p s.bays.length)
 bH:Blk W gH 221 (brc (n1*2) H).toArray
 lH:w.heap.size<=gH
 b6:Blk W g6 27 ST
 b7:Blk W g7 33 FL
 hv:∀k,k<m->oW W (H k) (hfs s p f k)
 ends:∀l e,l<6->e<2->C (1+2*l+e)=.int .i64 (dY s p l e:Nat)
 c14:C 14=.int .i64 (fv:Int)
 liv:∀k,k<18->C (15+k)=.bool ζ
section
variable {w W W' W2:World} {gx gf gB gH g6 g7 n1 fv m:Nat} {ST FL:Array Value} {C:Nat->Value} {Bv:Nat->BrV} {wv:Nat->Value} {H:Nat->BrV} {s:StD} {p:dA} {f:dZ} {brs:List BrD}
def Li.ext(h:Li w W gx gf gB gH g6 g7 ST FL C Bv wv H s p f n1 brs fv m)(x:Ext W W'):Li w W' gx gf gB gH g6 g7 ST FL C Bv wv H s p f n1 brs fv m:=
 ⟨h.g.ext x,h.bH.ext x,h.lH,h.b6.ext x,h.b7.ext x,fun k j=>(h.hv k j).ext x,h.ends,h.c14,h.liv⟩
def Li.set(h:Li w W gx gf gB gH g6 g7 ST FL C Bv wv H s p f n1 brs fv m)(j:Nat)(F:W'=W.setCell ⟨gx,14,δ⟩ (.int .i64 (j:Int))):Li w W' gx gf gB gH g6 g7 ST FL (upd C 14 (.int .i64 (j:Int))) Bv wv H s p f n1 brs j m:=by
 obtain⟨G,B⟩:=h.g.set (i:=14) (v:=.int .i64 (j:Int)) aa aa aa rfl F;exact⟨G,h.bH.mod B (Blk.eF h.bH h.g.r.g aj),h.lH,h.b6.mod B (Blk.eF h.b6 h.g.r.g aj),h.b7.mod B (Blk.eF h.b7 h.g.r.g aj),fun k D=>(h.hv k D).fo B h.g.r.far,fun l e Z U=>by rw[upd_ne aa];exact h.ends l e Z U,upd_same ..,fun k D=>by rw[upd_ne aa];exact h.liv k D⟩
def Li.Uf(h:Li w W gx gf gB gH g6 g7 ST FL C Bv wv H s p f n1 brs fv m):gu (fun k=>k=gH) W:=fun k l _=>by
 have l:k=gH:=l;rw[l];exact⟨_,_,h.bH,fun j v hv=>EY j v (by rwa[Ξ] at hv)⟩
def Li.half(h:Li w W gx gf gB gH g6 g7 ST FL C Bv wv H s p f n1 brs fv m){r}(M:oW W r (hfs s p f m))(O:m<n1*2)(L:W'=puts W gH (m*20) r.cs):Li w W' gx gf gB gH g6 g7 ST FL C Bv wv (upd H m r) s p f n1 brs fv (m+1):=by
 have D:Mod (fun k=>k=gH) W W':=by rw[L];exact Mod.puts _ _ _ _ rfl
 have F:=h.Uf;have lH:=h.lH;have lx:=h.g.r.lx;have lB:=h.g.lB;have I:∀g,(C 0).ownBlock=γ g->¬g=gH:=fun g J e=>by
  subst e;exact h.g.r.own.ne h.bH aj J
 refine⟨⟨h.g.r.mod D (fun k K=>by have K:k=gH:=K;omega) F I,h.g.c13,h.g.bB.mod D (Blk.eF h.g.bB h.bH aj),lB,fun j P=>(h.g.wy j P).mod D F (fun g J=> .inr (.inr (.inr J)))⟩,?_,lH,h.b6.mod D (Blk.eF h.b6 h.bH aj),h.b7.mod D (Blk.eF h.b7 h.bH aj),fun k K=> ?_,h.ends,h.c14,h.liv⟩
 .have G:=bR (m*20) r.cs h.bH;rw[ji,fJ,Λ (l:=r.cs) (by rw[fJ,iJ];omega)] at G;rw[L];have N:=Le (B:=H) (k:=m) (n:=n1*2) r O;rw[N] at G;exact G
 .by_cases e:k=m
  .subst e;rw[upd_same];exact M.fo D F
  .rw[upd_ne e];exact(h.hv k aa).fo D F
def Li.push(h:Li w W gx gf gB gH g6 g7 ST FL C Bv wv H s p f n1 brs fv m){b r K}(I:oW W r b)(G:mK W' w.heap.size K (brs.length+1) (upd Bv brs.length r))(F:Mod (fun g=>(C 0).ownBlock=γ g) W W')(hv:∀g,K.ownBlock=γ g->(C 0).ownBlock=γ g\/g=W.heap.size)(D:W2=W'.setCell ⟨gx,0,δ⟩ K):
  Li w W2 gx gf gB gH g6 g7 ST FL (upd C 0 K) (upd Bv brs.length r) wv H s p f n1 (brs++[b]) fv m:=by
 obtain⟨J,j,L⟩:=h.g.push I G F hv D;refine⟨J,h.bH.mod j ?_,h.lH,h.b6.mod j ?_,h.b7.mod j ?_,fun k B=>(h.hv k B).fo j L,fun l e Z j=> ?_,?_,fun k B=> ?_⟩
 .rintro(e|e)
  .exact Blk.eF h.bH h.g.r.g aj e
  .exact h.g.r.own.ne h.bH aj e
 .rintro(e|e)
  .exact Blk.eF h.b6 h.g.r.g aj e
  .exact h.g.r.own.ne h.b6 aj e
 .exact Abv
 .rw[upd_ne aa];exact h.ends l e Z j
 .rw[upd_ne aa];exact h.c14
 .rw[upd_ne aa];exact h.liv k B
def afF(G:Gs w W gx gf gB gB C Bv brs s.bays.length wv (wd0 s p s.bays.length))(U:∀l e,l<6->e<2->C (1+2*l+e)=.int .i64 (dY s p l e:Nat))(F:C 14=.int .i64 (fv:Int))(Z:∀k,k<18->C (15+k)=.bool ζ)(x:Ext W W2)(b6:Blk W2 g6 27 ST)(b7:Blk W2 g7 33 FL):
  Li w (W2.alloc (.cells (brc (n1*2) fun _=>jY).toArray 221)) gx gf gB W2.heap.size g6 g7 ST FL C Bv wv (fun _=>jY) s p f n1 brs fv 0:=by
 have D:Ext W2 (W2.alloc (.cells (brc (n1*2) fun _=>jY).toArray 221)):=Ext.new _ _;have B:=(G.ext x).ext D;have hs:=(G.ext x).r.m.size;exact⟨⟨B.r,B.c13,B.bB,B.lB,fun j I=>((G.wy j I).ext x).Wi D (κ _)⟩,Blk.new _ _ _,hs,b6.ext D,b7.ext D,fun k H=>absurd H aa,U,F,Z⟩
end
def MV:(prog.info? 221).map (fun i=>(i.zero,i.size,i.bytes))=γ (γ (.agg (brc 2 fun _=>jY).toArray),40,608):=ah
def yh:∀n:Nat,mQ n (brc 2 fun _=>jY)=brc (n*2) fun _=>jY
 |0=>rfl
 |n+1=>by
  rw[pI,yh n,yQ,show(n+1)*2=n*2+2 by omega];simp only[ac3]
def Hy(n:Nat)(hn:n<=1000)(W:World):(Instr.makeSlice 220 (.int .i64 n) (.int .i64 n)).run prog W=.ok (.slice (γ ⟨W.heap.size,0,δ⟩) n n) (W.alloc (.cells (brc (n*2) fun _=>jY).toArray 221)):=by
 obtain⟨i0,Q,l,B,j⟩:=abL MV;have h:=acV (P:=prog) W 220 221 i0 (.agg (brc 2 fun _=>jY).toArray) underlying220 Q l .i64 .i64 n n aa aa Abj aa;rw[h,B];have e:=pW (brc 2 fun _=>jY) (by rw[iJ];omega) n;rw[iJ,yh] at e;simp only[I6];rw[show(Value.agg (brc 2 fun _=>jY).toArray).cells=(brc 2 fun _=>jY).toArray from rfl,e]
def yM{w wd j:World}{t}{z cs:List Value}(Z:z.length=cs.length)(hd:wd=w.alloc (.cells z.toArray t))(U:j=puts wd w.heap.size 0 cs):Blk j w.heap.size t cs.toArray/\Ext w j:=by
 have l:Blk wd w.heap.size t z.toArray:=by rw[hd];exact Blk.new _ _ _
 have H:Ext w wd:=by rw[hd];exact Ext.new _ _
 refine⟨?_,by rw[U];exact fw (κ _:Own w w.heap.size) 0 _ H⟩;have B:Blk (puts wd w.heap.size 0 cs) w.heap.size t (fI z.toArray 0 cs):=bR 0 cs l;rw[fU z cs Z] at B;rw[U];exact B
def twC (a b:Int):List Value:=[.int .i64 a,.int .i64 b]
def Eh(a b):(prog.info? 64).map (·.size)=γ (twC a b).length:=ah
theorem O8(a b):∀v∈twC a b,v.oneCell'=ε:=by
 intro v hv;unfold twC at hv;simp only[ψ,RS,aaU] at hv;rcases hv with rfl|rfl<;>rfl
def mK.form{w B0 k v B}(h:mK w B0 v k B)(j:0<k):∃g c,v=.slice (γ ⟨g,0,δ⟩) k c:=by
 rcases h with ⟨_,h⟩|⟨g,F,_,h,_⟩
 .omega
 .exact⟨g,F,h⟩
def ru(s p):∀i,(fM s p i).length<=i
 |0=>κ _
 |i+1=>by
  show(fM s p i++(fV s p i).toList).length<=i+1;have:=ru s p i;cases fV s p i<;>simp<;>omega
def QK:(prog.info? 42).map (·.zero)=γ (γ (.agg zEn.cells.toArray)):=ah
def RY(a:En):(prog.info? 42).map (·.size)=γ a.cells.length:=ah
def Ut{w W W':World}{g}{a:En}(hb:Blk W g 42 zEn.cells.toArray)(F:Ext w W)(Z:w.heap.size<=g)(B:W'=puts W g 0 a.cells):Blk W' g 42 a.cells.toArray/\Ext w W'/\∀(v:Value) (q:GQ) (n:Nat),GV W v q n->GV W' v q n:=by
 have C:Mod (fun k=>k=g) W W':=by rw[B];exact Mod.puts _ _ _ _ rfl
 have D:Far (fun k=>k=g) W:=fun k j _=>by
  have j:k=g:=j;rw[j];exact⟨_,_,hb,dm 1 (fun _=>zEn)⟩
 refine⟨?_,fC F C (fun k j=>by have j:k=g:=j;omega),fun v q n h=>h.mod C D⟩;have l:=bR 0 a.cells hb;rw[fU _ _ rf] at l;rw[B];exact l
def vW(a b:En):(prog.info? 103).map (·.size)=γ (a.cells++b.cells).length:=ah
def wN(a b:En):∀v∈a.cells++b.cells,v.oneCell'=ε:=by
 intro v hv;rcases aag.1 hv with h|h
 .exact dM a v h
 .exact dM b v h
def mi(b:BrV):(prog.info? 167).map (·.size)=γ b.cs.length:=by rw[fJ];kernel_rfl
def zR{w W W':World}{g}{a b:En}(hb:Blk W g 103 (aM 2 fun _=>zEn).toArray)(F:Ext w W)(Z:w.heap.size<=g)(B:W'=puts W g 0 (a.cells++b.cells)):Blk W' g 103 (a.cells++b.cells).toArray/\Ext w W'/\∀(v:Value) (q:GQ) (n:Nat),GV W v q n->GV W' v q n:=by
 have C:Mod (fun k=>k=g) W W':=by rw[B];exact Mod.puts _ _ _ _ rfl
 have D:Far (fun k=>k=g) W:=fun k j _=>by
  have j:k=g:=j;rw[j];exact⟨_,_,hb,dm 2 _⟩
 refine⟨?_,fC F C (fun k j=>by have j:k=g:=j;omega),fun v q n h=>h.mod C D⟩;have l:=bR 0 (a.cells++b.cells) hb;rw[fU _ _ rf] at l;rw[B];exact l
def Em:List Value:=[.string ByteArray.empty,.int .i64 0,.int .i64 0,.int .i64 0,.int .i64 0]
def LY:(prog.info? 63).map (·.zero)=γ (γ (.agg Em.toArray)):=ah
def C8(g):(prog.info? 63).map (·.size)=γ (mo g).length:=ah
theorem NY(b):∀v∈mo b,v.oneCell'=ε:=by
 intro v hv;unfold mo at hv;simp only[ψ,RS,aaU] at hv;rcases hv with rfl|rfl|rfl|rfl|rfl<;>rfl
theorem yC(s p f):∀l,(eU s p f l).length<=2*l
 |0=>κ _
 |l+1=>by
  show(eU s p f l++jg s p f l).length<=2*(l+1);have:=yC s p f l;unfold jg;split<;>simp<;>omega
def Ae:∀(a b:List Value) (w:World) (g k:Nat),puts w g k (a++b)=puts (puts w g k a) g (k+a.length) b
 |[],b,w,g,k=>rfl
 |x::a,b,w,g,k=>by
  show puts (w.setCell ⟨g,k,δ⟩ x) g (k+1) (a++b)=puts (puts (w.setCell ⟨g,k,δ⟩ x) g (k+1) a) g (k+(a.length+1)) b;rw[Ae a b,show k+(a.length+1)=k+1+a.length by omega]
def Li.rng{w W gx gf gB gH g6 g7 n1 fv m ST FL C Bv wv H s p f brs}(h:Li w W gx gf gB gH g6 g7 ST FL C Bv wv H s p f n1 brs fv m){k o}(l:k<n1*2)(B:o=k*20):W.rangeAt gH o (H k).cs:=fun t v hv=>by
 have j:t<20:=by have:=(μ.1 hv).1;rwa[fJ] at this
 subst B;rw[h.bH.cell,Ξ,uU j l];exact hv
def C9(a b:BrV):(prog.info? 221).map (·.size)=γ (a.cs++b.cs).length:=by rw[q8,fJ,fJ];kernel_rfl
def EX(a b:BrV):∀v∈a.cs++b.cs,v.oneCell'=ε:=by
 intro v hv;rcases aag.1 hv with h|h
 .exact ve a v h
 .exact ve b v h
theorem Li.fin{w W W' gx gf gB gH g6 g7 ST FL C Bv wv L H s p f fv}(h:Li w W gx gf gB gH g6 g7 ST FL C Bv wv H s p f s.lines.length (bI s p f) fv (2*s.lines.length))(Q:fv=dK s p f)(M:iT s)(O:Mod (fun k=>k=gB) W W')(hb:fA W' gB 165 s.bays.length L)(T:∀j,j<s.bays.length->L j=if (s.bays.getD j η).kind=1 then .pointer (γ ⟨gH,(s.bays.getD j η).obj.toNat*40+(s.bays.getD j η).en.toNat*20,δ⟩) else wv j):BH w W' gx gf C Bv s p f:=by
 have S:=h.g.VI (fun j K=>(h.g.wy j K).mr);have lB:=h.g.lB;have lx:=h.g.r.lx;have lH:=h.lH;have F:gH≠gB:=Blk.eF h.bH h.g.bB aj;refine⟨h.g.r.mod O (fun k I=>by have I:k=gB:=I;omega) S (fun g P e=> ?_),h.ends,by rw[<-Q];exact h.c14,h.liv,gB,L,h.g.c13,lB,hb,fun j K=> ?_⟩
 .have e:g=gB:=e;subst e;exact h.g.r.own.ne h.g.bB aj P
 .rw[T j K];by_cases I:(s.bays.getD j η).kind=1
  .rw[ι I];have ho:=MF (M.obj j K) I;have U:=IW (M.rng j K);obtain⟨l,Z⟩:∃l:Nat,(s.bays.getD j η).obj.toNat=l:=⟨_,rfl⟩;obtain⟨e,B⟩:∃e:Nat,(s.bays.getD j η).en.toNat=e:=⟨_,rfl⟩;have V:l<s.lines.length:=aa;have Y:e<2:=aa;have D:way s p f j=γ (hfs s p f (2*l+e)):=by
    unfold way hfs;rw[ι I,Z,B,show(2*l+e)/2=l by omega,show(2*l+e)%2=e by omega]
   rw[D,Z,B];have G:=(h.hv (2*l+e) aa).fo O S;have R:=h.rng (k:=2*l+e) (o:=l*40+e*20) aa aa;exact⟨⟨gH,l*40+e*20,H (2*l+e),rfl,aa,π h.bH.lt O.size,fun t u N=>vX O h.bH.lt F (R t u N),G.pa,G.pb,G.z0,G.z1,G.e⟩,fun g k J=>by injection J with J;injection J with J;injection J with J _ _;omega⟩
  .rw[θ I];have D:way s p f j=wd0 s p s.bays.length j:=by unfold way wd0;rw[θ I,ι K]
   rw[D];exact⟨((h.g.wy j K).mod O S (fun g P=> .inr (.inr (.inl P)))).is lx,fun g k J=>(h.g.wy j K).low J⟩
def ix0(a b V):Sem.run prog (Instr.index 64 (.agg #[.int .i64 a,.int .i64 b]) (.int .i64 0)) V=.ok (.int .i64 a) V:=ah
def ix1(a b V):Sem.run prog (Instr.index 64 (.agg #[.int .i64 a,.int .i64 b]) (.int .i64 1)) V=.ok (.int .i64 b) V:=ah
def RH:(prog.info? 64).map (·.zero)=γ (γ (.agg (twC 0 0).toArray)):=ah
theorem Dt{A0 n0 c0 A1 n1 c1 A2 n2 c2 A3 n3 c3 LH s p C Bv wv}(f gx gf gB wa w W)(Yt:Ext wa w)(Xu:wa.heap.size<=gx)(hs:kY wa A0 n0 c0 A1 n1 c1 A2 n2 c2 A3 n3 c3 LH s)(Wu:iT s)(Xr:lD s.buses.length s.lines.length f)(hG:Gs w W gx gf gB gB C Bv (fM s p s.bays.length) s.bays.length wv (wd0 s p s.bays.length))(U:∀l e,l<6->e<2->C (1+2*l+e)=.int .i64 (dY s p l e:Nat))(XY:C 14=.int .i64 ((if f.kind≠0/\f.line=ζ then 13+((groups s p).getD f.obj.toNat 0).toNat else 17:Nat):Int))(Z:∀k,k<18->C (15+k)=.bool ζ):
  Calls prog 122 #[.pointer (γ ⟨gx,0,δ⟩),.pointer (γ ⟨gf,0,δ⟩),stV s.name A0 n0 c0 A1 n1 c1 A2 n2 c2 A3 n3 c3,oU f] W fun r W'=>r=.returned (.tuple #[])/\∃C' YP,BH w W' gx gf C' YP s p f:=by
 obtain rfl:=hs.l1;obtain rfl:=hs.l3;obtain⟨f0,Zm⟩:∃n:Nat,(if f.kind≠0/\f.line=ζ then 13+((groups s p).getD f.obj.toNat 0).toNat else 17)=n:=⟨_,rfl⟩;rw[Zm] at XY;have Zp:=aJ Zm;have XH:=aJ Yt;have XA:=aJ Xu;have Wp:=aJ hs;have WH:=aJ Wu;have XF:=aJ Xr;obtain⟨P,WA,WT⟩:=an2 W 27 #[.string s.name,.slice A0 n0 c0,.slice A1 s.lines.length c1,.slice A2 n2 c2,.slice A3 s.bays.length c3] 33 #[.int .i64 f.kind,.bool f.line,.int .i64 f.obj,.int .i64 f.num,.int .i64 f.den,.int .i64 f.r];have Wz:=aJ (afF (f:=f) (n1:=s.lines.length) (W2:=((W.alloc (.cells #[.string s.name,.slice A0 n0 c0,.slice A1 s.lines.length c1,.slice A2 n2 c2,.slice A3 s.bays.length c3] 27)).alloc (.cells #[.int .i64 f.kind,.bool f.line,.int .i64 f.obj,.int .i64 f.num,.int .i64 f.den,.int .i64 f.r] 33))) hG U XY Z P WA WT);have k6:=WA.cell;have Zq:=Wz.b6.cell;have Xt:=fun V=>Hy s.lines.length (by have:=WH.nl;omega) V;clear Yt Xu hs Wu Xr hG U XY Z Zm P;unfold stV oU;go_enter func122,ntmps122;(go_wp2_with fail);clear k6 Zq Xt WA WT;(try simp only[bF] at Wz⊢);generalize (((W.alloc (.cells #[.string s.name,.slice A0 n0 c0,.slice A1 s.lines.length c1,.slice A2 n2 c2,.slice A3 s.bays.length c3] 27)).alloc (.cells #[.int .i64 f.kind,.bool f.line,.int .i64 f.obj,.int .i64 f.num,.int .i64 f.den,.int .i64 f.r] 33)).alloc (.cells (brc (s.lines.length*2) fun _=>jY).toArray 221))=W0 at Wz⊢;generalize W.heap.size+1+1=gH at Wz⊢;generalize W.heap.size+1=g7 at Wz⊢;generalize W.heap.size=g6 at Wz⊢;go_loopw [25] (fun iv wr=>∃l:Nat,l<=s.lines.length/\iv=.int .i64 l/\∃C Bv H,Li w wr gx gf gB gH g6 g7 #[.string s.name,.slice A0 n0 c0,.slice A1 s.lines.length c1,.slice A2 n2 c2,.slice A3 s.bays.length c3] #[.int .i64 f.kind,.bool f.line,.int .i64 f.obj,.int .i64 f.num,.int .i64 f.den,.int .i64 f.r] C Bv wv H s p f s.lines.length (fM s p s.bays.length++eU s p f l) (if f.line=ε/\f.obj<(l:Int) then 12 else f0) (2*l)) (fun iv _=>s.lines.length-(intOf iv).toNat)
 case atStart=>
  refine⟨0,aa,rfl,C,Bv,fun _=>jY,?_⟩;have e1:(if f.line=ε/\f.obj<((0:Nat):Int) then 12 else f0)=f0:=θ (fun e=>by have:=(XF.line e.1).1.1;omega);rw[e1,show eU s p f 0=[] from rfl,aaj];exact Wz.o
 case round=>
  clear Wz;obtain⟨l,Z,rfl,C,Bv,H,hR⟩:=hrel;have I:=aJ hR;clear hR;rename World=>wr;by_cases Wj:l<s.lines.length
  .have hd:decide ((l:Int)<(s.lines.length:Int))=ε:=ae;have q1:(0:Int)<=(l:Int):=aa;have q2:(l:Int)<(s.lines.length:Int):=aa;have Yn:l<6:=by have:=WH.nl;omega
   have q3:(l:Int)<6:=aa;have XG:wrap64 ((l:Int)+1)=(l:Int)+1:=pz _ aa;have Xy:=aJ XG;clear XG;have WL:=ru s p s.bays.length;have XQ:=yC s p f l;have YE:=WH.nq;obtain⟨bb,Ww⟩:∃x,fM s p s.bays.length++eU s p f l=x:=⟨_,rfl⟩;have Xm:Hid (bb.length<=28):=aJ (by rw[<-Ww,q8];omega);rw[Ww] at I;have WR:=aJ Ww;clear Ww;clear WL XQ YE;have Zo:=Wp.ext (I.g.older XH.o XA.o);obtain⟨b,WU⟩:∃b,s.lines.getD l η=b:=⟨_,rfl⟩;obtain⟨gl,ol,YI,XZ,XK⟩:=Zo.lines.at_ Wj;rw[WU] at XK;subst YI;have YX:=WH.line l Wj;rw[WU] at YX;have Wt:=pU.1 YX.1;have WG:=pU.1 YX.2;have WK:=aJ Wt;have WJ:=aJ WG;have WO:=aJ WU;clear WU YX Wt WG Zo;have Wn:=aJ (show wr.rangeAt gl (ol+l*5) (mo b) from XK);clear XK XZ;(go_wp2_with (refine σ rfl 63 _ rfl gl (ol+l*5) rf (mo b) _ Wn.o acP rfl (C8 _) (Hid.o ?_)));refine aJ ?_;refine Qp ?_;(go_wp2_with (refine aS rfl 63 rfl _ LY (fun Yw Q=>Hid.o ?_)));refine aJ ?_;refine Qp ?_;replace Q:=Hid.o Q;have Xx:=aJ Q;clear Q;have O:Hid (Yw.there wr.heap.size 0 (mo b).length):=aJ (by rw[Xx.o];exact(Blk.new wr 63 Em.toArray).there (show 0+(mo b).length<=Em.toArray.size from κ 5));(go_wp2_with (refine aL rfl 63 (.tmp 10) (.tmp 29) rfl wr.heap.size (0) (mo b) rf rf O.o (C8 _) (NY _) (fun Xq Q=>Hid.o ?_)));refine aJ ?_;refine Qp ?_;replace Q:=Hid.o Q;have HO:=yM (z:=Em) (cs:=mo b) rfl Xx.o Q;have B:Hid (Blk Xq wr.heap.size 63 #[.string b.name,.int .i64 b.z1.r,.int .i64 b.z1.x,.int .i64 b.z0.r,.int .i64 b.z0.x]):=aJ HO.1;replace I:=I.aA HO.2;clear HO Xx Q O Wn;generalize wr.heap.size=g10 at B⊢;obtain⟨ea,XX⟩:∃n:Nat,dY s p l 0=n:=⟨_,rfl⟩;obtain⟨eb,XW⟩:∃n:Nat,dY s p l 1=n:=⟨_,rfl⟩;have X8:=aJ XX;have Yd:=aJ XW;clear XX XW;have Wn:Hid (Xq.rangeAt gx (1+l*2) (twC (ea:Int) (eb:Int))):=aJ (I.g.r.g.rangeAt (by show 1+l*2+2<=393;omega) (fun j v hv=>by
    have hj:j<2:=(μ.1 hv).1;have h2:j=0\/j=1:=aa;rcases h2 with rfl|rfl
    .have h3:=I.ends l 0 Yn aa;rw[X8.o] at h3;rw[dz aa,show 1+l*2+0=1+2*l+0 by omega,h3];simpa[twC] using hv
    .have h3:=I.ends l 1 Yn aa;rw[Yd.o] at h3;rw[dz aa,show 1+l*2+1=1+2*l+1 by omega,h3];simpa[twC] using hv))
   (go_wp2_with (refine σ rfl 64 _ rfl gx (1+l*2) rf (twC (ea:Int) (eb:Int)) _ Wn.o underlying64 rfl (Eh _ _) (Hid.o ?_)));refine aJ ?_;refine Qp ?_;(go_wp2_with (refine aS rfl 64 rfl _ RH (fun ac Q=>Hid.o ?_)));refine aJ ?_;refine Qp ?_;replace Q:=Hid.o Q;have YR:=aJ Q;clear Q;have O:Hid (ac.there Xq.heap.size 0 (twC (ea:Int) (eb:Int)).length):=aJ (by rw[YR.o];exact(Blk.new Xq 64 (twC 0 0).toArray).there (show 0+(twC (ea:Int) (eb:Int)).length<=(twC 0 0).toArray.size from κ 2));(go_wp2_with (refine aL rfl 64 (.tmp 11) (.tmp 35) rfl Xq.heap.size (0) (twC (ea:Int) (eb:Int)) rf rf O.o (Eh _ _) (O8 _ _) (fun XP Q=>Hid.o ?_)));refine aJ ?_;refine Qp ?_;replace Q:=Hid.o Q;have HO:=yM (z:=twC 0 0) (cs:=twC (ea:Int) (eb:Int)) rfl YR.o Q;have Wy:Hid (Blk XP Xq.heap.size 64 #[.int .i64 (ea:Int),.int .i64 (eb:Int)]):=aJ HO.1;replace I:=I.aA HO.2;replace B:=B.aA HO.2;clear HO YR Q O Wn;generalize Xq.heap.size=Xh at Wy⊢;by_cases Xc:f.line=ε/\f.obj=(l:Int)
   .obtain⟨XD,Zc⟩:=Xc;have Yc:=aJ XD;have Zj:=aJ Zc;have Xl:=XF.line XD;have Wo:=aJ Xl;have XU:iB f l=ε:=by unfold iB;rw[XD,Zc];simp
    have WV:=aJ XU;clear XU XD Zc;have Wv:hfs s p f (2*l+0)=⟨ea,12,b.z0,b.z1,f.num,f.den,0⟩:=by unfold hfs;rw[show(2*l+0)/2=l by omega,show(2*l+0)%2=0 by omega];unfold half;simp only[];rw[WV.o,ι rfl,X8.o,WO.o]<;>simp
    have YV:hfs s p f (2*l+1)=⟨eb,12,b.z0,b.z1,f.den-f.num,f.den,0⟩:=by unfold hfs;rw[show(2*l+1)/2=l by omega,show(2*l+1)%2=1 by omega];unfold half;simp only[];rw[WV.o,ι rfl,Yd.o,WO.o]<;>simp
    have XJ:eU s p f (l+1)=eU s p f l++([⟨ea,12,b.z0,b.z1,f.num,f.den,0⟩]++[⟨eb,12,b.z0,b.z1,f.den-f.num,f.den,0⟩]):=by show eU s p f l++jg s p f l=_;rw[<-Wv,<-YV];unfold jg hfs;rw[WV.o,ι rfl,show(2*l+0)/2=l by omega,show(2*l+0)%2=0 by omega,show(2*l+1)/2=l by omega,show(2*l+1)%2=1 by omega];rfl
    have YC:(12:Nat)=(if f.line=ε/\f.obj<((l+1:Nat):Int) then 12 else f0):=by rw[ι ⟨Yc.o,by have:=Zj.o;omega⟩]
    have YG:=aJ Wv;have Zd:=aJ YV;have WF:=aJ XJ;have YF:=aJ YC;clear Wv YV XJ YC;have WT:=I.b7;rw[Yc.o,Zj.o] at WT;have k7:=WT.cell;clear WT;have kx:=I.g.r.g.cell (k:=14) aa;have fx:=I.g.r.g.frozen 14;have HQ:=aJ (I.set (W':=(XP.setCell ⟨gx,14,δ⟩ (.int .i64 12))) 12 rfl);have YL:Mod (fun k=>k=gx) XP (XP.setCell ⟨gx,14,δ⟩ (.int .i64 12)):=Mod.set _ _ _ _ rfl;have Ye:=B.mod YL (Blk.eF B.o I.g.r.g aj);have Yk:=Wy.mod YL (Blk.eF Wy.o I.g.r.g aj);replace B:=aJ Ye;replace Wy:=aJ Yk;clear YL Ye Yk;have ZY:=HQ.b7.cell;have Zk:wrap64 (f.den-f.num)=f.den-f.num:=pz _ aa;have Zw:=aJ Zk;(go_wp2_with fail);clear k7 ZY kx fx Zk Xl I;generalize (XP.setCell ⟨gx,14,δ⟩ (.int .i64 12))=Zt at HQ B Wy⊢;go_loopw [55] (fun iv wq=>∃e:Nat,e<=2/\iv=.int .i64 e/\Blk wq g10 63 #[.string b.name,.int .i64 b.z1.r,.int .i64 b.z1.x,.int .i64 b.z0.r,.int .i64 b.z0.x]/\Blk wq Xh 64 #[.int .i64 (ea:Int),.int .i64 (eb:Int)]/\∃C Bv H bc,bc=bb++(if e=0 then [] else if e=1 then [⟨ea,12,b.z0,b.z1,f.num,f.den,0⟩] else [⟨ea,12,b.z0,b.z1,f.num,f.den,0⟩]++[⟨eb,12,b.z0,b.z1,f.den-f.num,f.den,0⟩])/\Li w wq gx gf gB gH g6 g7 #[.string s.name,.slice A0 n0 c0,.slice (γ ⟨gl,ol,δ⟩) s.lines.length c1,.slice A2 n2 c2,.slice A3 s.bays.length c3] #[.int .i64 f.kind,.bool f.line,.int .i64 f.obj,.int .i64 f.num,.int .i64 f.den,.int .i64 f.r] C Bv wv H s p f s.lines.length bc 12 (2*l+e)) (fun iv _=>2-(intOf iv).toNat)
    case atStart=>exact⟨0,aa,rfl,B.o,Wy.o,_,_,_,_,(by rw[ι rfl,aaj]),HQ.o⟩
    case round=>
     clear HQ B Wy;obtain⟨e,U,rfl,XV,XN,C,Bv,H,bc,Xb,hR⟩:=hrel;have I:=aJ hR;have B:=aJ XV;have Wy:=aJ XN;clear hR XV XN;have h3:e=0\/e=1\/e=2:=aa;clear U;rcases h3 with rfl|rfl|rfl
     .rw[ι rfl,aaj] at Xb;subst Xb;have Yu:=aK.blk B.o;have YY:=aK.blk I.b7;have Yp:=fun a b V=>ix0 a b V;(go_wp2_with fail);clear Yp;refine tR 16 [(6,.gv (zq b.z0 f.num f.den) (64)),(13,.gv (zq b.z1 f.num f.den) (64)),(15,.box 103 (aM 2 fun _=>zEn).toArray)] ?_;refine Qs ?_;refine Ee (fun T J=>tH gf b.z0 f.num f.den _ (bM.ext I.g.r.c J.1) AbM AbM Adf Adf) ?_;intro e0 Yf Yg;refine Qs ?_;refine Ee (fun T J=>tH gf b.z1 f.num f.den _ (bM.ext I.g.r.c J.1) AcM AcM Adf Adf) ?_;intro e1 YM YQ;simp only[En.v,gv];refine Qs ?_;refine Eb ?_;intro Xa Za X6;refine bz ?_;intro wE J;have F:=J.ext;have Xf:=J.hR 6;have Xe:=J.hR 13;have WM:=J.hB 15;have Xk:=aJ (J.low 15 _ rf);clear X6;have R:=aJ F;clear J F;have O:=aJ (WM.there (o:=0) (n:=(e0.cells++e1.cells).length) Ach);refine aL rfl 103 (.tmp 14) (.tmp 73) rfl Xa (0) (e0.cells++e1.cells) rf rf O.o (vW _ _) (wN _ _) (fun Yb Q=> ?_);refine Qp ?_;replace Q:=Hid.o Q;obtain⟨Xp,Xn,Xz⟩:=zR WM.o R.o Xk.o Q;have Yj:Hid (Blk Yb Xa 103 #[.bool e0.s1,.slice e0.A1 e0.n1 e0.c1,.bool e0.s2,.slice e0.A2 e0.n2 e0.c2,.bool e0.s3,.slice e0.A3 e0.n3 e0.c3,.bool e1.s1,.slice e1.A1 e1.n1 e1.c1,.bool e1.s2,.slice e1.A2 e1.n2 e1.c2,.bool e1.s3,.slice e1.A3 e1.n3 e1.c3]):=aJ Xp;have D:=aJ (Xz _ _ _ Xf.o);have WW:=aJ (Xz _ _ _ Xe.o);replace I:=I.aA Xn;replace Wy:=Wy.aA Xn;replace B:=B.aA Xn;clear Xp Xn Xz Q O R Xf Xe WM Xk Yu YY;have Yv:=aK.blk Wy.o;have Ze:=aK.blk Yj.o;(go_wp2_with fail);refine tR 12 [(8,.gv (GQ.i 0 0) (64))] ?_;refine Qs ?_;refine Ee (fun T J=>bO gf 0 _ (bM.ext I.g.r.c J.1) aa aa) ?_;intro e2 YS YT;simp only[En.v,gv];refine Qs ?_;refine bz ?_;intro wE J;have F:=J.ext;have Xj:=J.hR 8;have R:=aJ F;clear J F;have Yr:oW wE (⟨ea,12,e0,e1,e2⟩:BrV) (hfs s p f (2*l+0)):=by rw[YG.o];exact⟨rfl,rfl,D.ext R.o,WW.ext R.o,Xj.o⟩
      have X4:=aJ Yr;clear Yr;replace I:=I.aA R.o;replace Wy:=Wy.aA R.o;replace B:=B.aA R.o;have O:Hid (wE.there gH (l*40) (⟨ea,12,e0,e1,e2⟩:BrV).cs.length):=aJ (I.bH.there (by rw[nS,iJ,fJ];omega));refine aL rfl 167 (.tmp 85) (.tmp 83) rfl gH (l*40) ((⟨ea,12,e0,e1,e2⟩:BrV).cs) rf rf O.o (mi _) (ve _) (fun N Q=> ?_);refine Qp ?_;replace Q:=Hid.o Q;have hW:N=puts wE gH ((2*l+0)*20) (⟨ea,12,e0,e1,e2⟩:BrV).cs:=by rw[Q,show l*40=(2*l+0)*20 by omega]
      have WZ:=I.half X4.o aa hW;have YN:Mod (fun k=>k=gH) wE N:=by rw[hW];exact Mod.puts _ _ _ _ rfl
      have Ye:=B.mod YN (Blk.eF B.o I.bH aj);have Yk:=Wy.mod YN (Blk.eF Wy.o I.bH aj);replace B:=aJ Ye;replace Wy:=aJ Yk;clear YN Ye Yk;obtain⟨H2,XR⟩:∃h,upd H (2*l+0) (⟨ea,12,e0,e1,e2⟩:BrV)=h:=⟨_,rfl⟩;rw[XR] at WZ;have XB:H2 (2*l+0)=(⟨ea,12,e0,e1,e2⟩:BrV):=by rw[<-XR,upd_same]
      have WN:=WZ.rng (k:=2*l+0) (o:=l*40) aa aa;rw[XB] at WN;have WQ:=WZ.hv (2*l+0) aa;rw[XB,YG.o] at WQ;have G:=aJ WZ;have Wn:=aJ WN;have WS:=aJ WQ;clear hW WZ XR XB WN WQ Q O I X4 R Yj D WW Xj Yv Ze;(go_wp2_with fail);have XT:=fun x=>Kp3.a (b:=gx) (c:=gx) (G.g.r.g.cell_ (k:=0) aa (dz aa)) x;refine gz 13 (fun w'=>∃x:Kp3 N gx gx gx,w'=x.val) [(ε,0),(ε,1),(ε,2),(ε,3),(ε,4),(ε,5),(ε,6),(ε,7),(ε,8),(ε,9),(ζ,10),(ζ,11),(ζ,12)] ah ah ⟨⟨N.drew,rfl,rfl,rfl⟩,rfl⟩ ?_;refine aV [0,1,2,3,4,5,6,7,8,9] [(ζ,10),(ζ,11),(ζ,12)] _ ah ?_;simp only[cZ,aZ,ξ,ο];(repeat (go_big_quiet_step (fail)));refine τ ?_;clear XT;refine aT 10 [(ζ,11),(ζ,12)] ah ?_;intro K J;simp only[aZ];(go_wp2_with (refine σ rfl 167 _ rfl gH (l*40) rf ((⟨ea,12,e0,e1,e2⟩:BrV).cs) _ Wn.o aas rfl (mi _) (Hid.o ?_)));refine aJ ?_;refine Qp ?_;(go_wp2_with fail);refine J _ _ ⟨⟨N.drew,rfl,rfl,rfl⟩,rfl⟩ ?_;clear J K Wn;simp only[BrV.cs];refine aT 11 [(ζ,12)] ah ?_;intro K J;simp only[aZ];(go_wp2_with fail);have XI:Hid (Blk (N.drew.alloc (.cells (⟨ea,12,e0,e1,e2⟩:BrV).cs.toArray 167)) N.heap.size 167 (⟨ea,12,e0,e1,e2⟩:BrV).cs.toArray):=aJ (Blk.new N.drew _ _);have WB:Hid (Ext N (N.drew.alloc (.cells (⟨ea,12,e0,e1,e2⟩:BrV).cs.toArray 167))):=aJ ((Ext.refl N).drew.trans (Ext.new _ _));refine J _ _ (Kp3.of (S:=fun _=>False) (aeI WB.o) G.g.r.g.lt G.g.r.g.lt G.g.r.g.lt id id id) ?_;clear J K;have L:=aJ (G.ext WB.o);have WE:=G.g.r.m.size;refine aT 12 [] ah ?_;intro K J;simp only[aZ];(go_wp2_with (at_builtin;refine jw rfl (.tmp 90) (.tmp 97) rfl rf rf L.g.r.own Adm (nk WE WB.size) XI.o (fun v2 w2 Wx WX M=> ?_)));obtain⟨Yo,XO,Xv⟩:=Wx.form aa;subst Xv;refine Qp ?_;go_wp2;refine J _ _ (Kp3.of ((aeI WB.o).trans WX) G.g.r.g.lt G.g.r.g.lt G.g.r.g.lt (L.g.r.own.ne L.g.r.g aj) (L.g.r.own.ne L.g.r.g aj) (L.g.r.own.ne L.g.r.g aj)) ?_;clear J K;simp only[bT,ρ,χ];have WY:=L.g.r.g.mod WX (L.g.r.own.ne L.g.r.g aj);have kx:=WY.cell (k:=0) aa;have fx:=WY.frozen 0;have Xg:=aJ (L.push (W2:=w2.setCell ⟨gx,0,δ⟩ (.slice (γ ⟨Yo,0,δ⟩) (bc.length+1) XO)) (WS.ext WB.o) Wx WX M rfl);have Yy:=(L.g.push (W2:=w2.setCell ⟨gx,0,δ⟩ (.slice (γ ⟨Yo,0,δ⟩) (bc.length+1) XO)) (WS.ext WB.o) Wx WX M rfl).2.1;have XE:=B.ext WB.o;replace B:=aJ (XE.mod Yy AaH);clear XE;have XE:=Wy.ext WB.o;replace Wy:=aJ (XE.mod Yy AaH);clear XE;clear Yy;clear L G WS XI WB WY Wx WX M WE;go_wp2_with fail
      go_roundw
      case rel=>exact⟨1,aa,rfl,B.o,Wy.o,_,_,_,_,(by rw[θ aj,ι rfl]),Xg.o⟩
      case measure=>simp[intOf]
     .rw[θ aj,ι rfl] at Xb;have YU:=aJ Xb;clear Xb;have Zn:=Xm;clear Xm;have Xm:Hid (bc.length<=29):=aJ (by rw[YU.o,q8];have:=Zn.o;simp;omega);have Yu:=aK.blk B.o;have YY:=aK.blk I.b7;have Yp:=fun a b V=>ix1 a b V;(go_wp2_with fail);clear Yp;refine tR 16 [(6,.gv (zq b.z0 (f.den-f.num) f.den) (64)),(13,.gv (zq b.z1 (f.den-f.num) f.den) (64)),(15,.box 103 (aM 2 fun _=>zEn).toArray)] ?_;refine Qs ?_;refine Ee (fun T J=>tH gf b.z0 (f.den-f.num) f.den _ (bM.ext I.g.r.c J.1) AbM AbM Adf Adf) ?_;intro e0 Yf Yg;refine Qs ?_;refine Ee (fun T J=>tH gf b.z1 (f.den-f.num) f.den _ (bM.ext I.g.r.c J.1) AcM AcM Adf Adf) ?_;intro e1 YM YQ;simp only[En.v,gv];refine Qs ?_;refine Eb ?_;intro Xa Za X6;refine bz ?_;intro wE J;have F:=J.ext;have Xf:=J.hR 6;have Xe:=J.hR 13;have WM:=J.hB 15;have Xk:=aJ (J.low 15 _ rf);clear X6;have R:=aJ F;clear J F;have O:=aJ (WM.there (o:=0) (n:=(e0.cells++e1.cells).length) Ach);refine aL rfl 103 (.tmp 14) (.tmp 73) rfl Xa (0) (e0.cells++e1.cells) rf rf O.o (vW _ _) (wN _ _) (fun Yb Q=> ?_);refine Qp ?_;replace Q:=Hid.o Q;obtain⟨Xp,Xn,Xz⟩:=zR WM.o R.o Xk.o Q;have Yj:Hid (Blk Yb Xa 103 #[.bool e0.s1,.slice e0.A1 e0.n1 e0.c1,.bool e0.s2,.slice e0.A2 e0.n2 e0.c2,.bool e0.s3,.slice e0.A3 e0.n3 e0.c3,.bool e1.s1,.slice e1.A1 e1.n1 e1.c1,.bool e1.s2,.slice e1.A2 e1.n2 e1.c2,.bool e1.s3,.slice e1.A3 e1.n3 e1.c3]):=aJ Xp;have D:=aJ (Xz _ _ _ Xf.o);have WW:=aJ (Xz _ _ _ Xe.o);replace I:=I.aA Xn;replace Wy:=Wy.aA Xn;replace B:=B.aA Xn;clear Xp Xn Xz Q O R Xf Xe WM Xk Yu YY;have Yv:=aK.blk Wy.o;have Ze:=aK.blk Yj.o;(go_wp2_with fail);refine tR 12 [(8,.gv (GQ.i 0 0) (64))] ?_;refine Qs ?_;refine Ee (fun T J=>bO gf 0 _ (bM.ext I.g.r.c J.1) aa aa) ?_;intro e2 YS YT;simp only[En.v,gv];refine Qs ?_;refine bz ?_;intro wE J;have F:=J.ext;have Xj:=J.hR 8;have R:=aJ F;clear J F;have Yr:oW wE (⟨eb,12,e0,e1,e2⟩:BrV) (hfs s p f (2*l+1)):=by rw[Zd.o];exact⟨rfl,rfl,D.ext R.o,WW.ext R.o,Xj.o⟩
      have X4:=aJ Yr;clear Yr;replace I:=I.aA R.o;replace Wy:=Wy.aA R.o;replace B:=B.aA R.o;have O:Hid (wE.there gH (l*40+20) (⟨eb,12,e0,e1,e2⟩:BrV).cs.length):=aJ (I.bH.there (by rw[nS,iJ,fJ];omega));refine aL rfl 167 (.tmp 85) (.tmp 83) rfl gH (l*40+20) ((⟨eb,12,e0,e1,e2⟩:BrV).cs) rf rf O.o (mi _) (ve _) (fun N Q=> ?_);refine Qp ?_;replace Q:=Hid.o Q;have hW:N=puts wE gH ((2*l+1)*20) (⟨eb,12,e0,e1,e2⟩:BrV).cs:=by rw[Q,show l*40+20=(2*l+1)*20 by omega]
      have WZ:=I.half X4.o aa hW;have YN:Mod (fun k=>k=gH) wE N:=by rw[hW];exact Mod.puts _ _ _ _ rfl
      have Ye:=B.mod YN (Blk.eF B.o I.bH aj);have Yk:=Wy.mod YN (Blk.eF Wy.o I.bH aj);replace B:=aJ Ye;replace Wy:=aJ Yk;clear YN Ye Yk;obtain⟨H2,XR⟩:∃h,upd H (2*l+1) (⟨eb,12,e0,e1,e2⟩:BrV)=h:=⟨_,rfl⟩;rw[XR] at WZ;have XB:H2 (2*l+1)=(⟨eb,12,e0,e1,e2⟩:BrV):=by rw[<-XR,upd_same]
      have WN:=WZ.rng (k:=2*l+1) (o:=l*40+20) aa aa;rw[XB] at WN;have WQ:=WZ.hv (2*l+1) aa;rw[XB,Zd.o] at WQ;have G:=aJ WZ;have Wn:=aJ WN;have WS:=aJ WQ;clear hW WZ XR XB WN WQ Q O I X4 R Yj D WW Xj Yv Ze;(go_wp2_with fail);have XT:=fun x=>Kp3.a (b:=gx) (c:=gx) (G.g.r.g.cell_ (k:=0) aa (dz aa)) x;refine gz 13 (fun w'=>∃x:Kp3 N gx gx gx,w'=x.val) [(ε,0),(ε,1),(ε,2),(ε,3),(ε,4),(ε,5),(ε,6),(ε,7),(ε,8),(ε,9),(ζ,10),(ζ,11),(ζ,12)] ah ah ⟨⟨N.drew,rfl,rfl,rfl⟩,rfl⟩ ?_;refine aV [0,1,2,3,4,5,6,7,8,9] [(ζ,10),(ζ,11),(ζ,12)] _ ah ?_;simp only[cZ,aZ,ξ,ο];(repeat (go_big_quiet_step (fail)));refine τ ?_;clear XT;refine aT 10 [(ζ,11),(ζ,12)] ah ?_;intro K J;simp only[aZ];(go_wp2_with (refine σ rfl 167 _ rfl gH (l*40+20) rf ((⟨eb,12,e0,e1,e2⟩:BrV).cs) _ Wn.o aas rfl (mi _) (Hid.o ?_)));refine aJ ?_;refine Qp ?_;(go_wp2_with fail);refine J _ _ ⟨⟨N.drew,rfl,rfl,rfl⟩,rfl⟩ ?_;clear J K Wn;simp only[BrV.cs];refine aT 11 [(ζ,12)] ah ?_;intro K J;simp only[aZ];(go_wp2_with fail);have XI:Hid (Blk (N.drew.alloc (.cells (⟨eb,12,e0,e1,e2⟩:BrV).cs.toArray 167)) N.heap.size 167 (⟨eb,12,e0,e1,e2⟩:BrV).cs.toArray):=aJ (Blk.new N.drew _ _);have WB:Hid (Ext N (N.drew.alloc (.cells (⟨eb,12,e0,e1,e2⟩:BrV).cs.toArray 167))):=aJ ((Ext.refl N).drew.trans (Ext.new _ _));refine J _ _ (Kp3.of (S:=fun _=>False) (aeI WB.o) G.g.r.g.lt G.g.r.g.lt G.g.r.g.lt id id id) ?_;clear J K;have L:=aJ (G.ext WB.o);have WE:=G.g.r.m.size;refine aT 12 [] ah ?_;intro K J;simp only[aZ];(go_wp2_with (at_builtin;refine jw rfl (.tmp 90) (.tmp 97) rfl rf rf L.g.r.own Adm (nk WE WB.size) XI.o (fun v2 w2 Wx WX M=> ?_)));obtain⟨Yo,XO,Xv⟩:=Wx.form aa;subst Xv;refine Qp ?_;go_wp2;refine J _ _ (Kp3.of ((aeI WB.o).trans WX) G.g.r.g.lt G.g.r.g.lt G.g.r.g.lt (L.g.r.own.ne L.g.r.g aj) (L.g.r.own.ne L.g.r.g aj) (L.g.r.own.ne L.g.r.g aj)) ?_;clear J K;simp only[bT,ρ,χ];have WY:=L.g.r.g.mod WX (L.g.r.own.ne L.g.r.g aj);have kx:=WY.cell (k:=0) aa;have fx:=WY.frozen 0;have Xg:=aJ (L.push (W2:=w2.setCell ⟨gx,0,δ⟩ (.slice (γ ⟨Yo,0,δ⟩) (bc.length+1) XO)) (WS.ext WB.o) Wx WX M rfl);have Yy:=(L.g.push (W2:=w2.setCell ⟨gx,0,δ⟩ (.slice (γ ⟨Yo,0,δ⟩) (bc.length+1) XO)) (WS.ext WB.o) Wx WX M rfl).2.1;have XE:=B.ext WB.o;replace B:=aJ (XE.mod Yy AaH);clear XE;have XE:=Wy.ext WB.o;replace Wy:=aJ (XE.mod Yy AaH);clear XE;clear Yy;clear L G WS XI WB WY Wx WX M WE;go_wp2_with fail
      go_roundw
      case rel=>exact⟨2,aa,rfl,B.o,Wy.o,_,_,_,_,(by rw[θ aj,θ aj,YU.o,Ha]),Xg.o⟩
      case measure=>simp[intOf]
     .rw[θ aj,θ aj] at Xb;have YU:=aJ Xb;clear Xb;go_wp2_with fail
      go_roundw
      case rel=>exact⟨l+1,aa,rf,_,_,_,by rw[WF.o,<-Ha,WR.o,<-YU.o,<-YF.o,show 2*(l+1)=2*l+2 by omega];exact I.o⟩
      case measure=>simp[intOf];omega
   .have YO:=aJ Xc;clear Xc;have XU:iB f l=ζ:=by unfold iB;cases hq:f.line<;>simp;exact fun e=>YO.o ⟨hq,e⟩
    have WV:=aJ XU;clear XU;have Wv:hfs s p f (2*l)=⟨ea,eb,b.z0,b.z1,1,1,0⟩:=by unfold hfs;rw[show 2*l/2=l by omega,show 2*l%2=0 by omega];unfold half;simp only[];rw[WV.o,θ aj,X8.o,show(1-0:Nat)=1 from rfl,Yd.o,WO.o]
    have YV:hfs s p f (2*l+1)=⟨eb,ea,b.z0,b.z1,1,1,0⟩:=by unfold hfs;rw[show(2*l+1)/2=l by omega,show(2*l+1)%2=1 by omega];unfold half;simp only[];rw[WV.o,θ aj,Yd.o,show(1-1:Nat)=0 from rfl,X8.o,WO.o]
    have XJ:eU s p f (l+1)=eU s p f l++[⟨ea,eb,b.z0,b.z1,1,1,0⟩]:=by show eU s p f l++jg s p f l=_;rw[<-Wv];unfold jg hfs;rw[WV.o,θ aj,show 2*l/2=l by omega,show 2*l%2=0 by omega]
    have YC:(if f.line=ε/\f.obj<(l:Int) then 12 else f0)=(if f.line=ε/\f.obj<((l+1:Nat):Int) then 12 else f0):=by
     by_cases h1:f.line=ε
     .have h2:f.obj≠(l:Int):=fun e=>YO.o ⟨h1,e⟩;by_cases h3:f.obj<(l:Int)
      .rw[ι ⟨h1,h3⟩,ι ⟨h1,aa⟩]
      .rw[θ (fun e=>h3 e.2),θ (fun e=>by have:=e.2;omega)]
     .rw[θ (fun e=>h1 e.1),θ (fun e=>h1 e.1)]
    have YG:=aJ Wv;have Zd:=aJ YV;have WF:=aJ XJ;have YF:=aJ YC;clear Wv YV XJ YC;by_cases Zi:f.line=ε
    case neg=>
     have XD:f.line=ζ:=by simpa using Zi
     clear Zi;have Yc:=aJ XD;clear XD;have WT:=I.b7;rw[Yc.o] at WT;have k7:=WT.cell;clear WT;have Yu:=aK.blk B.o;(go_wp2_with fail);clear k7;refine tR 10 [(3,.gv (zq b.z0 1 1) (64)),(7,.gv (zq b.z1 1 1) (64)),(9,.box 103 (aM 2 fun _=>zEn).toArray)] ?_;refine Qs ?_;refine Ee (fun T J=>iO gf b.z0 _ (bM.ext I.g.r.c J.1) AbM AbM) ?_;intro e0 Xo Xi;refine Qs ?_;refine Ee (fun T J=>iO gf b.z1 _ (bM.ext I.g.r.c J.1) AcM AcM) ?_;intro e1 Yx Yh;simp only[En.v,gv];refine Qs ?_;refine Eb ?_;intro W9 ZA YK;refine bz ?_;intro wE J;have F:=J.ext;have Xf:=J.hR 3;have Xe:=J.hR 7;have XC:=J.hB 9;have X5:=aJ (J.low 9 _ rf);clear YK;have R:=aJ F;clear J F;have O:=aJ (XC.there (o:=0) (n:=(e0.cells++e1.cells).length) Ach);refine aL rfl 103 (.tmp 15) (.tmp 110) rfl W9 (0) (e0.cells++e1.cells) rf rf O.o (vW _ _) (wN _ _) (fun Yb Q=> ?_);refine Qp ?_;replace Q:=Hid.o Q;obtain⟨Xp,Xn,Xz⟩:=zR XC.o R.o X5.o Q;have X3:Hid (Blk Yb W9 103 #[.bool e0.s1,.slice e0.A1 e0.n1 e0.c1,.bool e0.s2,.slice e0.A2 e0.n2 e0.c2,.bool e0.s3,.slice e0.A3 e0.n3 e0.c3,.bool e1.s1,.slice e1.A1 e1.n1 e1.c1,.bool e1.s2,.slice e1.A2 e1.n2 e1.c2,.bool e1.s3,.slice e1.A3 e1.n3 e1.c3]):=aJ Xp;have D:=aJ (Xz _ _ _ Xf.o);have WW:=aJ (Xz _ _ _ Xe.o);replace I:=I.aA Xn;replace Wy:=Wy.aA Xn;clear Xp Xn Xz Q O R Xf Xe XC X5 Yu;have Yv:=aK.blk Wy.o;have Yz:=aK.blk X3.o;(go_wp2_with fail);refine tR 20 [(8,.gv (GQ.i 0 0) (64)),(16,.gv (GQ.i 0 0) (64))] ?_;refine Qs ?_;refine Ee (fun T J=>bO gf 0 _ (bM.ext I.g.r.c J.1) aa aa) ?_;intro e2 YS YT;simp only[En.v,gv];refine Qs ?_;refine Ee (fun T J=>bO gf 0 _ (bM.ext I.g.r.c J.1) aa aa) ?_;intro e3 Zl YA;simp only[En.v,gv];refine Qs ?_;refine bz ?_;intro wE J;have F:=J.ext;have Xj:=J.hR 8;have Yq:=J.hR 16;have R:=aJ F;clear J F;have Yr:oW wE (⟨ea,eb,e0,e1,e2⟩:BrV) (hfs s p f (2*l)):=by rw[YG.o];exact⟨rfl,rfl,D.ext R.o,WW.ext R.o,Xj.o⟩
     have Zg:oW wE (⟨eb,ea,e0,e1,e3⟩:BrV) (hfs s p f (2*l+1)):=by rw[Zd.o];exact⟨rfl,rfl,D.ext R.o,WW.ext R.o,Yq.o⟩
     have X4:=aJ Yr;have Zf:=aJ Zg;clear Yr Zg;replace I:=I.aA R.o;have O:Hid (wE.there gH (l*40) ((⟨ea,eb,e0,e1,e2⟩:BrV).cs++(⟨eb,ea,e0,e1,e3⟩:BrV).cs).length):=aJ (I.bH.there Adr);refine aL rfl 221 (.tmp 130) (.tmp 129) rfl gH (l*40) ((⟨ea,eb,e0,e1,e2⟩:BrV).cs++(⟨eb,ea,e0,e1,e3⟩:BrV).cs) rf rf O.o (C9 _ _) (EX _ _) (fun N Q=> ?_);refine Qp ?_;replace Q:=Hid.o Q;have hW:N=puts (puts wE gH (2*l*20) (⟨ea,eb,e0,e1,e2⟩:BrV).cs) gH ((2*l+1)*20) (⟨eb,ea,e0,e1,e3⟩:BrV).cs:=by rw[Q,Ae,fJ,show l*40=2*l*20 by omega,show 2*l*20+20=(2*l+1)*20 by omega]
     have YB:=I.half X4.o aa rfl;have WZ:=YB.half (Zf.fo (S:=fun k=>k=gH) (Mod.puts wE gH (2*l*20) (⟨ea,eb,e0,e1,e2⟩:BrV).cs rfl) I.Uf) aa hW;obtain⟨H2,XR⟩:∃h,upd (upd H (2*l) (⟨ea,eb,e0,e1,e2⟩:BrV)) (2*l+1) (⟨eb,ea,e0,e1,e3⟩:BrV)=h:=⟨_,rfl⟩;rw[XR] at WZ;have XB:H2 (2*l)=(⟨ea,eb,e0,e1,e2⟩:BrV):=by rw[<-XR,upd_ne aa,upd_same]
     have WN:=WZ.rng (k:=2*l) (o:=l*40) aa aa;rw[XB] at WN;have WQ:=WZ.hv (2*l) aa;rw[XB,YG.o] at WQ;have G:=aJ WZ;have Wn:=aJ WN;have WS:=aJ WQ;clear hW YB WZ XR XB WN WQ Q O I X4 Zf R X3 B Wy D WW Xj Yq Yv Yz;(go_wp2_with fail);have XT:=fun x=>Kp3.a (b:=gx) (c:=gx) (G.g.r.g.cell_ (k:=0) aa (dz aa)) x;refine gz 12 (fun w'=>∃x:Kp3 N gx gx gx,w'=x.val) [(ε,0),(ε,1),(ε,2),(ε,3),(ε,4),(ε,5),(ε,6),(ε,7),(ε,8),(ζ,9),(ζ,10),(ζ,11)] ah ah ⟨⟨N.drew,rfl,rfl,rfl⟩,rfl⟩ ?_;refine aV [0,1,2,3,4,5,6,7,8] [(ζ,9),(ζ,10),(ζ,11)] _ ah ?_;simp only[cZ,aZ,ξ,ο];(repeat (go_big_quiet_step (fail)));refine τ ?_;clear XT;refine aT 9 [(ζ,10),(ζ,11)] ah ?_;intro K J;simp only[aZ];(go_wp2_with (refine σ rfl 167 _ rfl gH (l*40) rf ((⟨ea,eb,e0,e1,e2⟩:BrV).cs) _ Wn.o aas rfl (mi _) (Hid.o ?_)));refine aJ ?_;refine Qp ?_;(go_wp2_with fail);refine J _ _ ⟨⟨N.drew,rfl,rfl,rfl⟩,rfl⟩ ?_;clear J K Wn;simp only[BrV.cs];refine aT 10 [(ζ,11)] ah ?_;intro K J;simp only[aZ];(go_wp2_with fail);have XI:Hid (Blk (N.drew.alloc (.cells (⟨ea,eb,e0,e1,e2⟩:BrV).cs.toArray 167)) N.heap.size 167 (⟨ea,eb,e0,e1,e2⟩:BrV).cs.toArray):=aJ (Blk.new N.drew _ _);have WB:Hid (Ext N (N.drew.alloc (.cells (⟨ea,eb,e0,e1,e2⟩:BrV).cs.toArray 167))):=aJ ((Ext.refl N).drew.trans (Ext.new _ _));refine J _ _ (Kp3.of (S:=fun _=>False) (aeI WB.o) G.g.r.g.lt G.g.r.g.lt G.g.r.g.lt id id id) ?_;clear J K;have L:=aJ (G.ext WB.o);have WE:=G.g.r.m.size;refine aT 11 [] ah ?_;intro K J;simp only[aZ];(go_wp2_with (at_builtin;refine jw rfl (.tmp 135) (.tmp 141) rfl rf rf L.g.r.own Adm (nk WE WB.size) XI.o (fun v2 w2 Wx WX M=> ?_)));obtain⟨Yo,XO,Xv⟩:=Wx.form aa;subst Xv;refine Qp ?_;go_wp2;refine J _ _ (Kp3.of ((aeI WB.o).trans WX) G.g.r.g.lt G.g.r.g.lt G.g.r.g.lt (L.g.r.own.ne L.g.r.g aj) (L.g.r.own.ne L.g.r.g aj) (L.g.r.own.ne L.g.r.g aj)) ?_;clear J K;simp only[bT,ρ,χ];have WY:=L.g.r.g.mod WX (L.g.r.own.ne L.g.r.g aj);have kx:=WY.cell (k:=0) aa;have fx:=WY.frozen 0;have Xg:=aJ (L.push (W2:=w2.setCell ⟨gx,0,δ⟩ (.slice (γ ⟨Yo,0,δ⟩) (bb.length+1) XO)) (WS.ext WB.o) Wx WX M rfl);clear L G WS XI WB WY Wx WX M WE;have Wq:=Xg;go_wp2_with fail
     exact Ac0
    case pos=>
     have XD:=Zi;clear Zi;have Yi:(f.obj==(l:Int))=ζ:=by have:f.obj≠(l:Int):=fun e=>YO.o ⟨XD,e⟩;simpa using this
     have Zv:¬f.obj=(l:Int):=fun e=>YO.o ⟨XD,e⟩;have Yc:=aJ XD;clear XD;have WT:=I.b7;rw[Yc.o] at WT;have k7:=WT.cell;clear WT;have Yu:=aK.blk B.o;(go_wp2_with fail);clear k7;refine tR 10 [(3,.gv (zq b.z0 1 1) (64)),(7,.gv (zq b.z1 1 1) (64)),(9,.box 103 (aM 2 fun _=>zEn).toArray)] ?_;refine Qs ?_;refine Ee (fun T J=>iO gf b.z0 _ (bM.ext I.g.r.c J.1) AbM AbM) ?_;intro e0 Xo Xi;refine Qs ?_;refine Ee (fun T J=>iO gf b.z1 _ (bM.ext I.g.r.c J.1) AcM AcM) ?_;intro e1 Yx Yh;simp only[En.v,gv];refine Qs ?_;refine Eb ?_;intro W9 ZA YK;refine bz ?_;intro wE J;have F:=J.ext;have Xf:=J.hR 3;have Xe:=J.hR 7;have XC:=J.hB 9;have X5:=aJ (J.low 9 _ rf);clear YK;have R:=aJ F;clear J F;have O:=aJ (XC.there (o:=0) (n:=(e0.cells++e1.cells).length) Ach);refine aL rfl 103 (.tmp 15) (.tmp 110) rfl W9 (0) (e0.cells++e1.cells) rf rf O.o (vW _ _) (wN _ _) (fun Yb Q=> ?_);refine Qp ?_;replace Q:=Hid.o Q;obtain⟨Xp,Xn,Xz⟩:=zR XC.o R.o X5.o Q;have X3:Hid (Blk Yb W9 103 #[.bool e0.s1,.slice e0.A1 e0.n1 e0.c1,.bool e0.s2,.slice e0.A2 e0.n2 e0.c2,.bool e0.s3,.slice e0.A3 e0.n3 e0.c3,.bool e1.s1,.slice e1.A1 e1.n1 e1.c1,.bool e1.s2,.slice e1.A2 e1.n2 e1.c2,.bool e1.s3,.slice e1.A3 e1.n3 e1.c3]):=aJ Xp;have D:=aJ (Xz _ _ _ Xf.o);have WW:=aJ (Xz _ _ _ Xe.o);replace I:=I.aA Xn;replace Wy:=Wy.aA Xn;clear Xp Xn Xz Q O R Xf Xe XC X5 Yu;have Yv:=aK.blk Wy.o;have Yz:=aK.blk X3.o;(go_wp2_with fail);refine tR 20 [(8,.gv (GQ.i 0 0) (64)),(16,.gv (GQ.i 0 0) (64))] ?_;refine Qs ?_;refine Ee (fun T J=>bO gf 0 _ (bM.ext I.g.r.c J.1) aa aa) ?_;intro e2 YS YT;simp only[En.v,gv];refine Qs ?_;refine Ee (fun T J=>bO gf 0 _ (bM.ext I.g.r.c J.1) aa aa) ?_;intro e3 Zl YA;simp only[En.v,gv];refine Qs ?_;refine bz ?_;intro wE J;have F:=J.ext;have Xj:=J.hR 8;have Yq:=J.hR 16;have R:=aJ F;clear J F;have Yr:oW wE (⟨ea,eb,e0,e1,e2⟩:BrV) (hfs s p f (2*l)):=by rw[YG.o];exact⟨rfl,rfl,D.ext R.o,WW.ext R.o,Xj.o⟩
     have Zg:oW wE (⟨eb,ea,e0,e1,e3⟩:BrV) (hfs s p f (2*l+1)):=by rw[Zd.o];exact⟨rfl,rfl,D.ext R.o,WW.ext R.o,Yq.o⟩
     have X4:=aJ Yr;have Zf:=aJ Zg;clear Yr Zg;replace I:=I.aA R.o;have O:Hid (wE.there gH (l*40) ((⟨ea,eb,e0,e1,e2⟩:BrV).cs++(⟨eb,ea,e0,e1,e3⟩:BrV).cs).length):=aJ (I.bH.there Adr);refine aL rfl 221 (.tmp 130) (.tmp 129) rfl gH (l*40) ((⟨ea,eb,e0,e1,e2⟩:BrV).cs++(⟨eb,ea,e0,e1,e3⟩:BrV).cs) rf rf O.o (C9 _ _) (EX _ _) (fun N Q=> ?_);refine Qp ?_;replace Q:=Hid.o Q;have hW:N=puts (puts wE gH (2*l*20) (⟨ea,eb,e0,e1,e2⟩:BrV).cs) gH ((2*l+1)*20) (⟨eb,ea,e0,e1,e3⟩:BrV).cs:=by rw[Q,Ae,fJ,show l*40=2*l*20 by omega,show 2*l*20+20=(2*l+1)*20 by omega]
     have YB:=I.half X4.o aa rfl;have WZ:=YB.half (Zf.fo (S:=fun k=>k=gH) (Mod.puts wE gH (2*l*20) (⟨ea,eb,e0,e1,e2⟩:BrV).cs rfl) I.Uf) aa hW;obtain⟨H2,XR⟩:∃h,upd (upd H (2*l) (⟨ea,eb,e0,e1,e2⟩:BrV)) (2*l+1) (⟨eb,ea,e0,e1,e3⟩:BrV)=h:=⟨_,rfl⟩;rw[XR] at WZ;have XB:H2 (2*l)=(⟨ea,eb,e0,e1,e2⟩:BrV):=by rw[<-XR,upd_ne aa,upd_same]
     have WN:=WZ.rng (k:=2*l) (o:=l*40) aa aa;rw[XB] at WN;have WQ:=WZ.hv (2*l) aa;rw[XB,YG.o] at WQ;have G:=aJ WZ;have Wn:=aJ WN;have WS:=aJ WQ;clear hW YB WZ XR XB WN WQ Q O I X4 Zf R X3 B Wy D WW Xj Yq Yv Yz;(go_wp2_with fail);have XT:=fun x=>Kp3.a (b:=gx) (c:=gx) (G.g.r.g.cell_ (k:=0) aa (dz aa)) x;refine gz 12 (fun w'=>∃x:Kp3 N gx gx gx,w'=x.val) [(ε,0),(ε,1),(ε,2),(ε,3),(ε,4),(ε,5),(ε,6),(ε,7),(ε,8),(ζ,9),(ζ,10),(ζ,11)] ah ah ⟨⟨N.drew,rfl,rfl,rfl⟩,rfl⟩ ?_;refine aV [0,1,2,3,4,5,6,7,8] [(ζ,9),(ζ,10),(ζ,11)] _ ah ?_;simp only[cZ,aZ,ξ,ο];(repeat (go_big_quiet_step (fail)));refine τ ?_;clear XT;refine aT 9 [(ζ,10),(ζ,11)] ah ?_;intro K J;simp only[aZ];(go_wp2_with (refine σ rfl 167 _ rfl gH (l*40) rf ((⟨ea,eb,e0,e1,e2⟩:BrV).cs) _ Wn.o aas rfl (mi _) (Hid.o ?_)));refine aJ ?_;refine Qp ?_;(go_wp2_with fail);refine J _ _ ⟨⟨N.drew,rfl,rfl,rfl⟩,rfl⟩ ?_;clear J K Wn;simp only[BrV.cs];refine aT 10 [(ζ,11)] ah ?_;intro K J;simp only[aZ];(go_wp2_with fail);have XI:Hid (Blk (N.drew.alloc (.cells (⟨ea,eb,e0,e1,e2⟩:BrV).cs.toArray 167)) N.heap.size 167 (⟨ea,eb,e0,e1,e2⟩:BrV).cs.toArray):=aJ (Blk.new N.drew _ _);have WB:Hid (Ext N (N.drew.alloc (.cells (⟨ea,eb,e0,e1,e2⟩:BrV).cs.toArray 167))):=aJ ((Ext.refl N).drew.trans (Ext.new _ _));refine J _ _ (Kp3.of (S:=fun _=>False) (aeI WB.o) G.g.r.g.lt G.g.r.g.lt G.g.r.g.lt id id id) ?_;clear J K;have L:=aJ (G.ext WB.o);have WE:=G.g.r.m.size;refine aT 11 [] ah ?_;intro K J;simp only[aZ];(go_wp2_with (at_builtin;refine jw rfl (.tmp 135) (.tmp 141) rfl rf rf L.g.r.own Adm (nk WE WB.size) XI.o (fun v2 w2 Wx WX M=> ?_)));obtain⟨Yo,XO,Xv⟩:=Wx.form aa;subst Xv;refine Qp ?_;go_wp2;refine J _ _ (Kp3.of ((aeI WB.o).trans WX) G.g.r.g.lt G.g.r.g.lt G.g.r.g.lt (L.g.r.own.ne L.g.r.g aj) (L.g.r.own.ne L.g.r.g aj) (L.g.r.own.ne L.g.r.g aj)) ?_;clear J K;simp only[bT,ρ,χ];have WY:=L.g.r.g.mod WX (L.g.r.own.ne L.g.r.g aj);have kx:=WY.cell (k:=0) aa;have fx:=WY.frozen 0;have Xg:=aJ (L.push (W2:=w2.setCell ⟨gx,0,δ⟩ (.slice (γ ⟨Yo,0,δ⟩) (bb.length+1) XO)) (WS.ext WB.o) Wx WX M rfl);clear L G WS XI WB WY Wx WX M WE;have Wq:=Xg;go_wp2_with fail
     exact Ac0
  .obtain rfl:l=s.lines.length:=aa;have hd:decide ((s.lines.length:Int)<(s.lines.length:Int))=ζ:=ag;have XL:(if f.line=ε/\f.obj<((s.lines.length:Nat):Int) then 12 else f0)=dK s p f:=by
    unfold dK;cases hq:f.line with
    |true=>rw[ι ⟨rfl,(XF.o.line hq).1.2⟩,ι rfl]
    |false=>
     rw[θ (fun e=>by cases e.1),θ aj,<-Zp.o];by_cases h0:f.kind=0
     .rw[θ (fun e=>e.1 h0),ι h0]
     .rw[ι ⟨h0,hq⟩,θ h0]
   have Xd:=aJ XL;clear XL Wj Z;have k6:=I.b6.cell;have YH:=aJ WH.nq;have Zr:w.heap.size<=gB:=I.g.lB;have Zh:=XH.size;have ZX:Hid (wa.heap.size<=gB):=aJ aa;clear Zr Zh;(go_wp2_with fail);clear k6;go_loopw [149] (fun iv wq=>∃i:Nat,i<=s.bays.length/\iv=.int .i64 i/\∃YD,fA wq gB 165 s.bays.length YD/\(∀j,j<s.bays.length->YD j=if j<i/\(s.bays.getD j η).kind=1 then .pointer (γ ⟨gH,(s.bays.getD j η).obj.toNat*40+(s.bays.getD j η).en.toNat*20,δ⟩) else wv j)/\Mod (fun k=>k=gB) wr wq) (fun iv _=>s.bays.length-(intOf iv).toNat)
   case atStart=>exact⟨0,aa,rfl,wv,I.g.bB,fun j hj=>by rw[θ aa],Mod.refl _ _⟩
   case round=>
    rename World=>wq;obtain⟨i,hi,rfl,YD,hb,hw,hm⟩:=hrel;have HB:=aJ hb;have HW:=aJ hw;have HM:=aJ hm;clear hb hw hm;by_cases Wj:i<s.bays.length
    .have X9:decide ((i:Int)<(s.bays.length:Int))=ε:=ae;have q1:(0:Int)<=(i:Int):=aa;have q2:(i:Int)<(s.bays.length:Int):=aa;have YE:=YH.o;have Ym:Ext wa wq:=fC (I.g.older XH.o XA.o) HM.o (fun k hk=>by have hk:k=gB:=hk;have:=ZX.o;omega);obtain⟨b,WU⟩:∃b,s.bays.getD i η=b:=⟨_,rfl⟩;have Yi:=WH.obj i Wj;have WN:=WH.rng i Wj;rw[WU] at Yi WN;obtain⟨gb,ob,X7,WL,Xb⟩:=(Wp.ext Ym).bays.at_ Wj;rw[WU] at Xb;have WO:=aJ WU;have YW:=aJ Yi;have YJ:=aJ WN;clear WU Yi WN Ym;subst X7;have Wn:=aJ (show wq.rangeAt gb (ob+i*12) (ja b (LH i)) from Xb);clear Xb WL;(go_wp2_with (refine σ rfl 57 _ rfl gb (ob+i*12) rf (ja b (LH i)) _ Wn.o abD rfl mG (Hid.o ?_)));refine aJ ?_;refine Qp ?_;(go_wp2_with (refine aS rfl 57 rfl _ wH (fun Yw Q=>Hid.o ?_)));refine aJ ?_;refine Qp ?_;replace Q:=Hid.o Q;have Xx:=aJ Q;clear Q;have O:Hid (Yw.there wq.heap.size 0 (ja b (LH i)).length):=aJ (by rw[Xx.o];exact(Blk.new wq 57 pQ.toArray).there (show 0+(ja b (LH i)).length<=pQ.toArray.size from κ 12));(go_wp2_with (refine aL rfl 57 (.tmp 17) (.tmp 153) rfl wq.heap.size (0) (ja b (LH i)) rf rf O.o mG (yR _ _) (fun Xq Q=>Hid.o ?_)));refine aJ ?_;refine Qp ?_;replace Q:=Hid.o Q;have HO:=yO Xx.o Q;have Wl:=aJ HO.1;replace HM:=HM.aC (aeI HO.2);replace HB:=HB.aA HO.2;clear HO Xx Q Wn O;generalize wq.heap.size=WI at Wl⊢;have kk:Xq.cell? ⟨WI,1,δ⟩=γ (.int .i64 b.kind):=(Wl.cell 1).trans rfl;by_cases h1:b.kind=1
     .have Xw:(b.kind==1)=ε:=by rw[h1];rfl
      have H1:=aJ h1;clear h1;have ho:=MF YW.o H1.o;have U:=IW YJ.o;have h6:=WH.nl;obtain⟨l,Z⟩:∃l:Nat,b.obj=(l:Int):=⟨b.obj.toNat,aa⟩;obtain⟨e,WP⟩:∃e:Nat,b.en=(e:Int):=⟨b.en.toNat,aa⟩;have ko:Xq.cell? ⟨WI,2,δ⟩=γ (.int .i64 (l:Int)):=(Wl.cell 2).trans (by rw[<-Z];rfl);have ke:Xq.cell? ⟨WI,3,δ⟩=γ (.int .i64 (e:Int)):=(Wl.cell 3).trans (by rw[<-WP];rfl);have Xl:l<s.lines.length:=aa;have Yl:e<2:=aa;have WC:=aJ (And.intro Z WP);clear Z WP ho U h6;have ZJ:=aK.cell ko;have ZK:=aK.cell ke;have ZL:=I.g.r.lx;have YZ:=I.g.lB;have ZB:=aK.cell ((I.g.r.g.mod HM.o (show ¬gx=gB by omega)).cell_ (k:=13) aa ((dz aa).trans I.g.c13));have p1:(0:Int)<=(l:Int):=aa;have p2:(l:Int)<(s.lines.length:Int):=aa;have p3:(0:Int)<=(e:Int):=aa;have p4:(e:Int)<2:=aa;clear ZL YZ ko ke;(go_wp2_with fail);refine tR 13 [(1,.eq (.pointer (γ ⟨gx,0,δ⟩)))] ?_;refine Qs ?_;refine En_ ?_;intro ZR ZQ;refine Qs ?_;refine bz ?_;intro wE J;have F:=J.ext;have R:=aJ F;clear J F;replace HM:=HM.aC (aeI R.o);replace HB:=HB.aA R.o;have kx:=HB.cell Wj;have fx:=HB.frozen i;have XM:Mod (fun k=>k=gB) wE (wE.setCell ⟨gB,i,δ⟩ (.pointer (γ ⟨gH,l*40+e*20,δ⟩))):=Mod.set _ _ _ _ rfl;have Ya:=aJ (HM.trans XM);have Wm:=aJ (HB.set (.pointer (γ ⟨gH,l*40+e*20,δ⟩)) Wj);clear XM;clear ZJ ZK ZB kk;go_wp2_with fail
      go_roundw
      case rel=>
       refine⟨i+1,aa,rf,upd YD i (.pointer (γ ⟨gH,l*40+e*20,δ⟩)),Wm.o,fun j hj=> ?_,Ya.o⟩;by_cases e1:j=i
       .subst e1;rw[upd_same,ι ⟨aa,by rw[WO.o];exact H1.o⟩,WO.o,WC.o.1,WC.o.2,I6,I6]
       .rw[upd_ne e1,HW.o j hj];by_cases h2:j<i
        .by_cases h3:(s.bays.getD j η).kind=1
         .rw[ι ⟨h2,h3⟩,ι ⟨aa,h3⟩]
         .rw[θ (fun e=>h3 e.2),θ (fun e=>h3 e.2)]
        .rw[θ (fun e=>h2 e.1),θ (fun e=>by have:=e.1;omega)]
      case measure=>simp[intOf];omega
     .have Xw:(b.kind==1)=ζ:=by simpa using h1
      have H1:=aJ h1;clear h1;go_wp2_with fail
      go_roundw
      case rel=>
       refine⟨i+1,aa,rf,YD,HB.o,fun j hj=> ?_,HM.o⟩;rw[HW.o j hj];by_cases h3:(s.bays.getD j η).kind=1
       .have h4:j≠i:=fun e=>H1.o (by rw[<-WO.o,<-e];exact h3);by_cases h2:j<i
        .rw[ι ⟨h2,h3⟩,ι ⟨aa,h3⟩]
        .rw[θ (fun e=>h2 e.1),θ (fun e=>by have:=e.1;omega)]
       .rw[θ (fun e=>h3 e.2),θ (fun e=>h3 e.2)]
      case measure=>simp[intOf];omega
    .obtain rfl:i=s.bays.length:=aa;have X9:decide ((s.bays.length:Int)<(s.bays.length:Int))=ζ:=ag;have Y:=I.fin Xd.o WH.o HM.o HB.o (fun j hj=>by rw[HW.o j hj];by_cases hk:(s.bays.getD j η).kind=1;rw[ι ⟨hj,hk⟩,ι hk];rw[θ (fun e=>hk e.2),θ hk]);have Ws:=aJ Y;clear Y;(go_wp2_with fail);refine aa1 (aaq rfl _ _ _) rfl ⟨rfl,_,_,Ws.o⟩
def zNd:List Value:=[.int .i64 0,.int .i64 0,.int .i64 0,.int .i64 0]
def Tp:(prog.info? 187).map (·.zero)=γ (γ (.agg zNd.toArray)):=ah
def ndC (a b c d:Int):List Value:=[.int .i64 a,.int .i64 b,.int .i64 c,.int .i64 d]
def SA(a b c d):(prog.info? 187).map (·.size)=γ (ndC a b c d).length:=ah
theorem U5(a b c d):∀v∈ndC a b c d,v.oneCell'=ε:=by
 intro v hv;unfold ndC at hv;simp only[ψ,RS,aaU] at hv;rcases hv with rfl|rfl|rfl|rfl<;>rfl
def Lc:List Value:=[.string ByteArray.empty,.int .i64 0,.int .i64 0,.int .i64 0,.int .i64 0,.int .i64 0]
def Nu:(prog.info? 83).map (·.zero)=γ (γ (.agg Lc.toArray)):=ah
def GX(g):(prog.info? 83).map (·.size)=γ (xM g).length:=ah
theorem QD(b):∀v∈xM b,v.oneCell'=ε:=by
 intro v hv;unfold xM at hv;simp only[ψ,RS,aaU] at hv;rcases hv with rfl|rfl|rfl|rfl|rfl|rfl<;>rfl
structure Bz (w W:World) (gx gf gB g7 g8 g9:Nat) (ST PO FL:Array Value) (C:Nat->Value) (Bv:Nat->BrV) (wv:Nat->Value) (s:StD) (p:dA) (fn:Nat):Prop where
 g:Gs w W gx gf gB gB C Bv (fM s p s.bays.length) s.bays.length wv (wd0 s p s.bays.length)
 b7:Blk W g7 27 ST
 b8:Blk W g8 31 PO
 b9:Blk W g9 33 FL
 ends:∀l e,l<6->e<2->C (1+2*l+e)=.int .i64 (dY s p l e:Nat)
 c14:C 14=.int .i64 (fn:Int)
 liv:∀k,k<18->C (15+k)=.bool ζ
section
variable {w W W' W2:World} {gx gf gB g7 g8 g9 fn:Nat} {ST PO FL:Array Value} {C:Nat->Value} {Bv:Nat->BrV} {wv:Nat->Value} {s:StD} {p:dA}
def agk(h:Bt w W gx gf gB g7 g8 g9 ST PO FL C Bv wv s p s.bays.length s.bays.length):Bz w W gx gf gB g7 g8 g9 ST PO FL C Bv wv s p 0:=⟨h.g,h.b7,h.b8,h.b9,h.ends,h.c14,h.liv⟩
def Bz.ext(h:Bz w W gx gf gB g7 g8 g9 ST PO FL C Bv wv s p fn)(x:Ext W W'):Bz w W' gx gf gB g7 g8 g9 ST PO FL C Bv wv s p fn:=⟨h.g.ext x,h.b7.ext x,h.b8.ext x,h.b9.ext x,h.ends,h.c14,h.liv⟩
def Bz.set(h:Bz w W gx gf gB g7 g8 g9 ST PO FL C Bv wv s p fn)(j:Nat)(D:W'=W.setCell ⟨gx,14,δ⟩ (.int .i64 (j:Int))):Bz w W' gx gf gB g7 g8 g9 ST PO FL (upd C 14 (.int .i64 (j:Int))) Bv wv s p j:=by
 obtain⟨G,B⟩:=h.g.set (i:=14) (v:=.int .i64 (j:Int)) aa aa aa rfl D;exact⟨G,h.b7.mod B (Blk.eF h.b7 h.g.r.g aj),h.b8.mod B (Blk.eF h.b8 h.g.r.g aj),h.b9.mod B (Blk.eF h.b9 h.g.r.g aj),fun l e Z U=>by rw[upd_ne aa];exact h.ends l e Z U,upd_same ..,fun k F=>by rw[upd_ne aa];exact h.liv k F⟩
end
structure Bl (w W:World) (gx gf g7 g8 g9:Nat) (ST PO FL:Array Value) (C:Nat->Value) (l:Nat):Prop where
 g:Gr0 w W gx gf C 0 (fun _=>jY) []
 b7:Blk W g7 27 ST
 b8:Blk W g8 31 PO
 b9:Blk W g9 33 FL
 ends:∀j e,j<l->e<2->C (1+2*j+e)=.int .i64 (2*j+e:Nat)
 hi:∀k,13<=k->C k=zC k
section
variable {w W W':World} {gx gf g7 g8 g9 l:Nat} {ST PO FL:Array Value} {C:Nat->Value}
def Bl.put(h:Bl w W gx gf g7 g8 g9 ST PO FL C l)(Z:l<6)(D:W'=puts W gx (1+l*2) (twC ((2*l:Nat):Int) ((2*l+1:Nat):Int))):∃C',Bl w W' gx gf g7 g8 g9 ST PO FL C' (l+1):=by
 obtain⟨H,m1⟩:=h.g.set (i:=1+l*2) (.int .i64 ((2*l:Nat):Int)) aa aa rfl;obtain⟨G,m2⟩:=H.set (i:=1+l*2+1) (.int .i64 ((2*l+1:Nat):Int)) aa aa rfl;have B:Mod (fun k=>k=gx) W W':=by rw[D];exact m1.trans m2
 refine⟨_,by rw[D];exact G,h.b7.mod B (Blk.eF h.b7 h.g.g aj),h.b8.mod B (Blk.eF h.b8 h.g.g aj),h.b9.mod B (Blk.eF h.b9 h.g.g aj),fun j e K U=> ?_,fun k F=> ?_⟩
 .by_cases J:j=l
  .subst J;have I:e=0\/e=1:=aa;rcases I with rfl|rfl
   .rw[show 1+2*j+0=1+j*2 by omega,upd_ne aa,upd_same,Nq]
   .rw[show 1+2*j+1=1+j*2+1 by omega,upd_same]
  .rw[upd_ne aa,upd_ne aa];exact h.ends j e aa U
 .rw[upd_ne aa,upd_ne aa];exact h.hi k F
theorem Bl.made{s p}(h:Bl w W gx gf g7 g8 g9 ST PO FL C 6)(I:W'=(W.alloc (.cells (ofC s.bays.length fun _=> .pointer δ) 165)).setCell ⟨gx,13,δ⟩ (.slice (γ ⟨W.heap.size,0,δ⟩) s.bays.length s.bays.length))(G:w.heap.size<=W.heap.size):
  Bt w W' gx gf W.heap.size g7 g8 g9 ST PO FL (upd C 13 (.slice (γ ⟨W.heap.size,0,δ⟩) s.bays.length s.bays.length)) (fun _=>jY) (fun _=> .pointer δ) s p 0 0:=by
 have D:Ext W (W.alloc (.cells (ofC s.bays.length fun _=> .pointer δ) 165)):=Ext.new _ _;obtain⟨H,F⟩:=(h.g.ext D).set (i:=13) (.slice (γ ⟨W.heap.size,0,δ⟩) s.bays.length s.bays.length) aa aa rfl;subst I;have B:fA (W.alloc (.cells (ofC s.bays.length fun _=> .pointer δ) 165)) W.heap.size 165 s.bays.length (fun _=> .pointer δ):=Blk.new _ _ _;have lx:=h.g.lx;refine⟨⟨H,by rw[upd_same],B.mod F aa,G,fun j K=>rfl⟩,(h.b7.ext D).mod F (Blk.eF h.b7 h.g.g aj),(h.b8.ext D).mod F (Blk.eF h.b8 h.g.g aj),(h.b9.ext D).mod F (Blk.eF h.b9 h.g.g aj),fun l e Z U=> ?_,?_,fun k J=> ?_⟩
 .rw[upd_ne aa];exact h.ends l e Z U
 .rw[upd_ne aa,h.hi 14 aa];rfl
 .rw[upd_ne aa,h.hi (15+k) aa];unfold zC;rw[θ aa,θ aa,θ aa,θ aa]
end
theorem Q5{s p}(h:iT s){i}(hi:i<s.bays.length)(j:(sides s p i).1.1=1):0<=(sides s p i).1.2/\(sides s p i).1.2<4:=by
 have D:=Ka h p hi j;have C:=h.link hi;have F:0<=(sides s p i).1.2:=by
  unfold sides at j⊢;by_cases l:(s.bays.getD i η).kind=3
  .rw[ι l];exact(j3 h p (h.bus hi (k:=0) aa).2).1
  .rw[θ l] at j⊢;simp only[] at j⊢;unfold qV at j⊢;split
   .exact(j3 h p (h.bus hi (k:=0) aa).2).1
   .split
    .rename_i B
     exact(j3 h p (h.bus hi (k:=1) B.1).2).1
    .decide
 omega
theorem O6{s p}(h:iT s){i}(hi:i<s.bays.length)(j:(s.bays.getD i η).kind=3):0<=(sides s p i).2.2/\(sides s p i).2.2<4/\(sides s p i).1.1=1/\(sides s p i).2.1=1:=by
 have C:=h.link hi;unfold sides;rw[ι j];have l:=C.2.1 j;have H:=j3 h p (h.bus hi (k:=1) aa).2;exact⟨H.1,by show(groups s p).getD (fQ s i 1) 0<4;omega,rfl,rfl⟩
theorem Sr{A0 n0 c0 A1 n1 c1 A2 n2 c2 A3 n3 c3 LH s PA pn pc PB qn qc K p}(f gx gf B wa w)(Yt:Ext wa w)(Xu:wa.heap.size<=gx)(hs:kY wa A0 n0 c0 A1 n1 c1 A2 n2 c2 A3 n3 c3 LH s)(hp:iW w PA pn PB qn K p)(Yv:Dj B PA PB qn K)(hB:gx<B)(hc:chk s=0)(XR:jb s p=0)(hf:iF s.buses.length s.lines.length f=0)(hg:Blk w gx 105 (gl zC fun _=>zEn).toArray)(YI:bM w gf):
  Calls prog 81 #[.pointer (γ ⟨gx,0,δ⟩),.pointer (γ ⟨gf,0,δ⟩),stV s.name A0 n0 c0 A1 n1 c1 A2 n2 c2 A3 n3 c3,nu PA pn pc PB qn qc,oU f] w fun r W'=>r=.returned (.tuple #[])/\∃C' YP,BH w W' gx gf C' YP s p f:=by
 obtain rfl:=hs.l3;have Wu:=xh hc;have Xr:=afk hf;have YE:=Wu.nq;have XH:=aJ Yt;have XA:=aJ Xu;have Wp:=aJ hs;have XJ:=aJ hp;have YV:=aJ Yv;have WR:=aJ hB;have YB:=aJ hc;have Ya:=aJ XR;have WH:=aJ Wu;have XF:=aJ Xr;have YH:=aJ YE;have ZL:=hg.lt;have Yq:=YI.lt;have H:Hid (Ext w (((w.alloc (.cells #[.string s.name,.slice A0 n0 c0,.slice A1 n1 c1,.slice A2 n2 c2,.slice A3 s.bays.length c3] 27)).alloc (.cells #[.slice PA pn pc,.slice PB qn qc] 31)).alloc (.cells #[.int .i64 f.kind,.bool f.line,.int .i64 f.obj,.int .i64 f.num,.int .i64 f.den,.int .i64 f.r] 33))):=aJ (((Ext.new _ _).alloc _).alloc _);have I:Hid (Bl w (((w.alloc (.cells #[.string s.name,.slice A0 n0 c0,.slice A1 n1 c1,.slice A2 n2 c2,.slice A3 s.bays.length c3] 27)).alloc (.cells #[.slice PA pn pc,.slice PB qn qc] 31)).alloc (.cells #[.int .i64 f.kind,.bool f.line,.int .i64 f.obj,.int .i64 f.num,.int .i64 f.den,.int .i64 f.r] 33)) gx gf w.heap.size (w.heap.size+1) (w.heap.size+2) #[.string s.name,.slice A0 n0 c0,.slice A1 n1 c1,.slice A2 n2 c2,.slice A3 s.bays.length c3] #[.slice PA pn pc,.slice PB qn qc] #[.int .i64 f.kind,.bool f.line,.int .i64 f.obj,.int .i64 f.num,.int .i64 f.den,.int .i64 f.r] zC 0):=aJ ⟨⟨(O1 hg).ext H.o,bM.ext YI H.o,aeI H.o,.inl ⟨rfl,rfl⟩,rfl,fun i hi=>absurd hi aa,fun i hi=>by unfold zC;split<;>(try split)<;>(try split)<;>(try split)<;>rfl,ZL,Yq⟩,((Blk.new _ _ _).alloc _).alloc _,(aeE _ _ (bF _ _)).alloc _,aeE _ _ ag,fun j e hj=>absurd hj aa,fun k hk=>rfl⟩;clear Yt Xu hs hp Yv hB hc XR hf hg YI Wu Xr YE ZL Yq;unfold stV nu oU;go_enter func81,ntmps81;(go_wp2_with fail);generalize (((w.alloc (.cells #[.string s.name,.slice A0 n0 c0,.slice A1 n1 c1,.slice A2 n2 c2,.slice A3 s.bays.length c3] 27)).alloc (.cells #[.slice PA pn pc,.slice PB qn qc] 31)).alloc (.cells #[.int .i64 f.kind,.bool f.line,.int .i64 f.obj,.int .i64 f.num,.int .i64 f.den,.int .i64 f.r] 33))=w0 at H I⊢;generalize w.heap.size+2=g9 at I⊢;generalize w.heap.size+1=g8 at I⊢;obtain⟨g7,XB⟩:∃g,w.heap.size=g:=⟨_,rfl⟩;rw[XB] at I⊢;have ZT:=aJ XB;clear XB;go_loopw [18] (fun iv wr=>∃l:Nat,l<=6/\iv=.int .i64 l/\∃C,Bl w wr gx gf g7 g8 g9 #[.string s.name,.slice A0 n0 c0,.slice A1 n1 c1,.slice A2 n2 c2,.slice A3 s.bays.length c3] #[.slice PA pn pc,.slice PB qn qc] #[.int .i64 f.kind,.bool f.line,.int .i64 f.obj,.int .i64 f.num,.int .i64 f.den,.int .i64 f.r] C l) (fun iv _=>6-(intOf iv).toNat)
 case atStart=>exact⟨0,aa,rfl,_,I.o⟩
 case round=>
  clear I;obtain⟨l,Z,rfl,C,hR⟩:=hrel;have I:=aJ hR;clear hR;obtain⟨YC,ap⟩:∃YC,YC=wr:=⟨_,rfl⟩;subst ap;by_cases Wj:l<6
  .have hd:decide ((l:Int)<6)=ε:=ae;have Xg:wrap64 (2*(l:Int))=((2*l:Nat):Int):=by rw[pz _ aa];omega
   have Yp:wrap64 (((2*l:Nat):Int)+1)=((2*l+1:Nat):Int):=by rw[pz _ aa];omega
   have XG:wrap64 ((l:Int)+1)=(l:Int)+1:=pz _ aa;have Xy:=aJ XG;have q1:(0:Int)<=(l:Int):=aa;have q2:(l:Int)<6:=aa;have O:Hid (YC.there gx (1+l*2) 2):=aJ (fA.there I.g.g aa);(go_wp2_with (refine aL rfl 64 (.tmp 31) (.tmp 28) rfl gx (1+l*2) (twC ((2*l:Nat):Int) ((2*l+1:Nat):Int)) rf rf O.o (Eh _ _) (O8 _ _) (fun w1 Q=>Hid.o ?_)));refine aJ ?_;refine Qp ?_;replace Q:=Hid.o Q;obtain⟨C2,YL⟩:=I.put Wj Q;have Wq:=aJ YL;clear YL Q O I;go_wp2_with fail
   go_roundw
   case rel=>exact⟨l+1,aa,rf,C2,Wq.o⟩
   case measure=>simp[intOf];omega
  .obtain rfl:l=6:=aa;have hd:decide (((6:Nat):Int)<6)=ζ:=aj;clear Wj Z;have Xk:fA (YC.alloc (.cells (ofC s.bays.length fun _=> .pointer δ) 165)) gx 105 393 (eY C fun _=>zEn):=I.g.g.ext (Ext.new _ _);have kx:=Xk.cell_ (k:=13) aa rfl;have fx:=Xk.frozen 13;have k7:=I.b7.cell;have ZY:=(I.b7.ext (Ext.new YC (.cells (ofC s.bays.length fun _=> .pointer δ) 165))).cell;have Xt:=fun W=>Mt s.bays.length Adh W;have YG:Hid (w.heap.size<=YC.heap.size):=aJ I.g.m.size;have HT:=aJ (I.made (s:=s) (p:=p) (W':=((YC.alloc (.cells (ofC s.bays.length fun _=> .pointer δ) 165)).setCell ⟨gx,13,δ⟩ (.slice (γ ⟨YC.heap.size,0,δ⟩) s.bays.length s.bays.length))) rfl YG.o);clear Xk;have a1:=HT.b7.cell;(go_wp2_with fail);clear kx fx k7 ZY Xt a1 I;generalize ((YC.alloc (.cells (ofC s.bays.length fun _=> .pointer δ) 165)).setCell ⟨gx,13,δ⟩ (.slice (γ ⟨YC.heap.size,0,δ⟩) s.bays.length s.bays.length))=wb at HT⊢;have ZX:=YG;generalize YC.heap.size=gB at HT ZX⊢;clear YG;go_loopw [43] (fun iv wr=>∃i:Nat,i<=s.bays.length/\iv=.int .i64 i/\∃C Bv wv,Bt w wr gx gf gB g7 g8 g9 #[.string s.name,.slice A0 n0 c0,.slice A1 n1 c1,.slice A2 n2 c2,.slice A3 s.bays.length c3] #[.slice PA pn pc,.slice PB qn qc] #[.int .i64 f.kind,.bool f.line,.int .i64 f.obj,.int .i64 f.num,.int .i64 f.den,.int .i64 f.r] C Bv wv s p i i) (fun iv _=>s.bays.length-(intOf iv).toNat)
   case atStart=>exact⟨0,aa,rfl,_,_,_,HT.o⟩
   case round=>
    clear HT;rename World=>wr;obtain⟨i,hi,rfl,C,Bv,wv,hR⟩:=hrel;have I:=aJ hR;clear hR;by_cases Wj:i<s.bays.length
    .have hd:decide ((i:Int)<(s.bays.length:Int))=ε:=ae;have q1:(0:Int)<=(i:Int):=aa;have q2:(i:Int)<(s.bays.length:Int):=aa;have XG:wrap64 ((i:Int)+1)=(i:Int)+1:=pz _ Adh;have Xy:=aJ XG;clear XG;have X5:=aJ (Wp.ext (I.g.older XH.o XA.o));have XV:=aJ (XJ.mod YV.o I.g.r.m (fun g hg=>by have hg:g=gx:=hg;have:=WR.o;omega));obtain⟨b,WU⟩:∃b,s.bays.getD i η=b:=⟨_,rfl⟩;have Yi:=WH.obj i Wj;have WN:=WH.rng i Wj;rw[WU] at Yi WN;have YW:=aJ Yi;have YJ:=aJ WN;clear Yi WN;obtain⟨gb,ob,X7,WL,Xb⟩:=X5.bays.at_ Wj;rw[WU] at Xb;have WO:=aJ WU;clear WU;subst X7;have Wn:=aJ (show wr.rangeAt gb (ob+i*12) (ja b (LH i)) from Xb);clear Xb WL;have XL:=aJ XV.lc;(go_wp2_with (refine σ rfl 57 _ rfl gb (ob+i*12) rf (ja b (LH i)) _ Wn.o abD rfl mG (Hid.o ?_)));refine aJ ?_;refine Qp ?_;(go_wp2_with (refine aS rfl 57 rfl _ wH (fun Yw Q=>Hid.o ?_)));refine aJ ?_;refine Qp ?_;replace Q:=Hid.o Q;have Xx:=aJ Q;clear Q;have O:Hid (Yw.there wr.heap.size 0 (ja b (LH i)).length):=aJ (by rw[Xx.o];exact(Blk.new wr 57 pQ.toArray).there (show 0+(ja b (LH i)).length<=pQ.toArray.size from κ 12));(go_wp2_with (refine aL rfl 57 (.tmp 12) (.tmp 47) rfl wr.heap.size (0) (ja b (LH i)) rf rf O.o mG (yR _ _) (fun Xq Q=>Hid.o ?_)));refine aJ ?_;refine Qp ?_;replace Q:=Hid.o Q;clear O;have HO:=yO Xx.o Q;have HX:=aJ HO.2;have WZ:=aJ HO.1;replace I:=I.aA HO.2;replace X5:=X5.aA HO.2;replace XV:=XV.aA HO.2;clear HO Xx Q Wn;generalize wr.heap.size=g12 at WZ⊢;have k7:=I.b7.cell;have k8:=I.b8.cell;(go_wp2_with fail);refine(F4 i _ X5.o XV.o YB.o Ya.o Wj).mono ?_;rintro _ w1 ⟨rfl,F⟩;obtain⟨na,ma,nb,mb,Zy⟩:∃na ma nb mb,sides s p i=((na,ma),(nb,mb)):=⟨_,_,_,_,rfl⟩;have XN:=aJ Zy;rw[Zy];clear Zy k7 k8;replace HX:=HX.aC F;replace WZ:=WZ.aA F;replace I:=I.aA F;replace X5:=X5.aA F;replace XV:=XV.aA F;clear F;simp only[uX];(go_wp2_with (refine aS rfl 187 rfl _ Tp (fun a8 Q=>Hid.o ?_)));refine aJ ?_;refine Qp ?_;replace Q:=Hid.o Q;have YR:=aJ Q;clear Q;refine aL rfl 187 (.tmp 13) (.tmp 51) rfl w1.heap.size 0 (ndC na ma nb mb) rf rf (by rw[YR.o];exact(Blk.new w1 187 zNd.toArray).there (show 0+(ndC na ma nb mb).length<=zNd.toArray.size from κ 4)) (SA _ _ _ _) (U5 _ _ _ _) (fun XP Q=> ?_);refine Qp ?_;replace Q:=Hid.o Q;have HO:=yM (z:=zNd) (cs:=ndC na ma nb mb) rfl YR.o Q;have X4:=aJ HO.1;replace HX:=HX.aC HO.2;replace WZ:=WZ.aA HO.2;replace I:=I.aA HO.2;replace X5:=X5.aA HO.2;replace XV:=XV.aA HO.2;clear HO YR Q;generalize w1.heap.size=XX at X4⊢;have k8:=I.b8.cell;have aw:XP.cell? ⟨XX,0,δ⟩=γ (.int .i64 na):=(X4.cell 0).trans rfl;have ax:i<pn:=by have h1:=XV.lc;have h2:=Ya.o;unfold jb at h2;split at h2;(rename_i h3;omega);exact absurd h2 aj
     obtain⟨gp,op,ZI,Xm,kp⟩:=XV.closed.one ax;subst ZI;have q3:(i:Int)<(pn:Int):=aa;obtain⟨cb,Z8⟩:∃c,p.closed.getD i ζ=c:=⟨_,rfl⟩;rw[Z8] at kp;have aE:=aJ Z8;clear Z8 Xm ax;have HJ:Hid (lV s p i=(cb&&decide (na=1))):=aJ (by unfold lV;rw[aE.o,XN.o]);cases cb with
     |false=>
      have Wq:=aJ (I.skip (Ap (by rw[HJ.o];simp)) (fun l e=>BF (by rw[HJ.o];simp)));clear I;go_wp2_with fail
      exact Aas
     |true=>
      by_cases X8:na=1
      .obtain rfl:na=1:=X8;have Zx:Hid (lV s p i=ε):=aJ (by rw[HJ.o];rfl);have YU:=Q5 WH.o Wj (by rw[XN.o]);rw[XN.o] at YU;obtain⟨bn,Ym⟩:∃n,iw s p i=n:=⟨_,rfl⟩;have XC:(13:Int)+ma=(bn:Int):=by have h1:13+ma.toNat=bn:=(by rw[<-Ym];unfold iw;rw[XN.o]);have h2:0<=ma:=YU.1;omega
       have Xd:=uY WH.o p Wj Zx.o;rw[Ym] at Xd;have a6:wrap64 (13+ma)=(bn:Int):=by rw[XC];exact pz _ aa
       have XI:=aJ Ym;have ZH:=aJ YU;have Wl:=aJ Xd;clear Ym YU Xd XC;have av:XP.cell? ⟨XX,1,δ⟩=γ (.int .i64 ma):=(X4.cell 1).trans rfl;have kk:XP.cell? ⟨g12,1,δ⟩=γ (.int .i64 b.kind):=(WZ.cell 1).trans rfl;have ko:XP.cell? ⟨g12,2,δ⟩=γ (.int .i64 b.obj):=(WZ.cell 2).trans rfl;have ke:XP.cell? ⟨g12,3,δ⟩=γ (.int .i64 b.en):=(WZ.cell 3).trans rfl;by_cases h1:b.kind=1
       .have Xw:(b.kind==1)=ε:=by rw[h1];rfl
        have H1:=aJ h1;clear h1;have ho:=MF YW.o H1.o;have U:=IW YJ.o;have h6:=WH.nl;obtain⟨l,Z⟩:∃l:Nat,b.obj=(l:Int):=⟨b.obj.toNat,aa⟩;obtain⟨e,WP⟩:∃e:Nat,b.en=(e:Int):=⟨b.en.toNat,aa⟩;rw[Z] at ko;rw[WP] at ke;have Yn:l<6:=aa;have Yl:e<2:=aa;have WC:=aJ (And.intro Z WP);clear Z WP ho U h6;have ZJ:=aK.cell ko;have ZK:=aK.cell ke;have p1:(0:Int)<=(l:Int):=aa;have p2:(l:Int)<6:=aa;have p3:(0:Int)<=(e:Int):=aa;have p4:(e:Int)<2:=aa;(go_wp2_with fail);refine tR 10 [(6,.eq (.pointer (γ ⟨gx,0,δ⟩)))] ?_;refine Qs ?_;refine En_ ?_;intro Yf Yg;refine Qs ?_;refine bz ?_;intro wE J;have F:=J.ext;have R:=aJ F;clear J F;replace I:=I.aA R.o;have kx:=I.g.r.g.cell (k:=1+l*2+e) aa;have fx:=I.g.r.g.frozen (1+l*2+e);have Wq:=aJ (I.line (a:=1+l*2+e) (W':=wE.setCell ⟨gx,1+l*2+e,δ⟩ (.int .i64 (bn:Int))) Zx.o WO.o H1.o WC.o.1 WC.o.2 Yn Yl aa (by rw[XI.o]));clear I;go_wp2_with fail
        exact Aas
       .have Xw:(b.kind==1)=ζ:=by simpa using h1
        have H1:=aJ h1;clear h1;by_cases h2:b.kind=2
        .have WF:(b.kind==2)=ε:=by rw[h2];rfl
         have H2:=aJ h2;clear h2;have ho:=Qu YW.o H2.o;obtain⟨l,Z⟩:∃l:Nat,b.obj=(l:Int):=⟨b.obj.toNat,aa⟩;rw[Z] at ko;have XQ:l<s.srcs.length:=aa;have Xl:l<n2:=by have:=Wp.l2;omega
         obtain⟨gs,os,X6,ZV,Zr⟩:=X5.srcs.at_ Xl;subst X6;obtain⟨sr,YM⟩:∃m,s.srcs.getD l η=m:=⟨_,rfl⟩;rw[YM] at Zr;have XU:=WH.src l XQ;rw[YM] at XU;unfold jE at XU;simp only[υ] at XU;have Yr:=fe.1 XU.1.1;have WG:=pU.1 XU.2;have Wt:=pU.1 XU.1.2;have Yy:Hid (fV s p i=γ ⟨bn,17,sr.z0,sr.z1,1,1,sr.emf⟩):=aJ (by unfold fV;simp only[];rw[WO.o,ι Zx.o,ι H2.o,Z,I6,YM,XI.o]);have Zz:=aJ Yr;have WJ:=aJ WG;have WK:=aJ Wt;have a9:=aJ (And.intro Z YM);clear Z YM ho XU Yr WG Wt;have Wn:=aJ (show XP.rangeAt gs (os+l*6) (xM sr) from Zr);clear Zr ZV;have p1:(0:Int)<=(l:Int):=aa;have p2:(l:Int)<(n2:Int):=aa;have k7:=I.b7.cell;(go_wp2_with (refine σ rfl 83 _ rfl gs (os+l*6) rf (xM sr) _ Wn.o underlying83 rfl (GX _) (Hid.o ?_)));refine aJ ?_;refine Qp ?_;(go_wp2_with (refine aS rfl 83 rfl _ Nu (fun Zt Q=>Hid.o ?_)));refine aJ ?_;refine Qp ?_;replace Q:=Hid.o Q;have ai:=aJ Q;clear Q;have O:Hid (Zt.there XP.heap.size 0 (xM sr).length):=aJ (by rw[ai.o];exact(Blk.new XP 83 Lc.toArray).there (show 0+(xM sr).length<=Lc.toArray.size from κ 6));(go_wp2_with (refine aL rfl 83 (.tmp 15) (.tmp 89) rfl XP.heap.size (0) (xM sr) rf rf O.o (GX _) (QD _) (fun ZN Q=>Hid.o ?_)));refine aJ ?_;refine Qp ?_;replace Q:=Hid.o Q;have HO:=yM (z:=Lc) (cs:=xM sr) rfl ai.o Q;have X3:=aJ HO.1;replace HX:=HX.aC HO.2;replace I:=I.aA HO.2;clear HO ai Q O Wn k7 k8 aw av kk ko ke kp WZ X4 X5 XV;generalize XP.heap.size=W9 at X3⊢;have Yz:=aK.blk (show Blk ZN W9 83 #[.string sr.name,.int .i64 sr.emf,.int .i64 sr.z1.r,.int .i64 sr.z1.x,.int .i64 sr.z0.r,.int .i64 sr.z0.x] from X3.o);(go_wp2_with fail);refine tR 10 [(3,.gv (zq sr.z0 1 1) (64)),(7,.gv (zq sr.z1 1 1) (64)),(9,.box 103 (aM 2 fun _=>zEn).toArray)] ?_;refine Qs ?_;refine Ee (fun T J=>iO gf sr.z0 _ (bM.ext I.g.r.c J.1) AbM AbM) ?_;intro e0 Xo Xi;refine Qs ?_;refine Ee (fun T J=>iO gf sr.z1 _ (bM.ext I.g.r.c J.1) AcM AcM) ?_;intro e1 Yx Yh;simp only[En.v,gv];refine Qs ?_;refine Eb ?_;intro WQ ZA ZM;refine bz ?_;intro wE J;have F:=J.ext;have Xf:=J.hR 3;have Xe:=J.hR 7;have YQ:=J.hB 9;have Zl:=aJ (J.low 9 _ rf);clear ZM;have R:=aJ F;clear J F;have O:=aJ (YQ.there (o:=0) (n:=(e0.cells++e1.cells).length) Ach);refine aL rfl 103 (.tmp 16) (.tmp 98) rfl WQ (0) (e0.cells++e1.cells) rf rf O.o (vW _ _) (wN _ _) (fun Yb Q=> ?_);refine Qp ?_;replace Q:=Hid.o Q;obtain⟨Xp,Xn,Xz⟩:=zR YQ.o R.o Zl.o Q;have Ww:Hid (Blk Yb WQ 103 #[.bool e0.s1,.slice e0.A1 e0.n1 e0.c1,.bool e0.s2,.slice e0.A2 e0.n2 e0.c2,.bool e0.s3,.slice e0.A3 e0.n3 e0.c3,.bool e1.s1,.slice e1.A1 e1.n1 e1.c1,.bool e1.s2,.slice e1.A2 e1.n2 e1.c2,.bool e1.s3,.slice e1.A3 e1.n3 e1.c3]):=aJ Xp;have D:=aJ (Xz _ _ _ Xf.o);have WW:=aJ (Xz _ _ _ Xe.o);replace I:=I.aA Xn;replace X3:=X3.aA Xn;clear Xp Xn Xz Q O R Xf Xe YQ Zl Yz;have Yz:=aK.blk (show Blk Yb W9 83 #[.string sr.name,.int .i64 sr.emf,.int .i64 sr.z1.r,.int .i64 sr.z1.x,.int .i64 sr.z0.r,.int .i64 sr.z0.x] from X3.o);have ar:=aK.blk Ww.o;have ZB:=aK.cell (I.g.r.g.cell_ (k:=13) aa ((dz aa).trans I.g.c13));(go_wp2_with fail);refine tR 14 [(1,.eq (.pointer (γ ⟨gx,0,δ⟩))),(10,.gv (GQ.i sr.emf 0) (64)),(12,.br ⟨bn,17,sr.z0,sr.z1,1,1,sr.emf⟩)] ?_;refine Qs ?_;refine En_ ?_;intro ZR ZQ;refine Qs ?_;refine Ee (fun T J=>bO gf sr.emf _ (bM.ext I.g.r.c J.1) (by have:=Zz.o;omega) (by have:=Zz.o;omega)) ?_;intro e2 YN YO;simp only[En.v,gv];refine Qs ?_;refine dR rf rf rf ?_ ?_
         .intro T J;have hW:=J.1;have Zq:GV T e2.v (GQ.i sr.emf 0) 64:=afq (J.2 10 (e2.v,YN,YO) rf ah);clear J;go_simp;exact⟨Ext.new _ _,rfl,ag,⟨bn,17,e0,e1,e2⟩,Blk.new _ _ _,⟨rfl,rfl,(D.ext hW).ext (Ext.new _ _),(WW.ext hW).ext (Ext.new _ _),Zq.ext (Ext.new _ _)⟩⟩
         intro v_ WI YZ WA;obtain⟨T,Wv⟩:=WA;obtain⟨rfl,ZP,-⟩:NR.holds (.br ⟨bn,17,sr.z0,sr.z1,1,1,sr.emf⟩) WI YZ v_ T:=Wv.get;clear Wv T;refine Qp ?_;refine Qs ?_;refine bz ?_;intro wE J;have F:=J.ext;have Xj:=J.hR 10;have ZZ:NR.holds (.br ⟨bn,17,sr.z0,sr.z1,1,1,sr.emf⟩) WI YZ (.pointer (γ ⟨WI,0,δ⟩)) wE:=J.at_ 12 (e:=(.pointer (γ ⟨WI,0,δ⟩),WI,YZ)) rf;obtain⟨-,-,Yj,Zj,Zd⟩:=ZZ;have Zm:=aJ Zj;have Zi:=aJ Zd;clear Zj Zd;have Zh:=aJ (J.low 12 _ rf);clear ZP;have R:=aJ F;clear J F;have Wl:=Zm;have YD:=Zi;have YS:=Zh;clear Zm Zi Zh;have Yu:Yb.heap.size<=WI:=YS.o;have WE:=I.g.r.m.size;have Ye:=I.g.bB.lt;have ZF:Hid (lL wE w.heap.size (C 0) gB gB (.pointer (γ ⟨WI,0,δ⟩)) (γ _)):=aJ (afJ Wl.o YD.o aa (fun e=>by have:=(I.g.r.own.low e).2;omega) aa aa);clear Yu WE Ye;replace I:=I.aA R.o;have kx:=I.g.bB.cell Wj;have fx:=I.g.bB.frozen i;obtain⟨YT,YF,ZG⟩:=I.ptr (W':=(wE.setCell ⟨gB,i,δ⟩ (.pointer (γ ⟨WI,0,δ⟩)))) Wj Yy.o ZF.o rfl;have G:=aJ YT;have Yd:Hid (Blk (wE.setCell ⟨gB,i,δ⟩ (.pointer (γ ⟨WI,0,δ⟩))) WI 167 Yj.cs.toArray):=aJ (Wl.mod YF (Blk.eF Wl.o I.g.bB aj));have WS:=aJ (YD.fo YF ZG);clear YT YF ZG Wl YD YS ZF I R;clear Yz ar ZB;(go_wp2_with fail);clear kx fx;generalize (wE.setCell ⟨gB,i,δ⟩ (.pointer (γ ⟨WI,0,δ⟩)))=wA at G Yd WS⊢;have k0:=G.g.r.g.cell (k:=0) aa;have XT:=fun x=>Kp3.a (b:=gB) (c:=gB) (G.g.r.g.cell_ (k:=0) aa (dz aa)) x;have ZC:=fun x=>Kp3.a (b:=gB) (c:=gB) (G.g.r.g.cell_ (k:=13) aa ((dz aa).trans G.g.c13)) x;have ac:=fun x=>Kp3.b (a:=gx) (c:=gB) (G.g.bB.cell_ Wj (upd_same ..)) x;clear k0;refine gz 16 (fun w'=>∃x:Kp3 wA gx gB gB,w'=x.val) [(ε,0),(ε,1),(ε,2),(ε,3),(ε,4),(ε,5),(ε,6),(ε,7),(ε,8),(ε,9),(ε,10),(ε,11),(ε,12),(ζ,13),(ζ,14),(ζ,15)] ah ah ⟨⟨wA.drew,rfl,rfl,rfl⟩,rfl⟩ ?_;refine aV [0,1,2,3,4,5,6,7,8,9,10,11,12] [(ζ,13),(ζ,14),(ζ,15)] _ ah ?_;simp only[cZ,aZ,ξ,ο];(repeat (go_big_quiet_step (fail)));refine τ ?_;clear XT ZC ac;have Wn:=aJ (Yd.ext (Ext.refl wA).drew).rng;refine aT 13 [(ζ,14),(ζ,15)] ah ?_;intro K J;simp only[aZ];(go_wp2_with (refine σ rfl 167 _ rfl WI (0) rf (Yj.cs) _ Wn.o aas rfl (mi _) (Hid.o ?_)));refine aJ ?_;refine Qp ?_;(go_wp2_with fail);refine J _ _ ⟨⟨wA.drew,rfl,rfl,rfl⟩,rfl⟩ ?_;clear J K Wn;unfold BrV.cs;refine aT 14 [(ζ,15)] ah ?_;intro K J;simp only[aZ];(go_wp2_with fail);have XI:Hid (Blk (wA.drew.alloc (.cells Yj.cs.toArray 167)) wA.heap.size 167 Yj.cs.toArray):=aJ (Blk.new wA.drew _ _);have WB:Hid (Ext wA (wA.drew.alloc (.cells Yj.cs.toArray 167))):=aJ ((Ext.refl wA).drew.trans (Ext.new _ _));refine J _ _ (Kp3.of (S:=fun _=>False) (aeI WB.o) G.g.r.g.lt G.g.bB.lt G.g.bB.lt id id id) ?_;clear J K;have L:=aJ (G.ext WB.o);have WE:=G.g.r.m.size;have WL:=ru s p i;refine aT 15 [] ah ?_;intro K J;simp only[aZ];(go_wp2_with (at_builtin;refine jw rfl (.tmp 117) (.tmp 127) rfl rf rf L.g.r.own Adh (nk WE WB.size) XI.o (fun v2 w2 Wx WX M=> ?_)));obtain⟨Yo,XO,Xv⟩:=Wx.form aa;subst Xv;refine Qp ?_;go_wp2;refine J _ _ (Kp3.of ((aeI WB.o).trans WX) G.g.r.g.lt G.g.bB.lt G.g.bB.lt (L.g.r.own.ne L.g.r.g aj) (L.g.r.own.ne L.g.bB aj) (L.g.r.own.ne L.g.bB aj)) ?_;clear J K;simp only[bT,ρ,χ];have WY:=L.g.r.g.mod WX (L.g.r.own.ne L.g.r.g aj);have kx:=WY.cell (k:=0) aa;have fx:=WY.frozen 0;have Wq:=aJ (L.push (W2:=w2.setCell ⟨gx,0,δ⟩ (.slice (γ ⟨Yo,0,δ⟩) ((fM s p i).length+1) XO)) Yy.o (fun l e=>rG Ac4) (WS.ext WB.o) Wx WX M rfl);clear L G WS Yd XI WB WY Wx WX M WE WL;go_wp2_with fail
         exact Aas
        .have WF:(b.kind==2)=ζ:=by simpa using h2
         have H2:=aJ h2;clear h2;by_cases h3:b.kind=3
         .have Wy:(b.kind==3)=ε:=by rw[h3];rfl
          have H3:=aJ h3;clear h3;have XW:=O6 WH.o Wj (p:=p) (by rw[WO.o];exact H3.o);rw[XN.o] at XW;obtain⟨Zg,Zn,-,Xa⟩:=XW;have Xa:nb=1:=Xa;subst Xa;have Zg:0<=mb:=Zg;have Zn:mb<4:=Zn;obtain⟨m,rfl⟩:∃m:Nat,mb=(m:Int):=⟨mb.toNat,aa⟩;have a7:wrap64 (13+(m:Int))=((13+m:Nat):Int):=by rw[pz _ aa];omega
          have aP:XP.cell? ⟨XX,2,δ⟩=γ (.int .i64 1):=(X4.cell 2).trans rfl;have a4:XP.cell? ⟨XX,3,δ⟩=γ (.int .i64 (m:Int)):=(X4.cell 3).trans rfl;have Zv:=aJ (And.intro Zg Zn);clear Zg Zn;by_cases Wo:ma=(m:Int)
          .subst Wo;have Wq:=aJ (I.skip (by unfold fV;simp only[];rw[WO.o,ι Zx.o,θ H2.o,θ (fun e=>e.2 (by rw[XN.o]))]) (fun l e=>rG Ac4));clear I;go_wp2_with fail
           exact Aas
          .have XK:(ma==(m:Int))=ζ:=by simpa using Wo
           have Xh:(ma !=(m:Int))=ε:=by simpa using Wo
           have WM:=aJ Wo;clear Wo;have Yy:Hid (fV s p i=γ ⟨bn,13+m,b.z,b.z,1,1,0⟩):=aJ (by unfold fV;simp only[];rw[WO.o,ι Zx.o,θ H2.o,ι ⟨H3.o,by rw[XN.o];simp;exact WM.o⟩,XI.o,XN.o];rfl);have aI:XP.cell? ⟨g12,4,δ⟩=γ (.int .i64 b.z.r):=(WZ.cell 4).trans rfl;have a2:XP.cell? ⟨g12,5,δ⟩=γ (.int .i64 b.z.x):=(WZ.cell 5).trans rfl;have YX:=pU.1 (Ot YJ.o H3.o);have aB:=aJ YX;clear YX;(go_wp2_with fail);clear aI a2 aw av aP a4 kk ko ke kp k8;refine(iO gf b.z _ I.g.r.c (by have:=aB.o;omega) (by have:=aB.o;omega)).mono ?_;rintro _ Zt ⟨_,rfl,M,F⟩;obtain⟨e0,rfl⟩:=M.en;have D:=aJ M;replace I:=I.aA F;replace X4:=X4.aA F;clear M F WZ X5 XV;simp only[En.v,gv];(go_wp2_with (refine aS rfl 42 rfl _ QK (fun ZN Q=>Hid.o ?_)));refine aJ ?_;refine Qp ?_;replace Q:=Hid.o Q;have F:Ext Zt ZN:=by rw[Q];exact Ext.new _ _
           have Wm:Blk ZN Zt.heap.size 42 zEn.cells.toArray:=by rw[Q];exact Blk.new _ _ _
           clear Q;generalize aq:Zt.heap.size=WI at Wm⊢;have O:=aJ (Wm.there (o:=0) (n:=e0.cells.length) (κ 6));(go_wp2_with (refine aL rfl 42 (.tmp 17) (.tmp 141) rfl WI (0) (e0.cells) rf rf O.o (RY _) (dM _) (fun Yb Q=>Hid.o ?_)));refine aJ ?_;refine Qp ?_;replace Q:=Hid.o Q;obtain⟨Xp,Xn,Xz⟩:=Ut Wm F aa Q;have Z9:Hid (Blk Yb WI 42 #[.bool e0.s1,.slice e0.A1 e0.n1 e0.c1,.bool e0.s2,.slice e0.A2 e0.n2 e0.c2,.bool e0.s3,.slice e0.A3 e0.n3 e0.c3]):=aJ Xp;replace D:=aJ (Xz _ _ _ (D.ext F));replace I:=I.aA Xn;replace X4:=X4.aA Xn;clear Xp Xn Xz Q O Wm F aq;have ao:=aK.blk Z9.o;have ZW:=aK.cell (show Yb.cell? ⟨XX,3,δ⟩=γ (.int .i64 (m:Int)) from (X4.cell 3).trans rfl);have ZB:=aK.cell (I.g.r.g.cell_ (k:=13) aa ((dz aa).trans I.g.c13));(go_wp2_with fail);refine tR 18 [(1,.eq (.pointer (γ ⟨gx,0,δ⟩))),(14,.gv (GQ.i 0 0) (64)),(16,.br ⟨bn,13+m,b.z,b.z,1,1,0⟩)] ?_;refine Qs ?_;refine En_ ?_;intro ZR ZQ;refine Qs ?_;refine Ee (fun T J=>bO gf 0 _ (bM.ext I.g.r.c J.1) aa aa) ?_;intro e2 ZE Za;simp only[En.v,gv];refine Qs ?_;refine dR rf rf rf ?_ ?_
           .intro T J;have hW:=J.1;have Zq:GV T e2.v (GQ.i 0 0) 64:=afq (J.2 14 (e2.v,ZE,Za) rf ah);clear J;go_simp;exact⟨Ext.new _ _,rfl,ag,⟨bn,13+m,e0,e0,e2⟩,Blk.new _ _ _,⟨rfl,rfl,(D.ext hW).ext (Ext.new _ _),(D.ext hW).ext (Ext.new _ _),Zq.ext (Ext.new _ _)⟩⟩
           intro v_ XM YA WA;obtain⟨T,Wv⟩:=WA;obtain⟨rfl,ZO,-⟩:NR.holds (.br ⟨bn,13+m,b.z,b.z,1,1,0⟩) XM YA v_ T:=Wv.get;clear Wv T;refine Qp ?_;refine Qs ?_;refine bz ?_;intro wE J;have F:=J.ext;have Xj:=J.hR 14;have ZZ:NR.holds (.br ⟨bn,13+m,b.z,b.z,1,1,0⟩) XM YA (.pointer (γ ⟨XM,0,δ⟩)) wE:=J.at_ 16 (e:=(.pointer (γ ⟨XM,0,δ⟩),XM,YA)) rf;obtain⟨-,-,Yk,Zc,Zo⟩:=ZZ;have Zk:=aJ Zc;have Zf:=aJ Zo;clear Zc Zo;have Zp:=aJ (J.low 16 _ rf);clear ZO;have R:=aJ F;clear J F;have Wl:=Zk;have YD:=Zf;have YS:=Zp;clear Zk Zf Zp;have Yu:Yb.heap.size<=XM:=YS.o;have WE:=I.g.r.m.size;have Ye:=I.g.bB.lt;have ZF:Hid (lL wE w.heap.size (C 0) gB gB (.pointer (γ ⟨XM,0,δ⟩)) (γ _)):=aJ (afJ Wl.o YD.o aa (fun e=>by have:=(I.g.r.own.low e).2;omega) aa aa);clear Yu WE Ye;replace I:=I.aA R.o;have kx:=I.g.bB.cell Wj;have fx:=I.g.bB.frozen i;obtain⟨YT,YF,ZG⟩:=I.ptr (W':=(wE.setCell ⟨gB,i,δ⟩ (.pointer (γ ⟨XM,0,δ⟩)))) Wj Yy.o ZF.o rfl;have G:=aJ YT;have Yd:Hid (Blk (wE.setCell ⟨gB,i,δ⟩ (.pointer (γ ⟨XM,0,δ⟩))) XM 167 Yk.cs.toArray):=aJ (Wl.mod YF (Blk.eF Wl.o I.g.bB aj));have WS:=aJ (YD.fo YF ZG);clear YT YF ZG Wl YD YS ZF I R;clear ao ZW ZB;(go_wp2_with fail);clear kx fx;generalize (wE.setCell ⟨gB,i,δ⟩ (.pointer (γ ⟨XM,0,δ⟩)))=wA at G Yd WS⊢;have k0:=G.g.r.g.cell (k:=0) aa;have XT:=fun x=>Kp3.a (b:=gB) (c:=gB) (G.g.r.g.cell_ (k:=0) aa (dz aa)) x;have ZC:=fun x=>Kp3.a (b:=gB) (c:=gB) (G.g.r.g.cell_ (k:=13) aa ((dz aa).trans G.g.c13)) x;have ac:=fun x=>Kp3.b (a:=gx) (c:=gB) (G.g.bB.cell_ Wj (upd_same ..)) x;clear k0;refine gz 16 (fun w'=>∃x:Kp3 wA gx gB gB,w'=x.val) [(ε,0),(ε,1),(ε,2),(ε,3),(ε,4),(ε,5),(ε,6),(ε,7),(ε,8),(ε,9),(ε,10),(ε,11),(ε,12),(ζ,13),(ζ,14),(ζ,15)] ah ah ⟨⟨wA.drew,rfl,rfl,rfl⟩,rfl⟩ ?_;refine aV [0,1,2,3,4,5,6,7,8,9,10,11,12] [(ζ,13),(ζ,14),(ζ,15)] _ ah ?_;simp only[cZ,aZ,ξ,ο];(repeat (go_big_quiet_step (fail)));refine τ ?_;clear XT ZC ac;have Wn:=aJ (Yd.ext (Ext.refl wA).drew).rng;refine aT 13 [(ζ,14),(ζ,15)] ah ?_;intro K J;simp only[aZ];(go_wp2_with (refine σ rfl 167 _ rfl XM (0) rf (Yk.cs) _ Wn.o aas rfl (mi _) (Hid.o ?_)));refine aJ ?_;refine Qp ?_;(go_wp2_with fail);refine J _ _ ⟨⟨wA.drew,rfl,rfl,rfl⟩,rfl⟩ ?_;clear J K Wn;unfold BrV.cs;refine aT 14 [(ζ,15)] ah ?_;intro K J;simp only[aZ];(go_wp2_with fail);have XI:Hid (Blk (wA.drew.alloc (.cells Yk.cs.toArray 167)) wA.heap.size 167 Yk.cs.toArray):=aJ (Blk.new wA.drew _ _);have WB:Hid (Ext wA (wA.drew.alloc (.cells Yk.cs.toArray 167))):=aJ ((Ext.refl wA).drew.trans (Ext.new _ _));refine J _ _ (Kp3.of (S:=fun _=>False) (aeI WB.o) G.g.r.g.lt G.g.bB.lt G.g.bB.lt id id id) ?_;clear J K;have L:=aJ (G.ext WB.o);have WE:=G.g.r.m.size;have WL:=ru s p i;refine aT 15 [] ah ?_;intro K J;simp only[aZ];(go_wp2_with (at_builtin;refine jw rfl (.tmp 164) (.tmp 174) rfl rf rf L.g.r.own Adh (nk WE WB.size) XI.o (fun v2 w2 Wx WX M=> ?_)));obtain⟨Yo,XO,Xv⟩:=Wx.form aa;subst Xv;refine Qp ?_;go_wp2;refine J _ _ (Kp3.of ((aeI WB.o).trans WX) G.g.r.g.lt G.g.bB.lt G.g.bB.lt (L.g.r.own.ne L.g.r.g aj) (L.g.r.own.ne L.g.bB aj) (L.g.r.own.ne L.g.bB aj)) ?_;clear J K;simp only[bT,ρ,χ];have WY:=L.g.r.g.mod WX (L.g.r.own.ne L.g.r.g aj);have kx:=WY.cell (k:=0) aa;have fx:=WY.frozen 0;have Wq:=aJ (L.push (W2:=w2.setCell ⟨gx,0,δ⟩ (.slice (γ ⟨Yo,0,δ⟩) ((fM s p i).length+1) XO)) Yy.o (fun l e=>rG Ac4) (WS.ext WB.o) Wx WX M rfl);clear L G WS Yd XI WB WY Wx WX M WE WL;go_wp2_with fail
           exact Aas
         .have Wy:(b.kind==3)=ζ:=by simpa using h3
          have H3:=aJ h3;clear h3;have Wq:=aJ (I.skip (by unfold fV;simp only[];rw[WO.o,ι Zx.o,θ H2.o,θ (fun e=>H3.o e.1)]) (fun l e=>rG Ac4));clear I;go_wp2_with fail
          exact Aas
      .have Wz:(na !=1)=ε:=by simpa using X8
       have ay:=aJ X8;clear X8;have Wq:=aJ (I.skip (Ap (by rw[HJ.o,Γ ay.o];rfl)) (fun l e=>BF (by rw[HJ.o,Γ ay.o];rfl)));clear I;go_wp2_with fail
       exact Aas
    .obtain rfl:i=s.bays.length:=aa;have hd:decide ((s.bays.length:Int)<(s.bays.length:Int))=ζ:=ag;have WJ:=aJ (agk I.o);clear I hi Wj;have kx:=WJ.g.r.g.cell (k:=14) aa;have fx:=WJ.g.r.g.frozen 14;have HZ:=aJ (WJ.set (W':=(wr.setCell ⟨gx,14,δ⟩ (.int .i64 17))) 17 rfl);clear WJ;have k9:=HZ.b9.cell;have k7:=HZ.b7.cell;by_cases WT:f.kind=0
     .have Xw:(f.kind !=0)=ζ:=by rw[WT];rfl
      have Zw:=aJ WT;clear WT;(go_wp2_with fail);have XY:upd C 14 (.int .i64 ((17:Nat):Int)) 14=.int .i64 ((if f.kind≠0/\f.line=ζ then 13+((groups s p).getD f.obj.toNat 0).toNat else 17:Nat):Int):=by rw[θ (fun e=>e.1 Zw.o)];exact HZ.c14
      have N:=Dt f gx gf gB wa w _ XH.o XA.o Wp.o WH.o XF.o HZ.g HZ.ends XY HZ.liv;clear XY kx fx k9 k7 HZ;refine N.mono ?_;clear N;rintro _ w4 ⟨rfl,C',YP,Y⟩;have Ws:=aJ Y;clear Y;(go_wp2_with fail);refine aa1 (aaq rfl _ _ _) rfl ⟨rfl,C',YP,Ws.o⟩
     .have Xw:(f.kind !=0)=ε:=by simpa using WT
      have Zw:=aJ WT;clear WT;cases XD:f.line with
      |true=>
       rw[XD] at k9;have Yc:=aJ XD;clear XD;(go_wp2_with fail);have XY:upd C 14 (.int .i64 ((17:Nat):Int)) 14=.int .i64 ((if f.kind≠0/\f.line=ζ then 13+((groups s p).getD f.obj.toNat 0).toNat else 17:Nat):Int):=by rw[θ (fun e=>by have:=e.2;rw[Yc.o] at this;exact absurd this aj)];exact HZ.c14
       have N:=Dt f gx gf gB wa w _ XH.o XA.o Wp.o WH.o XF.o HZ.g HZ.ends XY HZ.liv;unfold oU at N;rw[Yc.o] at N;clear XY kx fx k9 k7 HZ;refine N.mono ?_;clear N;rintro _ w4 ⟨rfl,C',YP,Y⟩;have Ws:=aJ Y;clear Y;(go_wp2_with fail);refine aa1 (aaq rfl _ _ _) rfl ⟨rfl,C',YP,Ws.o⟩
      |false=>
       rw[XD] at k9;have Yc:=aJ XD;clear XD;have Yi:=XF.bus Yc.o (by have:=Zw.o;have:=XF.kind.1;omega);obtain⟨o,Xr⟩:∃o:Nat,f.obj=(o:Int):=⟨f.obj.toNat,aa⟩;have Xc:o<s.buses.length:=aa;rw[Xr] at k9;have Ze:=aJ Xr;clear Xr Yi;have WL:=(Wp.ext (HZ.g.older XH.o XA.o)).buses.len;have am:o<n0:=aa;have X9:=aJ (j3 WH.o p Xc);have q1:(0:Int)<=(o:Int):=aa;have q2:(o:Int)<(n0:Int):=aa;have k8:=HZ.b8.cell;(go_wp2_with fail);clear kx fx k7 k8 k9 WL;generalize (wr.setCell ⟨gx,14,δ⟩ (.int .i64 17))=wz at HZ⊢;have YG:=aJ (Wp.ext (HZ.g.older XH.o XA.o));have aG:=aJ (XJ.mod YV.o HZ.g.r.m (fun g hg=>by have hg:g=gx:=hg;have:=WR.o;omega));have Z7:=HZ.b9;rw[Yc.o,Ze.o] at Z7;have YY:=aK.blk HZ.b7;have a3:=aK.blk HZ.b8;have a0:=aK.blk Z7;clear Z7;refine gz 9 (fun w'=>∃x:aK wz,w'=x.val) [(ε,0),(ε,1),(ε,2),(ε,4),(ε,5),(ζ,3),(ζ,6),(ζ,7),(ζ,8)] ah ah ⟨⟨_,(Ext.refl wz).drew⟩,rfl⟩ ?_;refine aV [0,1,2,4,5] [(ζ,3),(ζ,6),(ζ,7),(ζ,8)] _ ah ?_;simp only[cZ,aZ,ξ,ο];(repeat (go_big_quiet_step (fail)));refine τ ?_;clear YY a3 a0;have P:Ext wz wz.drew:=(Ext.refl _).drew;refine aT 3 [(ζ,6),(ζ,7),(ζ,8)] ah ?_;intro K J;simp only[aZ];(go_wp2_with fail);refine(Ew _ (YG.ext P) (aG.ext P) YB.o Ya.o).mono ?_;rintro _ w2 ⟨GA,V,rfl,ad,F⟩;replace P:=P.trans F;clear F;have WV:=ad.2;obtain⟨gg,og,ZU,XZ,az⟩:=ad.2.at_ am;subst ZU;obtain⟨gr,af⟩:∃g,(groups s p).getD o 0=g:=⟨_,rfl⟩;have kg:w2.cell? ⟨gg,og+o,δ⟩=γ (.int .i64 gr):=by have h1:=az 0 _ rfl;rw[af] at h1;simpa using h1
       have YK:=aJ af;clear af ad WV XZ az;have XZ:=X9.o;rw[YK.o] at XZ;obtain⟨gn,rfl⟩:∃g:Nat,gr=(g:Int):=⟨gr.toNat,aa⟩;have a5:wrap64 (13+(gn:Int))=((13+gn:Nat):Int):=by rw[pz _ aa];omega
       clear XZ;go_wp2;refine J _ _ ⟨⟨_,P⟩,rfl⟩ ?_;clear J K;refine aT 6 [(ζ,7),(ζ,8)] ah ?_;intro K J;simp only[aZ];(go_wp2_with fail);refine J _ _ ⟨⟨_,P⟩,rfl⟩ ?_;clear J K;refine aT 7 [(ζ,8)] ah ?_;intro K J;simp only[aZ];(go_wp2_with fail);refine J _ _ ⟨⟨_,P⟩,rfl⟩ ?_;clear J K;refine aT 8 [] ah ?_;intro K J;simp only[aZ];(go_wp2_with fail);refine J _ _ ⟨⟨_,P⟩,rfl⟩ ?_;clear J K;simp only[bT,ρ,χ];replace HZ:=HZ.aA P;have kx:=HZ.g.r.g.cell (k:=14) aa;have fx:=HZ.g.r.g.frozen 14;replace HZ:=aJ (HZ.set (W':=w2.setCell ⟨gx,14,δ⟩ (.int .i64 (13+(gn:Int)))) (13+gn) (by rw[show((13+gn:Nat):Int)=13+(gn:Int) by omega]));have XE:=HZ.b9;rw[Yc.o,Ze.o] at XE;have k9:=XE.cell;clear XE;have k7:=HZ.b7.cell;(go_wp2_with fail);have XY:upd (upd C 14 (.int .i64 ((17:Nat):Int))) 14 (.int .i64 ((13+gn:Nat):Int)) 14=.int .i64 ((if f.kind≠0/\f.line=ζ then 13+((groups s p).getD f.obj.toNat 0).toNat else 17:Nat):Int):=by rw[ι ⟨Zw.o,Yc.o⟩,Ze.o,I6,YK.o,I6];exact HZ.c14
       have N:=Dt f gx gf gB wa w _ XH.o XA.o Wp.o WH.o XF.o HZ.g HZ.ends XY HZ.liv;unfold oU at N;rw[Yc.o,Ze.o] at N;clear XY kx fx k9 k7 HZ;refine N.mono ?_;clear N;rintro _ w4 ⟨rfl,C',YP,Y⟩;have Ws:=aJ Y;clear Y;(go_wp2_with fail);refine aa1 (aaq rfl _ _ _) rfl ⟨rfl,C',YP,Ws.o⟩
theorem uu(gx gf sq nb cb:Nat)(un C A Bv brs)(fN:Nat)(w)(hc:bM w gf)(hg:fA w gx 105 393 C)(hn:r9 w C A nb cb Bv brs (lv brs))(hf:C 14=.int .i64 (fN:Int))(XL:fN<=17)(N:un=ε->lv brs fN=ε)(Xq:sq<=1):
  Calls prog 125 #[.pointer (γ ⟨gx,0,δ⟩),.pointer (γ ⟨gf,0,δ⟩),.int .i64 (sq:Int),.bool un] w fun e w'=>∃f:Nat->En,e=.returned (.agg (aM 18 f).toArray)/\
   (∀k,k<18->GV w' (f k).v (nJ (lv brs) (rwx (lv brs)) (cnt (lv brs) 18) (usd (lv brs) sq brs) (if un=ε then unit (rwx (lv brs) fN) else feed (rwx (lv brs)) (usd (lv brs) sq brs)) k) 841)/\Ext w w':=by
 have HN:=aJ hn;have HU:=aJ N;have XY:=aJ hf;have Xd:=aJ XL;have XO:=aJ Xq;have HC:=aJ hc;have S:=aJ hg;clear hn N hf XL Xq hc hg;go_enter func125,ntmps125;(iterate 3 (try (first|go_values|go_skip|go_guarded|go_step|go_upon|go_in|go_back|go_simp)));refine eP rfl 100 rfl _ tX ?_;intro w1 l;refine Qp ?_;have Wy:Hid (Blk w1 w.heap.size 100 (aM 18 fun _=>zEn).toArray):=aJ AcW;have HX:Hid (Ext w w1):=aJ (by rw[l];exact Ext.new _ _);clear l;generalize Xg:w.heap.size=g8 at Wy⊢;have WY:Hid (w.heap.size<=g8):=aJ aa;clear Xg;(iterate 5 (try (first|go_values|go_skip|go_guarded|go_step|go_upon|go_in|go_back|go_simp)));refine eP rfl 100 rfl _ tX ?_;intro w2 l;refine Qp ?_;have F:Ext w1 w2:=by rw[l];exact Ext.new _ _
 have WG:Hid (Blk w2 w1.heap.size 100 (aM 18 fun _=>zEn).toArray):=aJ AcW;have Xy:Hid (w.heap.size<=w1.heap.size/\g8<w1.heap.size):=aJ ⟨HX.size,Wy.lt⟩;replace Wy:=Wy.aA F;replace HX:=HX.aC F;clear F l;generalize w1.heap.size=g9 at WG Xy⊢;(iterate 5 (try (first|go_values|go_skip|go_guarded|go_step|go_upon|go_in|go_back|go_simp)));refine eP rfl 222 rfl _ IY ?_;intro w3 l;refine Qp ?_;have F:Ext w2 w3:=by rw[l];exact Ext.new _ _
 have B:Hid (fA w3 w2.heap.size 222 18 fun _=> .int .i64 0):=aJ AcW;have Xf:Hid (w.heap.size<=w2.heap.size/\g9<w2.heap.size):=aJ ⟨HX.size,WG.lt⟩;replace Wy:=Wy.aA F;replace WG:=WG.aA F;replace HX:=HX.aC F;clear F l;generalize w2.heap.size=g10 at B Xf⊢;have WN:w3.rangeAt gx 15 (jd (lv brs)):=(S.ext HX.o).rangeAt (by simp[jd]) (fun j v hv=>uo HN.o hv);have Wn:=aJ WN;clear WN;(go_wp2_with (refine σ rfl 99 _ rfl gx 15 rf (jd (lv brs)) _ Wn.o abC rfl uA ?_));clear Wn;go_loopw [11,26] (fun nv iv wr=>∃i:Nat,i<=18/\iv=.int .i64 i/\nv=.int .i64 (cnt (lv brs) i:Nat)/\Lp1 w wr g8 g9 g10 (lv brs) i i) (fun _ iv _=>18-(intOf iv).toNat)
 case atStart=>exact⟨0,aa,rfl,rfl,Wy.o,⟨_,WG.o,by intros;omega⟩,B.congr (fun k hk=>by rw[θ aa]),HX.o,WY.o,Xy.o,Xf.o⟩
 case round=>
  clear Wy WG B HX WY Xy Xf;obtain⟨i,hi,rfl,rfl,hR⟩:=hrel;have I:=aJ hR;clear hR;by_cases Wj:i<18
  .have hd:decide ((i:Int)<18)=ε:=ae;have WE:=KR (L:=lv brs) Wj wr;have q1:(0:Int)<=(i:Int):=aa;have q2:(i:Int)<18:=aa;(go_wp2_with fail);refine(bO gf 0 _ (HC.ext I.x) aa aa).mono ?_;rintro _ wa ⟨_,rfl,M,F⟩;obtain⟨eN,rfl⟩:=M.en;have HV:=aJ M;replace I:=I.aA F;clear M F WE;(iterate 5 (try (first|go_values|go_skip|go_guarded|go_step|go_upon|go_in|go_back|go_simp)));have O:=aJ (I.there Wj);refine aN rfl 42 (.tmp 33) (.tmp 32) rfl g9 (i*6) eN.cells rf rf O.o bE (dM eN) ?_;intro wb l;refine Qp ?_;have Wq:=aJ (I.put Wj HV.o l);clear I HV O l;have Xu:cnt (lv brs) i<=18:=nk (JF i) hi;cases hL:lv brs i with
   |false=>
    have HL:=aJ hL;have XT:=aJ (Qr hL);go_wp2_with fail
    go_roundw
    case rel=>exact⟨i+1,aa,au,by rw[XT.o],Wq.skip HL.o⟩
    case measure=>simp[intOf];omega
   |true=>
    have HL:=aJ hL;have XT:=aJ (U1 hL);have Xh:=Wq.b10.cell (k:=i) aa;have X4:=Wq.b10.frozen;go_wp2_with fail
    go_roundw
    case rel=>exact⟨i+1,aa,au,by rw[XT.o],Wq.row Wj HL.o⟩
    case measure=>simp[intOf];omega
  .obtain rfl:i=18:=aa;have Xu:cnt (lv brs) 18<=17:=EG (yE HN.ok).none;have Wo:∃n,cnt (lv brs) 18=n:=⟨_,rfl⟩;obtain⟨n,Wo⟩:=Wo;have Q:=aJ Wo;rw[Wo] at Xu⊢;clear Wo;have hd:decide ((18:Int)<18)=ζ:=aj;(go_wp2_with fail);refine(Dk gf n n _ (HC.ext I.x) aa aa).mono ?_;rintro _ wB ⟨Ga,Ra,rfl,XV⟩;have XR:=aJ XV;clear XV;(go_wp2_with fail);refine(Dk gf n 1 _ ((HC.ext I.x).ext XR.ext) aa aa).mono ?_;rintro _ wC ⟨Gb,Rb,rfl,XG⟩;have Wq:=aJ (agc I.o XR.o XG);clear I XR XG;have k0:=S.ext Wq.p1.x;have Xj:=k0.cell_ (k:=0) aa HN.br;have Zw:=aJ k0;clear k0;(go_wp2_with fail);clear Xj;have XX:=aJ Xu;go_loopw [53] (fun iv wz=>∃i:Nat,i<=nb/\iv=.int .i64 i/\Lp2 w wz g8 g9 g10 Ga Gb (lv brs) n Ra Rb (eqA (lv brs) sq brs i) (eqB (lv brs) sq brs i)) (fun iv _=>nb-(intOf iv).toNat)
   case atStart=>exact⟨0,aa,rfl,Wq.o⟩
   case round=>
    clear Wq Zw hd;rename World=>wz;obtain⟨i,hi,rfl,hR⟩:=hrel;have I:=aJ hR;clear hR;by_cases Wj:i<nb
    .have hd:decide ((i:Int)<(nb:Int))=ε:=ae;obtain⟨bA,oA,hA,WL,Xl⟩:=HN.arr aa;subst hA;have XP:=aJ (show wz.rangeAt bA (oA+i*20) (Bv i).cs from fun j v hv=>I.p1.x.cell_ (Xl i Wj j v hv));clear Xl;(iterate 21 (try (first|go_values|go_skip|go_guarded|go_step|go_upon|go_in|go_back|go_simp)));refine σ rfl 167 _ rfl bA (oA+i*20) rf (Bv i).cs _ XP.o aas rfl wG ?_;refine eP rfl 167 rfl _ Kq ?_;intro wd WT;refine aN rfl 167 (.tmp 17) (.tmp 56) rfl wz.heap.size 0 (Bv i).cs rf rf Acm wG (ve _) ?_;intro we WK;refine Qp ?_;have Wz:Blk wd wz.heap.size 167 zBr:=by rw[WT];exact Blk.new _ _ _
     have H:Ext wz wd:=by rw[WT];exact Ext.new _ _
     have P:Ext wz we:=by rw[WK];exact fw (κ _:Own wz wz.heap.size) 0 _ H
     have WB:Blk we wz.heap.size 167 (Bv i).cs.toArray:=by rw[WK];exact Pg Wz
     have Wl:=aJ WB;have W:=aJ P;replace I:=I.aA P;clear WT WK Wz H P WB;generalize wz.heap.size=WI at Wl⊢;have Xb:wrap64 ((i:Int)+1)=(i:Int)+1:=pz _ (by have:=HN.len;have:=HN.l23;omega);have K:=aJ Xb;clear Xb;have hm:brs.getD i η∈brs:=AL (by have:=HN.len;omega);have Wu:=HN.ok _ hm;have Ws:=HN.ab i Wj;have V:=HN.len;have WH:=aJ Wu;have U:=aJ Ws;have Xm:=aJ V;clear Wu Ws V hm;have Xr:(Bv i).a<17:=by rw[U.o.1];exact WH.a
     have WQ:we.cell? ⟨WI,0,δ⟩=γ (.int .i64 ((Bv i).a:Int)):=(Wl.cell 0).trans rfl;have WO:we.cell? ⟨WI,1,δ⟩=γ (.int .i64 ((Bv i).b:Int)):=(Wl.cell 1).trans rfl;have kc:we.cell? ⟨gf,0,δ⟩=γ (.int .i64 0):=((Blk.ext HC.o I.p1.x).cell 0).trans rfl;have kl:=(S.ext I.p1.x).cell_ (k:=15+(Bv i).a) aa (HN.live (Bv i).a aa);cases hL:lv brs (Bv i).a with
     |false=>
      rw[hL] at kl;have D:used (lv brs) (brs.getD i η)=ζ:=by unfold used;rw[<-U.o.1,hL];rfl
      have Xp:=aJ D;clear D;(go_wp2_with fail);go_quiet (fail);go_wp2_with fail
      exact AbO
     |true=>
      rw[hL] at kl;by_cases WZ:(Bv i).a=(Bv i).b
      .have D:used (lv brs) (brs.getD i η)=ζ:=by unfold used;rw[<-U.o.1,<-U.o.2,hL,WZ];simp
       have Xp:=aJ D;clear D;have XK:(((Bv i).a:Int) !=((Bv i).b:Int))=ζ:=by rw[WZ];simp
       clear WZ;(go_wp2_with fail);go_quiet (fail);go_wp2_with fail
       exact AbO
      .have D:used (lv brs) (brs.getD i η)=ε:=by unfold used;rw[<-U.o.1,<-U.o.2,hL];simp[WZ]
       have Xp:=aJ D;clear D;have XK:(((Bv i).a:Int) !=((Bv i).b:Int))=ε:=ae;have X3:=aJ WZ;have HL:=aJ hL;clear WZ;(go_wp2_with fail);go_quiet (fail);generalize Wp:we.drewN nq=wq;have WJ:Ext we wq:=by rw[<-Wp];exact(Ext.refl _).drewN _
       have Xn:=aJ WJ;replace I:=I.aA WJ;replace Wl:=Wl.aA WJ;clear WJ Wp WQ WO kc kl XK;have XI:wq.rangeAt g10 0 ((List.range 18).map fun k=>Value.int .i64 (rwx (lv brs) k:Nat)):=I.p1.rng;have XM:wq.rangeAt WI 0 (Bv i).cs:=fun j v hv=>(Wl.cell (0+j)).trans (by rw[aaw,Ξ];exact hv);have XJ:=aJ XI;have XN:=aJ XM;clear XI XM;(go_wp2_with (first|refine σ rfl 222 _ rfl g10 0 rf _ _ XJ.o underlying222 rfl Jt ?_|refine σ rfl 167 _ rfl WI 0 rf _ _ XN.o aas rfl wG ?_));clear XJ XN;refine(Nk HN.o (bM.ext HC.o I.p1.x) I.o Q.o Adm Xp.o XO.o (HC.lt)).mono ?_;rintro _ wf ⟨rfl,WM⟩;have Y:=aJ WM;clear WM;go_wp2_with fail
       go_roundw
       case rel=>exact⟨i+1,aa,by rw[K.o];rfl,Y.o⟩
       case measure=>rw[K.o];simp[intOf];omega
    .obtain rfl:i=nb:=aa;have hd:decide ((i:Int)<(i:Int))=ζ:=ag;have XH:brs.length=i:=HN.len;have XQ:=I.a;rw[<-XH,SE] at XQ;have HA:=aJ XQ;have WC:=aJ I.p1;clear XQ;cases un with
     |false=>
      have Wm:=I.b;rw[<-XH,Tm] at Wm;have Zv:=aJ Wm;clear Wm I XH;have Xx:Hid (Cc (rwx (lv brs)) (usd (lv brs) sq brs) (feed (rwx (lv brs)) (usd (lv brs) sq brs))):=aJ (Or.inl rfl);have kc:wz.cell? ⟨gf,0,δ⟩=γ (.int .i64 0):=((Blk.ext HC.o WC.x).cell 0).trans rfl;(go_wp2_with fail);clear kc;refine(CR HN.ok HN.l23 Xx.o Q.o HA.o Zv.o).mono ?_;rintro _ wS ⟨G,RX,rfl,Wx,F⟩;have HO:=aJ Wx;replace WC:=WC.aA F;clear Wx F HA Zv;(go_wp2_with fail);refine(Cr gf _ _ _ _ (bM.ext HC.o WC.x)).mono ?_;rintro _ wK ⟨rfl,F⟩;replace HO:=HO.aA F;replace WC:=WC.aA F;clear F;have kc:wK.cell? ⟨gf,0,δ⟩=γ (.int .i64 0):=((Blk.ext HC.o WC.x).cell 0).trans rfl;have WN:wK.rangeAt gx 15 (jd (lv brs)):=(S.ext WC.x).rangeAt (by simp[jd]) (fun j v hv=>uo HN.o hv);have Wn:=aJ WN;clear WN;(go_wp2_with (refine σ rfl 99 _ rfl gx 15 rf (jd (lv brs)) _ Wn.o abC rfl uA ?_));clear Wn kc;have Z:=aJ (afy WC.o HO.o);clear WC HO;go_loopw [129] (fun iv wr=>∃i:Nat,i<=18/\iv=.int .i64 i/\Lp3 w wr g8 g9 g10 G (lv brs) n RX (sol n (fq zmx ((usd (lv brs) sq brs).map (Nb.br (rwx (lv brs))))) (col (feed (rwx (lv brs)) (usd (lv brs) sq brs)))) i) (fun iv _=>18-(intOf iv).toNat)
      case atStart=>exact⟨0,aa,rfl,Z.o⟩
      case round=>
       exact Aae
     |true=>
      clear XH;have Wt:∃r,rwx (lv brs) fN=r:=⟨_,rfl⟩;obtain⟨r,Wt⟩:=Wt;have Yq:lv brs fN=ε:=HU.o rfl;have Xv:r<n:=by rw[<-Wt,<-Q.o];exact(ae2 (fun k hk=>sI HN.ok hk)).lt _ Yq
      have Xt:=aJ Yq;clear Yq;have Xu:n<=17:=XX.o;(go_wp2_with fail);refine(Dk gf n 1 _ (bM.ext HC.o WC.x) aa aa).mono ?_;rintro _ wD ⟨Gc,Rc,rfl,XU⟩;have Xo:=aJ XU;clear XU;(go_wp2_with fail);have XW:=aJ (S.ext (WC.x.trans Xo.ext));have XA:=aK.cell (XW.cell_ (k:=14) aa XY.o);have Zy:=aK.cell ((WC.ext Xo.ext).b10.cell_ (k:=fN) (v:=.int .i64 (r:Int)) Adt (by simp only[ι (show fN<18 by have:=Xd.o;omega),Wt]));have XZ:=aK.cell ((Xo.mx (Ext.refl _)).hd Xv aa);have XL:=Xd.o;have q1:(0:Int)<=(fN:Int):=aa;have q2:(fN:Int)<18:=aa;have q3:(0:Int)<=(r:Int):=aa;have q4:(r:Int)<(n:Int):=aa;have WP:=aJ Wt;clear Wt;refine tN 12 [(2,.eq (.pointer (γ ⟨gx,0,δ⟩))),(10,.gv (GQ.i 1 0) 64)] ?_;refine Qs ?_;refine En_ ?_;intro lo WX;refine Qs ?_;refine Ee (fun T J=>bO gf 1 _ (bM.ext HC.o ((WC.x.trans Xo.ext).trans J.1)) aa aa) ?_;intro e1 W9 Xe;refine Qs ?_;refine bz ?_;intro wE J;have F:=J.ext;have Wv:GV wE e1.v (GQ.i 1 0) 64:=aeM (J.at_ 10 (e:=(e1.v,W9,Xe)) rf);have WA:=aJ Wv;have R:=aJ F;clear J F Wv XA Zy XZ;have O:=aJ (Jy Xo.o R.o Xv);refine aN rfl 42 (.tmp 102) (.tmp 101) rfl (Rc r).b 0 e1.cells rf rf O.o bE (dM e1) ?_;intro wF l;refine Qp ?_;have Xa:=PY WC.o HA.o Xo.o R.o Xv WA.o l;clear O l WA R Xo XW I;replace WC:=aJ Xa.1;replace HA:=aJ Xa.2.1;have Zv:=aJ Xa.2.2;clear Xa;have Xx:Hid (Cc (rwx (lv brs)) (usd (lv brs) sq brs) (unit r)):=aJ (Or.inr ⟨_,rfl⟩);have Wt:=WP.o;subst Wt;have kc:wF.cell? ⟨gf,0,δ⟩=γ (.int .i64 0):=((Blk.ext HC.o WC.x).cell 0).trans rfl;(go_wp2_with fail);clear kc;refine(CR HN.ok HN.l23 Xx.o Q.o HA.o Zv.o).mono ?_;rintro _ wS ⟨G,RX,rfl,Wx,F⟩;have HO:=aJ Wx;replace WC:=WC.aA F;clear Wx F HA Zv;(go_wp2_with fail);refine(Cr gf _ _ _ _ (bM.ext HC.o WC.x)).mono ?_;rintro _ wK ⟨rfl,F⟩;replace HO:=HO.aA F;replace WC:=WC.aA F;clear F;have kc:wK.cell? ⟨gf,0,δ⟩=γ (.int .i64 0):=((Blk.ext HC.o WC.x).cell 0).trans rfl;have WN:wK.rangeAt gx 15 (jd (lv brs)):=(S.ext WC.x).rangeAt (by simp[jd]) (fun j v hv=>uo HN.o hv);have Wn:=aJ WN;clear WN;(go_wp2_with (refine σ rfl 99 _ rfl gx 15 rf (jd (lv brs)) _ Wn.o abC rfl uA ?_));clear Wn kc;have Z:=aJ (afy WC.o HO.o);clear WC HO;go_loopw [129] (fun iv wr=>∃i:Nat,i<=18/\iv=.int .i64 i/\Lp3 w wr g8 g9 g10 G (lv brs) n RX (sol n (fq zmx ((usd (lv brs) sq brs).map (Nb.br (rwx (lv brs))))) (col (unit (rwx (lv brs) fN)))) i) (fun iv _=>18-(intOf iv).toNat)
      case atStart=>exact⟨0,aa,rfl,Z.o⟩
      case round=>
       exact Aae
def sO(g):∀(xs j:List Value) (k:Nat) (w:World),puts w g k (xs++j)=puts (puts w g k xs) g (k+xs.length) j
 |[],_,_,_=>rfl
 |x::xs,j,k,w=>by
  show puts (w.setCell ⟨g,k,δ⟩ x) g (k+1) (xs++j)=puts (puts (w.setCell ⟨g,k,δ⟩ x) g (k+1) xs) g (k+(xs.length+1)) j;rw[sO g xs j (k+1),show k+(xs.length+1)=k+1+xs.length by omega]
structure Sv (w0 w:World) (gx gf g5 g7:Nat) (C:Nat->Value) (E:Nat->En) (D:Nat->Prop) (Q:Nat->GQ) (f:dZ) (f7:Nat->En) (bs:List BrD):Prop where
 g:GrS w0 w gx gf C E D Q 4400
 b5:Blk w g5 33 #[.int .i64 f.kind,.bool f.line,.int .i64 f.obj,.int .i64 f.num,.int .i64 f.den,.int .i64 f.r]
 b7:Blk w g7 100 (aM 18 f7).toArray
 v7:∀k,k<18->GV w (f7 k).v (bef bs k) 841
 l5:w0.heap.size<=g5
 l7:w0.heap.size<=g7
 lx:gx<w0.heap.size
section
variable {w0 w w':World} {gx gf g5 g7:Nat} {C:Nat->Value} {E:Nat->En} {D D':Nat->Prop} {Q Q':Nat->GQ} {f:dZ} {f7:Nat->En} {bs:List BrD}
def Sv.ext(h:Sv w0 w gx gf g5 g7 C E D Q f f7 bs)(x:Ext w w'):Sv w0 w' gx gf g5 g7 C E D Q f f7 bs:=⟨h.g.ext x,h.b5.ext x,h.b7.ext x,fun k j=>(h.v7 k j).ext x,h.l5,h.l7,h.lx⟩
def Sv.to(h:Sv w0 w gx gf g5 g7 C E D Q f f7 bs)(hd:∀e,e<60->D' e->D e/\Q e=Q' e):Sv w0 w gx gf g5 g7 C E D' Q' f f7 bs:=⟨h.g.to hd,h.b5,h.b7,h.v7,h.l5,h.l7,h.lx⟩
def Sv.put(h:Sv w0 w gx gf g5 g7 C E D Q f f7 bs){e a x q n}(U:e<60)(hn:n<=4400)(G:GV w x.v q n)(ha:a=33+e*6)(l:w'=puts w gx a x.cells):
  Sv w0 w' gx gf g5 g7 C (upd E e x) (fun k=>k=e\/D k) (upd Q e q) f f7 bs:=by
 subst ha;obtain⟨F,j⟩:=h.g.put U (G.up hn) l;have l5:=h.l5;have l7:=h.l7;have lx:=h.lx;exact⟨F,h.b5.mod j (by show ¬g5=gx;omega),h.b7.mod j (by show ¬g7=gx;omega),fun k B=>h.g.Gz j (h.v7 k B),h.l5,h.l7,h.lx⟩
def Sv.net{A nb j Bv}(h:Sv w0 w gx gf g5 g7 C E D Q f f7 bs)(hn:r9 w0 C A nb j Bv bs (lv bs))(l:gu (fun k=>k=gx) w0)(B:∀b o,A=γ ⟨b,o,δ⟩->b≠gx):r9 w (eY C E) A nb j Bv bs (lv bs):=
 hn.mod h.g.m l B (fun i hi=>dz hi)
end
noncomputable def xA (bs:List BrD) (fN:Nat) (f:dZ) (e:Nat):GQ:=
 if f.kind≠0/\lv bs fN=ε then
  if e<54 then vlt bs fN f.kind f.r (e/18) (e%18) else if e<57 then fcu bs fN f.kind f.r (e-54) else if e=57 then bef bs fN else drp bs fN (e-58) fN
 else if e<54 then vbe bs (e/18) (e%18) else GQ.i 0 0
def afc{w wq w2 F B:World}{gx gf g5 C J}{f:dZ}{f7 bs}(hc:bM w gf)(L:fA w gx 105 393 (eY C J))(H:∀i,i<33->mr (C i)=ε)(G:Ext w w2)(b5:Blk w2 g5 33 #[.int .i64 f.kind,.bool f.line,.int .i64 f.obj,.int .i64 f.num,.int .i64 f.den,.int .i64 f.r])(hv:∀k,k<18->GV w2 (f7 k).v (bef bs k) 841)(l5:w.heap.size<=g5)(lx:gx<w.heap.size)(K:F=w2.alloc (.cells (aM 18 fun _=>zEn).toArray 100))(I:B=puts F w2.heap.size 0 (aM 18 f7))(D Q)(M:∀e,¬D e):
  Sv w B gx gf g5 w2.heap.size C J D Q f f7 bs:=by
 have l:Ext w2 F:=by rw[K];exact Ext.new _ _
 have b7:Blk F w2.heap.size 100 (aM 18 fun _=>zEn).toArray:=by rw[K];exact Blk.new _ _ _
 have j:Ext w2 B:=by rw[I];exact fw (κ _:Own w2 w2.heap.size) 0 _ l
 have b8:Blk B w2.heap.size 100 (aM 18 f7).toArray:=by
  have:=bR 0 (aM 18 f7) b7;rw[fU _ _ (by rw[aW,aW])] at this;rw[I];exact this
 exact⟨⟨(L.ext G).ext j,fun e _ hd=>absurd hd (M e),aeI (G.trans j),(bM.ext hc G).ext j,H⟩,b5.ext j,b8,fun k N=>(hv k N).ext j,l5,G.size,lx⟩
def MJ:(prog.info? 194).map (·.zero)=γ (γ (.agg (aM 36 fun _=>zEn).toArray)):=ah
structure Sw (w0 w:World) (gx gf g5 g7 g9:Nat) (C:Nat->Value) (E:Nat->En) (D:Nat->Prop) (Q:Nat->GQ) (f:dZ) (f7:Nat->En) (bs:List BrD) (fN:Nat) (f9:Nat->En) (i:Nat):Prop where
 s:Sv w0 w gx gf g5 g7 C E D Q f f7 bs
 b9:Blk w g9 194 (aM 36 f9).toArray
 v9:∀e,e<i*18->GV w (f9 e).v (drp bs fN (e/18) (e%18)) 841
 l9:w0.heap.size<=g9
section
variable {w0 w w':World} {gx gf g5 g7 g9 fN i:Nat} {C:Nat->Value} {E:Nat->En} {D D':Nat->Prop} {Q Q':Nat->GQ} {f:dZ} {f7 f9:Nat->En} {bs:List BrD}
def afB(h:Sv w0 w gx gf g5 g7 C E D Q f f7 bs)(j:w'=w.alloc (.cells (aM 36 fun _=>zEn).toArray 194)):Sw w0 w' gx gf g5 g7 w.heap.size C E D Q f f7 bs fN (fun _=>zEn) 0:=by
 subst j;exact⟨h.ext (Ext.new _ _),Blk.new _ _ _,fun e U=>aa,h.g.m.size⟩
def Sw.ext(h:Sw w0 w gx gf g5 g7 g9 C E D Q f f7 bs fN f9 i)(x:Ext w w'):Sw w0 w' gx gf g5 g7 g9 C E D Q f f7 bs fN f9 i:=⟨h.s.ext x,h.b9.ext x,fun e U=>(h.v9 e U).ext x,h.l9⟩
def Sw.to(h:Sw w0 w gx gf g5 g7 g9 C E D Q f f7 bs fN f9 i)(hd:∀e,e<60->D' e->D e/\Q e=Q' e):Sw w0 w gx gf g5 g7 g9 C E D' Q' f f7 bs fN f9 i:=⟨h.s.to hd,h.b9,h.v9,h.l9⟩
def Sw.put(h:Sw w0 w gx gf g5 g7 g9 C E D Q f f7 bs fN f9 i){e a x q n}(U:e<60)(hn:n<=4400)(F:GV w x.v q n)(ha:a=33+e*6)(j:w'=puts w gx a x.cells):
  Sw w0 w' gx gf g5 g7 g9 C (upd E e x) (fun k=>k=e\/D k) (upd Q e q) f f7 bs fN f9 i:=by
 have l:Mod (fun k=>k=gx) w w':=by rw[j];exact Mod.puts _ _ _ _ rfl
 have lx:=h.s.lx;have l9:=h.l9;exact⟨h.s.put U hn F ha j,h.b9.mod l (by show ¬g9=gx;omega),fun k B=>h.s.g.Gz l (h.v9 k B),h.l9⟩
def Ja{i}(hi:i<2)(f x):fI (aM 36 f).toArray (i*108) (aM 18 x)=(aM 36 fun e=>if e/18=i then x (e%18) else f e).toArray:=by
 rw[ji];congr 1;have I:(aM 36 f).length=216:=aW _ _;have C:(aM 18 x).length=108:=aW _ _;rw[I,C,Λ (l:=aM 18 x) aa];apply aap;intro p;by_cases hp:p<216
 .obtain⟨j,t,rfl,D⟩:∃j t,p=j*6+t/\t<6:=⟨p/6,p%6,aa,aa⟩;have F:j<36:=aa;rw[dO (f:=fun e=>if e/18=i then x (e%18) else f e) D F];have B:((aM 36 f).take (i*108)).length=i*108:=by rw[PI,I];omega
  by_cases G:j/18=i
  .simp only[ι G];rw[Ω AaO,nG (by rw[B];omega),B,show j*6+t-i*108=j%18*6+t by omega,dO D aa]
  .simp only[θ G];by_cases H:j/18<i
   .rw[Ω AaO,Ω (by rw[B];omega),Zb aa,dO D F]
   .rw[nG AaO,q8,B,C,aaf,show i*108+108+(j*6+t-(i*108+108))=j*6+t by omega,dO D F]
 .rw[Be Acx,Be AbU]
def Sw.drops(h:Sw w0 w gx gf g5 g7 g9 C E D Q f f7 bs fN f9 i)(hi:i<2){x}(I:∀k,k<18->GV w (x k).v (drp bs fN i k) 841)(G:w'=puts w g9 (i*108) (aM 18 x)):
  Sw w0 w' gx gf g5 g7 g9 C E D Q f f7 bs fN (fun e=>if e/18=i then x (e%18) else f9 e) (i+1):=by
 have l:Mod (fun k=>k=g9) w w':=by rw[G];exact Mod.puts _ _ _ _ rfl
 have hS:Far (fun k=>k=g9) w:=fun k B _=>by
  obtain rfl:k=g9:=B;exact⟨_,_,h.b9,dm _ _⟩
 have n5:¬g5=g9:=h.s.b5.eF h.b9 aj;have H:¬g7=g9:=h.s.b7.eF h.b9 aj;have nf:¬gf=g9:=Blk.eF h.s.g.f h.b9 aj;have j:¬gx=g9:=Blk.eF h.s.g.b h.b9 aj;have l9:=h.l9;have m:=h.s.g.m;refine⟨⟨⟨h.s.g.b.mod l j,fun e U hd=>(h.s.g.v e U hd).mod l hS,⟨l.os.trans m.os,l.tape.trans m.tape,l.output.trans m.output,nk m.size l.size,fun k B hn=>(l.block k (π B m.size) (fun e=>by have e:k=g9:=e;omega)).trans (m.block k B hn)⟩,Blk.mod h.s.g.f l nf,h.s.g.n⟩,h.s.b5.mod l n5,h.s.b7.mod l H,fun k B=>(h.s.v7 k B).mod l hS,h.s.l5,h.s.l7,h.s.lx⟩,?_,fun e U=> ?_,h.l9⟩
 .have:=bR (i*108) (aM 18 x) h.b9;rw[Ja hi] at this;rw[G];exact this
 .by_cases F:e/18=i
  .simp only[ι F];rw[F];exact(I _ (Ab _ aa)).mod l hS
  .simp only[θ F];exact(h.v9 e aa).mod l hS
def Sw.UE(h:Sw w0 w gx gf g5 g7 g9 C E D Q f f7 bs fN f9 i)(hi:i<2)(x):w.there g9 (i*108) (aM 18 x).length:=h.b9.there AbI
def Sw.c9(h:Sw w0 w gx gf g5 g7 g9 C E D Q f f7 bs fN f9 i){j k t u x}(G:j<2)(F:k<18)(B:f9 (j*18+k)=x)(N:x.cells[t]? =γ u):w.cell? ⟨g9,j*108+k*6+t,δ⟩=γ u:=by
 have l:t<6:=(μ.1 N).1;subst B;rw[h.b9.cell,Ξ,show j*108+k*6+t=(j*18+k)*6+t by omega,dO l aa];exact N
def Sw.gx_(h:Sw w0 w gx gf g5 g7 g9 C E D Q f f7 bs fN f9 i){e a t x u}(U:e<60)(ha:a=33+e*6)(j:E e=x)(N:x.cells[t]? =γ u):w.cell? ⟨gx,a+t,δ⟩=γ u:=by
 have l:t<6:=(μ.1 N).1;subst j;subst ha;exact h.s.g.b.cell_ aa (qp N)
def Sw.at9(h:Sw w0 w gx gf g5 g7 g9 C E D Q f f7 bs fN f9 i){j k x}(B:j*18+k<i*18)(G:k<18)(F:f9 (j*18+k)=x):GV w x.v (drp bs fN j k) 841:=by
 have l:=h.v9 _ B;rw[F,show(j*18+k)/18=j by omega,show(j*18+k)%18=k by omega] at l;exact l
noncomputable def qi (bs:List BrD) (fN:Nat) (e:Nat):GQ:=if e<54 then vbe bs (e/18) (e%18) else if e<57 then GQ.i 0 0 else if e=57 then bef bs fN else drp bs fN (e-58) fN
theorem Lx{bs fN e}(U:e<57\/58<=e/\e<58+0):(e=56\/e=55\/e=54\/e<54)/\upd (upd (upd (fun e=>vbe bs (e/18) (e%18)) 54 (GQ.i 0 0)) 55 (GQ.i 0 0)) 56 (GQ.i 0 0) e=qi bs fN e:=by
 refine⟨aa,?_⟩;unfold qi;by_cases j:e<54
 .rw[ι j,upd_ne aa,upd_ne aa,upd_ne aa]
 .rw[θ j,ι aa];have l:e=54\/e=55\/e=56:=aa;rcases l with rfl|rfl|rfl<;>rfl
theorem mid_step{bs fN e i}(hi:i<2)(U:e<57\/58<=e/\e<58+(i+1)):(e=58+i\/(e<57\/58<=e/\e<58+i))/\upd (qi bs fN) (58+i) (drp bs fN i fN) e=qi bs fN e:=by
 refine⟨aa,?_⟩;by_cases j:e=58+i
 .subst j;rw[upd_same];unfold qi;rw[θ aa,θ aa,θ aa,show 58+i-58=i by omega]
 .rw[upd_ne j]
end
theorem Re{bs fN e}(U:e<60):(e=57\/(e<57\/58<=e/\e<58+2))/\upd (qi bs fN) 57 (bef bs fN) e=qi bs fN e:=by
 refine⟨aa,?_⟩;by_cases j:e=57
 .subst j;rw[upd_same];unfold qi;rw[θ aa,θ aa,ι rfl]
 .rw[upd_ne j]
theorem Sw.short{w0 w gx gf g5 g7 g9 fN i C E f f7 f9 bs}(h:Sw w0 w gx gf g5 g7 g9 C E (fun e=>e<60) (qi bs fN) f f7 bs fN f9 i)(hb:∀b∈bs,iD b)(Z:bs.length<=23)(I:lv bs fN=ε)(H:0<=f.r/\f.r<=1000):
  Calls prog 126 #[.pointer (γ ⟨gx,0,δ⟩),.pointer (γ ⟨gf,0,δ⟩),oU f] w fun e w'=>∃a:Nat->En,e=.returned (.agg (aM 3 a).toArray)/\(∀k,k<3->GV w' (a k).v (fcu bs fN f.kind f.r k) 2600)/\Ext w w':=by
 obtain⟨M0,M1,hS,_⟩:=yT hb Z I;have D:qi bs fN 57=bef bs fN:=by unfold qi;rw[θ aa,θ aa,ι rfl]
 have G:qi bs fN 58=drp bs fN 0 fN:=by unfold qi;rw[θ aa,θ aa,θ aa]
 have F:qi bs fN 59=drp bs fN 1 fN:=by unfold qi;rw[θ aa,θ aa,θ aa]
 have j:=h.s.g.v 57 aa aa;have l:=h.s.g.v 58 aa aa;have B:=h.s.g.v 59 aa aa;rw[D] at j;rw[G] at l;rw[F] at B;refine(Tf gx gf (eY C E) f (E 57) (E 59) (E 58) (bef bs fN) (drp bs fN 1 fN) (drp bs fN 0 fN) M0 M1 w h.s.g.f h.s.g.b (fun t u N=>qp (e:=57) N) (fun t u N=>qp (e:=58) N) (fun t u N=>qp (e:=59) N)
  (j.to (Nn hb Z fN)) (B.to (OE hb Z 1 fN)) (l.to (OE hb Z 0 fN)) hS H).mono ?_
 rintro e w' ⟨a,U,hv,K⟩;exact⟨a,U,fun k J=>(hv k J).to (Pq hb Z I f.kind H.1 H.2 k),K⟩
noncomputable def Iu (bs:List BrD) (fN:Nat) (f:dZ) (e:Nat):GQ:=if e<54 then vbe bs (e/18) (e%18) else if e<57 then fcu bs fN f.kind f.r (e-54) else qi bs fN e
theorem Sw.faults{w0 w w' gx gf g5 g7 g9 fN i C E f f7 f9 bs}(h:Sw w0 w gx gf g5 g7 g9 C E (fun e=>e<60) (qi bs fN) f f7 bs fN f9 i){a}(ha:∀k,k<3->GV w (a k).v (fcu bs fN f.kind f.r k) 2600)(l:w'=puts w gx 357 (aM 3 a)):Sw w0 w' gx gf g5 g7 g9 C (upd (upd (upd E 54 (a 0)) 55 (a 1)) 56 (a 2)) (fun e=>e<60) (Iu bs fN f) f f7 bs fN f9 i:=by
 rw[iG,iG,iG] at l;replace l:w'=puts w gx 357 ((([]++(a 0).cells)++(a 1).cells)++(a 2).cells):=l;rw[ο,sO,sO] at l;have m1:Mod (fun k=>k=gx) w (puts w gx 357 (a 0).cells):=Mod.puts _ _ _ _ rfl;have j:=h.put (e:=54) (a:=357) aa aa (ha 0 aa) aa rfl;have m2:Mod (fun k=>k=gx) (puts w gx 357 (a 0).cells) (puts (puts w gx 357 (a 0).cells) gx 363 (a 1).cells):=Mod.puts _ _ _ _ rfl;have B:=j.put (e:=55) (a:=363) aa aa (h.s.g.Gz m1 (ha 1 aa)) aa rfl;have F:=B.put (e:=56) (a:=369) aa aa (j.s.g.Gz m2 (h.s.g.Gz m1 (ha 2 aa))) aa l;refine F.to (fun e _ U=>⟨aa,?_⟩);unfold Iu;by_cases j:e<54
 .rw[ι j,upd_ne aa,upd_ne aa,upd_ne aa];unfold qi;rw[ι j]
 .rw[θ j];by_cases B:e<57
  .rw[ι B];have D:e=54\/e=55\/e=56:=aa;rcases D with rfl|rfl|rfl<;>rfl
  .rw[θ B,upd_ne aa,upd_ne aa,upd_ne aa]
noncomputable def oZ (bs:List BrD) (fN:Nat) (f:dZ) (i j e:Nat):GQ:=
 if e<54 then (if e%18<i\/e%18=i/\e/18<j then vlt bs fN f.kind f.r (e/18) (e%18) else vbe bs (e/18) (e%18)) else Iu bs fN f e
theorem Vu{bs fN e f}:Iu bs fN f e=oZ bs fN f 0 0 e:=by
 unfold oZ;by_cases h:e<54
 .rw[ι h,θ aa];unfold Iu;rw[ι h]
 .rw[θ h]
theorem QP{bs fN e f}(l:f.kind≠0/\lv bs fN=ε)(U:e<60):oZ bs fN f 18 0 e=xA bs fN f e:=by
 unfold oZ xA;rw[ι l];by_cases h:e<54
 .rw[ι h,ι h,ι (Or.inl (Ab _ aa))]
 .rw[θ h,θ h];unfold Iu;rw[θ h];by_cases j:e<57
  .rw[ι j,ι j]
  .rw[θ j,θ j];unfold qi;rw[θ h,θ j]
theorem Rs{bs fN n k kd r}(h:lv bs k=ζ):vlt bs fN kd r n k=vbe bs n k:=by
 unfold vlt;have:drp bs fN (min n 1) k=GQ.i 0 0:=by unfold drp;exact mH h
 rw[this,GQ.bL];ext<;>simp only[GQ.bX,GQ.cu,GQ.bU,GQ.bS]<;>grind
theorem Sm{bs fN e i j f}(h:lv bs i=ζ)(U:e<60):oZ bs fN f i j e=oZ bs fN f i (j+1) e:=by
 unfold oZ;by_cases l:e<54
 .rw[ι l,ι l];by_cases C:e%18=i
  .rw[C,Rs h,ac3,ac3]
  .by_cases B:e%18<i
   .rw[ι (Or.inl B),ι (Or.inl B)]
   .rw[θ aa,θ aa]
 .rw[θ l,θ l]
theorem FN{bs fN e i f}(U:e<60):oZ bs fN f i 3 e=oZ bs fN f (i+1) 0 e:=by
 unfold oZ;by_cases j:e<54
 .rw[ι j,ι j];by_cases l:e%18<i+1
  .rw[ι aa,ι (Or.inl l)]
  .rw[θ aa,θ aa]
 .rw[θ j,θ j]
theorem Ue{bs}(hb:∀b∈bs,iD b)(Z:bs.length<=23)(n k):Bd (vbe bs n k) 841:=by
 unfold vbe;split
 .exact Nn hb Z k
 .exact Aa0
theorem Rn{bs fN e i j m f}(D:min j 1=m)(F:j<3)(hi:i<18)(U:e<60):(e=j*18+i\/e<60)/\upd (oZ bs fN f i j) (j*18+i) (vbe bs j i-fcu bs fN f.kind f.r j*drp bs fN m i) e=oZ bs fN f i (j+1) e:=by
 refine⟨Or.inr U,?_⟩;by_cases B:e=j*18+i
 .subst B;rw[upd_same];unfold oZ;rw[ι aa,ι (Or.inr ⟨aa,aa⟩),show(j*18+i)/18=j by omega,show(j*18+i)%18=i by omega,<-D];rfl
 .rw[upd_ne B];unfold oZ;by_cases l:e<54
  .rw[ι l,ι l];by_cases C:e%18<i\/e%18=i/\e/18<j
   .rw[ι C,ι aa]
   .rw[θ C,θ aa]
  .rw[θ l,θ l]
theorem Fp{bs fN e f}(h:¬(f.kind≠0/\lv bs fN=ε))(U:e<60)(hd:e<57\/f.kind≠0/\lv bs fN=ε):
  (e=56\/e=55\/e=54\/e<54)/\upd (upd (upd (fun e=>vbe bs (e/18) (e%18)) 54 (GQ.i 0 0)) 55 (GQ.i 0 0)) 56 (GQ.i 0 0) e=xA bs fN f e:=by
 have j:e<57:=hd.resolve_right h;refine⟨aa,?_⟩;unfold xA;rw[θ h];by_cases l:e<54
 .rw[ι l,upd_ne aa,upd_ne aa,upd_ne aa]
 .rw[θ l];have B:e=54\/e=55\/e=56:=aa;rcases B with rfl|rfl|rfl<;>rfl
def Sv.U0{w0 w w' gx gf g5 g7 N C E D Q f f7 bs}(h:Sv w0 w gx gf g5 g7 C E D Q f f7 bs){a b c B j qc}(ha:GV w a.v B N)(hb:GV w b.v j N)(hc:GV w c.v qc N)(G:N<=4400)(J:w'=puts w gx 357 (a.cells++(b.cells++c.cells))):Sv w0 w' gx gf g5 g7 C (upd (upd (upd E 54 a) 55 b) 56 c) (fun k=>k=56\/k=55\/k=54\/D k) (upd (upd (upd Q 54 B) 55 j) 56 qc) f f7 bs:=by
 rw[sO,sO] at J;have m1:Mod (fun k=>k=gx) w (puts w gx 357 a.cells):=Mod.puts _ _ _ _ rfl;have H:=h.put (e:=54) (a:=357) aa G ha aa rfl;have F:=h.g.Gz m1 hb;have I:=h.g.Gz m1 hc;have m2:Mod (fun k=>k=gx) (puts w gx 357 a.cells) (puts (puts w gx 357 a.cells) gx 363 b.cells):=Mod.puts _ _ _ _ rfl;have K:=H.put (e:=55) (a:=363) aa G F aa rfl;have l:=H.g.Gz m2 I;exact K.put (e:=56) (a:=369) aa G l aa J
theorem xC{bs i e}(hi:i<18)(U:e<60)(hd:e<54/\e%18<i+1):
  (e=i\/e=36+i\/e=18+i\/e<54/\e%18<i)/\upd (upd (upd (fun e=>vbe bs (e/18) (e%18)) (18+i) (bef bs i)) (36+i) (GQ.i 0 0)) i (GQ.i 0 0) e=vbe bs (e/18) (e%18):=by
 refine⟨aa,?_⟩;by_cases l:e=i
 .subst l;rw[upd_same];unfold vbe;rw[θ aa]
 .rw[upd_ne l];by_cases j:e=36+i
  .subst j;rw[upd_same];unfold vbe;rw[θ aa]
  .rw[upd_ne j];by_cases B:e=18+i
   .subst B;rw[upd_same];unfold vbe;rw[ι aa,show(18+i)%18=i by omega]
   .rw[upd_ne B]
def jD{w0 w gx gf g5 g7 i t C E D Q f f7 bs x u}(h:Sv w0 w gx gf g5 g7 C E D Q f f7 bs)(l:f7 i=x)(hi:i<18)(N:x.cells[t]? =γ u):w.cell? ⟨g7,i*6+t,δ⟩=γ u:=by
 have j:t<6:=(μ.1 N).1;subst l;rw[h.b7.cell,Ξ,dO j hi];exact N
theorem Tg(gx gf nb cb:Nat)(C E0 A Bv bs)(fN:Nat)(f:dZ)(w)(hc:bM w gf)(hg:fA w gx 105 393 (eY C E0))(hn:r9 w C A nb cb Bv bs (lv bs))(hf:C 14=.int .i64 (fN:Int))(XL:fN<=17)(Wy:∀i,i<33->mr (C i)=ε)(hA:∀b o,A=γ ⟨b,o,δ⟩->b≠gx)(hr:0<=f.r/\f.r<=1000):
  Calls prog 84 #[.pointer (γ ⟨gx,0,δ⟩),.pointer (γ ⟨gf,0,δ⟩),oU f] w fun e w'=>e=.returned (.tuple #[])/\∃E,GrS w w' gx gf C E (fun e=>e<57\/f.kind≠0/\lv bs fN=ε) (xA bs fN f) 4400:=by
 have Ws:=aJ hn;have Xr:=aJ hf;have Xd:=aJ XL;have HC:=aJ hc;have S:=aJ hg;have Xn:=aJ Wy;have WQ:=aJ hA;have WP:=aJ hr;have WG:Hid (gu (fun k=>k=gx) w):=aJ (ae6 hg (fun k _=>oh Wy k) (fun k hk=>hk));have XI:Hid (gx<w.heap.size):=aJ hg.lt;clear hn hf XL hc hg Wy hA hr;obtain⟨x1,b5⟩:=an1 w 33 #[.int .i64 f.kind,.bool f.line,.int .i64 f.obj,.int .i64 f.num,.int .i64 f.den,.int .i64 f.r];have HX:=aJ x1;have Wt:=aJ b5;clear x1 b5;have WL:eY C E0 14=.int .i64 (fN:Int):=(dz aa).trans Xr.o;have XB:eY C E0 (15+fN)=.bool (lv bs fN):=(dz Adt).trans (Ws.live fN Adt);have WC:=aJ WL;have XF:=aJ XB;clear WL XB;unfold oU;go_enter func84,ntmps84;(go_wp2_with fail);generalize (w.alloc (.cells #[.int .i64 f.kind,.bool f.line,.int .i64 f.obj,.int .i64 f.num,.int .i64 f.den,.int .i64 f.r] 33))=w1 at HX Wt⊢;generalize XG:w.heap.size=g5 at Wt⊢;have XM:Hid (w.heap.size<=g5):=aJ aa;clear XG;by_cases hk:f.kind=0
 .have hd:(f.kind !=0)=ζ:=by simp[hk]
  have kf:=Blk.cell Wt.o;have V:Hid (¬(f.kind≠0/\lv bs fN=ε)):=aJ (fun h=>h.1 hk);clear hk;go_quiet (fail);generalize Wp:w1.drewN nq=wq;have WJ:Ext w1 wq:=by rw[<-Wp];exact(Ext.refl _).drewN _
  replace Wt:=Wt.aA WJ;replace HX:=HX.aC WJ;clear WJ Wp kf;(go_wp2_with fail);have XK:=Ws.mod (aeI HX.o) WG.o WQ.o (C':=eY C E0) (fun i hi=>dz hi);refine(uu gx gf 1 nb cb ζ (eY C E0) A Bv bs fN wq (bM.ext HC.o HX.o) (S.ext HX.o) XK WC.o Xd.o (fun h=>absurd h aj) aa).mono ?_;rintro _ w2 ⟨f7,rfl,M,F⟩;clear XK;have B:∀k,k<18->GV w2 (f7 k).v (bef bs k) 841:=M;have W:=aJ B;replace Wt:=Wt.aA F;replace HX:=HX.aC F;clear M F B;(iterate 2 (try (first|go_values|go_skip|go_guarded|go_step|go_upon|go_in|go_back|go_simp)));refine eP rfl 100 rfl _ tX ?_;intro w3 l;refine aN rfl 100 (.tmp 7) (.tmp 31) rfl w2.heap.size 0 (aM 18 f7) rf rf Adp (kP f7) (bY 18 f7) ?_;intro w4 WK;refine Qp ?_;have Ww:=afc (wq:=wq) HC.o S.o Xn.o HX.o Wt.o W.o XM.o XI.o l WK (fun e=>e<54/\e%18<0) (fun e=>vbe bs (e/18) (e%18)) (fun e=>aa);have HS:=aJ Ww;clear Ww l WK Wt W HX;generalize w2.heap.size=g7 at HS⊢;go_wp2_with fail
  go_loopw [32] (fun iv wr=>∃i:Nat,i<=18/\iv=.int .i64 i/\∃E,Sv w wr gx gf g5 g7 C E (fun e=>e<54/\e%18<i) (fun e=>vbe bs (e/18) (e%18)) f f7 bs) (fun iv _=>18-(intOf iv).toNat)
  case atStart=>exact⟨0,aa,rfl,E0,HS.o⟩
  case round=>
   clear HS;rename World=>wr;obtain⟨i,hi,rfl,E,hR⟩:=hrel;have I:=aJ hR;clear hR;by_cases Wj:i<18
   .have hd:decide ((i:Int)<18)=ε:=ae;have q1:(0:Int)<=(i:Int):=aa;have q2:(i:Int)<18:=aa;obtain⟨e7,Wu⟩:∃e,f7 i=e:=⟨_,rfl⟩;have Q:=aJ Wu;clear Wu;(go_wp2_with fail);have XT:=aK.cell (show wr.cell? ⟨g7,i*6,δ⟩=_ from jD I.o Q.o Wj (t:=0) (u:=.bool e7.s1) rfl);have Xg:=aK.cell (show wr.cell? ⟨g7,i*6+1,δ⟩=_ from jD I.o Q.o Wj (t:=1) (u:=.slice e7.A1 e7.n1 e7.c1) rfl);have Xf:=aK.cell (show wr.cell? ⟨g7,i*6+2,δ⟩=_ from jD I.o Q.o Wj (t:=2) (u:=.bool e7.s2) rfl);have Wz:=aK.cell (show wr.cell? ⟨g7,i*6+3,δ⟩=_ from jD I.o Q.o Wj (t:=3) (u:=.slice e7.A2 e7.n2 e7.c2) rfl);have WT:=aK.cell (show wr.cell? ⟨g7,i*6+4,δ⟩=_ from jD I.o Q.o Wj (t:=4) (u:=.bool e7.s3) rfl);have WS:=aK.cell (show wr.cell? ⟨g7,i*6+5,δ⟩=_ from jD I.o Q.o Wj (t:=5) (u:=.slice e7.A3 e7.n3 e7.c3) rfl);refine tN 9 [(5,.eq (.pointer (γ ⟨gx,0,δ⟩)))] ?_;refine Qs ?_;refine En_ ?_;intro W9 Xc;refine Qs ?_;refine bz ?_;intro wE J;have F:=J.ext;have R:=aJ F;clear J F;have B:=I.v7 i Wj;rw[Q.o] at B;have W:=aJ (B.ext R.o);clear B XT Xg Xf Wz WT WS;have O:Hid (wE.there gx (141+i*6) 6):=aJ AaM;refine aN rfl 42 (.tmp 43) (.tmp 39) rfl gx (141+i*6) e7.cells rf rf O.o bE (dM e7) ?_;intro Xt l;refine Qp ?_;replace I:=aJ ((I.ext R.o).put (e:=18+i) (q:=bef bs i) (n:=841) aa aa W.o aa l);clear l O R W;(go_wp2_with fail);refine tN 8 [(3,.gv (GQ.i 0 0) (64)),(4,.eq (.pointer (γ ⟨gx,0,δ⟩)))] ?_;refine Qs ?_;refine Ee (fun T J=>bO gf 0 _ (bM.ext I.g.f J.1) aa aa) ?_;intro ea Xo Xi;refine En_ ?_;intro WV Wx;refine Qs ?_;refine bz ?_;intro wE J;have F:=J.ext;have D:GV wE ea.v (GQ.i 0 0) (64):=aeM (J.at_ 3 (e:=(ea.v,Xo,Xi)) rf);have H:=aJ D;clear D;have R:=aJ F;clear J F;have O:Hid (wE.there gx (249+i*6) 6):=aJ Aci;refine aN rfl 42 (.tmp 51) (.tmp 47) rfl gx (249+i*6) ea.cells rf rf O.o bE (dM ea) ?_;intro Xz l;refine Qp ?_;replace I:=aJ ((I.ext R.o).put (e:=36+i) (q:=GQ.i 0 0) (n:=64) aa aa H.o aa l);clear l O R H;(go_wp2_with fail);refine tN 8 [(3,.gv (GQ.i 0 0) (64)),(4,.eq (.pointer (γ ⟨gx,0,δ⟩)))] ?_;refine Qs ?_;refine Ee (fun T J=>bO gf 0 _ (bM.ext I.g.f J.1) aa aa) ?_;intro eb Xo Xi;refine En_ ?_;intro WV Wx;refine Qs ?_;refine bz ?_;intro wE J;have F:=J.ext;have Wl:GV wE eb.v (GQ.i 0 0) (64):=aeM (J.at_ 3 (e:=(eb.v,Xo,Xi)) rf);have Wo:=aJ Wl;clear Wl;have R:=aJ F;clear J F;have O:Hid (wE.there gx (33+i*6) 6):=aJ AcZ;refine aN rfl 42 (.tmp 59) (.tmp 55) rfl gx (33+i*6) eb.cells rf rf O.o bE (dM eb) ?_;intro Xy l;refine Qp ?_;replace I:=aJ ((I.ext R.o).put (e:=i) (q:=GQ.i 0 0) (n:=64) aa aa Wo.o aa l);clear l O R Wo;go_wp2_with fail
    exact AcK
   .obtain rfl:i=18:=aa;have hd:decide ((18:Int)<18)=ζ:=aj;replace I:=aJ (I.to (D':=fun e=>e<54) (Q':=fun e=>vbe bs (e/18) (e%18)) (fun e _ U=>⟨⟨U,Ab _ aa⟩,rfl⟩));(go_wp2_with fail);refine(bO gf 0 _ (I.g.f) aa aa).mono ?_;rintro _ wa ⟨_,rfl,M,F⟩;obtain⟨P,rfl⟩:=M.en;replace I:=I.aA F;have G:=aJ M;clear M F;(go_wp2_with fail);refine(bO gf 0 _ (I.g.f) aa aa).mono ?_;rintro _ wb ⟨_,rfl,M,F⟩;obtain⟨fb,rfl⟩:=M.en;replace I:=I.aA F;replace G:=G.aA F;have K:=aJ M;clear M F;(go_wp2_with fail);refine(bO gf 0 _ (I.g.f) aa aa).mono ?_;rintro _ wc ⟨_,rfl,M,F⟩;obtain⟨fc,rfl⟩:=M.en;replace I:=I.aA F;replace G:=G.aA F;replace K:=K.aA F;have WR:=aJ M;clear M F;(iterate 2 (try (first|go_values|go_skip|go_guarded|go_step|go_upon|go_in|go_back|go_simp)));simp only[En.v,gv];(iterate 9 (try (first|go_values|go_skip|go_guarded|go_step|go_upon|go_in|go_back|go_simp)));have O:Hid (wc.there gx 357 18):=aJ (I.g.b.there aa);refine aN rfl 102 (.tmp 70) (.tmp 68) rfl gx 357 (P.cells++(fb.cells++fc.cells)) rf rf O.o kS (nK _ _ _) ?_;intro wd l;refine Qp ?_;replace I:=aJ (I.U0 G.o K.o WR.o aa l);clear l O G K WR;(go_wp2_with fail);refine aak (v:=.tuple #[]) (aaq rfl _ _ _) rfl ⟨rfl,_,I.g.to (fun e U hd=>Fp V.o U hd)⟩
 .have hd:(f.kind !=0)=ε:=by simp[hk]
  cases hL:lv bs fN with
  |false=>
   have kf:=Blk.cell Wt.o;have V:Hid (¬(f.kind≠0/\lv bs fN=ε)):=aJ (fun h=>by rw[hL] at h;exact absurd h.2 aj);have XZ:=(S.ext HX.o).cell_ (k:=14) aa WC.o;have XJ:=(S.ext HX.o).cell_ (k:=15+fN) Adt XF.o;rw[hL] at XJ;have q1:(0:Int)<=(fN:Int):=aa;have q2:(fN:Int)<18:=by have:=Xd.o;omega
   go_quiet (fail);generalize Wp:w1.drewN nq=wq;have WJ:Ext w1 wq:=by rw[<-Wp];exact(Ext.refl _).drewN _
   replace Wt:=Wt.aA WJ;replace HX:=HX.aC WJ;clear WJ Wp kf;(go_wp2_with fail);have XK:=Ws.mod (aeI HX.o) WG.o WQ.o (C':=eY C E0) (fun i hi=>dz hi);refine(uu gx gf 1 nb cb ζ (eY C E0) A Bv bs fN wq (bM.ext HC.o HX.o) (S.ext HX.o) XK WC.o Xd.o (fun h=>absurd h aj) aa).mono ?_;rintro _ w2 ⟨f7,rfl,M,F⟩;clear XK;have B:∀k,k<18->GV w2 (f7 k).v (bef bs k) 841:=M;have W:=aJ B;replace Wt:=Wt.aA F;replace HX:=HX.aC F;clear M F B;(iterate 2 (try (first|go_values|go_skip|go_guarded|go_step|go_upon|go_in|go_back|go_simp)));refine eP rfl 100 rfl _ tX ?_;intro w3 l;refine aN rfl 100 (.tmp 7) (.tmp 31) rfl w2.heap.size 0 (aM 18 f7) rf rf Adp (kP f7) (bY 18 f7) ?_;intro w4 WK;refine Qp ?_;have Ww:=afc (wq:=wq) HC.o S.o Xn.o HX.o Wt.o W.o XM.o XI.o l WK (fun e=>e<54/\e%18<0) (fun e=>vbe bs (e/18) (e%18)) (fun e=>aa);have HS:=aJ Ww;clear Ww l WK Wt W HX;generalize w2.heap.size=g7 at HS⊢;go_wp2_with fail
   go_loopw [32] (fun iv wr=>∃i:Nat,i<=18/\iv=.int .i64 i/\∃E,Sv w wr gx gf g5 g7 C E (fun e=>e<54/\e%18<i) (fun e=>vbe bs (e/18) (e%18)) f f7 bs) (fun iv _=>18-(intOf iv).toNat)
   case atStart=>exact⟨0,aa,rfl,E0,HS.o⟩
   case round=>
    clear HS;rename World=>wr;obtain⟨i,hi,rfl,E,hR⟩:=hrel;have I:=aJ hR;clear hR;by_cases Wj:i<18
    .have hd:decide ((i:Int)<18)=ε:=ae;have q1:(0:Int)<=(i:Int):=aa;have q2:(i:Int)<18:=aa;obtain⟨e7,Wu⟩:∃e,f7 i=e:=⟨_,rfl⟩;have Q:=aJ Wu;clear Wu;(go_wp2_with fail);have XT:=aK.cell (show wr.cell? ⟨g7,i*6,δ⟩=_ from jD I.o Q.o Wj (t:=0) (u:=.bool e7.s1) rfl);have Xg:=aK.cell (show wr.cell? ⟨g7,i*6+1,δ⟩=_ from jD I.o Q.o Wj (t:=1) (u:=.slice e7.A1 e7.n1 e7.c1) rfl);have Xf:=aK.cell (show wr.cell? ⟨g7,i*6+2,δ⟩=_ from jD I.o Q.o Wj (t:=2) (u:=.bool e7.s2) rfl);have Wz:=aK.cell (show wr.cell? ⟨g7,i*6+3,δ⟩=_ from jD I.o Q.o Wj (t:=3) (u:=.slice e7.A2 e7.n2 e7.c2) rfl);have WT:=aK.cell (show wr.cell? ⟨g7,i*6+4,δ⟩=_ from jD I.o Q.o Wj (t:=4) (u:=.bool e7.s3) rfl);have WS:=aK.cell (show wr.cell? ⟨g7,i*6+5,δ⟩=_ from jD I.o Q.o Wj (t:=5) (u:=.slice e7.A3 e7.n3 e7.c3) rfl);refine tN 9 [(5,.eq (.pointer (γ ⟨gx,0,δ⟩)))] ?_;refine Qs ?_;refine En_ ?_;intro W9 Xc;refine Qs ?_;refine bz ?_;intro wE J;have F:=J.ext;have R:=aJ F;clear J F;have B:=I.v7 i Wj;rw[Q.o] at B;have W:=aJ (B.ext R.o);clear B XT Xg Xf Wz WT WS;have O:Hid (wE.there gx (141+i*6) 6):=aJ AaM;refine aN rfl 42 (.tmp 43) (.tmp 39) rfl gx (141+i*6) e7.cells rf rf O.o bE (dM e7) ?_;intro Xt l;refine Qp ?_;replace I:=aJ ((I.ext R.o).put (e:=18+i) (q:=bef bs i) (n:=841) aa aa W.o aa l);clear l O R W;(go_wp2_with fail);refine tN 8 [(3,.gv (GQ.i 0 0) (64)),(4,.eq (.pointer (γ ⟨gx,0,δ⟩)))] ?_;refine Qs ?_;refine Ee (fun T J=>bO gf 0 _ (bM.ext I.g.f J.1) aa aa) ?_;intro ea Xo Xi;refine En_ ?_;intro WV Wx;refine Qs ?_;refine bz ?_;intro wE J;have F:=J.ext;have D:GV wE ea.v (GQ.i 0 0) (64):=aeM (J.at_ 3 (e:=(ea.v,Xo,Xi)) rf);have H:=aJ D;clear D;have R:=aJ F;clear J F;have O:Hid (wE.there gx (249+i*6) 6):=aJ Aci;refine aN rfl 42 (.tmp 51) (.tmp 47) rfl gx (249+i*6) ea.cells rf rf O.o bE (dM ea) ?_;intro Xz l;refine Qp ?_;replace I:=aJ ((I.ext R.o).put (e:=36+i) (q:=GQ.i 0 0) (n:=64) aa aa H.o aa l);clear l O R H;(go_wp2_with fail);refine tN 8 [(3,.gv (GQ.i 0 0) (64)),(4,.eq (.pointer (γ ⟨gx,0,δ⟩)))] ?_;refine Qs ?_;refine Ee (fun T J=>bO gf 0 _ (bM.ext I.g.f J.1) aa aa) ?_;intro eb Xo Xi;refine En_ ?_;intro WV Wx;refine Qs ?_;refine bz ?_;intro wE J;have F:=J.ext;have Wl:GV wE eb.v (GQ.i 0 0) (64):=aeM (J.at_ 3 (e:=(eb.v,Xo,Xi)) rf);have Wo:=aJ Wl;clear Wl;have R:=aJ F;clear J F;have O:Hid (wE.there gx (33+i*6) 6):=aJ AcZ;refine aN rfl 42 (.tmp 59) (.tmp 55) rfl gx (33+i*6) eb.cells rf rf O.o bE (dM eb) ?_;intro Xy l;refine Qp ?_;replace I:=aJ ((I.ext R.o).put (e:=i) (q:=GQ.i 0 0) (n:=64) aa aa Wo.o aa l);clear l O R Wo;go_wp2_with fail
     exact AcK
    .obtain rfl:i=18:=aa;have hd:decide ((18:Int)<18)=ζ:=aj;replace I:=aJ (I.to (D':=fun e=>e<54) (Q':=fun e=>vbe bs (e/18) (e%18)) (fun e _ U=>⟨⟨U,Ab _ aa⟩,rfl⟩));(go_wp2_with fail);refine(bO gf 0 _ (I.g.f) aa aa).mono ?_;rintro _ wa ⟨_,rfl,M,F⟩;obtain⟨P,rfl⟩:=M.en;replace I:=I.aA F;have G:=aJ M;clear M F;(go_wp2_with fail);refine(bO gf 0 _ (I.g.f) aa aa).mono ?_;rintro _ wb ⟨_,rfl,M,F⟩;obtain⟨fb,rfl⟩:=M.en;replace I:=I.aA F;replace G:=G.aA F;have K:=aJ M;clear M F;(go_wp2_with fail);refine(bO gf 0 _ (I.g.f) aa aa).mono ?_;rintro _ wc ⟨_,rfl,M,F⟩;obtain⟨fc,rfl⟩:=M.en;replace I:=I.aA F;replace G:=G.aA F;replace K:=K.aA F;have WR:=aJ M;clear M F;(iterate 2 (try (first|go_values|go_skip|go_guarded|go_step|go_upon|go_in|go_back|go_simp)));simp only[En.v,gv];(iterate 9 (try (first|go_values|go_skip|go_guarded|go_step|go_upon|go_in|go_back|go_simp)));have O:Hid (wc.there gx 357 18):=aJ (I.g.b.there aa);refine aN rfl 102 (.tmp 70) (.tmp 68) rfl gx 357 (P.cells++(fb.cells++fc.cells)) rf rf O.o kS (nK _ _ _) ?_;intro wd l;refine Qp ?_;replace I:=aJ (I.U0 G.o K.o WR.o aa l);clear l O G K WR;(go_wp2_with fail);refine aak (v:=.tuple #[]) (aaq rfl _ _ _) rfl ⟨rfl,_,I.g.to (fun e U hd=>Fp V.o U hd)⟩
  |true=>
   have kf:=Blk.cell Wt.o;have V:Hid (f.kind≠0/\lv bs fN=ε):=aJ ⟨hk,hL⟩;have XZ:=(S.ext HX.o).cell_ (k:=14) aa WC.o;have XJ:=(S.ext HX.o).cell_ (k:=15+fN) Adt XF.o;rw[hL] at XJ;have q1:(0:Int)<=(fN:Int):=aa;have q2:(fN:Int)<18:=by have:=Xd.o;omega
   go_quiet (fail);generalize Wp:w1.drewN nq=wq;have WJ:Ext w1 wq:=by rw[<-Wp];exact(Ext.refl _).drewN _
   replace Wt:=Wt.aA WJ;replace HX:=HX.aC WJ;clear WJ Wp kf;(go_wp2_with fail);have XK:=Ws.mod (aeI HX.o) WG.o WQ.o (C':=eY C E0) (fun i hi=>dz hi);refine(uu gx gf 1 nb cb ζ (eY C E0) A Bv bs fN wq (bM.ext HC.o HX.o) (S.ext HX.o) XK WC.o Xd.o (fun h=>absurd h aj) aa).mono ?_;rintro _ w2 ⟨f7,rfl,M,F⟩;clear XK;have B:∀k,k<18->GV w2 (f7 k).v (bef bs k) 841:=M;have W:=aJ B;replace Wt:=Wt.aA F;replace HX:=HX.aC F;clear M F B;(iterate 2 (try (first|go_values|go_skip|go_guarded|go_step|go_upon|go_in|go_back|go_simp)));refine eP rfl 100 rfl _ tX ?_;intro w3 l;refine aN rfl 100 (.tmp 7) (.tmp 31) rfl w2.heap.size 0 (aM 18 f7) rf rf Adp (kP f7) (bY 18 f7) ?_;intro w4 WK;refine Qp ?_;have Ww:=afc (wq:=wq) HC.o S.o Xn.o HX.o Wt.o W.o XM.o XI.o l WK (fun e=>e<54/\e%18<0) (fun e=>vbe bs (e/18) (e%18)) (fun e=>aa);have HS:=aJ Ww;clear Ww l WK Wt W HX;generalize w2.heap.size=g7 at HS⊢;go_wp2_with fail
   go_loopw [32] (fun iv wr=>∃i:Nat,i<=18/\iv=.int .i64 i/\∃E,Sv w wr gx gf g5 g7 C E (fun e=>e<54/\e%18<i) (fun e=>vbe bs (e/18) (e%18)) f f7 bs) (fun iv _=>18-(intOf iv).toNat)
   case atStart=>exact⟨0,aa,rfl,E0,HS.o⟩
   case round=>
    clear HS;rename World=>wr;obtain⟨i,hi,rfl,E,hR⟩:=hrel;have I:=aJ hR;clear hR;by_cases Wj:i<18
    .have hd:decide ((i:Int)<18)=ε:=ae;have q1:(0:Int)<=(i:Int):=aa;have q2:(i:Int)<18:=aa;obtain⟨e7,Wu⟩:∃e,f7 i=e:=⟨_,rfl⟩;have Q:=aJ Wu;clear Wu;(go_wp2_with fail);have XT:=aK.cell (show wr.cell? ⟨g7,i*6,δ⟩=_ from jD I.o Q.o Wj (t:=0) (u:=.bool e7.s1) rfl);have Xg:=aK.cell (show wr.cell? ⟨g7,i*6+1,δ⟩=_ from jD I.o Q.o Wj (t:=1) (u:=.slice e7.A1 e7.n1 e7.c1) rfl);have Xf:=aK.cell (show wr.cell? ⟨g7,i*6+2,δ⟩=_ from jD I.o Q.o Wj (t:=2) (u:=.bool e7.s2) rfl);have Wz:=aK.cell (show wr.cell? ⟨g7,i*6+3,δ⟩=_ from jD I.o Q.o Wj (t:=3) (u:=.slice e7.A2 e7.n2 e7.c2) rfl);have WT:=aK.cell (show wr.cell? ⟨g7,i*6+4,δ⟩=_ from jD I.o Q.o Wj (t:=4) (u:=.bool e7.s3) rfl);have WS:=aK.cell (show wr.cell? ⟨g7,i*6+5,δ⟩=_ from jD I.o Q.o Wj (t:=5) (u:=.slice e7.A3 e7.n3 e7.c3) rfl);refine tN 9 [(5,.eq (.pointer (γ ⟨gx,0,δ⟩)))] ?_;refine Qs ?_;refine En_ ?_;intro W9 Xc;refine Qs ?_;refine bz ?_;intro wE J;have F:=J.ext;have R:=aJ F;clear J F;have B:=I.v7 i Wj;rw[Q.o] at B;have W:=aJ (B.ext R.o);clear B XT Xg Xf Wz WT WS;have O:Hid (wE.there gx (141+i*6) 6):=aJ AaM;refine aN rfl 42 (.tmp 43) (.tmp 39) rfl gx (141+i*6) e7.cells rf rf O.o bE (dM e7) ?_;intro Xt l;refine Qp ?_;replace I:=aJ ((I.ext R.o).put (e:=18+i) (q:=bef bs i) (n:=841) aa aa W.o aa l);clear l O R W;(go_wp2_with fail);refine tN 8 [(3,.gv (GQ.i 0 0) (64)),(4,.eq (.pointer (γ ⟨gx,0,δ⟩)))] ?_;refine Qs ?_;refine Ee (fun T J=>bO gf 0 _ (bM.ext I.g.f J.1) aa aa) ?_;intro ea Xo Xi;refine En_ ?_;intro WV Wx;refine Qs ?_;refine bz ?_;intro wE J;have F:=J.ext;have D:GV wE ea.v (GQ.i 0 0) (64):=aeM (J.at_ 3 (e:=(ea.v,Xo,Xi)) rf);have H:=aJ D;clear D;have R:=aJ F;clear J F;have O:Hid (wE.there gx (249+i*6) 6):=aJ Aci;refine aN rfl 42 (.tmp 51) (.tmp 47) rfl gx (249+i*6) ea.cells rf rf O.o bE (dM ea) ?_;intro Xz l;refine Qp ?_;replace I:=aJ ((I.ext R.o).put (e:=36+i) (q:=GQ.i 0 0) (n:=64) aa aa H.o aa l);clear l O R H;(go_wp2_with fail);refine tN 8 [(3,.gv (GQ.i 0 0) (64)),(4,.eq (.pointer (γ ⟨gx,0,δ⟩)))] ?_;refine Qs ?_;refine Ee (fun T J=>bO gf 0 _ (bM.ext I.g.f J.1) aa aa) ?_;intro eb Xo Xi;refine En_ ?_;intro WV Wx;refine Qs ?_;refine bz ?_;intro wE J;have F:=J.ext;have Wl:GV wE eb.v (GQ.i 0 0) (64):=aeM (J.at_ 3 (e:=(eb.v,Xo,Xi)) rf);have Wo:=aJ Wl;clear Wl;have R:=aJ F;clear J F;have O:Hid (wE.there gx (33+i*6) 6):=aJ AcZ;refine aN rfl 42 (.tmp 59) (.tmp 55) rfl gx (33+i*6) eb.cells rf rf O.o bE (dM eb) ?_;intro Xy l;refine Qp ?_;replace I:=aJ ((I.ext R.o).put (e:=i) (q:=GQ.i 0 0) (n:=64) aa aa Wo.o aa l);clear l O R Wo;go_wp2_with fail
     exact AcK
    .obtain rfl:i=18:=aa;have hd:decide ((18:Int)<18)=ζ:=aj;replace I:=aJ (I.to (D':=fun e=>e<54) (Q':=fun e=>vbe bs (e/18) (e%18)) (fun e _ U=>⟨⟨U,Ab _ aa⟩,rfl⟩));(go_wp2_with fail);refine(bO gf 0 _ (I.g.f) aa aa).mono ?_;rintro _ wa ⟨_,rfl,M,F⟩;obtain⟨P,rfl⟩:=M.en;replace I:=I.aA F;have G:=aJ M;clear M F;(go_wp2_with fail);refine(bO gf 0 _ (I.g.f) aa aa).mono ?_;rintro _ wb ⟨_,rfl,M,F⟩;obtain⟨fb,rfl⟩:=M.en;replace I:=I.aA F;replace G:=G.aA F;have K:=aJ M;clear M F;(go_wp2_with fail);refine(bO gf 0 _ (I.g.f) aa aa).mono ?_;rintro _ wc ⟨_,rfl,M,F⟩;obtain⟨fc,rfl⟩:=M.en;replace I:=I.aA F;replace G:=G.aA F;replace K:=K.aA F;have WR:=aJ M;clear M F;(iterate 2 (try (first|go_values|go_skip|go_guarded|go_step|go_upon|go_in|go_back|go_simp)));simp only[En.v,gv];(iterate 9 (try (first|go_values|go_skip|go_guarded|go_step|go_upon|go_in|go_back|go_simp)));have O:Hid (wc.there gx 357 18):=aJ (I.g.b.there aa);refine aN rfl 102 (.tmp 70) (.tmp 68) rfl gx 357 (P.cells++(fb.cells++fc.cells)) rf rf O.o kS (nK _ _ _) ?_;intro wd l;refine Qp ?_;replace I:=aJ (I.U0 G.o K.o WR.o aa l);clear l O G K WR;have kc:wd.cell? ⟨gf,0,δ⟩=γ (.int .i64 0):=(I.g.f.cell 0).trans rfl;(iterate 42 (try (first|go_values|go_skip|go_guarded|go_step|go_upon|go_in|go_back|go_simp)));refine eP rfl 194 rfl _ MJ ?_;intro we l;refine Qp ?_;have hz:=(afB (fN:=fN) I.o l).to (fun e _ U=>Lx (bs:=bs) (fN:=fN) U);have HZ:=aJ hz;clear kc l I hz;generalize wd.heap.size=g9 at HZ⊢;go_wp2_with fail
     go_loopw [80] (fun iv wr=>∃i:Nat,i<=2/\iv=.int .i64 i/\∃E f9,Sw w wr gx gf g5 g7 g9 C E (fun e=>e<57\/58<=e/\e<58+i) (qi bs fN) f f7 bs fN f9 i) (fun iv _=>2-(intOf iv).toNat)
     case atStart=>exact⟨0,aa,rfl,_,_,HZ.o⟩
     case round=>
      clear HZ;rename World=>wr;obtain⟨i,hi,rfl,E,f9,hR⟩:=hrel;have I:=aJ hR;clear hR;by_cases Wj:i<2
      .have hd:decide ((i:Int)<2)=ε:=ae;have q1:(0:Int)<=(i:Int):=aa;have q2:(i:Int)<2:=aa;(go_wp2_with fail);refine(uu gx gf i nb cb ε (eY C E) A Bv bs fN wr I.s.g.f I.s.g.b (I.s.net Ws.o WG.o WQ.o) ((dz aa).trans Xr.o) Xd.o (fun _=>V.o.2) aa).mono ?_;rintro _ w9 ⟨Z,rfl,M,F⟩;have WW:∀k,k<18->GV w9 (Z k).v (drp bs fN i k) 841:=M;replace I:=I.aA F;have WU:=aJ WW;clear M WW F;(iterate 5 (try (first|go_values|go_skip|go_guarded|go_step|go_upon|go_in|go_back|go_simp)));have O:=aJ (I.UE Wj Z);refine aN rfl 100 (.tmp 88) (.tmp 87) rfl g9 (i*108) (aM 18 Z) rf rf O.o (kP Z) (bY 18 Z) ?_;intro wz l;refine Qp ?_;replace I:=aJ (I.drops Wj WU.o l);clear l O WU;(go_wp2_with fail);obtain⟨e9,XU⟩:∃e,Z fN=e:=⟨_,rfl⟩;have WB:(fun e=>if e/18=i then Z (e%18) else f9 e) (i*18+fN)=e9:=by have:=Xd.o;show(if (i*18+fN)/18=i then Z ((i*18+fN)%18) else f9 _)=e9;rw[ι aa,show(i*18+fN)%18=fN by omega,XU]
       have Xe:=aJ WB;have XL:=Xd.o;clear WB XU;have q3:(0:Int)<=(fN:Int):=aa;have q4:(fN:Int)<18:=aa;have XA:=aK.cell (I.s.g.b.cell_ (k:=14) aa ((dz aa).trans Xr.o));have XT:=aK.cell (show wz.cell? ⟨g9,i*108+fN*6,δ⟩=_ from I.c9 (j:=i) (k:=fN) Wj aa Xe.o (t:=0) (u:=.bool e9.s1) rfl);have Xg:=aK.cell (show wz.cell? ⟨g9,i*108+fN*6+1,δ⟩=_ from I.c9 (j:=i) (k:=fN) Wj aa Xe.o (t:=1) (u:=.slice e9.A1 e9.n1 e9.c1) rfl);have Xf:=aK.cell (show wz.cell? ⟨g9,i*108+fN*6+2,δ⟩=_ from I.c9 (j:=i) (k:=fN) Wj aa Xe.o (t:=2) (u:=.bool e9.s2) rfl);have Wz:=aK.cell (show wz.cell? ⟨g9,i*108+fN*6+3,δ⟩=_ from I.c9 (j:=i) (k:=fN) Wj aa Xe.o (t:=3) (u:=.slice e9.A2 e9.n2 e9.c2) rfl);have WT:=aK.cell (show wz.cell? ⟨g9,i*108+fN*6+4,δ⟩=_ from I.c9 (j:=i) (k:=fN) Wj aa Xe.o (t:=4) (u:=.bool e9.s3) rfl);have WS:=aK.cell (show wz.cell? ⟨g9,i*108+fN*6+5,δ⟩=_ from I.c9 (j:=i) (k:=fN) Wj aa Xe.o (t:=5) (u:=.slice e9.A3 e9.n3 e9.c3) rfl);refine tN 13 [(4,.eq (.pointer (γ ⟨gx,0,δ⟩))),(10,.eq (.pointer (γ ⟨gx,0,δ⟩)))] ?_;refine Qs ?_;refine En_ ?_;intro WV Wx;refine Qs ?_;refine En_ ?_;intro YN YO;refine Qs ?_;refine bz ?_;intro wE J;have F:=J.ext;have R:=aJ F;clear J F;have WW:=I.at9 (j:=i) (k:=fN) aa aa Xe.o;have WU:=aJ (WW.ext R.o);clear WW XT Xg Xf Wz WT WS XA;have O:Hid (wE.there gx (381+i*6) 6):=aJ (by have h:=(I.ext R.o).s.g.there (e:=58+i) aa;rw[show 33+(58+i)*6=381+i*6 by omega] at h;exact h);refine aN rfl 42 (.tmp 101) (.tmp 98) rfl gx (381+i*6) e9.cells rf rf O.o bE (dM e9) ?_;intro Yb l;refine Qp ?_;replace I:=aJ ((I.ext R.o).put (e:=58+i) (q:=drp bs fN i fN) (n:=841) aa aa WU.o aa l);clear l O R WU;go_wp2_with fail
       go_roundw
       case rel=>exact⟨i+1,aa,au,_,_,I.to (fun e _ hd=>mid_step Wj hd)⟩
       case measure=>simp[intOf];omega
      .obtain rfl:i=2:=aa;have hd:decide ((2:Int)<2)=ζ:=aj;obtain⟨e7,Wu⟩:∃e,f7 fN=e:=⟨_,rfl⟩;have Q:=aJ Wu;clear Wu;have XL:=Xd.o;have q3:(0:Int)<=(fN:Int):=aa;have q4:(fN:Int)<18:=aa;have XZ:=I.s.g.b.cell_ (k:=14) aa ((dz aa).trans Xr.o);have Ya:wr.cell? ⟨g7,fN*6,δ⟩=γ (.bool e7.s1):=jD (i:=fN) I.s Q.o aa (t:=0) rfl;have WH:wr.cell? ⟨g7,fN*6+1,δ⟩=γ (.slice e7.A1 e7.n1 e7.c1):=jD (i:=fN) I.s Q.o aa (t:=1) rfl;have WF:wr.cell? ⟨g7,fN*6+2,δ⟩=γ (.bool e7.s2):=jD (i:=fN) I.s Q.o aa (t:=2) rfl;have WX:wr.cell? ⟨g7,fN*6+3,δ⟩=γ (.slice e7.A2 e7.n2 e7.c2):=jD (i:=fN) I.s Q.o aa (t:=3) rfl;have WY:wr.cell? ⟨g7,fN*6+4,δ⟩=γ (.bool e7.s3):=jD (i:=fN) I.s Q.o aa (t:=4) rfl;have WZ:wr.cell? ⟨g7,fN*6+5,δ⟩=γ (.slice e7.A3 e7.n3 e7.c3):=jD (i:=fN) I.s Q.o aa (t:=5) rfl;have O:Hid (wr.there gx 375 6):=aJ (I.s.g.b.there aa);(iterate 45 (try (first|go_values|go_skip|go_guarded|go_step|go_upon|go_in|go_back|go_simp)));refine aN rfl 42 (.tmp 111) (.tmp 109) rfl gx 375 e7.cells rf rf O.o bE (dM e7) ?_;intro ws l;refine Qp ?_;have B:=I.s.v7 fN aa;rw[Q.o] at B;replace I:=aJ (I.put (e:=57) (q:=bef bs fN) (n:=841) aa aa B aa l);clear l O B Ya WH WF WX WY WZ XZ;have kc:ws.cell? ⟨gf,0,δ⟩=γ (.int .i64 0):=(I.s.g.f.cell 0).trans rfl;replace I:=aJ (I.to (D':=fun e=>e<60) (Q':=qi bs fN) (fun e U _=>Re U));have kf:=Blk.cell I.s.b5;(go_wp2_with fail);clear kf kc;refine(I.short Ws.ok Ws.l23 V.o.2 WP.o).mono ?_;rintro _ wt ⟨P,rfl,M,F⟩;replace I:=I.aA F;have HV:=aJ M;clear M F;(iterate 8 (try (first|go_values|go_skip|go_guarded|go_step|go_upon|go_in|go_back|go_simp)));have O:Hid (wt.there gx 357 18):=aJ (I.s.g.b.there aa);refine aN rfl 102 (.tmp 123) (.tmp 121) rfl gx 357 (aM 3 P) rf rf O.o kS (bY 3 P) ?_;intro wu l;refine Qp ?_;replace I:=aJ (I.faults HV.o l);clear l O HV;have WN:wu.rangeAt gx 15 (jd (lv bs)):=I.s.g.b.rangeAt (by simp[jd]) (fun j v hv=>uo (I.s.net Ws.o WG.o WQ.o) hv);have Wn:=aJ WN;clear WN;(go_wp2_with (refine σ rfl 99 _ rfl gx 15 rf (jd (lv bs)) _ Wn.o abC rfl uA ?_));clear Wn;replace I:=aJ (I.to (D':=fun e=>e<60) (Q':=oZ bs fN f 0 0) (fun e _ U=>⟨U,Vu⟩));go_loopw [128] (fun iv wr=>∃i:Nat,i<=18/\iv=.int .i64 i/\∃E,Sw w wr gx gf g5 g7 g9 C E (fun e=>e<60) (oZ bs fN f i 0) f f7 bs fN f9 2) (fun iv _=>18-(intOf iv).toNat)
       case atStart=>exact⟨0,aa,rfl,_,I.o⟩
       case round=>
        clear I;rename World=>wr;obtain⟨i,hi,rfl,E,hR⟩:=hrel;have I:=aJ hR;clear hR;by_cases Wj:i<18
        .have hd:decide ((i:Int)<18)=ε:=ae;have WE:=KR (L:=lv bs) Wj wr;have q1:(0:Int)<=(i:Int):=aa;have q2:(i:Int)<18:=aa;cases hL:lv bs i with
         |false=>
          rw[hL] at WE;have HL:=aJ hL;go_wp2_with fail
          go_loopw [132] (fun iv wq=>∃j:Nat,j<=3/\iv=.int .i64 j/\∃E,Sw w wq gx gf g5 g7 g9 C E (fun e=>e<60) (oZ bs fN f i j) f f7 bs fN f9 2) (fun iv _=>3-(intOf iv).toNat)
          case atStart=>exact⟨0,aa,rfl,_,I.o⟩
          case round=>
           clear I WE;rename World=>wq;obtain⟨j,hj,rfl,E2,hR⟩:=hrel;have I:=aJ hR;clear hR;by_cases Xh:j<3
           .have hd:decide ((j:Int)<3)=ε:=ae;have p1:(0:Int)<=(j:Int):=aa;have p2:(j:Int)<3:=aa
            go_wp2_with fail
            go_roundw
            case rel=>exact⟨j+1,aa,au,_,I.to (fun e U _=>⟨U,Sm HL.o U⟩)⟩
            case measure=>simp[intOf];omega
           .obtain rfl:j=3:=aa;have hd:decide ((3:Int)<3)=ζ:=aj
            go_wp2_with fail
            exact Adl
         |true=>
          rw[hL] at WE;have HL:=aJ hL;go_wp2_with fail
          go_loopw [132] (fun iv wq=>∃j:Nat,j<=3/\iv=.int .i64 j/\∃E,Sw w wq gx gf g5 g7 g9 C E (fun e=>e<60) (oZ bs fN f i j) f f7 bs fN f9 2) (fun iv _=>3-(intOf iv).toNat)
          case atStart=>exact⟨0,aa,rfl,_,I.o⟩
          case round=>
           clear I WE;rename World=>wq;obtain⟨j,hj,rfl,E2,hR⟩:=hrel;have I:=aJ hR;clear hR;by_cases Xh:j<3
           .have hd:decide ((j:Int)<3)=ε:=ae;have p1:(0:Int)<=(j:Int):=aa;have p2:(j:Int)<3:=aa;(go_wp2_with fail);obtain⟨m,Xb⟩:∃m:Nat,min j 1=m:=⟨_,rfl⟩;have Xp:(min (j:Int) 1)=(m:Int):=aa;have WI:m<2:=aa;have p3:(0:Int)<=(m:Int):=aa;have p4:(m:Int)<2:=aa;obtain⟨ea,XX⟩:∃e,E2 (54+j)=e:=⟨_,rfl⟩;obtain⟨eb,XW⟩:∃e,f9 (m*18+i)=e:=⟨_,rfl⟩;have X8:=aJ XX;have Yd:=aJ XW;have Yc:=aJ Xb;clear XX XW Xb;have XC:=aK.cell (show wq.cell? ⟨gx,357+j*6,δ⟩=_ from I.gx_ (e:=54+j) (a:=357+j*6) aa aa X8.o (t:=0) (u:=.bool ea.s1) rfl);have XN:=aK.cell (show wq.cell? ⟨gx,357+j*6+1,δ⟩=_ from I.gx_ (e:=54+j) (a:=357+j*6) aa aa X8.o (t:=1) (u:=.slice ea.A1 ea.n1 ea.c1) rfl);have Xx:=aK.cell (show wq.cell? ⟨gx,357+j*6+2,δ⟩=_ from I.gx_ (e:=54+j) (a:=357+j*6) aa aa X8.o (t:=2) (u:=.bool ea.s2) rfl);have XR:=aK.cell (show wq.cell? ⟨gx,357+j*6+3,δ⟩=_ from I.gx_ (e:=54+j) (a:=357+j*6) aa aa X8.o (t:=3) (u:=.slice ea.A2 ea.n2 ea.c2) rfl);have XO:=aK.cell (show wq.cell? ⟨gx,357+j*6+4,δ⟩=_ from I.gx_ (e:=54+j) (a:=357+j*6) aa aa X8.o (t:=4) (u:=.bool ea.s3) rfl);have Xw:=aK.cell (show wq.cell? ⟨gx,357+j*6+5,δ⟩=_ from I.gx_ (e:=54+j) (a:=357+j*6) aa aa X8.o (t:=5) (u:=.slice ea.A3 ea.n3 ea.c3) rfl);have XE:=aK.cell (show wq.cell? ⟨g9,m*108+i*6,δ⟩=_ from I.c9 (j:=m) (k:=i) WI aa Yd.o (t:=0) (u:=.bool eb.s1) rfl);have Xu:=aK.cell (show wq.cell? ⟨g9,m*108+i*6+1,δ⟩=_ from I.c9 (j:=m) (k:=i) WI aa Yd.o (t:=1) (u:=.slice eb.A1 eb.n1 eb.c1) rfl);have XD:=aK.cell (show wq.cell? ⟨g9,m*108+i*6+2,δ⟩=_ from I.c9 (j:=m) (k:=i) WI aa Yd.o (t:=2) (u:=.bool eb.s2) rfl);have XP:=aK.cell (show wq.cell? ⟨g9,m*108+i*6+3,δ⟩=_ from I.c9 (j:=m) (k:=i) WI aa Yd.o (t:=3) (u:=.slice eb.A2 eb.n2 eb.c2) rfl);have Xv:=aK.cell (show wq.cell? ⟨g9,m*108+i*6+4,δ⟩=_ from I.c9 (j:=m) (k:=i) WI aa Yd.o (t:=4) (u:=.bool eb.s3) rfl);have XH:=aK.cell (show wq.cell? ⟨g9,m*108+i*6+5,δ⟩=_ from I.c9 (j:=m) (k:=i) WI aa Yd.o (t:=5) (u:=.slice eb.A3 eb.n3 eb.c3) rfl);have Xq:Hid (GV wq ea.v (fcu bs fN f.kind f.r j) 2600):=aJ (by have h:=I.s.g.v (54+j) aa aa;rw[X8.o] at h;have e1:oZ bs fN f i j (54+j)=fcu bs fN f.kind f.r j:=(by unfold oZ Iu;rw[θ aa,θ aa,ι aa,show 54+j-54=j by omega]);rw[e1] at h;exact h.to (Pq Ws.ok Ws.l23 V.o.2 f.kind WP.o.1 WP.o.2 j));have X3:=aJ (I.at9 (j:=m) (k:=i) aa aa Yd.o);refine tN 15 [(3,.eq (.pointer (γ ⟨gx,0,δ⟩))),(8,.eq (.int .i64 (m:Int))),(13,.gv (fcu bs fN f.kind f.r j*drp bs fN m i) (3442)),(14,.box 42 #[.bool ζ,.slice δ 0 0,.bool ζ,.slice δ 0 0,.bool ζ,.slice δ 0 0])] ?_;refine Qs ?_;refine En_ ?_;intro Xo Xi;refine Qs ?_;refine dR rf rf rf ?_ ?_
            .exact Adg
            intro v_ YS YT WA;obtain⟨T,Wv⟩:=WA;obtain rfl:v_=_:=Wv.get;clear Wv T;refine Qp ?_;refine Qs ?_;refine Ee (fun T J=>(uq gf ea.v eb.v (fcu bs fN f.kind f.r j) (drp bs fN m i) 2600 841 _ (bM.ext I.s.g.f J.1) (Xq.ext J.1) (X3.ext J.1) aa)) ?_;intro em YM YQ;refine Eb ?_;intro Xa Za X6;refine bz ?_;intro wE J;have F:=J.ext;have Xl:=J.hV 13;have WM:=J.hB 14;have Xk:=aJ (J.low 14 _ rf);clear X6;have R:=aJ F;clear J F;have HM:=aJ Xl.o;have O:=aJ (WM.there (o:=0) (n:=6) ag);refine aN rfl 42 (.tmp 14) (.tmp 149) rfl Xa 0 em.cells rf rf O.o bE (dM em) ?_;intro wf l;refine Qp ?_;obtain⟨F,Wm,M,-⟩:=mR em R.o Xk.o WM.o l;have Yj:=aJ Wm;replace HM:=aJ (M _ _ _ HM.o);have Wq:=aJ (I.ext F);clear l O F Wm M R WM Xk Xl Xq X3 X8 Yd XC XE XN Xu Xx XD XR XP XO Xv Xw XH;obtain⟨eg,X9⟩:∃e,E2 (j*18+i)=e:=⟨_,rfl⟩;have WO:=aJ X9;clear X9;(go_wp2_with fail);have XQ:=aK.cell (show wf.cell? ⟨gx,33+j*108+i*6,δ⟩=_ from Wq.gx_ (e:=j*18+i) (a:=33+j*108+i*6) aa aa WO.o (t:=0) (u:=.bool eg.s1) rfl);have XV:=aK.cell (show wf.cell? ⟨gx,33+j*108+i*6+1,δ⟩=_ from Wq.gx_ (e:=j*18+i) (a:=33+j*108+i*6) aa aa WO.o (t:=1) (u:=.slice eg.A1 eg.n1 eg.c1) rfl);have X4:=aK.cell (show wf.cell? ⟨gx,33+j*108+i*6+2,δ⟩=_ from Wq.gx_ (e:=j*18+i) (a:=33+j*108+i*6) aa aa WO.o (t:=2) (u:=.bool eg.s2) rfl);have X7:=aK.cell (show wf.cell? ⟨gx,33+j*108+i*6+3,δ⟩=_ from Wq.gx_ (e:=j*18+i) (a:=33+j*108+i*6) aa aa WO.o (t:=3) (u:=.slice eg.A2 eg.n2 eg.c2) rfl);have X5:=aK.cell (show wf.cell? ⟨gx,33+j*108+i*6+4,δ⟩=_ from Wq.gx_ (e:=j*18+i) (a:=33+j*108+i*6) aa aa WO.o (t:=4) (u:=.bool eg.s3) rfl);have XY:=aK.cell (show wf.cell? ⟨gx,33+j*108+i*6+5,δ⟩=_ from Wq.gx_ (e:=j*18+i) (a:=33+j*108+i*6) aa aa WO.o (t:=5) (u:=.slice eg.A3 eg.n3 eg.c3) rfl);have Xj:=aK.blk Yj.o;have N:Hid (GV wf eg.v (vbe bs j i) 841):=aJ (by have h:=Wq.s.g.v (j*18+i) aa aa;rw[WO.o] at h;have e1:oZ bs fN f i j (j*18+i)=vbe bs j i:=(by unfold oZ;rw[ι aa,θ aa,show(j*18+i)/18=j by omega,show(j*18+i)%18=i by omega]);rw[e1] at h;exact h.to (Ue Ws.ok Ws.l23 j i));refine tN 18 [(7,.eq (.pointer (γ ⟨gx,0,δ⟩))),(13,.gv (vbe bs j i-fcu bs fN f.kind f.r j*drp bs fN m i) (4348)),(14,.eq (.pointer (γ ⟨gx,0,δ⟩)))] ?_;refine Qs ?_;refine En_ ?_;intro Yx Yh;refine Qs ?_;refine Ee (fun T J=>(ui gf eg.v em.v (vbe bs j i) (fcu bs fN f.kind f.r j*drp bs fN m i) 841 3442 _ (bM.ext Wq.s.g.f J.1) (N.ext J.1) (HM.ext J.1) aa)) ?_;intro es YM YQ;refine En_ ?_;intro ZE Za;refine Qs ?_;refine bz ?_;intro wE J;have F:=J.ext;have Xm:=J.hV 13;have R:=aJ F;clear J F;have O:Hid (wE.there gx (33+j*108+i*6) 6):=aJ (by have h:=(Wq.ext R.o).s.g.there (e:=j*18+i) aa;rw[show 33+(j*18+i)*6=33+j*108+i*6 by omega] at h;exact h);refine aN rfl 42 (.tmp 167) (.tmp 163) rfl gx (33+j*108+i*6) es.cells rf rf O.o bE (dM es) ?_;intro wh l;refine Qp ?_;have Y:=aJ ((Wq.ext R.o).put (e:=j*18+i) (q:=vbe bs j i-fcu bs fN f.kind f.r j*drp bs fN m i) (n:=4348) aa aa Xm.o aa l);clear l O R Xm N HM WO Xj Yj I Wq XQ XV X4 X7 X5 XY;go_wp2_with fail
            go_roundw
            case rel=>exact⟨j+1,aa,au,_,Y.to (fun e U _=>Rn (m:=m) Yc.o Xh Wj U)⟩
            case measure=>simp[intOf];omega
           .obtain rfl:j=3:=aa;have hd:decide ((3:Int)<3)=ζ:=aj
            go_wp2_with fail
            exact Adl
        .obtain rfl:i=18:=aa;have hd:decide ((18:Int)<18)=ζ:=aj;(go_wp2_with fail);refine aa1 (aaq rfl _ _ _) rfl ⟨rfl,_,I.s.g.to (fun e U _=>⟨U,QP V.o U⟩)⟩
section
variable {w W W1 W2:World} {gx gf:Nat} {C:Nat->Value} {Bv:Nat->BrV} {s:StD} {p:dA} {f:dZ}
def BH.net(h:BH w W gx gf C Bv s p f)(B:iT s)(l:lD s.buses.length s.lines.length f):∃A H,r9 W C A (bI s p f).length H Bv (bI s p f) (fun _=>ζ)/\∀b o,A=γ ⟨b,o,δ⟩->b≠gx:=by
 obtain⟨A,c,G,D,I⟩:=h.r.own.arr;have j:=qQ (p:=p) B l;have lx:=h.r.lx;refine⟨A,c,⟨G,D,rfl,fun i hi=>⟨(h.r.br i hi).pa,(h.r.br i hi).pb⟩,fun i hi=>(h.r.br i hi).z0,fun i hi=>(h.r.br i hi).z1,fun i hi=>(h.r.br i hi).e,fun k F=>h.liv k F,j.2,j.1⟩,fun b o e=> ?_⟩;have:=I b o e;omega
theorem Va(n k)(hn:n<3)(j:k<18):xA (bI s p f) (dK s p f) f (n*18+k)=iL (bI s p f) (dK s p f) f n k:=by
 unfold xA iL;rw[ι (by omega:n*18+k<54),ι (by omega:n*18+k<54),show(n*18+k)/18=n by omega,show(n*18+k)%18=k by omega]
theorem Vm(n)(hn:n<3):xA (bI s p f) (dK s p f) f (54+n)=xq (bI s p f) (dK s p f) f n:=by
 unfold xA xq;rw[θ (by omega:¬54+n<54),ι (by omega:54+n<57),θ (by omega:¬54+n<54),show 54+n-54=n by omega]
def mW.old{W W' X Y v}{o:Option BrD}(h:mW W X v o)(m:Mod (fun k=>k=Y) W W')(j:gu (fun k=>k=Y) W)(Z:∀g k,v=.pointer (γ ⟨g,k,δ⟩)->Y<g):mW W' X v o:=by
 cases o with
 |none=>exact h
 |some b=>
  obtain⟨g,k,bv,l,C,B,D,H,I,F,G,J⟩:=h;have:=Z g k l;exact⟨g,k,bv,l,C,π B m.size,fun t u N=>vX m B aa (D t u N),H,I,F.fo m j,G.fo m j,J.fo m j⟩
def mY.old{W W'}{X Y B:Nat}{C E}{s:StD}{p f}(h:mY W X C E s p f)(m:Mod (fun k=>k=Y) W W')(l:gu (fun k=>k=Y) W)(Z:∀(gB:Nat) (wv:Nat->Value),C 13=.slice (γ ⟨gB,0,δ⟩) s.bays.length s.bays.length->Arr W (γ ⟨gB,0,δ⟩) s.bays.length 1 (fun i=>[wv i])->Y<gB/\∀i,i<s.bays.length->∀g k,wv i=.pointer (γ ⟨g,k,δ⟩)->Y<g)(G:∃gB,C 13=.slice (γ ⟨gB,0,δ⟩) s.bays.length s.bays.length):mY W' X C E s p f:=by
 refine⟨fun n k hn H=>(h.v n k hn H).fo m l,fun n hn=>(h.i n hn).fo m l,fun F D=> ?_,h.live,h.ends,h.faulty,h.c0,?_⟩
 .obtain⟨a,b,c⟩:=h.seen F D;exact⟨a.fo m l,b.fo m l,c.fo m l⟩
 .obtain⟨K,bc,wv,F,D,I⟩:=h.bays;obtain⟨gB,j⟩:=G;have e:=F.symm.trans j;injection e with J L M;subst J;obtain⟨q1,q2⟩:=Z gB wv j D;exact⟨_,bc,wv,F,D.mod m (fun b o e hb=>by injection e with e;injection e with e _ _;have hb:b=Y:=hb;omega),fun i hi=>(I i hi).old m l (q2 i hi)⟩
def BH.JQ(h:BH w W gx gf C Bv s p f)(L:iT s)(F:Mod (fun k=>k=gx) W W1){E}(hs:GrS W1 W2 gx gf (jF C (lv (bI s p f))) E (fun e=>e<57\/f.kind≠0/\lv (bI s p f) (dK s p f)=ε) (xA (bI s p f) (dK s p f) f) 4400):mY W2 gx (jF C (lv (bI s p f))) E s p f:=by
 have G:Mod (fun k=>k=gx) W W2:=F.trans hs.m;have J:=h.r.far;refine⟨fun n k hn D=> ?_,fun n hn=> ?_,fun j B=>⟨?_,?_,?_⟩,fun k D=>mD D,fun l e Z U=> ?_,?_,?_,?_⟩
 .have:=hs.v (n*18+k) aa (.inl aa);rwa[Va n k hn D] at this
 .have:=hs.v (54+n) aa (.inl aa);rwa[Vm n hn] at this
 .have:=hs.v 57 aa (.inr ⟨j,B⟩);exact Aa8
 .have:=hs.v 58 aa (.inr ⟨j,B⟩);exact Aa8
 .have:=hs.v 59 aa (.inr ⟨j,B⟩);exact Aa8
 .rw[kQ aa];exact h.ends l e Z U
 .rw[kQ aa];exact h.c14
 .obtain⟨A,c,j,_⟩:=h.r.own.arr;exact⟨A,_,c,by rw[kQ aa];exact j⟩
 .obtain⟨gB,wv,j,B,K,I⟩:=h.bays;have lx:=h.r.lx;have hb:fA W2 gB 165 s.bays.length wv:=K.mod G aa;refine⟨γ ⟨gB,0,δ⟩,s.bays.length,wv,by rw[kQ aa];exact j,fun hn=>⟨gB,0,rfl,hb.lt,fun i hi t u N=> ?_⟩,fun i hi=>(I i hi).1.mod G J⟩;have H:t=0:=by have:=(μ.1 N).1;simp at this;omega
  subst H;have M:wv i=u:=by simpa using N
  rw[show 0+i*1+0=i by omega];exact hb.cell_ hi M
end
theorem Jv{s p}(h:jb s p=0):p.closed.length=s.bays.length/\p.links.length=s.bays.length/\∀i,i<s.bays.length->(p.links.getD i []).length=(s.bays.getD i η).links.length:=by
 unfold jb at h;split at h
 .rename_i l
  split at h
  .rename_i j
   rw[wo] at j;exact⟨l.1,l.2,fun i hi=>by have:=j i (aaz.2 hi);simpa using this⟩
  .exact absurd h aj
 .exact absurd h aj
theorem Sa{s f}(h:chk s=0)(j:iF s.buses.length s.lines.length f=0):FB s f=0:=by
 unfold FB;rw[h,j];rfl
theorem LV{A0 n0 c0 A1 n1 c1 A2 n2 c2 A3 n3 c3 LH s PA pn pc PB qn qc K p}(f w)(hs:kY w A0 n0 c0 A1 n1 c1 A2 n2 c2 A3 n3 c3 LH s)(hp:iW w PA pn PB qn K p)(hc:chk s=0)(XR:jb s p=0)(hf:iF s.buses.length s.lines.length f=0):
  Calls prog 42 #[stV s.name A0 n0 c0 A1 n1 c1 A2 n2 c2 A3 n3 c3,nu PA pn pc PB qn qc,oU f] w fun r w'=>∃C E gx,r=.returned (.tuple #[.agg (gl C E).toArray,.int .i64 0])/\mY w' gx C E s (resolve 0 p) f/\Ext w w':=by
 have Wu:=xh hc;have Xr:=afk hf;have WU:=Sa hc hf;have Wp:=aJ hs;have XJ:=aJ hp;have YB:=aJ hc;have Ya:=aJ XR;have Xp:=aJ hf;have WH:=aJ Wu;have XF:=aJ Xr;have WX:=aJ WU;clear hs hp hc XR hf Wu Xr WU;unfold stV nu oU;go_enter func42,ntmps42;(go_wp2_with (refine aS rfl 105 rfl _ xV (fun w_ Q=>Hid.o ?_)));refine aJ ?_;refine Qp ?_;replace Q:=Hid.o Q;have HX:Hid (Ext w w_):=aJ AcE;have Wm:Hid (Blk w_ w.heap.size 27 #[.string s.name,.slice A0 n0 c0,.slice A1 n1 c1,.slice A2 n2 c2,.slice A3 n3 c3]):=aJ AcV;have Ww:Hid (Blk w_ (w.heap.size+1) 31 #[.slice PA pn pc,.slice PB qn qc]):=aJ Ada;have Wt:Hid (Blk w_ (w.heap.size+2) 33 #[.int .i64 f.kind,.bool f.line,.int .i64 f.obj,.int .i64 f.num,.int .i64 f.den,.int .i64 f.r]):=aJ (by rw[Q];exact(aeE _ _ ag).alloc _);have Ws:Hid (Blk w_ (w.heap.size+3) 105 (gl zC fun _=>zEn).toArray):=aJ (by rw[Q];exact aeE _ _ ag);clear Q;(try simp only[bF]);have WP:Hid (w.heap.size<=w.heap.size+3):=aJ aa;generalize w.heap.size+3=g6 at Ws WP⊢;generalize w.heap.size+2=g5 at Wt⊢;generalize w.heap.size+1=g4 at Ww⊢;generalize L:w.heap.size=g3 at Wm⊢;clear L;(go_wp2_with (refine aS rfl 105 rfl _ xV (fun WM Q=>Hid.o ?_)));refine aJ ?_;refine Qp ?_;replace Q:=Hid.o Q;have F:Ext w_ WM:=by rw[Q];exact Ext.new _ _
 have Wy:Hid (Blk WM w_.heap.size 105 (gl zC fun _=>zEn).toArray):=aJ (by rw[Q];exact Blk.new _ _ _);clear Q;have Xj:Hid (w_.heap.size<=w_.heap.size):=aJ (κ _);have Xi:=aJ (Wp.ext HX.o);generalize Xg:w_.heap.size=g8 at Wy⊢;have WW:=aJ Xg;clear Xg Xj;have XH:=aJ F;have H:=aJ (HX.trans F);replace Wm:=Wm.aA F;replace Ww:=Ww.aA F;replace Wt:=Wt.aA F;have Wo:=Ws;replace Ws:=Ws.aA F;clear F;have k3:=Wm.cell;have k5:=Wt.cell;(go_wp2_with fail);clear k3 k5;refine(yA _ (Wp.ext H.o) f).mono ?_;rintro _ w2 ⟨rfl,F⟩;rw[WX.o];replace Wm:=Wm.aA F;replace Ww:=Ww.aA F;replace Wt:=Wt.aA F;replace Ws:=Ws.aA F;replace Wy:=Wy.aA F;replace XH:=XH.aC F;replace H:=H.aC F;clear F;have k3:=Wm.cell;have k4:=Ww.cell;(go_wp2_with fail);clear k3 k4;refine(yD _ _ (Wp.ext H.o) (XJ.ext H.o)).mono ?_;rintro _ w3 ⟨rfl,F⟩;rw[Ya.o];replace Wm:=Wm.aA F;replace Ww:=Ww.aA F;replace Wt:=Wt.aA F;replace Ws:=Ws.aA F;replace Wy:=Wy.aA F;replace XH:=XH.aC F;replace H:=H.aC F;clear F;(go_wp2_with fail);have F:Ext w3 (w3.alloc (.cells #[.int .i64 0] 109)):=Ext.new _ _;have HC:Hid (bM (w3.alloc (.cells #[.int .i64 0] 109)) w3.heap.size):=aJ (Blk.new _ _ _);replace Wm:=Wm.aA F;replace Ww:=Ww.aA F;replace Wt:=Wt.aA F;replace Ws:=Ws.aA F;replace Wy:=Wy.aA F;replace XH:=XH.aC F;replace H:=H.aC F;clear F;generalize (w3.alloc (.cells #[.int .i64 0] 109))=w4 at HC Wm Ww Wt Ws Wy XH H⊢;generalize w3.heap.size=Xh at HC⊢;have Xl:=Jv Ya.o;have Yv:pn<=16:=by have:=XJ.lc;have:=WH.nq;omega
 have Xk:qn<=16:=by have:=XJ.ll;have:=WH.nq;omega
 have M:∀i,i<qn->(K i).n<=1000:=fun i hi=>by have h1:=XJ.lens i hi;have h2:=Xl.2.2 i (by have:=XJ.ll;omega);have h3:=(WH.link (i:=i) (by have:=XJ.ll;omega)).1.2;omega
 have WK:=aJ M;have YV:=aJ Yv;have W9:=aJ Xk;clear Xl Yv Xk M;have Wz:=aK.blk Wm.o;have WT:=aK.blk Ww.o;have WS:=aK.blk Wt.o;refine gz 4 (fun w'=>∃x:aK w4,w'=x.val) [(ε,0),(ε,1),(ε,3),(ζ,2)] ah ah ⟨⟨_,(Ext.refl w4).drew⟩,rfl⟩ ?_;refine aV [0,1,3] [(ζ,2)] _ ah ?_;simp only[cZ,aZ,ξ,ο];(repeat (go_big_quiet_step (fail)));refine τ ?_;clear Wz WT WS;have P:Ext w4 w4.drew:=(Ext.refl _).drew;refine aT 2 [] ah ?_;intro K J;simp only[aZ];(go_wp2_with fail);refine(BZ _ (XJ.ext (H.trans P)) (by have:=YV.o;omega) (by have:=W9.o;omega) WK.o).mono ?_;rintro _ w5 ⟨R,WR,U,WV,I,rfl,Xb,Xa,Wv,F⟩;have XG:=aJ Xb;have WE:w4.heap.size<=w4.drew.heap.size:=κ _;have Xf:=aJ Wv;clear Wv Xb Xa;replace P:=P.trans F;clear F;go_wp2;refine J _ _ ⟨⟨_,P⟩,rfl⟩ ?_;clear J;simp only[bT,ρ,χ];have WC:g8<w4.heap.size:=Wy.lt;have WY:=aJ WC;have Yn:=Wo.lt;have WF:g6<g8:=by have:=WW.o;omega
 have j:=aJ WF;clear WC Yn WF;replace Wm:=Wm.aA P;replace Ww:=Ww.aA P;replace Wt:=Wt.aA P;replace Ws:=Ws.aA P;replace Wy:=Wy.aA P;replace XH:=XH.aC P;replace H:=H.aC P;replace HC:=aJ (bM.ext HC.o P);clear P;(go_wp2_with fail);have Zh:w_.heap.size<=g8:=by have:=WW.o;omega
 refine(Sr f g8 Xh w4.drew.heap.size w_ w5 XH.o Zh Xi.o XG.o Xf.o WY.o YB.o (P5 Ya.o) Xp.o Wy.o HC.o).mono ?_;rintro _ w6 ⟨rfl,W,Bv,hG⟩;have S:=aJ hG;clear hG Zh WE;(go_wp2_with fail);have D:=Wt.mod S.r.m (Blk.eF Wt.o Wy.o aj);have WA:=Ws.mod S.r.m (show ¬g6=g8 by have:=j.o;omega);have G:=aJ D;have l:=aJ WA;clear D WA Wm Ww Wt Ws Wy HC;obtain⟨A,cb,Y,hA⟩:=S.net WH.o XF.o;have Z:=aJ Y;have WQ:=aJ hA;clear Y hA;refine(OJ g8 _ cb W (fun _=>zEn) A Bv (bI s (resolve 0 p) f) _ S.r.g Z.o S.r.n32 WQ.o).mono ?_;rintro _ w7 ⟨rfl,XB,WO⟩;have ZT:=aJ XB;have WI:=aJ WO;have D:=G.mod WO (Blk.eF G.o S.r.g aj);have WA:=l.mod WO (show ¬g6=g8 by have:=j.o;omega);have Wx:bM w7 Xh:=Blk.mod S.r.c WO S.r.ne;have N:=Z.mod (C':=W) WO S.r.far WQ.o (fun i hi=>rfl);have Xd:r9 w7 (jF W (lv (bI s (resolve 0 p) f))) A _ cb Bv (bI s (resolve 0 p) f) (lv (bI s (resolve 0 p) f)):=⟨(kQ aa).trans N.br,N.arr,N.len,N.ab,N.z0,N.z1,N.e,fun k hk=>mD hk,N.ok,N.l23⟩;have Wt:=aJ D;have Ws:=aJ WA;have Xm:=aJ Wx;have Xn:=aJ Xd;clear XB WO D WA Wx N Xd G l;have k5:=Wt.cell;(go_wp2_with fail);clear k5;refine(Tg g8 Xh _ cb (jF W (lv (bI s (resolve 0 p) f))) _ A Bv (bI s (resolve 0 p) f) (dK s (resolve 0 p) f) f _ Xm.o ZT.o Xn.o ((kQ aa).trans S.c14) (E9 WH.o XF.o (resolve 0 p)).1 (Iq S.r.n32) WQ.o XF.r).mono ?_;rintro _ w8 ⟨rfl,E,Xc⟩;have HS:=aJ Xc;clear Xc;have WA:=Ws.mod HS.m (show ¬g6=g8 by have:=j.o;omega);have l:=aJ WA;clear WA;have WJ:=aJ (S.JQ WH.o WI.o HS.o);have kc:w8.cell? ⟨Xh,0,δ⟩=γ (.int .i64 0):=HS.f.cell 0;have Wn:Hid (w8.rangeAt g8 0 (gl (jF W (lv (bI s (resolve 0 p) f))) E)):=aJ (Blk.rng (show Blk w8 g8 105 (gl (jF W (lv (bI s (resolve 0 p) f))) E).toArray from HS.b));(go_wp2_with (refine σ rfl 105 _ rfl g8 (0) rf (gl (jF W (lv (bI s (resolve 0 p) f))) E) _ Wn.o underlying105 rfl (ug _ _) (Hid.o ?_)));refine aJ ?_;refine Qp ?_;have O:=aJ (G7 (C':=jF W (lv (bI s (resolve 0 p) f))) (E':=E) l.o);(go_wp2_with (refine aL rfl 105 (.tmp 6) (.tmp 40) rfl g6 (0) (gl (jF W (lv (bI s (resolve 0 p) f))) E) rf rf O.o (ug _ _) (NT WJ.one) (fun w9 Q=>Hid.o ?_)));refine aJ ?_;refine Qp ?_;replace Q:=Hid.o Q;have Wq:Mod (fun k=>k=g6) w8 w9:=by rw[Q];exact Mod.puts _ _ _ _ rfl
 have XE:Blk w9 g6 105 (gl (jF W (lv (bI s (resolve 0 p) f))) E).toArray:=by have:=bR 0 (gl (jF W (lv (bI s (resolve 0 p) f))) E) l.o;rw[fU _ _ (by rw[vJ,vJ])] at this;rw[Q];exact this
 have Wj:gu (fun k=>k=g6) w8:=ae6 (O1 l.o) (fun k _=>oh (fun i hi=>by unfold zC;split<;>(try split)<;>(try split)<;>(try split)<;>rfl) k) (fun k hk=>hk);have WN:mY w9 g8 (jF W (lv (bI s (resolve 0 p) f))) E s (resolve 0 p) f:=by
  obtain⟨gB,wv,h1,h2,h3,h4⟩:=S.bays;have WE:g6<w5.heap.size:=by have:=j.o;have:=WY.o;have:=S.r.lx;omega
  have WZ:=WI.trans HS.m;have lx:=S.r.lx;have WL:=h3.mod WZ (show ¬gB=g8 by omega);refine WJ.old (B:=0) Wq Wj (fun Xo YD e1 e2=> ?_) ⟨gB,(kQ aa).trans h1⟩;have e3:=((kQ aa).trans h1).symm.trans e1;injection e3 with e3;injection e3 with e3;injection e3 with e3 _ _;subst e3;refine⟨aa,fun i hi g k e=> ?_⟩;obtain⟨b',V,q1,q2,q3⟩:=e2 aa;injection q1 with q1;injection q1 with q1 q4 _;subst q1;subst q4;have T:=q3 i hi 0 _ rfl;have q6:=WL.cell hi;rw[show 0+i*1+0=i by omega,q6] at T;injection T with T;have:=(h4 i hi).2 g k (by rw[T];exact e);omega
 have Yn:=WP.o;have WB:Ext w w9:=fC (fC (fC (fC H.o S.r.m (fun k hk=>by have hk:k=g8:=hk;have:=j.o;omega)) WI.o (fun k hk=>by have hk:k=g8:=hk;have:=j.o;omega)) HS.m (fun k hk=>by have hk:k=g8:=hk;have:=j.o;omega)) Wq (fun k hk=>by have hk:k=g6:=hk;omega);have Wl:=aJ WN;have Xe:=aJ WB;have WG:=aJ XE;clear WN WB XE Wq Wj Q kc;(go_wp2_with fail);exact EN rfl rfl rf WG.o underlying105 rfl (ug _ _) ⟨_,_,g8,rfl,Wl.o,Xe.o⟩
def fl (P:Nat->PQ) (j:Nat):GQ:=if j%2=0 then (P (j/2)).u else (P (j/2)).v
def ku (v1 j:Value) (e:Nat->En):List Value:=v1::j::aM 12 e
def iK(v1 j e):(ku v1 j e).length=74:=by show(aM 12 e).length+2=74;rw[aW]
def Gg:(prog.info? 47).map (·.zero)=γ (γ (.agg (ku (.slice δ 0 0) (.slice δ 0 0) fun _=>zEn).toArray)):=ah
def VF:zeroCells47=(ku (.slice δ 0 0) (.slice δ 0 0) fun _=>zEn).toArray:=ah
def Od(a b):(zeroCells47.setIfInBounds 0 a).setIfInBounds 1 b=(ku a b fun _=>zEn).toArray:=by rw[VF];rfl
def sQ(v1 j e):(prog.info? 47).map (·.size)=γ (ku v1 j e).length:=by rw[iK];kernel_rfl
def chunk (i:Nat) (x e:Nat->En) (j:Nat):En:=if j/6=i then x (j%6) else e j
theorem AY{n i}(hi:i<n)(x e):fI (aM (n*6) e).toArray (i*36) (aM 6 x)=(aM (n*6) (chunk i x e)).toArray:=by
 rw[ji];congr 1;have I:(aM (n*6) e).length=n*6*6:=aW _ _;have C:(aM 6 x).length=36:=aW _ _;rw[I,C,Λ (l:=aM 6 x) aa];apply aap;intro p;by_cases hp:p<n*6*6
 .obtain⟨j,t,rfl,D⟩:∃j t,p=j*6+t/\t<6:=⟨p/6,p%6,aa,aa⟩;have F:j<n*6:=aa;rw[dO (f:=chunk i x e) D F];have B:((aM (n*6) e).take (i*36)).length=i*36:=by rw[PI,I];omega
  unfold chunk;by_cases G:j/6=i
  .rw[ι G];rw[Ω AaO,nG (by rw[B];omega),B,show j*6+t-i*36=j%6*6+t by omega,dO D aa]
  .rw[θ G];by_cases H:j/6<i
   .rw[Ω AaO,Ω (by rw[B];omega),Zb aa,dO D F]
   .rw[nG AaO,q8,B,C,aaf,show i*36+36+(j*6+t-(i*36+36))=j*6+t by omega,dO D F]
 .rw[Be Acx,Be AbU]
def Ov:(prog.info? 45).map (fun i=>(i.zero,i.size,i.bytes))=γ (γ (.agg (aM 6 fun _=>zEn).toArray),36,576):=ah
def zU:∀n:Nat,mQ n (aM 6 fun _=>zEn)=aM (n*6) fun _=>zEn
 |0=>rfl
 |n+1=>by
  rw[pI,zU n,F9,show(n+1)*6=n*6+6 by omega];simp only[ac3]
def JW(n:Nat)(hn:n<=1000)(W:World):(Instr.makeSlice 37 (.int .i64 n) (.int .i64 n)).run prog W=.ok (.slice (γ ⟨W.heap.size,0,δ⟩) n n) (W.alloc (.cells (aM (n*6) fun _=>zEn).toArray 45)):=by
 obtain⟨i0,Q,l,B,j⟩:=abL Ov;have h:=acV (P:=prog) W 37 45 i0 (.agg (aM 6 fun _=>zEn).toArray) underlying37 Q l .i64 .i64 n n aa aa Abj aa;rw[h,B];have e:=pW (aM 6 fun _=>zEn) AbU n;rw[aW,zU] at e;simp only[I6];rw[show(Value.agg (aM 6 fun _=>zEn).toArray).cells=(aM 6 fun _=>zEn).toArray from rfl,e]
structure CK (w:World) (GC GV_:Nat) (ec ev ef:Nat->En) (s:StD) (p:dA) (f:dZ):Prop where
 bc:Blk w GC 45 (aM (s.bays.length*6) ec).toArray
 bv:Blk w GV_ 45 (aM (s.bays.length*6) ev).toArray
 c:∀i,i<s.bays.length->Ph3 w (fun j=>ec (i*6+j)) (phv (rQ s p f i) (shf f.kind)) 4600
 v:∀i,i<s.bays.length->Ph3 w (fun j=>ev (i*6+j)) (phv (j6 s p f i) (shf f.kind)) 4600
 fc:Ph3 w ef (phv (xq (bI s p f) (dK s p f) f) (shf f.kind)) 4600
 fv:Ph3 w (fun j=>ef (6+j)) (phv (fun n=>iL (bI s p f) (dK s p f) f n (dK s p f)) (shf f.kind)) 4600
def CK.ext{w w' GC GV_ ec ev ef s p f}(h:CK w GC GV_ ec ev ef s p f)(x:Ext w w'):CK w' GC GV_ ec ev ef s p f:=
 ⟨h.bc.ext x,h.bv.ext x,fun i hi=>(h.c i hi).ext x,fun i hi=>(h.v i hi).ext x,h.fc.ext x,h.fv.ext x⟩
def Ma(k w)(j:0<=k/\k<=10):
  Calls prog 43 #[.int .i64 k] w fun e w'=>e=.returned (.int .i64 (shf k:Nat))/\w'=w:=by
 have h:k=0\/k=1\/k=2\/k=3\/k=4\/k=5\/k=6\/k=7\/k=8\/k=9\/k=10:=aa;rcases h with rfl|rfl|rfl|rfl|rfl|rfl|rfl|rfl|rfl|rfl|rfl
 all_goals
  go_enter func43,ntmps43;go_wp2;go_ret;exact⟨rfl,rfl⟩
theorem Dv(a b e)(ha:a.oneCell'=ε)(hb:b.oneCell'=ε):∀v∈ku a b e,v.oneCell'=ε:=by
 intro v hv;unfold ku at hv;simp only[ψ] at hv;rcases hv with rfl|rfl|hv
 .exact ha
 .exact hb
 .exact bY _ _ v hv
theorem Ph3.row{w e P n}(h:Ph3 w e P n):lJ w 6 e (fl P) n:=fun j C=>by
 have B:=h (j/2) aa;unfold fl;by_cases l:j%2=0
 .rw[ι l];have:=B.1;rwa[show 2*(j/2)=j by omega] at this
 .rw[θ l];have:=B.2;rwa[show 2*(j/2)+1=j by omega] at this
theorem ae5{w e P n}(h:lJ w 6 e (fl P) n):Ph3 w e P n:=fun m B=>by
 have l:=h (2*m) aa;have j:=h (2*m+1) aa;unfold fl at l j;rw[ι aa,show 2*m/2=m by omega] at l;rw[θ aa,show(2*m+1)/2=m by omega] at j;exact⟨l,j⟩
section
variable {bs:List BrD} {fN:Nat} {f:dZ} {D:GQ}
def Den.dif(h:Den bs fN f D)(n j k):Bd (iL bs fN f n j-iL bs fN f n k) 4600:=
 (((h.JH j).2.2 n).sub ((h.JH k).2.2 n)).bd (gI h.wd (by omega:2200<=2250)) h.ne aa aa
def Den.We(h:Den bs fN f D)(j k){m}(C:0<=m/\m<=1000000):Bd (iL bs fN f 1 j-iL bs fN f 1 k-GQ.i m 0) 4600:=by
 have B:=(((h.JH j).2.2 1).sub ((h.JH k).2.2 1));have l:Fr D 0 2251 (GQ.i m 0):=(afe (eD h.wd (nA (by show m.natAbs<=2^20;omega):Wh (GQ.i m 0) (q2 20)))).le aa;exact(B.sub l).bd (gI h.wd (by omega:2200<=2250)) h.ne aa aa
end
def MX(gx gf i C E){s p f D}(w)(hc:bM w gf)(I:fA w gx 105 393 (eY C E))(hv:mY w gx C E s p f)(l:iT s)(j:lD s.buses.length s.lines.length f)(F:Den (bI s p f) (dK s p f) f D)(hi:i<s.bays.length):
  Calls prog 45 #[.pointer (γ ⟨gx,0,δ⟩),.pointer (γ ⟨gf,0,δ⟩),.int .i64 (i:Int)] w fun r w'=>∃a:Nat->En,r=.returned (.agg (aM 3 a).toArray)/\lJ w' 3 a (rQ s p f i) 4600/\Ext w w':=by
 obtain⟨H,bc,wv,B,J,K⟩:=hv.bays;obtain⟨G,L⟩:=F.Uu (way s p f i) (fun b hb=>AO l j hi hb);exact Mr gx gf i s.bays.length bc C E (iL (bI s p f) (dK s p f) f) (lv (bI s p f)) (way s p f i) H wv w hc I hv.v hv.live B J hi (K i hi) (fun b hb=>AO l j hi hb)
  (fun b hb n hn=>F.dif n b.a b.b) (fun b hb=>F.We b.a b.b (AO l j hi hb).emf) (fun n=>L.bd n)
def pG(gf sh:Nat)(a q D w)(hc:bM w gf)(ha:lJ w 3 a q 4600)(hq:nL q D)(hs:sh<3):
  Calls prog 44 #[.pointer (γ ⟨gf,0,δ⟩),.agg (aM 3 a).toArray,.int .i64 (sh:Int)] w fun r w'=>∃e:Nat->En,r=.returned (.agg (aM 6 e).toArray)/\lJ w' 6 e (fl (phv q sh)) 4600/\Ext w w':=
 (Jm gf sh a q D w hc ha hq hs).mono fun r w' ⟨e,l,j,B⟩=>⟨e,l,j.row,B⟩
def GJ(a b l B k):fI (a::b::l).toArray (k+2) B=(a::b::(fI l.toArray k B).toList).toArray:=by
 rw[ji,ji];have j:(a::b::l).length-(k+2)=l.length-k:=by simp only[nC];omega
 have C:k+2+B.length=(k+B.length)+1+1:=aa;rw[j,C,ρ,ρ,show k+2=k+1+1 from rfl,aao,aao];simp
theorem QG(a b e x){i}(hi:i<2):fI (ku a b e).toArray (i*36+2) (aM 6 x)=(ku a b (chunk i x e)).toArray:=by
 unfold ku;rw[GJ,AY (n:=2) hi]
structure SoS (w W:World) (g8 g10 g12 GC GV_:Nat) (C:Nat->Value) (E:Nat->En) (ec ev ef:Nat->En) (s:StD) (p:dA) (f:dZ) (i k:Nat):Prop where
 g:fA W g8 105 393 (eY C E)
 c:bM W g10
 b12:Blk W g12 47 (ku (.slice (γ ⟨GC,0,δ⟩) s.bays.length s.bays.length) (.slice (γ ⟨GV_,0,δ⟩) s.bays.length s.bays.length) ef).toArray
 bc:Blk W GC 45 (aM (s.bays.length*6) ec).toArray
 bv:Blk W GV_ 45 (aM (s.bays.length*6) ev).toArray
 vc:∀j,j<i->Ph3 W (fun t=>ec (j*6+t)) (phv (rQ s p f j) (shf f.kind)) 4600
 vv:∀j,j<k->Ph3 W (fun t=>ev (j*6+t)) (phv (j6 s p f j) (shf f.kind)) 4600
 x:Ext w W
 lo:w.heap.size<=g8/\w.heap.size<=g10/\w.heap.size<=g12/\w.heap.size<=GC/\w.heap.size<=GV_
 ne:GC≠GV_
section
variable {w W W':World} {g8 g10 g12 GC GV_ i k:Nat} {C:Nat->Value} {E:Nat->En} {ec ev ef:Nat->En} {s:StD} {p:dA} {f:dZ}
def SoS.ext(h:SoS w W g8 g10 g12 GC GV_ C E ec ev ef s p f i k)(x:Ext W W'):SoS w W' g8 g10 g12 GC GV_ C E ec ev ef s p f i k:=
 ⟨h.g.ext x,h.c.ext x,h.b12.ext x,h.bc.ext x,h.bv.ext x,fun j l=>(h.vc j l).ext x,fun j l=>(h.vv j l).ext x,h.x.trans x,h.lo,h.ne⟩
def Ph3.mod{S e P n}(h:Ph3 W e P n)(m:Mod S W W')(hS:Far S W):Ph3 W' e P n:=fun j l=>⟨(h j l).1.mod m hS,(h j l).2.mod m hS⟩
def SoS.VU(h:SoS w W g8 g10 g12 GC GV_ C E ec ev ef s p f i k):Far (fun k=>k=GC) W:=fun k j _=>by
 obtain rfl:k=GC:=j;exact⟨_,_,h.bc,dm _ _⟩
def SoS.VY(h:SoS w W g8 g10 g12 GC GV_ C E ec ev ef s p f i k):Far (fun k=>k=GV_) W:=fun k j _=>by
 obtain rfl:k=GV_:=j;exact⟨_,_,h.bv,dm _ _⟩
theorem SoS.V3(h:SoS w W g8 g10 g12 GC GV_ C E ec ev ef s p f i i){e}(hi:i<s.bays.length)(U:lJ W 6 e (fl (phv (rQ s p f i) (shf f.kind))) 4600)(H:W'=puts W GC (i*36) (aM 6 e)):SoS w W' g8 g10 g12 GC GV_ C E (chunk i e ec) ev ef s p f (i+1) i:=by
 have D:Mod (fun k=>k=GC) W W':=by rw[H];exact Mod.puts _ _ _ _ rfl
 have lo:=h.lo;have hS:=h.VU;have K:¬g8=GC:=Blk.eF h.g h.bc aj;have l:¬g10=GC:=Blk.eF h.c h.bc aj;have B:¬g12=GC:=Blk.eF h.b12 h.bc aj;refine⟨h.g.mod D K,Blk.mod h.c D l,h.b12.mod D B,?_,h.bv.mod D (fun e=>h.ne e.symm),fun j I=> ?_,fun j I=>(h.vv j I).mod D hS,fC h.x D (fun k G=>by have G:k=GC:=G;omega),h.lo,h.ne⟩
 .have:=bR (i*36) (aM 6 e) h.bc;rw[AY hi] at this;rw[H];exact this
 .by_cases J:j=i
  .subst J;refine ae5 (fun t F=> ?_);show GV W' (chunk j e ec (j*6+t)).v _ _;exact Abw
  .refine ae5 (fun t F=> ?_);have L:chunk i e ec (j*6+t)=ec (j*6+t):=(by unfold chunk;rw[θ aa]);show GV W' (chunk i e ec (j*6+t)).v _ _;rw[L];exact((h.vc j aa).row t F).mod D hS
theorem SoS.V8(h:SoS w W g8 g10 g12 GC GV_ C E ec ev ef s p f (i+1) i){e}(hi:i<s.bays.length)(U:lJ W 6 e (fl (phv (j6 s p f i) (shf f.kind))) 4600)(H:W'=puts W GV_ (i*36) (aM 6 e)):SoS w W' g8 g10 g12 GC GV_ C E ec (chunk i e ev) ef s p f (i+1) (i+1):=by
 have D:Mod (fun k=>k=GV_) W W':=by rw[H];exact Mod.puts _ _ _ _ rfl
 have lo:=h.lo;have hS:=h.VY;have K:¬g8=GV_:=Blk.eF h.g h.bv aj;have l:¬g10=GV_:=Blk.eF h.c h.bv aj;have B:¬g12=GV_:=Blk.eF h.b12 h.bv aj;refine⟨h.g.mod D K,Blk.mod h.c D l,h.b12.mod D B,h.bc.mod D h.ne,?_,fun j I=>(h.vc j I).mod D hS,fun j I=> ?_,fC h.x D (fun k G=>by have G:k=GV_:=G;omega),h.lo,h.ne⟩
 .have:=bR (i*36) (aM 6 e) h.bv;rw[AY hi] at this;rw[H];exact this
 .by_cases J:j=i
  .subst J;refine ae5 (fun t F=> ?_);show GV W' (chunk j e ev (j*6+t)).v _ _;exact Abw
  .refine ae5 (fun t F=> ?_);have L:chunk i e ev (j*6+t)=ev (j*6+t):=(by unfold chunk;rw[θ aa]);show GV W' (chunk i e ev (j*6+t)).v _ _;rw[L];exact((h.vv j aa).row t F).mod D hS
def SoS.Tw(h:SoS w W g8 g10 g12 GC GV_ C E ec ev ef s p f i k){m a e}(H:m<2)(ha:a=m*36+2)(J:W'=puts W g12 a (aM 6 e)):SoS w W' g8 g10 g12 GC GV_ C E ec ev (chunk m e ef) s p f i k/\Mod (fun k=>k=g12) W W'/\Far (fun k=>k=g12) W:=by
 subst ha;have F:Mod (fun k=>k=g12) W W':=by rw[J];exact Mod.puts _ _ _ _ rfl
 have lo:=h.lo;have hS:Far (fun k=>k=g12) W:=fun k G _=>by
  obtain rfl:k=g12:=G;refine⟨_,_,h.b12,?_⟩;show(List.all (_::_::aM 12 ef) _)=ε;rw[abP,abP];exact dm 12 ef
 have K:¬g8=g12:=Blk.eF h.g h.b12 aj;have l:¬g10=g12:=Blk.eF h.c h.b12 aj;have D:¬GC=g12:=Blk.eF h.bc h.b12 aj;have B:¬GV_=g12:=Blk.eF h.bv h.b12 aj;refine⟨⟨h.g.mod F K,Blk.mod h.c F l,?_,h.bc.mod F D,h.bv.mod F B,fun j I=>(h.vc j I).mod F hS,fun j I=>(h.vv j I).mod F hS,fC h.x F (fun k G=>by have G:k=g12:=G;omega),h.lo,h.ne⟩,F,hS⟩;have:=bR (m*36+2) (aM 6 e) h.b12;rw[QG _ _ _ _ H] at this;rw[J];exact this
def SoS.Ke(h:SoS w W g8 g10 g12 GC GV_ C E ec ev ef s p f i k){a}(ha:a+36<=74)(x):W.there g12 a (aM 6 x).length:=h.b12.there (by rw[nS,iK,aW];omega)
def UL{w gx a C E}(h:fA w gx 105 393 (eY C E))(ha:a<=57){o}(l:o=33+a*6):w.rangeAt gx o (aM 3 fun k=>E (a+k)):=fun t v hv=>by
 have B:t<18:=by have:=(μ.1 hv).1;rwa[aW] at this
 obtain⟨j,u,rfl,N⟩:∃j u,t=j*6+u/\u<6:=⟨t/6,t%6,aa,aa⟩;rw[dO N aa] at hv;have:=h.en (e:=a+j) aa (a:=33+(a+j)*6) rfl u v hv;rw[l,show 33+a*6+(j*6+u)=33+(a+j)*6+u by omega];exact this
def SoS.UA(h:SoS w W g8 g10 g12 GC GV_ C E ec ev ef s p f i k){j}(l:j<s.bays.length)(x):W.there GC (j*36) (aM 6 x).length:=h.bc.there AbI
def SoS.Ux(h:SoS w W g8 g10 g12 GC GV_ C E ec ev ef s p f i k){j}(l:j<s.bays.length)(x):W.there GV_ (j*36) (aM 6 x).length:=h.bv.there AbI
end
theorem solve_run{A0 n0 c0 A1 n1 c1 A2 n2 c2 A3 n3 c3 LH s PA pn pc PB qn qc K p}(f w)(hs:kY w A0 n0 c0 A1 n1 c1 A2 n2 c2 A3 n3 c3 LH s)(hp:iW w PA pn PB qn K p)(hc:chk s=0)(XR:jb s p=0)(hf:iF s.buses.length s.lines.length f=0):
  Calls prog 11 #[stV s.name A0 n0 c0 A1 n1 c1 A2 n2 c2 A3 n3 c3,nu PA pn pc PB qn qc,oU f] w fun r w'=>∃GC GV_ ec ev ef,r=.returned (.tuple #[.agg (ku (.slice (γ ⟨GC,0,δ⟩) s.bays.length s.bays.length) (.slice (γ ⟨GV_,0,δ⟩) s.bays.length s.bays.length) ef).toArray,.int .i64 0])/\CK w' GC GV_ ec ev ef s (resolve 0 p) f/\Ext w w':=by
 obtain rfl:=hs.l3;have Wu:=xh hc;have Xr:=afk hf;have YE:=Wu.nq;have Xa:=qQ (p:=resolve 0 p) Wu Xr;obtain⟨D,hD⟩:=afv (bs:=bI s (resolve 0 p) f) (fN:=dK s (resolve 0 p) f) (f:=f) Xa.2 Xa.1 Xr.r;have XL:=E9 Wu Xr (resolve 0 p);have Wp:=aJ hs;have XJ:=aJ hp;have YB:=aJ hc;have Ya:=aJ XR;have Xp:=aJ hf;have WH:=aJ Wu;have XF:=aJ Xr;have YH:=aJ YE;have Yv:=aJ Xa;have HD:=aJ hD;have Xd:=aJ XL;clear hs hp hc XR hf Wu Xr YE Xa hD XL;unfold stV nu oU;go_enter func11,ntmps11;(go_wp2_with (refine aS rfl 47 rfl _ Gg (fun w_ Q=>Hid.o ?_)));refine aJ ?_;refine Qp ?_;replace Q:=Hid.o Q;have HX:Hid (Ext w w_):=aJ AcE;have Wm:Hid (Blk w_ w.heap.size 27 #[.string s.name,.slice A0 n0 c0,.slice A1 n1 c1,.slice A2 n2 c2,.slice A3 s.bays.length c3]):=aJ AcV;have Ww:Hid (Blk w_ (w.heap.size+1) 31 #[.slice PA pn pc,.slice PB qn qc]):=aJ Ada;have Wt:Hid (Blk w_ (w.heap.size+2) 33 #[.int .i64 f.kind,.bool f.line,.int .i64 f.obj,.int .i64 f.num,.int .i64 f.den,.int .i64 f.r]):=aJ (by rw[Q];exact(aeE _ _ ag).alloc _);have Ws:Hid (Blk w_ (w.heap.size+3) 47 (ku (.slice δ 0 0) (.slice δ 0 0) fun _=>zEn).toArray):=aJ (by rw[Q];exact aeE _ _ ag);clear Q;(try simp only[bF]);have WP:Hid (w.heap.size<=w.heap.size+3):=aJ aa;generalize w.heap.size+3=g6 at Ws WP⊢;generalize w.heap.size+2=g5 at Wt⊢;generalize w.heap.size+1=g4 at Ww⊢;generalize L:w.heap.size=g3 at Wm⊢;clear L;have k3:=Wm.cell;have k4:=Ww.cell;have k5:=Wt.cell;(go_wp2_with fail);clear k3 k4 k5;refine(LV f _ (Wp.ext HX.o) (XJ.ext HX.o) YB.o Ya.o Xp.o).mono ?_;rintro _ w1 ⟨C,E,gx,rfl,WN,F⟩;have XP:=aJ (Wp.ext (HX.trans F));replace HX:=HX.aC F;replace Wm:=Wm.aA F;replace Wt:=Wt.aA F;replace Ws:=Ws.aA F;have WJ:=aJ WN;have XN:=Wm;have Xn:=Ws;clear F WN Ww;(go_wp2_with (refine aS rfl 105 rfl _ xV (fun WM Q=>Hid.o ?_)));refine aJ ?_;refine Qp ?_;replace Q:=Hid.o Q;have F:Ext w1 WM:=by rw[Q];exact Ext.new _ _
 have WL:Blk WM w1.heap.size 105 (gl zC fun _=>zEn).toArray:=by rw[Q];exact Blk.new _ _ _
 have O:=aJ (G7 (C':=C) (E':=E) WL);clear Q;generalize Xg:w1.heap.size=g8 at WL O⊢;refine aL rfl 105 (.tmp 8) (.tmp 19) rfl g8 (0) (gl C E) rf rf O.o (ug C E) (NT WJ.one) (fun W Q=> ?_);refine Qp ?_;replace Q:=Hid.o Q;have HO:=TT (w:=w1) F aa WL Q;have Wy:Hid (fA W g8 105 393 (eY C E)):=aJ HO.1;have HY:=aJ HO.2;have WY:Hid (w1.heap.size<=g8):=aJ aa;clear HO Q F WL O Xg;obtain⟨P,XV⟩:=an1 W 109 #[.int .i64 0];have k5:=((Wt.ext HY.o).ext P).cell;(go_wp2_with fail);have Xf:Hid (w1.heap.size<=W.heap.size):=aJ HY.size;have HC:Hid (bM (W.alloc (.cells #[.int .i64 0] 109)) W.heap.size):=aJ XV;replace Wm:=aJ ((Wm.ext HY.o).ext P);replace Wt:=aJ ((Wt.ext HY.o).ext P);replace Ws:=aJ ((Ws.ext HY.o).ext P);replace Wy:=Wy.aA P;replace HY:=HY.aC P;clear P XV k5;generalize (W.alloc (.cells #[.int .i64 0] 109))=w3 at Wm Wt Ws Wy HC HY⊢;generalize W.heap.size=g10 at HC Xf⊢;refine(Ma f.kind _ XF.kind).mono ?_;rintro _ w3 ⟨rfl,XE⟩;subst XE;have k3:=Wm.cell;obtain⟨sh,Wo⟩:∃n,shf f.kind=n:=⟨_,rfl⟩;have Xx:sh<3:=by rw[<-Wo];exact Ii _
 rw[Wo];have WO:=aJ Wo;clear Wo;have Wz:=aK.blk Wm.o;(go_wp2_with fail);refine tR 10 [(3,.mk s.bays.length 45 ((aM (s.bays.length*6) fun _=>zEn).toArray)),(7,.mk s.bays.length 45 ((aM (s.bays.length*6) fun _=>zEn).toArray)),(9,.box 47 zeroCells47)] ?_;refine Qs ?_;refine dR rf rf rf ?_ ?_
 .exact Abf
 intro v_ GC Xi WA;obtain⟨T,Wv⟩:=WA;obtain⟨rfl,WK,-⟩:NR.holds (.mk s.bays.length 45 ((aM (s.bays.length*6) fun _=>zEn).toArray)) GC Xi v_ T:=Wv.get;clear Wv T;refine Qp ?_;refine Qs ?_;refine dR rf rf rf ?_ ?_
 .exact Abf
 intro v_ GV_ Yh WA;obtain⟨T,Wv⟩:=WA;obtain⟨rfl,l,-⟩:NR.holds (.mk s.bays.length 45 ((aM (s.bays.length*6) fun _=>zEn).toArray)) GV_ Yh v_ T:=Wv.get;clear Wv T;refine Qp ?_;refine Qs ?_;refine Eb ?_;intro g12 ZA G;refine bz ?_;intro wE J;have F:=J.ext;have Xh:=J.hB 3;have Xt:=aJ (J.low 3 _ rf);have WQ:=J.hB 7;have Xm:=aJ (J.low 7 _ rf);have Xl:=J.hB 9;have Xk:=aJ (J.low 9 _ rf);have WG:=aJ (J.nn 3 7 WK l);have WX:=aJ (J.nn 3 9 WK G);have WW:=aJ (J.nn 7 3 l WK);have WU:=aJ (J.nn 7 9 l G);have Xe:=aJ (J.nn 9 3 G WK);have WT:=aJ (J.nn 9 7 G l);clear WK;clear l;clear G;have R:=aJ F;clear J F;have WZ:Hid (Blk wE g12 47 (ku (.slice δ 0 0) (.slice δ 0 0) fun _=>zEn).toArray):=aJ (by rw[<-VF];exact Xl.o);have O:Hid (wE.there g12 0 (ku (.slice (γ ⟨GC,0,δ⟩) s.bays.length s.bays.length) (.slice (γ ⟨GV_,0,δ⟩) s.bays.length s.bays.length) fun _=>zEn).length):=aJ (WZ.there Ab8);refine aL rfl 47 (.tmp 12) (.tmp 36) rfl g12 0 (ku (.slice (γ ⟨GC,0,δ⟩) s.bays.length s.bays.length) (.slice (γ ⟨GV_,0,δ⟩) s.bays.length s.bays.length) fun _=>zEn) rf (congrArg Value.agg (Od _ _)) O.o (sQ _ _ _) (Dv _ _ _ rfl rfl) (fun w4 Q=> ?_);refine Qp ?_;replace Q:=Hid.o Q;have V:Mod (fun k=>k=g12) wE w4:=by rw[Q];exact Mod.puts _ _ _ _ rfl
 have WR:Blk w4 g12 47 (ku (.slice (γ ⟨GC,0,δ⟩) s.bays.length s.bays.length) (.slice (γ ⟨GV_,0,δ⟩) s.bays.length s.bays.length) fun _=>zEn).toArray:=by have:=bR 0 (ku (.slice (γ ⟨GC,0,δ⟩) s.bays.length s.bays.length) (.slice (γ ⟨GV_,0,δ⟩) s.bays.length s.bays.length) fun _=>zEn) WZ.o;rw[fU _ _ (by rw[iK,iK])] at this;rw[Q];exact this
 have XA:w3.heap.size<=g12:=Xk.o;have XK:w3.heap.size<=GC:=Xt.o;have XX:w3.heap.size<=GV_:=Xm.o;have XT:=HY.size;have Wl:Ext w3 w4:=fC R.o V (fun k hk=>by have hk:k=g12:=hk;omega);have nc:¬GC=g12:=Blk.eF Xh.o WZ.o aj;have nv:¬GV_=g12:=Blk.eF WQ.o WZ.o aj;have HS:Hid (SoS w1 w4 g8 g10 g12 GC GV_ C E (fun _=>zEn) (fun _=>zEn) (fun _=>zEn) s (resolve 0 p) f 0 0):=aJ ⟨Wy.ext Wl,HC.ext Wl,WR,Xh.mod V nc,WQ.mod V nv,fun j hj=>absurd hj aa,fun j hj=>absurd hj aa,HY.trans Wl,⟨WY.o,Xf.o,aa,aa,aa⟩,WG.o⟩;replace Wm:=Wm.aA Wl;replace Ws:=Ws.aA Wl;clear V WR XA XK XX XT Wl nc nv Q O WZ Xl Xh WQ Xk Xt Xm WG WX Xe WU WT WW R HC Wy HY Wt Wz k3;have k3:=Wm.cell;(go_wp2_with fail);clear k3;go_loopw [40] (fun iv wr=>∃i:Nat,i<=s.bays.length/\iv=.int .i64 i/\∃ec ev,SoS w1 wr g8 g10 g12 GC GV_ C E ec ev (fun _=>zEn) s (resolve 0 p) f i i) (fun iv _=>s.bays.length-(intOf iv).toNat)
 case atStart=>exact⟨0,aa,rfl,_,_,HS.o⟩
 case round=>
  clear HS;rename World=>wr;obtain⟨i,hi,rfl,ec,ev,hR⟩:=hrel;have I:=aJ hR;clear hR;by_cases Wj:i<s.bays.length
  .have hd:decide ((i:Int)<(s.bays.length:Int))=ε:=ae;have q1:(0:Int)<=(i:Int):=aa;have q2:(i:Int)<(s.bays.length:Int):=aa;have XG:wrap64 ((i:Int)+1)=(i:Int)+1:=pz _ Adh;have Xy:=aJ XG;clear XG;obtain⟨G1,XO⟩:=HD.Uu (way s (resolve 0 p) f i) (fun b hb=>AO WH.o XF.o Wj hb);obtain⟨G2,Xu⟩:=HD.seqB WH.o Wj;have Xo:Hid (nL (rQ s (resolve 0 p) f i) G1):=aJ XO;have WS:=aJ Xu;clear XO Xu;have N:=aJ ((WJ.new (Y:=g8) I.lo.1).ext I.x);have Xw:=aK.cell (show wr.cell? ⟨g12,0,δ⟩=γ (.slice (γ ⟨GC,0,δ⟩) s.bays.length s.bays.length) from (I.b12.cell 0).trans rfl);(go_wp2_with fail);refine tR 7 [(4,.row 3 (rQ s (resolve 0 p) f i) (4600)),(6,.row 6 (fl (phv (rQ s (resolve 0 p) f i) sh)) (4600))] ?_;refine Qs ?_;refine dR rf rf rf ?_ ?_
   .intro T J;have hW:=J.1;clear J;go_simp;exact⟨rfl,(MX g8 g10 i C E _ (I.c.ext hW) (I.g.ext hW) (N.ext hW) WH.o XF.o HD.o Wj).mono fun e w' ⟨a,U,hv,hx⟩=>⟨_,U,hx,a,rfl,hv⟩⟩
   intro v_ WV Wx WA;obtain⟨T,Wv⟩:=WA;obtain⟨ea,rfl,-⟩:NR.holds (.row 3 (rQ s (resolve 0 p) f i) (4600)) WV Wx v_ T:=Wv.get;clear Wv T;refine Qp ?_;refine Qs ?_;refine dR rf rf rf ?_ ?_
   .intro T J;have hW:=J.1;have Xq:lJ T 3 ea (rQ s (resolve 0 p) f i) 4600:=aeW (J.2 4 (.agg (aM 3 ea).toArray,WV,Wx) rf ah);clear J;go_simp;exact⟨rfl,(pG g10 sh ea _ G1 _ (I.c.ext hW) Xq Xo.o Xx).mono fun e w' ⟨a,U,hv,hx⟩=>⟨_,U,hx,a,rfl,hv⟩⟩
   intro v_ Yf Yg WA;obtain⟨T,Wv⟩:=WA;obtain⟨S,rfl,-⟩:NR.holds (.row 6 (fl (phv (rQ s (resolve 0 p) f i) sh)) (4600)) Yf Yg v_ T:=Wv.get;clear Wv T;refine Qp ?_;refine bz ?_;intro wE J;have F:=J.ext;have H:Hid (∀j,j<3->GV wE (ea j).v ((rQ s (resolve 0 p) f i) j) (4600)):=aJ (aeW (J.at_ 4 (e:=(.agg (aM 3 ea).toArray,WV,Wx)) rf));have WB:Hid (∀j,j<6->GV wE (S j).v ((fl (phv (rQ s (resolve 0 p) f i) sh)) j) (4600)):=aJ (aeW (J.at_ 6 (e:=(.agg (aM 6 S).toArray,Yf,Yg)) rf));have R:=aJ F;clear J F;have O:=aJ ((I.ext R.o).UA Wj S);(iterate 3 (try (first|go_values|go_skip|go_guarded|go_step|go_upon|go_in|go_back|go_simp)));refine aL rfl 45 (.tmp 50) (.tmp 49) rfl GC (i*36) (aM 6 S) rf rf O.o (jZ S) (bY 6 S) (fun wb Q=> ?_);refine Qp ?_;replace Q:=Hid.o Q;have Wq:=aJ ((I.ext R.o).V3 Wj (by rw[WO.o];exact WB.o) Q);clear Q O R H WB Xw N I;have N:=aJ ((WJ.new (Y:=g8) Wq.lo.1).ext Wq.x);have Xw:=aK.cell (show wb.cell? ⟨g12,1,δ⟩=γ (.slice (γ ⟨GV_,0,δ⟩) s.bays.length s.bays.length) from (Wq.b12.cell 1).trans rfl);have Wz:=aK.blk (XN.ext Wq.x);(go_wp2_with fail);refine tR 8 [(5,.row 3 (j6 s (resolve 0 p) f i) (4600)),(7,.row 6 (fl (phv (j6 s (resolve 0 p) f i) sh)) (4600))] ?_;refine Qs ?_;refine dR rf rf rf ?_ ?_
   .intro T J;have hW:=J.1;clear J;go_simp;exact⟨rfl,(Mf g8 g10 i C E _ (Wq.c.ext hW) (Wq.g.ext hW) (N.ext hW) ((XP.ext Wq.x).ext hW) WH.o Wj).mono fun e w' ⟨a,U,hv,hx⟩=>⟨_,U,hx,a,rfl,hv⟩⟩
   intro v_ W9 Xc WA;obtain⟨T,Wv⟩:=WA;obtain⟨ea,rfl,-⟩:NR.holds (.row 3 (j6 s (resolve 0 p) f i) (4600)) W9 Xc v_ T:=Wv.get;clear Wv T;refine Qp ?_;refine Qs ?_;refine dR rf rf rf ?_ ?_
   .intro T J;have hW:=J.1;have Xq:lJ T 3 ea (j6 s (resolve 0 p) f i) 4600:=aeW (J.2 5 (.agg (aM 3 ea).toArray,W9,Xc) rf ah);clear J;go_simp;exact⟨rfl,(pG g10 sh ea _ G2 _ (Wq.c.ext hW) Xq WS.o Xx).mono fun e w' ⟨a,U,hv,hx⟩=>⟨_,U,hx,a,rfl,hv⟩⟩
   intro v_ Yx Yh WA;obtain⟨T,Wv⟩:=WA;obtain⟨S,rfl,-⟩:NR.holds (.row 6 (fl (phv (j6 s (resolve 0 p) f i) sh)) (4600)) Yx Yh v_ T:=Wv.get;clear Wv T;refine Qp ?_;refine bz ?_;intro wE J;have F:=J.ext;have H:Hid (∀j,j<3->GV wE (ea j).v ((j6 s (resolve 0 p) f i) j) (4600)):=aJ (aeW (J.at_ 5 (e:=(.agg (aM 3 ea).toArray,W9,Xc)) rf));have WB:Hid (∀j,j<6->GV wE (S j).v ((fl (phv (j6 s (resolve 0 p) f i) sh)) j) (4600)):=aJ (aeW (J.at_ 7 (e:=(.agg (aM 6 S).toArray,Yx,Yh)) rf));have R:=aJ F;clear J F;have O:=aJ ((Wq.ext R.o).Ux Wj S);(iterate 3 (try (first|go_values|go_skip|go_guarded|go_step|go_upon|go_in|go_back|go_simp)));refine aL rfl 45 (.tmp 59) (.tmp 58) rfl GV_ (i*36) (aM 6 S) rf rf O.o (jZ S) (bY 6 S) (fun wd Q=> ?_);refine Qp ?_;replace Q:=Hid.o Q;have I:=aJ ((Wq.ext R.o).V8 Wj (by rw[WO.o];exact WB.o) Q);clear Q O R H WB Xw Wz N Wq;go_wp2_with fail
   go_roundw
   case rel=>exact⟨i+1,aa,by rw[Xy.o];rfl,_,_,I.o⟩
   case measure=>rw[Xy.o];simp[intOf];omega
  .obtain rfl:i=s.bays.length:=aa;have hd:decide ((s.bays.length:Int)<(s.bays.length:Int))=ζ:=ag;have N:=aJ ((WJ.new (Y:=g8) I.lo.1).ext I.x);obtain⟨ff,Xj⟩:∃g:Nat->En,(fun k=>E (54+k))=g:=⟨_,rfl⟩;have Wn:=aJ (UL I.g (a:=54) aa (o:=357) aa);rw[Xj] at Wn;have YF:Hid (lJ wr 3 ff (xq (bI s (resolve 0 p) f) (dK s (resolve 0 p) f) f) 4600):=aJ (fun k hk=>by rw[<-Xj];exact(N.i k hk).up aa);clear Xj;(go_wp2_with (refine σ rfl 102 _ rfl g8 (357) rf (aM 3 ff) _ Wn.o Bn rfl (jA _) (Hid.o ?_)));refine aJ ?_;refine Qp ?_;(go_wp2_with fail);refine(pG g10 sh ff _ D _ I.c YF.o HD.VT Xx).mono ?_;rintro _ we ⟨e1,rfl,M,F⟩;replace I:=I.aA F;replace N:=N.aA F;have WC:=aJ M;clear M F Wn YF;have O:=aJ (I.Ke (a:=2) aa e1);(go_wp2_with (refine aL rfl 45 (.tmp 65) (.tmp 64) rfl g12 (2) (aM 6 e1) rf rf O.o (jZ e1) (bY 6 e1) (fun wf Q=>Hid.o ?_)));refine aJ ?_;refine Qp ?_;replace Q:=Hid.o Q;obtain⟨XW,WI,Z⟩:=I.Tw (m:=0) aa aa Q;replace I:=aJ XW;replace WC:Hid (lJ wf 6 e1 _ 4600):=aJ (fun k hk=>(WC.o k hk).mod WI Z);clear XW WI Z Q O N;have N:=aJ ((WJ.new (Y:=g8) I.lo.1).ext I.x);obtain⟨fN,Xz⟩:∃n,dK s (resolve 0 p) f=n:=⟨_,rfl⟩;have XZ:=I.g.cell_ (k:=14) (v:=.int .i64 (fN:Int)) aa ((dz aa).trans (by rw[N.o.faulty,Xz]));have XH:fN<=17:=by rw[<-Xz];exact Xd.o.1
   have WF:=aJ Xz;clear Xz;(go_wp2_with fail);refine(U7 g8 fN C E _ I.g XH).mono ?_;rintro _ wg ⟨rfl,F⟩;replace I:=I.aA F;replace N:=N.aA F;replace WC:=WC.aA F;clear F XZ;have YC:lJ wg 3 (fun k=>E (k*18+fN)) (fun n=>iL (bI s (resolve 0 p) f) (dK s (resolve 0 p) f) f n fN) 4600:=fun k hk=>(N.v k fN hk aa).up aa;have YF:=aJ YC;clear YC;(go_wp2_with fail);refine(pG g10 sh (fun k=>E (k*18+fN)) _ D _ I.c YF.o (HD.JH fN) Xx).mono ?_;rintro _ wh ⟨e2,rfl,M,F⟩;replace I:=I.aA F;replace WC:=WC.aA F;have Xv:=aJ M;clear M F YF N;have O:=aJ (I.Ke (a:=38) aa e2);(go_wp2_with (refine aL rfl 45 (.tmp 71) (.tmp 70) rfl g12 (38) (aM 6 e2) rf rf O.o (jZ e2) (bY 6 e2) (fun wi Q=>Hid.o ?_)));refine aJ ?_;refine Qp ?_;replace Q:=Hid.o Q;obtain⟨XW,WI,Z⟩:=I.Tw (m:=1) aa aa Q;replace I:=aJ XW;replace WC:Hid (lJ wi 6 e1 _ 4600):=aJ (fun k hk=>(WC.o k hk).mod WI Z);replace Xv:Hid (lJ wi 6 e2 _ 4600):=aJ (fun k hk=>(Xv.o k hk).mod WI Z);clear XW WI Z Q O;obtain⟨ef,XD⟩:∃g,chunk 1 e2 (chunk 0 e1 fun _=>zEn)=g:=⟨_,rfl⟩;rw[XD] at I;have XM:=aJ XD;clear XD;have kc:wi.cell? ⟨g10,0,δ⟩=γ (.int .i64 0):=I.c.cell 0;have Wn:=aJ I.b12.rng;(go_wp2_with (refine σ rfl 47 _ rfl g12 (0) rf (ku (.slice (γ ⟨GC,0,δ⟩) s.bays.length s.bays.length) (.slice (γ ⟨GV_,0,δ⟩) s.bays.length s.bays.length) ef) _ Wn.o underlying47 rfl (sQ _ _ _) (Hid.o ?_)));refine aJ ?_;refine Qp ?_;clear kc Wn;have O:Hid (wi.there g6 0 (ku (.slice (γ ⟨GC,0,δ⟩) s.bays.length s.bays.length) (.slice (γ ⟨GV_,0,δ⟩) s.bays.length s.bays.length) ef).length):=aJ ((Xn.ext I.x).there Ab8);refine aL rfl 47 (.tmp 6) (.tmp 78) rfl g6 (0) (ku (.slice (γ ⟨GC,0,δ⟩) s.bays.length s.bays.length) (.slice (γ ⟨GV_,0,δ⟩) s.bays.length s.bays.length) ef) rf rf O.o (sQ _ _ _) (Dv _ _ _ rfl rfl) (fun wj Q=> ?_);refine Qp ?_;replace Q:=Hid.o Q;have XQ:Hid (Blk wj g6 47 (ku (.slice (γ ⟨GC,0,δ⟩) s.bays.length s.bays.length) (.slice (γ ⟨GV_,0,δ⟩) s.bays.length s.bays.length) ef).toArray):=aJ (by have:=bR 0 (ku (.slice (γ ⟨GC,0,δ⟩) s.bays.length s.bays.length) (.slice (γ ⟨GV_,0,δ⟩) s.bays.length s.bays.length) ef) (Xn.ext I.x);rw[fU _ _ (by rw[iK,iK])] at this;rw[Q];exact this);have Xb:Hid (Mod (fun k=>k=g6) wi wj):=aJ (by rw[Q];exact Mod.puts _ _ _ _ rfl);have XB:Hid (Far (fun k=>k=g6) wi):=aJ (fun k hk _=>by
    have hk:k=g6:=hk;rw[hk];refine⟨_,_,Xn.ext I.x,?_⟩;show(List.all (_::_::aM 12 (fun _=>zEn)) _)=ε;rw[abP,abP];exact dm 12 (fun _=>zEn))
   have Yn:=Xn.lt;have XC:=I.lo;have XI:=WP.o;have WE:Hid (Ext w wj):=aJ (fC (HX.trans I.x) Xb.o (fun k hk=>by have hk:k=g6:=hk;omega));have B:Hid (¬GC=g6):=aJ aa;have XU:Hid (¬GV_=g6):=aJ aa;clear Q O Yn XC XI;(go_wp2_with fail);refine EN rfl rfl rfl XQ.o underlying47 rfl (sQ _ _ _) ⟨GC,GV_,ec,ev,ef,rfl,⟨I.bc.mod Xb.o B.o,I.bv.mod Xb.o XU.o,fun i hi=>(I.vc i hi).mod Xb.o XB.o,fun i hi=>(I.vv i hi).mod Xb.o XB.o,?_,?_⟩,WE.o⟩
   .refine ae5 (fun t ht=> ?_);have e0:ef t=e1 t:=(by rw[<-XM.o];unfold chunk;rw[θ aa,ι aa,acf ht]);rw[e0,WO.o];exact(WC.o t ht).mod Xb.o XB.o
   .refine ae5 (fun t ht=> ?_);have e0:ef (6+t)=e2 t:=(by rw[<-XM.o];unfold chunk;rw[ι aa,show(6+t)%6=t by omega]);have h2:=(Xv.o t ht).mod Xb.o XB.o;rw[WF.o] at h2;rw[e0,WO.o,WF.o];exact h2
end Go.Proofs.YtbfnfkppkmpieaaGreat
