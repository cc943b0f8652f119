import Derived.Test.YtbfnfkppkmpieaaGreatQd
set_option linter.unusedVariables false
set_option linter.unusedSimpArgs false
set_option maxHeartbeats 25600000
set_option maxRecDepth 200000
set_option linter.defProp false
namespace Go.Proofs.YtbfnfkppkmpieaaGreat
open Go.RowKit
def yL:(Tryz.prog.info? 45).map (·.zero)=some (some (.agg (aN 6 fun _=>zEn).toArray)):=ah
def vH:(Tryz.prog.info? 44).map (·.zero)=some (some (.agg (aN 2 fun _=>zEn).toArray)):=ah
def kV(f):(Tryz.prog.info? 45).map (·.size)=some (aN 6 f).length:=by rw[aW];kernel_rfl
def j6(f):(Tryz.prog.info? 44).map (·.size)=some (aN 2 f).length:=by rw[aW];kernel_rfl
def Ph3 (w:World) (e:Nat->En) (P:Nat->PQ) (n:Nat):Prop:=∀m,m<3->GV w (e (2*m)).v (P m).u n/\GV w (e (2*m+1)).v (P m).v n
def Ph3.ext{w w' e P n}(h:Ph3 w e P n)(x:Ext w w'):Ph3 w' e P n:=fun m j=>⟨(h m j).1.ext x,(h m j).2.ext x⟩
def two (a b:En) (j:Nat):En:=if j=0 then a else b
def PV.row{w v p n}(h:PV w v p n):∃e:Nat->En,v=.agg (aN 2 e).toArray/\GV w (e 0).v p.u n/\GV w (e 1).v p.v n:=by
 obtain⟨a,b,d,x,y,z,F,I,S,J,T⟩:=h;obtain⟨s1,A1,n1,c1,s2,A2,n2,c2,s3,A3,n3,c3,s4,A4,n4,c4,s5,A5,n5,c5,s6,A6,n6,c6,rfl,C,l,j,G,B,D⟩:=F;exact⟨two ⟨s1,A1,n1,c1,s2,A2,n2,c2,s3,A3,n3,c3⟩ ⟨s4,A4,n4,c4,s5,A5,n5,c5,s6,A6,n6,c6⟩,rfl,⟨a,b,d,RG.mk C l j,I,S⟩,⟨x,y,z,RG.mk G B D,J,T⟩⟩
def PV.mk2{w e p n}(l:GV w (e 0).v p.u n)(B:GV w (e 1).v p.v n):PV w (.agg (aN 2 e).toArray) p n:=by
 obtain⟨a,b,d,j,I,S⟩:=l;obtain⟨x,y,z,N,J,T⟩:=B;refine⟨a,b,d,x,y,z,?_,I,S,J,T⟩;have r1:=j;have r2:=N;exact⟨_,_,_,_,_,_,_,_,_,_,_,_,_,_,_,_,_,_,_,_,_,_,_,_,rfl,j.at1,j.at2,j.at3,N.at1,N.at2,N.at3⟩
def AV.row{w v P p1 p2 n}(h:AV w v P p1 p2 n):∃e:Nat->En,v=.agg (aN 6 e).toArray/\(GV w (e 0).v P.u n/\GV w (e 1).v P.v n)/\(GV w (e 2).v p1.u n/\GV w (e 3).v p1.v n)/\(GV w (e 4).v p2.u n/\GV w (e 5).v p2.v n):=by
 obtain⟨z1,z2,G,R,Y,O,J,z8,H,L,l,M,K,Q,Z,D,I,T,⟨S,A,N,C,rfl,h1,h2,h3,h4,h5,h6,h7,h8,h9,Xa,WC,WB,Wu,XI,WF,Wq,B,Wo⟩,I1,S1,I2,S2,F,S3,I4,W,I5,S5,U,V⟩:=h;refine⟨fun j=>⟨S (3*j+1),A (3*j+1),N (3*j+1),C (3*j+1),S (3*j+2),A (3*j+2),N (3*j+2),C (3*j+2),S (3*j+3),A (3*j+3),N (3*j+3),C (3*j+3)⟩,rfl,⟨⟨_,_,_,RG.mk h1 h2 h3,I1,S1⟩,⟨_,_,_,RG.mk h4 h5 h6,I2,S2⟩⟩,⟨⟨_,_,_,RG.mk h7 h8 h9,F,S3⟩,⟨_,_,_,RG.mk Xa WC WB,I4,W⟩⟩,⟨⟨_,_,_,RG.mk Wu XI WF,I5,S5⟩,⟨_,_,_,RG.mk Wq B Wo,U,V⟩⟩⟩
def jr{w W W' g n t f f0}(J:Ext w W)(B:w.heap.size<=g)(hb:Blk W g t (aN n f0).toArray)(Y:W'=puts W g 0 (aN n f)):Blk W' g t (aN n f).toArray/\Ext w W'/\∀v q m,GV W v q m->GV W' v q m:=by
 subst Y;have l:Mod (fun k=>k=g) W (puts W g 0 (aN n f)):=Mod.puts _ _ _ _ rfl;refine⟨?_,fw J l (fun k j=>by have j:k=g:=j;omega),fun v q m hv=>hv.mod l (fun k j _=>by
  obtain rfl:k=g:=j;exact⟨_,_,hb,cu _ _⟩)⟩
 have:=bY 0 (aN n f) hb;exact AbA
def fU{w g n t f f0}(hb:Blk w g t (aN n f0).toArray):w.there g 0 (aN n f).length:=hb.there AbW
def Mv(g e w)(hc:bT w g):
  CE 86 #[.pointer (some ⟨g,0,none⟩),.agg (aN 6 e).toArray,.int .i64 0] w (.agg (aN 6 e).toArray):=by
 have C:=aJ hc;clear hc;go_enter Tryz.func86,Tryz.ntmps86;(go_wp2_with (refine aY rfl 45 rfl _ yL (fun j G=>Hid.o ?_)));refine aJ ?_;refine Qp ?_;replace G:=Hid.o G;have J:Ext w j:=by rw[G];exact(Ext.new _ _).alloc _
 have l:Blk j w.heap.size 45 (aN 6 e).toArray:=by rw[G];exact(Blk.new _ _ _).alloc _
 have U:Blk j (w.heap.size+1) 45 (aN 6 fun _=>zEn).toArray:=by rw[G];exact Blk.new' _ _ (eY _ _)
 have Z:w.heap.size<=w.heap.size+1:=Nat.le_succ _;(try simp only[eY]);clear G;generalize w.heap.size+1=g6 at U Z⊢;generalize L:w.heap.size=g4 at l Z⊢;have O:=bT.ext C.o J;have k0:j.cell? ⟨g,0,none⟩=some (.int .i64 0):=Blk.cell O 0;have f0:=Blk.frozen O;have P:Ext j (j.setCell ⟨g,0,none⟩ (.int .i64 0)):=(Ext.refl j).stay O rfl;have W:=aJ (J.trans P);have B:=aJ (l.ext P).rng;have S:=aJ (U.ext P);have D:Hid (w.heap.size<=g6):=aJ aa;clear J P l U Z L O;have N:=aJ (fU (f:=e) S.o);(go_wp2_with (refine wpList_load_mid rfl 45 _ rfl g4 (0) rf (aN 6 e) _ B.o Tryz.underlying45 rfl (kV e) (Hid.o ?_)));refine aJ ?_;refine Qp ?_;(go_wp2_with (refine aO rfl 45 (.tmp 6) (.tmp 23) rfl g6 (0) (aN 6 e) rf rf N.o (kV e) (dH 6 e) (fun V G=>Hid.o ?_)));refine aJ ?_;refine Qp ?_;replace G:=Hid.o G;have hF:=jr W.o D.o S.o G;(go_wp2_with fail);exact kD rfl rfl rf hF.1 Tryz.underlying45 rfl (by rw[List.size_toArray];exact kV e) ⟨rfl,hF.2.1⟩
def Nl(g e w)(hc:bT w g):
  CE 171 #[.pointer (some ⟨g,0,none⟩),.agg (aN 2 e).toArray,.int .i64 0] w (.agg (aN 2 e).toArray):=by
 have C:=aJ hc;clear hc;go_enter Tryz.func171,Tryz.ntmps171;(go_wp2_with (refine aY rfl 44 rfl _ vH (fun j G=>Hid.o ?_)));refine aJ ?_;refine Qp ?_;replace G:=Hid.o G;have J:Ext w j:=by rw[G];exact(Ext.new _ _).alloc _
 have l:Blk j w.heap.size 44 (aN 2 e).toArray:=by rw[G];exact(Blk.new _ _ _).alloc _
 have U:Blk j (w.heap.size+1) 44 (aN 2 fun _=>zEn).toArray:=by rw[G];exact Blk.new' _ _ (eY _ _)
 have Z:w.heap.size<=w.heap.size+1:=Nat.le_succ _;(try simp only[eY]);clear G;generalize w.heap.size+1=g6 at U Z⊢;generalize L:w.heap.size=g4 at l Z⊢;have O:=bT.ext C.o J;have k0:j.cell? ⟨g,0,none⟩=some (.int .i64 0):=Blk.cell O 0;have f0:=Blk.frozen O;have P:Ext j (j.setCell ⟨g,0,none⟩ (.int .i64 0)):=(Ext.refl j).stay O rfl;have W:=aJ (J.trans P);have B:=aJ (l.ext P).rng;have S:=aJ (U.ext P);have D:Hid (w.heap.size<=g6):=aJ aa;clear J P l U Z L O;have N:=aJ (fU (f:=e) S.o);(go_wp2_with (refine wpList_load_mid rfl 44 _ rfl g4 (0) rf (aN 2 e) _ B.o Tryz.underlying44 rfl (j6 e) (Hid.o ?_)));refine aJ ?_;refine Qp ?_;(go_wp2_with (refine aO rfl 44 (.tmp 6) (.tmp 23) rfl g6 (0) (aN 2 e) rf rf N.o (j6 e) (dH 2 e) (fun V G=>Hid.o ?_)));refine aJ ?_;refine Qp ?_;replace G:=Hid.o G;have hF:=jr W.o D.o S.o G;(go_wp2_with fail);exact kD rfl rfl rf hF.1 Tryz.underlying44 rfl (by rw[List.size_toArray];exact j6 e) ⟨rfl,hF.2.1⟩
def JZ(g:Nat)(M)(p:PQ)(n K:Nat)(m1:Int)(w)(hc:bT w g)(h0:GV w (M 0).v p.u n)(h1:GV w (M 1).v p.v n)(l1: -9223372036854775808<=m1)(u1:m1<=9223372036854775807)(T:m1%12=(K:Int))(hn:2*n+65<=12800):
  Calls Tryz.prog 131 #[.pointer (some ⟨g,0,none⟩),.agg (aN 2 M).toArray,.int .i64 m1,.func (Fn.func 132) #[] #[]] w fun r w'=>∃e:Nat->En,r=.returned (.agg (aN 2 e).toArray)/\GV w' (e 0).v (p*PQ.zp K).u (n+n+65)/\GV w' (e 1).v (p*PQ.zp K).v (n+n+65)/\Ext w w':=by
 have HC:=aJ hc;have HX:=aJ (PV.mk2 h0 h1);clear hc h0 h1;go_enter Tryz.func131,Tryz.ntmps131;(go_wp2_with (refine aY rfl 44 rfl _ vH (fun Y G=>Hid.o ?_)));refine aJ ?_;refine Qp ?_;replace G:=Hid.o G;have J:Ext w Y:=by rw[G];exact(Ext.new _ _).alloc _
 have Q:Blk Y w.heap.size 44 (aN 2 M).toArray:=by rw[G];exact(Blk.new _ _ _).alloc _
 have L:Blk Y (w.heap.size+1) 44 (aN 2 fun _=>zEn).toArray:=by rw[G];exact Blk.new' _ _ (eY _ _)
 have Z:w.heap.size<=w.heap.size+1:=Nat.le_succ _;(try simp only[eY]);clear G;generalize w.heap.size+1=g8 at L Z⊢;generalize WP:w.heap.size=g5 at Q Z⊢;have k0:Y.cell? ⟨g,0,none⟩=some (.int .i64 0):=Blk.cell (bT.ext HC.o J) 0;have P:=aJ J;have U:=aJ Q.rng;have l:=aJ L;have HL:Hid (w.heap.size<=g8):=aJ aa;clear J Q L Z WP;(go_wp2_with (refine wpList_load_mid rfl 44 _ rfl g5 (0) rf (aN 2 M) _ U.o Tryz.underlying44 rfl (j6 M) (Hid.o ?_)));refine aJ ?_;refine Qp ?_;clear k0;(go_wp2_with fail);refine(Oj _ p n m1 K _ (HX.ext P.o) l1 u1 T hn).mono ?_;rintro _ w2 ⟨_,rfl,⟨u,rfl,R⟩,F⟩;obtain⟨B,rfl,I,C⟩:=R.row;have D:=aJ (And.intro I C);clear I C;replace P:=P.aC F;replace l:=l.aA F;clear R F U;(go_wp2_with (refine aY rfl 44 rfl _ vH (fun S G=>Hid.o ?_)));refine aJ ?_;refine Qp ?_;replace G:=Hid.o G;have J:Ext w2 S:=by rw[G];exact Ext.new _ _
 have hb:Blk S w2.heap.size 44 (aN 2 fun _=>zEn).toArray:=by rw[G];exact Blk.new _ _ _
 have N:=aJ (fU (f:=B) hb);have Ww:=P.size;clear G;generalize j:w2.heap.size=g10 at hb N⊢;(go_wp2_with (refine aO rfl 44 (.tmp 10) (.tmp 23) rfl g10 (0) (aN 2 B) rf rf N.o (j6 B) (dH 2 B) (fun V G=>Hid.o ?_)));refine aJ ?_;refine Qp ?_;replace G:=Hid.o G;obtain⟨W,H,Wu⟩:=jr J aa hb G;replace P:=P.aC H;replace l:=l.aA H;replace D:=aJ (And.intro (D.o.1.ext H) (D.o.2.ext H));have O:=aJ W.rng;clear W H Wu hb J N G Ww j;(go_wp2_with (refine wpList_load_mid rfl 44 _ rfl g10 (0) rf (aN 2 B) _ O.o Tryz.underlying44 rfl (j6 B) (Hid.o ?_)));refine aJ ?_;refine Qp ?_;(go_wp2_with fail);refine(Nl g B _ (bT.ext HC.o P.o)).mono ?_;rintro _ w3 ⟨rfl,F⟩;replace P:=P.aC F;replace l:=l.aA F;replace D:=aJ (And.intro (D.o.1.ext F) (D.o.2.ext F));clear F O;have N:=aJ (fU (f:=B) l.o);(go_wp2_with (refine aO rfl 44 (.tmp 8) (.tmp 28) rfl g8 (0) (aN 2 B) rf rf N.o (j6 B) (dH 2 B) (fun WF G=>Hid.o ?_)));refine aJ ?_;refine Qp ?_;replace G:=Hid.o G;have hF:=jr P.o HL.o l.o G;(go_wp2_with fail);exact kD rfl rfl rf hF.1 Tryz.underlying44 rfl (by rw[List.size_toArray];exact j6 B) ⟨B,rfl,hF.2.2 _ _ _ D.o.1,hF.2.2 _ _ _ D.o.2,hF.2.1⟩
def OB(g:Nat)(j)(p:PQ)(n K:Nat)(m1:Int)(w)(hc:bT w g)(O:GV w (j 0).v p.u n)(R:GV w (j 1).v p.v n)(l1: -9223372036854775808<=m1)(u1:m1<=9223372036854775807)(T:m1%12=(K:Int))(hn:2*n+65<=12800):
  Calls Tryz.prog 87 #[.pointer (some ⟨g,0,none⟩),.agg (aN 2 j).toArray,.int .i64 m1] w fun r w'=>∃e:Nat->En,r=.returned (.agg (aN 2 e).toArray)/\GV w' (e 0).v (p*PQ.zp K).u (n+n+65)/\GV w' (e 1).v (p*PQ.zp K).v (n+n+65)/\Ext w w':=by
 have W:=aJ hc;have Q:=aJ (And.intro O R);clear hc O R;go_enter Tryz.func87,Tryz.ntmps87;(go_wp2_with (refine aY rfl 44 rfl _ vH (fun H G=>Hid.o ?_)));refine aJ ?_;refine Qp ?_;replace G:=Hid.o G;have J:Ext w H:=by rw[G];exact(Ext.new _ _).alloc _
 have l:Blk H w.heap.size 44 (aN 2 j).toArray:=by rw[G];exact(Blk.new _ _ _).alloc _
 have U:Blk H (w.heap.size+1) 44 (aN 2 fun _=>zEn).toArray:=by rw[G];exact Blk.new' _ _ (eY _ _)
 have Z:w.heap.size<=w.heap.size+1:=Nat.le_succ _;(try simp only[eY]);clear G;generalize w.heap.size+1=g6 at U Z⊢;generalize L:w.heap.size=g4 at l Z⊢;have P:=aJ J;have D:=aJ l.rng;have S:=aJ U;have Y:Hid (w.heap.size<=g6):=aJ aa;clear J l U Z L;(go_wp2_with (refine wpList_load_mid rfl 44 _ rfl g4 (0) rf (aN 2 j) _ D.o Tryz.underlying44 rfl (j6 j) (Hid.o ?_)));refine aJ ?_;refine Qp ?_;(go_wp2_with fail);refine(JZ g j p n K m1 _ (bT.ext W.o P.o) (Q.o.1.ext P.o) (Q.o.2.ext P.o) l1 u1 T hn).mono ?_;rintro _ w2 ⟨B,rfl,I,C,F⟩;have M:=aJ (And.intro I C);clear I C;replace P:=P.aC F;replace S:=S.aA F;clear F D;have N:=aJ (fU (f:=B) S.o);(go_wp2_with (refine aO rfl 44 (.tmp 6) (.tmp 10) rfl g6 (0) (aN 2 B) rf rf N.o (j6 B) (dH 2 B) (fun V G=>Hid.o ?_)));refine aJ ?_;refine Qp ?_;replace G:=Hid.o G;have hF:=jr P.o Y.o S.o G;(go_wp2_with fail);exact kD rfl rfl rf hF.1 Tryz.underlying44 rfl (by rw[List.size_toArray];exact j6 B) ⟨B,rfl,hF.2.2 _ _ _ M.o.1,hF.2.2 _ _ _ M.o.2,hF.2.1⟩
def zA:∀(xs j:List Value) (cs:Array Value) (k:Nat),fD cs k (xs++j)=fD (fD cs k xs) (k+xs.length) j
 |[],_,_,_=>rfl
 |x::xs,j,cs,k=>by
  show fD (cs.setIfInBounds k x) (k+1) (xs++j)=fD (fD (cs.setIfInBounds k x) (k+1) xs) (k+(xs.length+1)) j;rw[zA xs j _ (k+1),show k+(xs.length+1)=k+1+xs.length by omega]
def Ng{e x m}(B:m<3):fD (aN 6 e).toArray (m*12) (aN 2 x)=(aN 6 (upd (upd e (2*m) (x 0)) (2*m+1) (x 1))).toArray:=by
 have j:aN 2 x=(x 0).cells++(x 1).cells:=by rw[iL,iL];rfl
 have l:fD (aN 6 e).toArray (m*12) ((x 0).cells++(x 1).cells)=fD (fD (aN 6 e).toArray (m*12) (x 0).cells) (m*12+6) (x 1).cells:=zA _ _ _ _;rw[j,l,show m*12=2*m*6 by omega,mO (x 0) aa,show 2*m*6+6=(2*m+1)*6 by omega,mO (x 1) aa]
def Blk.Un{w g n j o t f}(h:Blk w g t (aN n f).toArray)(C:j<n)(l:o=j*6):w.rangeAt g o (f j).cells:=fun t v hv=>by
 subst l;have B:t<6:=by have:=(List.getElem?_eq_some_iff.1 hv).1;rwa[qR] at this
 rw[h.cell,List.getElem?_toArray,dM B C];exact hv
structure PhS (w wr:World) (gf g6 g7:Nat) (e1 e:Nat->En) (q:Nat->GQ) (sh i:Nat):Prop where
 c:bT wr gf
 b6:Blk wr g6 45 (aN 6 fun _=>zEn).toArray
 b7:Blk wr g7 45 (aN 6 e).toArray
 v:∀m,m<i->GV wr (e (2*((m+sh)%3))).v (phv q sh ((m+sh)%3)).u 4600/\GV wr (e (2*((m+sh)%3)+1)).v (phv q sh ((m+sh)%3)).v 4600
 u:∀m,m<3->GV wr (e1 (2*m)).v (phq q m).u 4600/\GV wr (e1 (2*m+1)).v (phq q m).v 4600
 x:Ext w wr
 l6:w.heap.size<=g6
 l7:g6<g7
def PhS.ext{w wr wr' gf g6 g7 sh i l e q}(h:PhS w wr gf g6 g7 l e q sh i)(x:Ext wr wr'):PhS w wr' gf g6 g7 l e q sh i:=
 ⟨h.c.ext x,h.b6.ext x,h.b7.ext x,fun m j=>⟨(h.v m j).1.ext x,(h.v m j).2.ext x⟩,fun m j=>⟨(h.u m j).1.ext x,(h.u m j).2.ext x⟩,h.x.trans x,h.l6,h.l7⟩
def PhS.put{w wr wr' gf g6 g7 sh i F e x q}(h:PhS w wr gf g6 g7 F e q sh i)(hi:i<3)(I:GV wr (x 0).v (phv q sh ((i+sh)%3)).u 4600)(J:GV wr (x 1).v (phv q sh ((i+sh)%3)).v 4600)(j:gf<w.heap.size){a}(ha:a=(i+sh)%3*12)(Y:wr'=puts wr g7 a (aN 2 x)):PhS w wr' gf g6 g7 F (upd (upd e (2*((i+sh)%3)) (x 0)) (2*((i+sh)%3)+1) (x 1)) q sh (i+1):=by
 subst ha;have D:(i+sh)%3<3:=Nat.mod_lt _ aa;have l:Mod (fun k=>k=g7) wr wr':=by rw[Y];exact Mod.puts _ _ _ _ rfl
 have hS:Far (fun k=>k=g7) wr:=fun k C _=>by
  obtain rfl:k=g7:=C;exact⟨_,_,h.b7,cu _ _⟩
 have l6:=h.l6;have l7:=h.l7;refine⟨Blk.mod h.c l (by show ¬gf=g7;omega),h.b6.mod l (by show ¬g6=g7;omega),?_,fun m G=> ?_,fun m B=>⟨(h.u m B).1.mod l hS,(h.u m B).2.mod l hS⟩,fw h.x l (fun k C=>by have C:k=g7:=C;omega),h.l6,h.l7⟩
 .have:=bY ((i+sh)%3*12) (aN 2 x) h.b7;rw[Ng D] at this;rw[Y];exact this
 .by_cases H:m=i
  .subst H;rw[upd_ne aa,upd_same,upd_same];exact⟨I.mod l hS,J.mod l hS⟩
  .have K:(m+sh)%3≠(i+sh)%3:=aa;rw[upd_ne aa,upd_ne aa,upd_ne aa,upd_ne aa];have:=h.v m aa;exact⟨this.1.mod l hS,this.2.mod l hS⟩
theorem TY{q sh m}(hs:sh<3)(j:m<3):phv q sh ((m+sh)%3)=phq q m*PQ.zp (8*sh%12):=by
 unfold phv;rw[show((m+sh)%3+3-sh)%3=m by omega]
def PhS.all{w wr gf g6 g7 sh j e q}(h:PhS w wr gf g6 g7 j e q sh 3)(hs:sh<3):Ph3 wr e (phv q sh) 4600:=fun m l=>by
 have:=h.v ((m+3-sh)%3) aa;rw[show((m+3-sh)%3+sh)%3=m by omega] at this;exact this
def Uu{e}{k:Nat}(l:k<3)(w):Sem.run Tryz.prog (Instr.index 45 (.agg (aN 6 e).toArray) (.int .i64 (k:Int))) w=.ok (.agg (aN 2 fun t=>e (2*k+t)).toArray) w:=by
 have j:k=0\/k=1\/k=2:=aa;rcases j with rfl|rfl|rfl
 all_goals
  simp[Instr.index,run_underlying Tryz.underlying45,asIntOf,go_sem,Tryz.isAgg44,Tryz.sizeOf44,part,aN,En.cells,List.range_succ]
theorem IY(gf sh:Nat)(a q D w)(hc:bT w gf)(ha:∀k,k<3->GV w (a k).v (q k) 4600)(hq:rP q D)(hs:sh<3):
  Calls Tryz.prog 44 #[.pointer (some ⟨gf,0,none⟩),.agg (aN 3 a).toArray,.int .i64 (sh:Int)] w fun r w'=>∃e:Nat->En,r=.returned (.agg (aN 6 e).toArray)/\Ph3 w' e (phv q sh) 4600/\Ext w w':=by
 have HC:=aJ hc;have HA:=aJ ha;have HQ:=aJ hq;have Xm:=aJ hs;have Ya:Hid (gf<w.heap.size):=aJ (Blk.lt hc);clear hc ha hq hs;go_enter Tryz.func44,Tryz.ntmps44;(go_wp2_with (refine aY rfl 45 rfl _ yL (fun w_ G=>Hid.o ?_)));refine aJ ?_;refine Qp ?_;replace G:=Hid.o G;have J:Ext w w_:=by rw[G];exact(Ext.new _ _).alloc _
 have Wy:Blk w_ w.heap.size 102 (aN 3 a).toArray:=by rw[G];exact(Blk.new _ _ _).alloc _
 have U:Blk w_ (w.heap.size+1) 45 (aN 6 fun _=>zEn).toArray:=by rw[G];exact Blk.new' _ _ (eY _ _)
 have Z:w.heap.size<=w.heap.size+1:=Nat.le_succ _;(try simp only[eY]);clear G;generalize w.heap.size+1=g6 at U Z⊢;generalize L:w.heap.size=g4 at Wy Z⊢;have Xi:Hid (w.heap.size<=g6):=aJ aa;clear Z L;(go_wp2_with (refine aY rfl 45 rfl _ yL (fun WM G=>Hid.o ?_)));refine aJ ?_;refine Qp ?_;replace G:=Hid.o G;have H:Ext w_ WM:=by rw[G];exact Ext.new _ _
 have WK:Blk WM w_.heap.size 45 (aN 6 fun _=>zEn).toArray:=by rw[G];exact Blk.new _ _ _
 have Wv:Hid (g6<w_.heap.size):=aJ U.lt;clear G;generalize w_.heap.size=g7 at WK Wv⊢;have HX:=aJ (J.trans H);have Wz:=aJ (Wy.ext H);have S:=aJ (U.ext H);have WO:=aJ WK;clear J H Wy U WK;have k0:WM.cell? ⟨gf,0,none⟩=some (.int .i64 0):=Blk.cell (bT.ext HC.o HX.o) 0;have Y:Hid (WM.rangeAt g4 0 (a 0).cells):=aJ (Wz.Un (j:=0) aa rfl);have T:Hid (WM.rangeAt g4 6 (a 1).cells):=aJ (Wz.Un (j:=1) aa rfl);have O:Hid (WM.rangeAt g4 12 (a 2).cells):=aJ (Wz.Un (j:=2) aa rfl);(go_wp2_with (refine wpList_load_mid rfl 42 _ rfl g4 (0) rf ((a 0).cells) _ Y.o Tryz.underlying42 rfl bL (Hid.o ?_)));refine aJ ?_;refine Qp ?_;(go_wp2_with (refine wpList_load_mid rfl 42 _ rfl g4 (6) rf ((a 1).cells) _ T.o Tryz.underlying42 rfl bL (Hid.o ?_)));refine aJ ?_;refine Qp ?_;(go_wp2_with (refine wpList_load_mid rfl 42 _ rfl g4 (12) rf ((a 2).cells) _ O.o Tryz.underlying42 rfl bL (Hid.o ?_)));refine aJ ?_;refine Qp ?_;clear k0 Y T O;(go_wp2_with fail);refine(Mi 4600 (a 0).v (q 0) (a 1).v (q 1) (a 2).v (q 2) _ ((HA.o 0 aa).ext HX.o) ((HA.o 1 aa).ext HX.o) ((HA.o 2 aa).ext HX.o) HQ.sum aa).mono ?_;rintro _ w2 ⟨_,rfl,⟨u,rfl,R⟩,F⟩;obtain⟨e1,rfl,Wq,WI,Wu⟩:=R.row;have WB:∀m,m<3->GV w2 (e1 (2*m)).v (phq q m).u 4600/\GV w2 (e1 (2*m+1)).v (phq q m).v 4600:=fun m hm=>by
  have hp:=HQ.phq m;have h3:m=0\/m=1\/m=2:=aa;rcases h3 with rfl|rfl|rfl
  .exact⟨GV.to (q:=(phq q 0).u) (by rw[VH];unfold ph0;have e:q 0+(q 1+q 2)=GQ.bM 1 (q 0) 1 (GQ.bM 1 (q 1) 1 (q 2) 1) 1:=Abh;rw[e];exact Wq.1) hp.1,GV.to (q:=(phq q 0).v) Wq.2 hp.2⟩
  .exact⟨GV.to (q:=(phq q 1).u) (by rw[VZ];unfold ph1;have e:q 1+q 2=GQ.bM 1 (q 1) 1 (q 2) 1:=Abh;rw[e];exact WI.1) hp.1,GV.to (q:=(phq q 1).v) WI.2 hp.2⟩
  .exact⟨GV.to (q:=(phq q 2).u) (by rw[VW];unfold ph2;have e:q 1+q 2=GQ.bM 1 (q 1) 1 (q 2) 1:=Abh;rw[e];exact Wu.1) hp.1,GV.to (q:=(phq q 2).v) Wu.2 hp.2⟩
 have HU:=aJ WB;replace HX:=HX.aC F;replace S:=S.aA F;replace WO:=WO.aA F;clear WB R Wq WI Wu F Wz;(go_wp2_with (refine aY rfl 45 rfl _ yL (fun W G=>Hid.o ?_)));refine aJ ?_;refine Qp ?_;replace G:=Hid.o G;have J:Ext w2 W:=by rw[G];exact Ext.new _ _
 have WC:Blk W w2.heap.size 45 (aN 6 fun _=>zEn).toArray:=by rw[G];exact Blk.new _ _ _
 have N:=aJ (fU (f:=e1) WC);have WA:w2.heap.size<=w2.heap.size:=Nat.le_refl _;clear G;generalize Xk:w2.heap.size=g8 at WC WA N⊢;(go_wp2_with (refine aO rfl 45 (.tmp 8) (.tmp 26) rfl g8 (0) (aN 6 e1) rf rf N.o (kV e1) (dH 6 e1) (fun V G=>Hid.o ?_)));refine aJ ?_;refine Qp ?_;replace G:=Hid.o G;obtain⟨Xg,WH,WY⟩:=jr J aa WC G;clear G J WC N;have Ws:=aJ Xg.rng;(go_wp2_with (refine wpList_load_mid rfl 45 _ rfl g8 (0) rf (aN 6 e1) _ Ws.o Tryz.underlying45 rfl (kV e1) (Hid.o ?_)));refine aJ ?_;refine Qp ?_;(go_wp2_with fail);refine(Mv gf e1 _ (bT.ext HC.o (HX.trans WH))).mono ?_;rintro _ w4 ⟨rfl,F⟩;have Xa:=Xg.ext F;have N:=aJ (fU (f:=e1) Xa);(go_wp2_with (refine aO rfl 45 (.tmp 8) (.tmp 31) rfl g8 (0) (aN 6 e1) rf rf N.o (kV e1) (dH 6 e1) (fun WF G=>Hid.o ?_)));refine aJ ?_;refine Qp ?_;replace G:=Hid.o G;obtain⟨l,B,Wx⟩:=jr (WH.trans F) aa Xa G;clear G N Xa Ws;have Ws:=aJ l.rng;replace HX:=HX.aC B;have HS:Hid (PhS w _ gf g6 g7 e1 (fun _=>zEn) q sh 0):=aJ ⟨bT.ext HC.o HX.o,S.ext B,WO.ext B,fun m hm=>absurd hm aa,fun m hm=>⟨(HU.o m hm).1.ext B,(HU.o m hm).2.ext B⟩,HX.o,Xi.o,Wv.o⟩;clear HX S WO HU Xg WH WY F l B Wx WA Xk Xi Wv;(go_wp2_with (refine wpList_load_mid rfl 45 _ rfl g8 (0) rf (aN 6 e1) _ Ws.o Tryz.underlying45 rfl (kV e1) (Hid.o ?_)));refine aJ ?_;refine Qp ?_;clear Ws;go_wp2_with fail
 go_loopw [33] (fun iv wr=>∃i:Nat,i<=3/\iv=.int .i64 i/\∃e,PhS w wr gf g6 g7 e1 e q sh i) (fun iv _=>3-(intOf iv).toNat)
 case atStart=>exact⟨0,aa,rfl,_,HS.o⟩
 case round=>
  clear HS;rename World=>wr;obtain⟨i,hi,rfl,e,hR⟩:=hrel;have Q:=aJ hR;clear hR;by_cases Wo:i<3
  .have hd:decide ((i:Int)<3)=true:=ae;have WN:=Uu (e:=e1) Wo wr;have q1:(0:Int)<=(i:Int):=aa;have q2:(i:Int)<3:=aa;obtain⟨e2,P⟩:∃f:Nat->En,(fun t=>e1 (2*i+t))=f:=⟨_,rfl⟩;rw[P] at WN;have W9:=aJ P;have XJ:(0:Int)<=(sh:Int)/\(sh:Int)<3:=by have:=Xm.o;omega
   obtain⟨s0,s1⟩:=XJ;clear P;(go_wp2_with (refine aY rfl 44 rfl _ vH (fun Yd G=>Hid.o ?_)));refine aJ ?_;refine Qp ?_;replace G:=Hid.o G;have Wp:Ext wr Yd:=by rw[G];exact Ext.new _ _
   have l:Blk Yd wr.heap.size 44 (aN 2 fun _=>zEn).toArray:=by rw[G];exact Blk.new _ _ _
   have N:=aJ (fU (f:=e2) l);clear G WN;generalize WE:wr.heap.size=Xf at l N⊢;(go_wp2_with (refine aO rfl 44 (.tmp 11) (.tmp 36) rfl Xf (0) (aN 2 e2) rf rf N.o (j6 e2) (dH 2 e2) (fun WG G=>Hid.o ?_)));refine aJ ?_;refine Qp ?_;replace G:=Hid.o G;obtain⟨Xo,M,Ww⟩:=jr Wp aa l G;have Ws:=aJ Xo.rng;have K:=aJ M;clear G N Wp l Xo M Ww WE;(go_wp2_with (refine wpList_load_mid rfl 44 _ rfl Xf (0) rf (aN 2 e2) _ Ws.o Tryz.underlying44 rfl (j6 e2) (Hid.o ?_)));refine aJ ?_;refine Qp ?_;clear Ws;(go_wp2_with fail);refine(OB gf e2 (phq q i) 4600 (8*sh%12) _ _ (bT.ext Q.c K.o) (by have:=(Q.u i Wo).1;rw[<-W9.o];exact this.ext K.o) (by have:=(Q.u i Wo).2;rw[<-W9.o];exact this.ext K.o) aa aa aa aa).mono ?_;rintro _ w5 ⟨e3,rfl,I,C,F⟩;have hp:=TY (q:=q) Xm.o Wo;rw[<-hp] at I C;have WQ:=(HQ.phv Xm.o ((i+sh)%3)).bd HQ.o.2.1 HQ.o.1 (n:=4600) aa aa;have Xh:=aJ (GV.to I WQ.1);have XI:=aJ (GV.to C WQ.2);replace Q:=Q.aA (K.trans F);clear I C hp WQ F K W9;obtain⟨m,hm⟩:∃m,(i+sh)%3=m:=⟨_,rfl⟩;have Xe:m<3:=aa;have XD:((i:Int)+(sh:Int))%3=(m:Int):=aa;have HM:=aJ hm;clear hm;have p1:(0:Int)<=(m:Int):=aa;have p2:(m:Int)<3:=aa;have N:Hid (w5.there g7 (m*12) (aN 2 e3).length):=aJ (Q.b7.there AbW);(go_wp2_with (refine aO rfl 44 (.tmp 46) (.tmp 45) rfl g7 (m*12) (aN 2 e3) rf rf N.o (j6 e3) (dH 2 e3) (fun WJ G=>Hid.o ?_)));refine aJ ?_;refine Qp ?_;replace G:=Hid.o G;have Wt:=aJ (Q.put Wo Xh.o XI.o Ya.o (a:=m*12) (by rw[HM.o]) G);clear Q N G Xh XI;go_wp2_with fail
   go_roundw
   case rel=>exact⟨i+1,aa,au,_,Wt.o⟩
   case measure=>simp[intOf];omega
  .obtain rfl:i=3:=aa;have hd:decide ((3:Int)<3)=false:=aj;have Ws:=aJ Q.b7.rng;have N:=aJ (fU (f:=e) Q.b6);(go_wp2_with (refine wpList_load_mid rfl 45 _ rfl g7 (0) rf (aN 6 e) _ Ws.o Tryz.underlying45 rfl (kV e) (Hid.o ?_)));refine aJ ?_;refine Qp ?_;(go_wp2_with (refine aO rfl 45 (.tmp 6) (.tmp 48) rfl g6 (0) (aN 6 e) rf rf N.o (kV e) (dH 6 e) (fun WL G=>Hid.o ?_)));refine aJ ?_;refine Qp ?_;replace G:=Hid.o G;have hF:=jr Q.x Q.l6 Q.b6 G;have ha:=Q.all Xm.o;(go_wp2_with fail);exact kD rfl rfl rf hF.1 Tryz.underlying45 rfl (by rw[List.size_toArray];exact kV e) ⟨e,rfl,fun m hm=>⟨hF.2.2 _ _ _ (ha m hm).1,hF.2.2 _ _ _ (ha m hm).2⟩,hF.2.1⟩
def VN(x):x-GQ.i 0 0=x:=by ext<;>simp only[GQ.dI,GQ.dJ,GQ.dE,GQ.dB]<;>grind
noncomputable def cq (V:Nat->Nat->GQ) (L:Nat->Bool) (o:Option BrD) (n:Nat):GQ:=
 match o with
 |none=>GQ.i 0 0
 |some b=>if 13<=b.a/\L b.a=true then (V n b.a-V n b.b-(if n=1 then GQ.i b.emf 0 else GQ.i 0 0))/b.zs (min n 1) else GQ.i 0 0
structure CuS (w wr:World) (gf g6 g7:Nat) (a:Nat->En) (q:Nat->GQ) (i:Nat):Prop where
 c:bT wr gf
 s:AtS w wr 3 102 g6 g7 a
 v:∀k,k<3->GV wr (a k).v (if k<i then q k else GQ.i 0 0) 4600
section
variable {w wr wr':World} {gf g6 g7 i:Nat} {a:Nat->En} {q:Nat->GQ}
def CuS.ext(h:CuS w wr gf g6 g7 a q i)(x:Ext wr wr'):CuS w wr' gf g6 g7 a q i:=⟨h.c.ext x,h.s.ext x,fun k j=>(h.v k j).ext x⟩
def CuS.put(h:CuS w wr gf g6 g7 a q i)(j:gf<w.heap.size)(hi:i<3){e}(O:GV wr e.v (q i) 4600)(Y:wr'=puts wr g7 (i*6) e.cells):CuS w wr' gf g6 g7 (upd a i e) q (i+1):=by
 obtain⟨F,B⟩:=h.s.put hi e rfl Y;have l4:=h.s.l4;have l5:=h.s.l5;refine⟨Blk.mod h.c B (by show ¬gf=g7;omega),F,fun k D=> ?_⟩;by_cases l:k=i
 .subst l;rw[upd_same,if_pos aa];exact O.mod B h.s.far
 .rw[upd_ne l];have:=(h.v k D).mod B h.s.far;by_cases C:k<i
  .rw[if_pos C] at this;rw[if_pos aa];exact this
  .rw[if_neg C] at this;rw[if_neg aa];exact this
def CuS.skip(h:CuS w wr gf g6 g7 a q i)(hq:q i=GQ.i 0 0):CuS w wr gf g6 g7 a q (i+1):=⟨h.c,h.s,fun k l=>by
 have:=h.v k l;by_cases j:k<i
 .rw[if_pos j] at this;rw[if_pos aa];exact this
 .rw[if_neg j] at this;by_cases B:k=i
  .subst B;rw[if_pos aa,hq];exact this
  .rw[if_neg aa];exact this⟩
end
def Nr(gx gf i nq bc:Nat)(C:Nat->Value)(E:Nat->En)(V:Nat->Nat->GQ)(Lv:Nat->Bool)(o:Option BrD)(BA:Option Addr)(wv:Nat->Value)(w:World)(hc:bT w gf)(hg:eZ w gx 105 393 (eO C E))(hV:∀n k,n<3->k<18->GV w (E (n*18+k)).v (V n k) 4400)(hL:∀k,k<18->C (15+k)=.bool (Lv k))(Wu:C 13=.slice BA nq bc)(hA:Arr w BA nq 1 (fun i=>[wv i]))(hi:i<nq)(Y:nE w gx (wv i) o)(WB:∀b,o=some b->gF b)(Wy:∀b,o=some b->∀n,n<3->Bd (V n b.a-V n b.b) 4600)(WJ:∀b,o=some b->Bd (V 1 b.a-V 1 b.b-GQ.i b.emf 0) 4600)(XC:∀n,Bd (cq V Lv o n) 4600):
  Calls Tryz.prog 45 #[.pointer (some ⟨gx,0,none⟩),.pointer (some ⟨gf,0,none⟩),.int .i64 (i:Int)] w fun r w'=>∃a:Nat->En,r=.returned (.agg (aN 3 a).toArray)/\mh w' 3 a (cq V Lv o) 4600/\Ext w w':=by
 have HC:=aJ hc;have HG:=aJ hg;have U:=aJ hV;have HL:=aJ hL;have YC:=aJ Wu;have HW:=aJ Y;have WG:=aJ WB;have WI:=aJ Wy;have WY:=aJ WJ;have WW:=aJ XC;obtain⟨gb,ob,rfl,Xa,Xf⟩:=hA.at_ hi;have Yf:w.cell? ⟨gb,ob+i,none⟩=some (wv i):=by have:=Xf 0 _ rfl;simpa using this
 have Yu:=aJ Yf;have Ya:Hid (gf<w.heap.size):=aJ (Blk.lt hc);have Xt:Hid (gx<w.heap.size):=aJ hg.lt;have Yg:=aJ hi;clear hc hg hV hL Wu hA Y WB Wy WJ XC Xa Xf Yf hi;go_enter Tryz.func45,Tryz.ntmps45;(go_wp2_with (refine aY rfl 102 rfl _ tu (fun w_ G=>Hid.o ?_)));refine aJ ?_;refine Qp ?_;replace G:=Hid.o G;have HX:Hid (Ext w w_):=aJ (by rw[G];exact Ext.new _ _);have S:Hid (Blk w_ w.heap.size 102 (aN 3 fun _=>zEn).toArray):=aJ (by rw[G];exact Blk.new _ _ _);clear G;generalize Xz:w.heap.size=g6 at S⊢;have Xi:Hid (w.heap.size<=g6):=aJ aa;clear Xz;(go_wp2_with fail);refine(dz gf 0 _ (bT.ext HC.o HX.o) aa aa).mono ?_;rintro _ wa ⟨_,rfl,M,F⟩;obtain⟨P,rfl⟩:=M.en;replace HX:=HX.aC F;replace S:=S.aA F;have D:=aJ M;clear M F;(go_wp2_with fail);refine(dz gf 0 _ (bT.ext HC.o HX.o) aa aa).mono ?_;rintro _ wb ⟨_,rfl,M,F⟩;obtain⟨fb,rfl⟩:=M.en;replace HX:=HX.aC F;replace S:=S.aA F;replace D:=D.aA F;have H:=aJ M;clear M F;(go_wp2_with fail);refine(dz gf 0 _ (bT.ext HC.o HX.o) aa aa).mono ?_;rintro _ wc ⟨_,rfl,M,F⟩;obtain⟨fc,rfl⟩:=M.en;replace HX:=HX.aC F;replace S:=S.aA F;replace D:=D.aA F;replace H:=H.aA F;have WS:=aJ M;clear M F;(iterate 2 (try (first|go_values|go_skip|go_guarded|go_step|go_upon|go_in|go_back|go_simp)));simp only[En.v,gv];(go_wp2_with (refine aY rfl 102 rfl _ tu (fun WM G=>Hid.o ?_)));refine aJ ?_;refine Qp ?_;replace G:=Hid.o G;have F:Ext wc WM:=by rw[G];exact Ext.new _ _
 have WK:Blk WM wc.heap.size 102 (aN 3 fun _=>zEn).toArray:=by rw[G];exact Blk.new _ _ _
 have N:Hid (WM.there wc.heap.size 0 18):=aJ (WK.there AcG);have WH:=S.lt;clear G;generalize WV:wc.heap.size=g7 at WK N WH⊢;(go_wp2_with (refine aO rfl 102 (.tmp 7) (.tmp 17) rfl g7 (0) (P.cells++(fb.cells++fc.cells)) rf rf N.o qZ (uZ _ _ _) (fun W G=>Hid.o ?_)));refine aJ ?_;refine Qp ?_;replace G:=Hid.o G;have WN:W=puts WM g7 0 (aN 3 (pk3 P fb fc)):=by rw[vX];exact G
 have HO:=jr (w:=wc) F aa WK WN;have Q:Hid (CuS w W gf g6 g7 (pk3 P fb fc) (cq V Lv o) 0):=aJ ⟨bT.ext HC.o (HX.trans HO.2.1),⟨S.ext HO.2.1,HO.1,HX.trans HO.2.1,Xi.o,WH⟩,fun k hk=>by
  have h3:k=0\/k=1\/k=2:=aa;rcases h3 with rfl|rfl|rfl
  .exact(HO.2.2 _ _ _ (D.ext F)).up aa
  .exact(HO.2.2 _ _ _ (H.ext F)).up aa
  .exact(HO.2.2 _ _ _ (WS.ext F)).up aa⟩
 clear HX S Xi D H WS F WK N WH WV WN HO G;have Ye:=(HG.ext Q.s.x).cell_ (k:=13) aa ((dY aa).trans YC.o);have kw:=Q.s.x.cell_ Yu.o;have q1:(0:Int)<=(i:Int):=aa;have q2:(i:Int)<(nq:Int):=by have:=Yg.o;omega
 cases o with
 |none=>
  have WU:wv i=.pointer none:=HW.o;rw[WU] at kw;(go_wp2_with fail);go_quiet (fail);generalize K:W.drewN nq=wr;have Wv:Ext W wr:=by rw[<-K];exact(Ext.refl _).drewN _
  replace Q:=Q.aA Wv;clear Wv K;have Ws:=aJ Q.s.b5.rng;obtain⟨fr,L⟩:∃f:Nat->En,pk3 P fb fc=f:=⟨_,rfl⟩;rw[L] at Ws;have N:=aJ (fU (f:=fr) Q.s.b4);have WR:Hid (mh wr 3 fr (cq V Lv none) 4600):=aJ (fun k hk=>by rw[<-L];have h:=Q.v k hk;rw[if_neg aa] at h;rw[show cq V Lv none k=GQ.i 0 0 from rfl];exact h);exact Aaq
 |some b=>
  obtain⟨gw,ow,bv,WU,Wq,Wo,WA,Xx,Wp,WC,Yn,XJ⟩:=HW.o;rw[WU] at kw;have j:=aJ WA;have Xy:=aJ (And.intro WC (And.intro Yn XJ));have WO:=aJ (And.intro Xx Wp);have WB:=WG.o b rfl;have WP:=aJ WB;have XB:=WB.a;have X7:=WB.b;clear WU Wq Wo WA Xx Wp WC Yn XJ WB;have YG:=Q.s.x.cell_ (show w.cell? ⟨gw,ow,none⟩=some (.int .i64 (b.a:Int)) from by have:=j.o 0 _ rfl;rw[WO.o.1] at this;exact this);have YB:=Q.s.x.cell_ (show w.cell? ⟨gw,ow+1,none⟩=some (.int .i64 (b.b:Int)) from by have:=j.o 1 _ rfl;rw[WO.o.2] at this;exact this);have kl:=(HG.ext Q.s.x).cell_ (k:=15+b.a) aa ((dY aa).trans (HL.o b.a aa));have p1:(0:Int)<=(b.a:Int):=aa;have p2:(b.a:Int)<18:=aa;have p3:(0:Int)<=(b.b:Int):=aa;have p4:(b.b:Int)<18:=aa;by_cases Wu:13<=b.a
  .have hd:decide ((b.a:Int)<13)=false:=ae;cases hL:Lv b.a with
   |false=>
    rw[hL] at kl;have Yp:=aJ hL;clear hL;(go_wp2_with fail);go_quiet (fail);generalize K:W.drewN nq=wr;have Wv:Ext W wr:=by rw[<-K];exact(Ext.refl _).drewN _
    replace Q:=Q.aA Wv;clear Wv K;have Ws:=aJ Q.s.b5.rng;obtain⟨fr,L⟩:∃f:Nat->En,pk3 P fb fc=f:=⟨_,rfl⟩;rw[L] at Ws;have N:=aJ (fU (f:=fr) Q.s.b4);have WR:Hid (mh wr 3 fr (cq V Lv (some b)) 4600):=aJ (fun k hk=>by rw[<-L];have h:=Q.v k hk;rw[if_neg aa] at h;rw[show cq V Lv (some b) k=GQ.i 0 0 from if_neg (fun h=>by rw[Yp.o] at h;cases h.2)];exact h);exact Aaq
   |true=>
    rw[hL] at kl;have Xc:=aJ hL;have Yd:=aJ Wu;clear hL;(go_wp2_with fail);go_quiet (fail);generalize K:W.drewN nq=Yr;have Wv:Ext W Yr:=by rw[<-K];exact(Ext.refl _).drewN _
    replace Q:=Q.aA Wv;clear Wv K Ye kw YG YB kl;go_wp2_with fail
    go_loopw [47] (fun iv wr=>∃n:Nat,n<=3/\iv=.int .i64 n/\∃a,CuS w wr gf g6 g7 a (cq V Lv (some b)) n) (fun iv _=>3-(intOf iv).toNat)
    case atStart=>exact⟨0,aa,rfl,_,Q.o⟩
    case round=>
     clear Q;rename World=>wr;obtain⟨n,hn,rfl,a,hR⟩:=hrel;have Q:=aJ hR;clear hR;by_cases Wo:n<3
     .have hd:decide ((n:Int)<3)=true:=ae;have q3:(0:Int)<=(n:Int):=aa;have q4:(n:Int)<3:=aa;obtain⟨ea,Xg⟩:∃e,E (n*18+b.a)=e:=⟨_,rfl⟩;obtain⟨J,Xj⟩:∃e,E (n*18+b.b)=e:=⟨_,rfl⟩;have W9:Hid (GV wr ea.v (V n b.a) 4400):=aJ (by rw[<-Xg];exact(U.o n b.a Wo aa).ext Q.s.x);have Xn:Hid (GV wr J.v (V n b.b) 4400):=aJ (by rw[<-Xj];exact(U.o n b.b Wo aa).ext Q.s.x);have Xq:=aJ (HG.ext Q.s.x);have XH:=aK.cell (show wr.cell? ⟨gx,33+n*108+b.a*6,none⟩=_ from Xq.en (e:=n*18+b.a) (a:=33+n*108+b.a*6) aa aa 0 (.bool ea.s1) Ade);have X4:=aK.cell (show wr.cell? ⟨gx,33+n*108+b.a*6+1,none⟩=_ from Xq.en (e:=n*18+b.a) (a:=33+n*108+b.a*6) aa aa 1 (.slice ea.A1 ea.n1 ea.c1) Ade);have XE:=aK.cell (show wr.cell? ⟨gx,33+n*108+b.a*6+2,none⟩=_ from Xq.en (e:=n*18+b.a) (a:=33+n*108+b.a*6) aa aa 2 (.bool ea.s2) Ade);have XV:=aK.cell (show wr.cell? ⟨gx,33+n*108+b.a*6+3,none⟩=_ from Xq.en (e:=n*18+b.a) (a:=33+n*108+b.a*6) aa aa 3 (.slice ea.A2 ea.n2 ea.c2) Ade);have XY:=aK.cell (show wr.cell? ⟨gx,33+n*108+b.a*6+4,none⟩=_ from Xq.en (e:=n*18+b.a) (a:=33+n*108+b.a*6) aa aa 4 (.bool ea.s3) Ade);have XX:=aK.cell (show wr.cell? ⟨gx,33+n*108+b.a*6+5,none⟩=_ from Xq.en (e:=n*18+b.a) (a:=33+n*108+b.a*6) aa aa 5 (.slice ea.A3 ea.n3 ea.c3) Ade);have XT:=aK.cell (show wr.cell? ⟨gx,33+n*108+b.b*6,none⟩=_ from Xq.en (e:=n*18+b.b) (a:=33+n*108+b.b*6) aa aa 0 (.bool J.s1) Adw);have X8:=aK.cell (show wr.cell? ⟨gx,33+n*108+b.b*6+1,none⟩=_ from Xq.en (e:=n*18+b.b) (a:=33+n*108+b.b*6) aa aa 1 (.slice J.A1 J.n1 J.c1) Adw);have XG:=aK.cell (show wr.cell? ⟨gx,33+n*108+b.b*6+2,none⟩=_ from Xq.en (e:=n*18+b.b) (a:=33+n*108+b.b*6) aa aa 2 (.bool J.s2) Adw);have XU:=aK.cell (show wr.cell? ⟨gx,33+n*108+b.b*6+3,none⟩=_ from Xq.en (e:=n*18+b.b) (a:=33+n*108+b.b*6) aa aa 3 (.slice J.A2 J.n2 J.c2) Adw);have X5:=aK.cell (show wr.cell? ⟨gx,33+n*108+b.b*6+4,none⟩=_ from Xq.en (e:=n*18+b.b) (a:=33+n*108+b.b*6) aa aa 4 (.bool J.s3) Adw);have XN:=aK.cell (show wr.cell? ⟨gx,33+n*108+b.b*6+5,none⟩=_ from Xq.en (e:=n*18+b.b) (a:=33+n*108+b.b*6) aa aa 5 (.slice J.A3 J.n3 J.c3) Adw);have X3:=aK.cell (Q.s.x.cell_ (show w.cell? ⟨gw,ow,none⟩=some (.int .i64 (b.a:Int)) from by have:=j.o 0 _ rfl;rw[WO.o.1] at this;exact this));have Yw:=aK.cell (Q.s.x.cell_ (show w.cell? ⟨gw,ow+1,none⟩=some (.int .i64 (b.b:Int)) from by have:=j.o 1 _ rfl;rw[WO.o.2] at this;exact this));clear Xg Xj;(go_wp2_with fail);refine tN 25 [(4,.eq (.pointer (some ⟨gw,ow,none⟩))),(7,.eq (.pointer (some ⟨gx,0,none⟩))),(15,.eq (.pointer (some ⟨gw,ow,none⟩))),(18,.eq (.pointer (some ⟨gx,0,none⟩))),(23,.gv (V n b.a-V n b.b) (8865)),(24,.box 42 #[.bool false,.slice none 0 0,.bool false,.slice none 0 0,.bool false,.slice none 0 0])] ?_;refine Qs ?_;refine En_ ?_;intro WZ Xd;refine Qs ?_;refine En_ ?_;intro XW XF;refine Qs ?_;refine En_ ?_;intro YD Yx;refine Qs ?_;refine En_ ?_;intro YF YE;refine Qs ?_;refine Ee (fun R I=>vF gf ea.v J.v (V n b.a) (V n b.b) 4400 4400 _ (bT.ext Q.c I.1) (W9.ext I.1) (Xn.ext I.1) aa) ?_;intro Z Yz YA;refine Eb ?_;intro g10 Yy Yc;refine bE ?_;intro wE I;have F:=I.ext;have XZ:=I.hV 23;have Xr:=I.hB 24;have Xu:=aJ (I.low 24 _ rf);clear Yc;have Ww:=aJ F;clear I F;have HD:Hid (GV wE Z.v (V n b.a-V n b.b) 4600):=aJ (GV.to XZ.o (WI.o b rfl n Wo));have N:=aJ (Xr.there (o:=0) (n:=6) ag);refine aT rfl 42 (.tmp 10) (.tmp 73) rfl g10 0 Z.cells rf rf N.o bL (dZ Z) ?_;intro wf l;refine Qp ?_;obtain⟨F,WL,M,-⟩:=wV Z Ww.o Xu.o Xr.o l;have O:=aJ WL;replace HD:=aJ (M _ _ _ HD.o);have B:=aJ F;have Xe:=aJ (show wr.heap.size<=g10 from Xu.o);clear l N F WL M Ww Xr Xu XZ W9 Xn Xq X3 Yw XH XT X4 X8 XE XG XV XU XY X5 XX XN;obtain⟨m,hm⟩:∃m,min n 1=m:=⟨_,rfl⟩;have XD:(min (n:Int) 1)=(m:Int):=aa;have WF:m<2:=aa;obtain⟨ez,Yh⟩:∃e,bv.z m=e:=⟨_,rfl⟩;have Yt:Hid (GV w ez.v (b.zs m) 64):=aJ (by rw[<-Yh];have h2:m=0\/m=1:=aa;rcases h2 with rfl|rfl<;>first|exact Xy.o.1|exact Xy.o.2.1);have T:Hid (∀t u,ez.cells[t]? =some u->w.cell? ⟨gw,ow+2+m*6+t,none⟩=some u):=aJ (fun t u hu=>by rw[show ow+2+m*6+t=ow+(2+m*6+t) by omega];exact j.o _ _ (bv.zat aa (by rw[Yh];exact hu)));have HM:=aJ hm;clear hm Yh;have p5:(0:Int)<=(m:Int):=aa;have p6:(m:Int)<2:=aa;by_cases h1:n=1
      .have Wz:((n:Int)==1)=true:=by rw[h1];rfl
       have Yb:=aJ h1;clear h1;have Yi:Hid (V n b.a-V n b.b-GQ.i b.emf 0=V n b.a-V n b.b-(if n=1 then GQ.i b.emf 0 else GQ.i 0 0)):=aJ (by rw[if_pos Yb.o]);(go_wp2_with fail);have WT:=aK.blk O.o;have Yl:=aK.cell (show wf.cell? ⟨gw,ow+14,none⟩=_ from (Q.s.x.trans B.o).cell_ (j.o 14 (.bool bv.e.s1) rfl));have Yv:=aK.cell (show wf.cell? ⟨gw,ow+14+1,none⟩=_ from (Q.s.x.trans B.o).cell_ (j.o 15 (.slice bv.e.A1 bv.e.n1 bv.e.c1) rfl));have Yj:=aK.cell (show wf.cell? ⟨gw,ow+14+2,none⟩=_ from (Q.s.x.trans B.o).cell_ (j.o 16 (.bool bv.e.s2) rfl));have Yk:=aK.cell (show wf.cell? ⟨gw,ow+14+3,none⟩=_ from (Q.s.x.trans B.o).cell_ (j.o 17 (.slice bv.e.A2 bv.e.n2 bv.e.c2) rfl));have Ym:=aK.cell (show wf.cell? ⟨gw,ow+14+4,none⟩=_ from (Q.s.x.trans B.o).cell_ (j.o 18 (.bool bv.e.s3) rfl));have Yq:=aK.cell (show wf.cell? ⟨gw,ow+14+5,none⟩=_ from (Q.s.x.trans B.o).cell_ (j.o 19 (.slice bv.e.A3 bv.e.n3 bv.e.c3) rfl));refine tN 7 [(3,.eq (.pointer (some ⟨gw,ow,none⟩))),(6,.gv (V n b.a-V n b.b-GQ.i b.emf 0) (4729))] ?_;refine Qs ?_;refine En_ ?_;intro Xk Xb;refine Qs ?_;refine Ee (fun R I=>vF gf Z.v bv.e.v (V n b.a-V n b.b) (GQ.i b.emf 0) 4600 64 _ ((bT.ext Q.c B.o).ext I.1) (HD.ext I.1) (((Xy.o.2.2.ext Q.s.x).ext B.o).ext I.1) aa) ?_;intro ee Xv Xw;refine bE ?_;intro wE I;have F:=I.ext;have XQ:=I.hV 6;have Ww:=aJ F;clear I F;have N:=aJ ((O.ext Ww.o).there (o:=0) (n:=6) ag);refine aT rfl 42 (.tmp 10) (.tmp 82) rfl g10 0 ee.cells rf rf N.o bL (dZ ee) ?_;intro wg l;refine Qp ?_;have HO:=jr (w:=wr) (n:=1) (f:=fun _=>ee) (f0:=fun _=>Z) (B.trans Ww.o) Xe.o (show Blk wE g10 42 (aN 1 fun _=>Z).toArray from O.ext Ww.o) l;replace O:Hid (Blk wg g10 42 #[.bool ee.s1,.slice ee.A1 ee.n1 ee.c1,.bool ee.s2,.slice ee.A2 ee.n2 ee.c2,.bool ee.s3,.slice ee.A3 ee.n3 ee.c3]):=aJ HO.1;replace B:=aJ HO.2.1;replace HD:Hid (GV wg ee.v (V n b.a-V n b.b-GQ.i b.emf 0) 4600):=aJ (GV.to (HO.2.2 _ _ _ XQ.o) (by have:=WY.o b rfl;rw[Yb.o];exact this));clear l N Ww XQ HO WT Yl Yv Yj Yk Ym Yq;have kc:wg.cell? ⟨gf,0,none⟩=some (.int .i64 0):=((Q.ext B.o).c.cell 0).trans rfl;have Xo:=O.cell;have XM:cq V Lv (some b) n=(V n b.a-V n b.b-GQ.i b.emf 0)/b.zs m:=by rw[<-HM.o];exact(if_pos ⟨Yd.o,Xc.o⟩).trans (by rw[<-Yi.o])
       have XA:=aJ XM;clear XM;by_cases hz:V n b.a-V n b.b-GQ.i b.emf 0=GQ.i 0 0
       .have HZ:=aJ hz;clear hz;(go_wp2_with fail);refine(xM ee.v (V n b.a-V n b.b-GQ.i b.emf 0) 4600 _ HD.o aa HZ.o).mono ?_;rintro _ wh ⟨rfl,F⟩;have Wt:=aJ ((Q.ext (B.trans F)).skip (by rw[XA.o,HZ.o,GQ.qm]));clear kc Xo F Q;go_wp2_with fail
        exact Ab0
       .have HZ:=aJ hz;clear hz;(go_wp2_with fail);refine(BU ee.v (V n b.a-V n b.b-GQ.i b.emf 0) 4600 _ HD.o aa HZ.o).mono ?_;rintro _ wh ⟨rfl,F⟩;replace B:=B.aC F;replace O:=O.aA F;replace HD:=HD.aA F;clear kc Xo F;(go_wp2_with fail);have WT:=aK.blk O.o;have X6:=aK.cell (show wh.cell? ⟨gw,ow+2+m*6,none⟩=_ from (Q.s.x.trans B.o).cell_ (T.o 0 (.bool ez.s1) rfl));have XR:=aK.cell (show wh.cell? ⟨gw,ow+2+m*6+1,none⟩=_ from (Q.s.x.trans B.o).cell_ (T.o 1 (.slice ez.A1 ez.n1 ez.c1) rfl));have XL:=aK.cell (show wh.cell? ⟨gw,ow+2+m*6+2,none⟩=_ from (Q.s.x.trans B.o).cell_ (T.o 2 (.bool ez.s2) rfl));have X9:=aK.cell (show wh.cell? ⟨gw,ow+2+m*6+3,none⟩=_ from (Q.s.x.trans B.o).cell_ (T.o 3 (.slice ez.A2 ez.n2 ez.c2) rfl));have XI:=aK.cell (show wh.cell? ⟨gw,ow+2+m*6+4,none⟩=_ from (Q.s.x.trans B.o).cell_ (T.o 4 (.bool ez.s3) rfl));have XK:=aK.cell (show wh.cell? ⟨gw,ow+2+m*6+5,none⟩=_ from (Q.s.x.trans B.o).cell_ (T.o 5 (.slice ez.A3 ez.n3 ez.c3) rfl));have WQ:=WW.o n;rw[XA.o] at WQ;have WX:=aJ WQ;clear WQ;refine tN 12 [(5,.eq (.int .i64 (m:Int))),(6,.eq (.pointer (some ⟨gw,ow,none⟩))),(10,.gv ((V n b.a-V n b.b-GQ.i b.emf 0)/b.zs m) (4600))] ?_;refine Qs ?_;refine eQ rf rf rf ?_ ?_
        .exact Adl
        intro v_ Xl Xh WE;obtain⟨R,Wx⟩:=WE;obtain rfl:v_=_:=Wx.get;clear Wx R;refine Qp ?_;refine En_ ?_;intro Xv Xw;refine Qs ?_;refine Ee (fun R I=>ze gf ee.v ez.v (V n b.a-V n b.b-GQ.i b.emf 0) (b.zs m) 4600 64 _ ((bT.ext Q.c B.o).ext I.1) (HD.ext I.1) (((Yt.ext Q.s.x).ext B.o).ext I.1) (WP.ne m) 4600 aa aa WX.o aa) ?_;intro eq XP XO;refine Qs ?_;refine bE ?_;intro wE I;have F:=I.ext;have Xm:=I.hV 10;have Ww:=aJ F;clear I F;have N:=aJ ((Q.ext (B.trans Ww.o)).s.there Wo);refine aT rfl 42 (.tmp 104) (.tmp 103) rfl g7 (n*6) eq.cells rf rf N.o bL (dZ eq) ?_;intro wj l;refine Qp ?_;have Wt:=aJ ((Q.ext (B.trans Ww.o)).put Ya.o Wo (e:=eq) (by rw[XA.o];exact Xm.o) l);clear l N Ww Xm Q B O HD WT X6 XR XL X9 XI XK;go_wp2_with fail
        exact Ab0
      .have Wz:((n:Int)==1)=false:=ae;have Yb:=aJ h1;clear h1;have Yi:Hid (V n b.a-V n b.b=V n b.a-V n b.b-(if n=1 then GQ.i b.emf 0 else GQ.i 0 0)):=aJ (by rw[if_neg Yb.o];exact(VN _).symm);have kc:wf.cell? ⟨gf,0,none⟩=some (.int .i64 0):=((Q.ext B.o).c.cell 0).trans rfl;have Xo:=O.cell;have XM:cq V Lv (some b) n=(V n b.a-V n b.b)/b.zs m:=by rw[<-HM.o];exact(if_pos ⟨Yd.o,Xc.o⟩).trans (by rw[<-Yi.o])
       have XA:=aJ XM;clear XM;by_cases hz:V n b.a-V n b.b=GQ.i 0 0
       .have HZ:=aJ hz;clear hz;(go_wp2_with fail);refine(xM Z.v (V n b.a-V n b.b) 4600 _ HD.o aa HZ.o).mono ?_;rintro _ wh ⟨rfl,F⟩;have Wt:=aJ ((Q.ext (B.trans F)).skip (by rw[XA.o,HZ.o,GQ.qm]));clear kc Xo F Q;go_wp2_with fail
        exact Ab0
       .have HZ:=aJ hz;clear hz;(go_wp2_with fail);refine(BU Z.v (V n b.a-V n b.b) 4600 _ HD.o aa HZ.o).mono ?_;rintro _ wh ⟨rfl,F⟩;replace B:=B.aC F;replace O:=O.aA F;replace HD:=HD.aA F;clear kc Xo F;(go_wp2_with fail);have WT:=aK.blk O.o;have X6:=aK.cell (show wh.cell? ⟨gw,ow+2+m*6,none⟩=_ from (Q.s.x.trans B.o).cell_ (T.o 0 (.bool ez.s1) rfl));have XR:=aK.cell (show wh.cell? ⟨gw,ow+2+m*6+1,none⟩=_ from (Q.s.x.trans B.o).cell_ (T.o 1 (.slice ez.A1 ez.n1 ez.c1) rfl));have XL:=aK.cell (show wh.cell? ⟨gw,ow+2+m*6+2,none⟩=_ from (Q.s.x.trans B.o).cell_ (T.o 2 (.bool ez.s2) rfl));have X9:=aK.cell (show wh.cell? ⟨gw,ow+2+m*6+3,none⟩=_ from (Q.s.x.trans B.o).cell_ (T.o 3 (.slice ez.A2 ez.n2 ez.c2) rfl));have XI:=aK.cell (show wh.cell? ⟨gw,ow+2+m*6+4,none⟩=_ from (Q.s.x.trans B.o).cell_ (T.o 4 (.bool ez.s3) rfl));have XK:=aK.cell (show wh.cell? ⟨gw,ow+2+m*6+5,none⟩=_ from (Q.s.x.trans B.o).cell_ (T.o 5 (.slice ez.A3 ez.n3 ez.c3) rfl));have WQ:=WW.o n;rw[XA.o] at WQ;have WX:=aJ WQ;clear WQ;refine tN 12 [(5,.eq (.int .i64 (m:Int))),(6,.eq (.pointer (some ⟨gw,ow,none⟩))),(10,.gv ((V n b.a-V n b.b)/b.zs m) (4600))] ?_;refine Qs ?_;refine eQ rf rf rf ?_ ?_
        .exact Adl
        intro v_ Xl Xh WE;obtain⟨R,Wx⟩:=WE;obtain rfl:v_=_:=Wx.get;clear Wx R;refine Qp ?_;refine En_ ?_;intro Xv Xw;refine Qs ?_;refine Ee (fun R I=>ze gf Z.v ez.v (V n b.a-V n b.b) (b.zs m) 4600 64 _ ((bT.ext Q.c B.o).ext I.1) (HD.ext I.1) (((Yt.ext Q.s.x).ext B.o).ext I.1) (WP.ne m) 4600 aa aa WX.o aa) ?_;intro eq XP XO;refine Qs ?_;refine bE ?_;intro wE I;have F:=I.ext;have Xm:=I.hV 10;have Ww:=aJ F;clear I F;have N:=aJ ((Q.ext (B.trans Ww.o)).s.there Wo);refine aT rfl 42 (.tmp 104) (.tmp 103) rfl g7 (n*6) eq.cells rf rf N.o bL (dZ eq) ?_;intro wj l;refine Qp ?_;have Wt:=aJ ((Q.ext (B.trans Ww.o)).put Ya.o Wo (e:=eq) (by rw[XA.o];exact Xm.o) l);clear l N Ww Xm Q B O HD WT X6 XR XL X9 XI XK;go_wp2_with fail
        exact Ab0
     .obtain rfl:n=3:=aa;have hd:decide ((3:Int)<3)=false:=aj;have Ws:=aJ Q.s.b5.rng;obtain⟨fr,L⟩:∃f:Nat->En,a=f:=⟨_,rfl⟩;rw[L] at Ws;have N:=aJ (fU (f:=fr) Q.s.b4);have WR:Hid (mh wr 3 fr (cq V Lv (some b)) 4600):=aJ (fun k hk=>by rw[<-L];have h:=Q.v k hk;rw[if_pos hk] at h;exact h);have Xp:=aJ (L ▸ Q.s);clear L;(go_wp2_with (refine wpList_load_mid rfl 102 _ rfl g7 (0) rf (aN 3 fr) _ Ws.o Tryz.underlying102 rfl (j5 _) (Hid.o ?_)));refine aJ ?_;refine Qp ?_;refine aO rfl 102 (.tmp 6) (.tmp 106) rfl g6 (0) (aN 3 fr) rf rf N.o (j5 _) (dH 3 _) (fun we G=> ?_);refine Qp ?_;replace G:=Hid.o G;have HF:=aJ (Xp.fin G);clear G;(go_wp2_with fail);exact kD rfl rfl rf HF.o.1 Tryz.underlying102 rfl (qQ _) ⟨_,rfl,fun k hk=>HF.o.2.2 _ _ _ (WR.o k hk),HF.o.2.1⟩
  .have hd:decide ((b.a:Int)<13)=true:=ae;have Yo:=aJ Wu;clear Wu;(go_wp2_with fail);go_quiet (fail);generalize K:W.drewN nq=wr;have Wv:Ext W wr:=by rw[<-K];exact(Ext.refl _).drewN _
   replace Q:=Q.aA Wv;clear Wv K;have Ws:=aJ Q.s.b5.rng;obtain⟨fr,L⟩:∃f:Nat->En,pk3 P fb fc=f:=⟨_,rfl⟩;rw[L] at Ws;have N:=aJ (fU (f:=fr) Q.s.b4);have WR:Hid (mh wr 3 fr (cq V Lv (some b)) 4600):=aJ (fun k hk=>by rw[<-L];have h:=Q.v k hk;rw[if_neg aa] at h;rw[show cq V Lv (some b) k=GQ.i 0 0 from if_neg (fun h=>Yo.o h.1)];exact h);exact Aaq
def qg (PA:Option Addr) (j B:Nat) (PB:Option Addr) (l qc:Nat):Value:=.agg #[.slice PA j B,.slice PB l qc]
structure jy (w:World) (PA:Option Addr) (pn:Nat) (PB:Option Addr) (qn:Nat) (K:Nat->Hd) (p:dC):Prop where
 lc:p.closed.length=pn
 closed:Arr w PA pn 1 (fun i=>[.bool (p.closed.getD i false)])
 ll:p.links.length=qn
 rows:Arr w PB qn 1 (fun i=>[(K i).v])
 lens:∀i,i<qn->(p.links.getD i []).length=(K i).n
 ints:∀i,i<qn->Arr w (K i).A (K i).n 1 (fun k=>[.int .i64 ((p.links.getD i []).getD k 0)])
 mx:pn<=9223372036854775807/\qn<=9223372036854775807/\∀i,i<qn->(K i).n<=9223372036854775807
def jy.ext{w w' PA j PB l K p}(h:jy w PA j PB l K p)(x:Ext w w'):jy w' PA j PB l K p:=
 ⟨h.lc,h.closed.ext x,h.ll,h.rows.ext x,h.lens,fun i hi=>(h.ints i hi).ext x,h.mx⟩
def Arr.one{w:World}{A:Option Addr}{n i:Nat}{f:Nat->Value}(h:Arr w A n 1 (fun i=>[f i]))(hi:i<n):∃b o,A=some ⟨b,o,none⟩/\b<w.heap.size/\w.cell? ⟨b,o+i,none⟩=some (f i):=by
 obtain⟨b,o,e,hb,hc⟩:=h.at_ hi;have:=hc 0 _ rfl;rw[Nat.mul_one,Nat.add_zero] at this;exact⟨b,o,e,hb,this⟩
section
variable {s:StD} {p:dC} {n:Nat}
theorem GI(hn:s.bays.length=n)(h:p.closed.length≠n\/p.links.length≠n):kQ s p=3:=by
 unfold kQ;rw[if_neg (by rw[hn];omega)]
theorem Ph(hn:s.bays.length=n)(l:p.closed.length=n)(j:p.links.length=n){i}(hi:i<n)(h:(p.links.getD i []).length≠(s.bays.getD i default).links.length):kQ s p=3:=by
 unfold kQ;rw[if_pos (by rw[hn];exact⟨l,j⟩),if_neg];intro e;have:=List.all_eq_true.1 e i (List.mem_range.2 aa);exact h (of_decide_eq_true this)
theorem KO(hn:s.bays.length=n)(l:p.closed.length=n)(j:p.links.length=n)(h:∀i,i<n->(p.links.getD i []).length=(s.bays.getD i default).links.length):
  kQ s p=if (List.range n).all (fun i=>(p.links.getD i []).all (nK s i))=true then 0 else 16:=by
 unfold kQ;rw[if_pos (by rw[hn];exact⟨l,j⟩),if_pos (by
  rw[List.all_eq_true];intro i hi;exact decide_eq_true (h i (by have:=List.mem_range.1 hi;omega))),hn]
def H7(hn:s.bays.length=n)(C:p.closed.length=n)(B:p.links.length=n)(h:∀i,i<n->(p.links.getD i []).length=(s.bays.getD i default).links.length){i k}(hi:i<n)(j:k<(p.links.getD i []).length)(hv:nK s i ((p.links.getD i []).getD k 0)=false):kQ s p=16:=by
 rw[KO hn C B h,if_neg];intro e;have:=List.all_eq_true.1 (List.all_eq_true.1 e i (List.mem_range.2 hi)) ((p.links.getD i []).getD k 0) (by
  generalize p.links.getD i []=l at j⊢;rw[List.getD_eq_getElem?_getD,List.getElem?_eq_getElem j];exact List.getElem_mem j)
 rw[hv] at this;cases this
def Q9(hn:s.bays.length=n)(B:p.closed.length=n)(l:p.links.length=n)(h:∀i,i<n->(p.links.getD i []).length=(s.bays.getD i default).links.length)(hv:∀i,i<n->∀k,k<(p.links.getD i []).length->nK s i ((p.links.getD i []).getD k 0)=true):kQ s p=0:=by
 rw[KO hn B l h,if_pos];rw[List.all_eq_true];intro i hi;rw[List.all_eq_true];intro x J;obtain⟨k,j,rfl⟩:=List.getElem_of_mem J;have:=hv i (List.mem_range.1 hi) k j;rwa[List.getD_eq_getElem?_getD,List.getElem?_eq_getElem j] at this
theorem Q3{i x}(h:x=1):nK s i x=true:=by unfold nK;simp[h]
theorem Lm{i x}(j:(s.bays.getD i default).kind≠3)(h:x=0\/x=2):nK s i x=true:=by
 unfold nK;rw[decide_eq_true j];rcases h with h|h<;>simp[h]
theorem FO{i x}(j:x≠1)(h:(s.bays.getD i default).kind=3\/(x≠0/\x≠2)):nK s i x=false:=by
 unfold nK;rw[decide_eq_false j];rcases h with h|⟨h,I⟩
 .rw[decide_eq_false (fun e=>e h)];simp
 .rw[decide_eq_false h,decide_eq_false I];simp
end
theorem xQ(nm){A0 n0 c0 A1 n1 c1 A2 n2 c2 A3 n3 c3 L s PA pn pc PB qn qc K p}(w)(hs:lY w A0 n0 c0 A1 n1 c1 A2 n2 c2 A3 n3 c3 L s)(hp:jy w PA pn PB qn K p):
  CE 80 #[stV nm A0 n0 c0 A1 n1 c1 A2 n2 c2 A3 n3 c3,qg PA pn pc PB qn qc] w (.int .i64 (kQ s p)):=by
 have Y:=hs.l3;have XL:=hp.lc;have XK:=hp.ll;have WL:=hs.mx;have H:=hp.mx;obtain⟨m0,m1,m2,m3⟩:=WL;obtain⟨x0,x1,x2⟩:=H;have W:=aJ x2;clear x2;have D:Hid (Ext w ((w.alloc (.cells #[.string nm,.slice A0 n0 c0,.slice A1 n1 c1,.slice A2 n2 c2,.slice A3 n3 c3] 27)).alloc (.cells #[.slice PA pn pc,.slice PB qn qc] 31))):=aJ ((Ext.new _ _).trans (Ext.new _ _));have HS:=aJ (hs.ext D.o);have HP:=aJ (hp.ext D.o);clear hs hp;obtain⟨-,Ws,V⟩:=ah2 w 27 #[.string nm,.slice A0 n0 c0,.slice A1 n1 c1,.slice A2 n2 c2,.slice A3 n3 c3] 31 #[.slice PA pn pc,.slice PB qn qc];have H3:=aJ Y;have HC:=aJ XL;have HL:=aJ XK;unfold stV qg;by_cases t1:pn=n3
 rotate_left
 .have d1:((pn:Int) !=(n3:Int))=true:=ae;have U:Hid (kQ s p=3):=aJ (GI Y (.inl aa));clear Y XL XK t1;exact AbK
 have d1:((pn:Int) !=(n3:Int))=false:=ae;by_cases t2:qn=n3
 rotate_left
 .have d2:((qn:Int) !=(n3:Int))=true:=ae;have U:Hid (kQ s p=3):=aJ (GI Y (.inr aa));clear Y XL XK t1 t2;exact AbK
 have d2:((qn:Int) !=(n3:Int))=false:=ae;have WE:Hid (p.closed.length=n3):=aJ aa;have WF:Hid (p.links.length=n3):=aJ aa;have l:=aJ t2;clear Y XL XK t1 t2;go_enter Tryz.func80,Tryz.ntmps80;(go_wp2_with fail);clear d1 d2;go_loopw [30] (fun i wr=>∃k:Nat,k<=n3/\i=.int .i64 (k:Int)/\(∀j,j<k->(p.links.getD j []).length=(s.bays.getD j default).links.length)/\Ext ((w.alloc (.cells #[.string nm,.slice A0 n0 c0,.slice A1 n1 c1,.slice A2 n2 c2,.slice A3 n3 c3] 27)).alloc (.cells #[.slice PA pn pc,.slice PB qn qc] 31)) wr) (fun i _=>n3-(intOf i).toNat)
 case atStart=>exact⟨0,aa,rfl,by intros;omega,Ext.refl _⟩
 case round=>
  obtain⟨k,hk,rfl,hz,J⟩:=hrel;have HZ:=aJ hz;have HX:=aJ J;have Z:=Ws.ext J;have Wz:=V.ext J;have k1:=Z.cell;have k2:=Wz.cell;have WN:w.heap.size<wr.heap.size:=Z.lt;have WG:w.heap.size+1<wr.heap.size:=Wz.lt;clear hz J Z Wz;by_cases T:k<n3
  .have hd:decide (k<n3)=true:=ae;obtain⟨lb,lo,hA,hb,e0,e1,e2,e3,e4,e5,e6,e7,e8,e9,WI,WH⟩:=(HS.ext HX.o).bays.bay T;obtain⟨pb,WR,I,WX,f0⟩:=(HP.ext HX.o).rows.one (show k<qn by have:=l.o;omega);have G:k<qn:=by have:=l.o;omega
   have C:Hid ((p.links.getD k []).length=(K k).n):=aJ (HP.lens k (by have:=l.o;omega));have Wx:Hid ((s.bays.getD k default).links.length=(L k).n):=aJ (HS.links k T).1;unfold Hd.v at f0;generalize K k=kh at f0 C;generalize L k=B at e6 Wx;have WM:=aJ (rfl:s.bays.getD k default=s.bays.getD k default);generalize Wp:s.bays.getD k default=b at e0 e1 e2 e3 e4 e5 e6 e7 e8 e9 WI WH Wx;have Xf:=aJ Wp;clear Wp WM;subst hA I;by_cases O:kh.n=B.n
   .have q1:((kh.n:Int) !=(B.n:Int))=false:=ae;have HE:=aJ O;clear O;(go_wp2_with fail);go_quiet (fail);go_wp2_with fail
    go_roundw
    case rel=>exact⟨k+1,aa,au,(fun j hj=>by
     by_cases e:j=k
     .rw[e,C.o,Xf.o,Wx.o,HE.o]
     .exact HZ.o j aa),(HX.alloc _).drewN _⟩
    case measure=>simp[intOf];omega
   .have q1:((kh.n:Int) !=(B.n:Int))=true:=ae;have U:Hid (kQ s p=3):=aJ (Ph H3.o WE.o WF.o T (by rw[C.o,Xf.o,Wx.o];exact O));clear O;(go_wp2_with fail);go_quiet (fail);(go_wp2_with fail);go_ret;exact⟨aL U.symm,((D.trans HX.o).alloc _).drewN _⟩
  .obtain rfl:n3=k:=aa;clear T;(go_wp2_with fail);clear k1 k2;go_loopw [49] (fun i wr=>∃k:Nat,k<=n3/\i=.int .i64 (k:Int)/\(∀j,j<k->∀t,t<(p.links.getD j []).length->nK s j ((p.links.getD j []).getD t 0)=true)/\Ext ((w.alloc (.cells #[.string nm,.slice A0 n0 c0,.slice A1 n1 c1,.slice A2 n2 c2,.slice A3 n3 c3] 27)).alloc (.cells #[.slice PA pn pc,.slice PB qn qc] 31)) wr) (fun i _=>n3-(intOf i).toNat)
   case atStart=>exact⟨0,aa,rfl,by intros;omega,HX.o⟩
   case round=>
    clear HX WN WG;obtain⟨k,hk,rfl,hz,J⟩:=hrel;have WY:=aJ hz;have HX:=aJ J;have Z:=Ws.ext J;have Wz:=V.ext J;have k1:=Z.cell;have k2:=Wz.cell;have WN:w.heap.size<wr.heap.size:=Z.lt;have WG:w.heap.size+1<wr.heap.size:=Wz.lt;clear hz J Z Wz;by_cases T:k<n3
    .have hd:decide (k<n3)=true:=ae;obtain⟨lb,lo,hA,hb,e0,e1,e2,e3,e4,e5,e6,e7,e8,e9,WI,WH⟩:=(HS.ext HX.o).bays.bay T;have G:k<qn:=by have:=l.o;omega
     obtain⟨pb,WR,I,WX,f0⟩:=(HP.ext HX.o).rows.one G;have C:Hid ((p.links.getD k []).length=(K k).n):=aJ (HP.lens k G);have S:=aJ ((HP.ext HX.o).ints k G);have Wt:=W.o k G;unfold Hd.v at f0;generalize K k=kh at f0 C S Wt;generalize L k=B at e6;generalize Wp:s.bays.getD k default=b at e0 e1 e2 e3 e4 e5 e6 e7 e8 e9 WI WH;have Xf:=aJ Wp;clear Wp;subst hA I;obtain⟨-,WJ⟩:=an1 wr 57 #[.string b.name,.int .i64 b.kind,.int .i64 b.obj,.int .i64 b.en,.int .i64 b.z.r,.int .i64 b.z.x,.slice B.A B.n B.c,.bool b.closed,.int .i64 b.ct,.int .i64 b.vt,.int .i64 b.sat,.int .i64 b.travel];have WB:=aJ WJ;clear WJ;have F:=aJ (S.ext (Ext.new wr (.cells #[.string b.name,.int .i64 b.kind,.int .i64 b.obj,.int .i64 b.en,.int .i64 b.z.r,.int .i64 b.z.x,.slice B.A B.n B.c,.bool b.closed,.int .i64 b.ct,.int .i64 b.vt,.int .i64 b.sat,.int .i64 b.travel] 57)));have WC:=aJ (HX.alloc (.cells #[.string b.name,.int .i64 b.kind,.int .i64 b.obj,.int .i64 b.en,.int .i64 b.z.r,.int .i64 b.z.x,.slice B.A B.n B.c,.bool b.closed,.int .i64 b.ct,.int .i64 b.vt,.int .i64 b.sat,.int .i64 b.travel] 57));(go_wp2_with fail);clear k1 k2 e0 e1 e2 e3 e4 e5 e6 e7 e8 e9 WI WH f0;generalize wr.alloc (.cells #[.string b.name,.int .i64 b.kind,.int .i64 b.obj,.int .i64 b.en,.int .i64 b.z.r,.int .i64 b.z.x,.slice B.A B.n B.c,.bool b.closed,.int .i64 b.ct,.int .i64 b.vt,.int .i64 b.sat,.int .i64 b.travel] 57)=w5 at WB F WC⊢;generalize wr.heap.size=g5 at WB WN WG hb WX⊢;have kb:=WB.cell;go_loop [60] (fun i=>∃t:Nat,t<=kh.n/\i=.int .i64 (t:Int)/\(∀u,u<t->nK s k ((p.links.getD k []).getD u 0)=true)) (fun i=>kh.n-(intOf i).toNat)
     case atStart=>exact⟨0,aa,rfl,by intros;omega⟩
     case round=>
      obtain⟨t,ht,rfl,hz⟩:=hrel;have WW:=aJ hz;clear hz;by_cases Xg:t<kh.n
      .have WO:decide (t<kh.n)=true:=ae;obtain⟨R,Q,hI,M,g0⟩:=F.one Xg;rw[hI];generalize N:(p.links.getD k []).getD t 0=x at g0;have P:=aJ N;clear N;by_cases h1:x=1
       .have q1:((x:Int)==1)=true:=by simp[h1]
        have HO:Hid (nK s k x=true):=aJ (Q3 h1);clear h1;go_wp2;go_round
        case rel=>exact⟨t+1,aa,au,fun u hu=>by
         by_cases e:u=t
         .rw[e,P.o];exact HO.o
         .exact WW.o u aa⟩
        case measure=>simp[intOf];omega
       have q1:((x:Int)==1)=false:=by simp;exact h1
       by_cases h3:b.kind=3
       .have q2:((b.kind:Int) !=3)=false:=by simp[h3]
        have U:Hid (kQ s p=16):=aJ (H7 H3.o WE.o WF.o HZ.o T (by rw[C.o];exact Xg) (by rw[P.o];exact FO h1 (.inl (by rw[Xf.o];exact h3))));clear h1 h3;go_wp2;go_ret;exact⟨aL U.symm,D.trans WC.o⟩
       have q2:((b.kind:Int) !=3)=true:=by simp;exact h3
       by_cases h0:x=0
       .have q3:((x:Int)==0)=true:=by simp[h0]
        have HO:Hid (nK s k x=true):=aJ (Lm (by rw[Xf.o];exact h3) (.inl h0));clear h0 h1 h3;go_wp2;go_round
        case rel=>exact⟨t+1,aa,au,fun u hu=>by
         by_cases e:u=t
         .rw[e,P.o];exact HO.o
         .exact WW.o u aa⟩
        case measure=>simp[intOf];omega
       have q3:((x:Int)==0)=false:=by simp;exact h0
       by_cases h2:x=2
       .have q4:((x:Int)==2)=true:=by simp[h2]
        have HO:Hid (nK s k x=true):=aJ (Lm (by rw[Xf.o];exact h3) (.inr h2));clear h0 h1 h2 h3;go_wp2;go_round
        case rel=>exact⟨t+1,aa,au,fun u hu=>by
         by_cases e:u=t
         .rw[e,P.o];exact HO.o
         .exact WW.o u aa⟩
        case measure=>simp[intOf];omega
       have q4:((x:Int)==2)=false:=by simp;exact h2
       have U:Hid (kQ s p=16):=aJ (H7 H3.o WE.o WF.o HZ.o T (by rw[C.o];exact Xg) (by rw[P.o];exact FO h1 (.inr ⟨h0,h2⟩)));clear h0 h1 h2 h3;go_wp2;go_ret;exact⟨aL U.symm,D.trans WC.o⟩
      .obtain rfl:kh.n=t:=aa;clear Xg kb;go_wp2_with fail
       go_roundw
       case rel=>exact⟨k+1,aa,au,(fun j hj=>by
        by_cases e:j=k
        .subst e;intro u hu;exact WW.o u (by rw[<-C.o];exact hu)
        .exact WY.o j aa),WC.o⟩
       case measure=>simp[intOf];omega
    .obtain rfl:n3=k:=aa;have U:Hid (kQ s p=0):=aJ (Q9 H3.o WE.o WF.o HZ.o WY.o);(go_wp2_with fail);go_ret;exact⟨aL U.symm,D.trans HX.o⟩
def rA{P:Program}{fn:Func}{R:Ending->World->Prop}{a:Act}{w:World}{t g:Nat}{T:TypeId}{cs:Array Value}{d:TypeDesc}(C:fn.results= #[.cell t T])(hd:a.defers=[])(hp:a.tmps[t]?.getD undef=.pointer (some ⟨g,0,none⟩))(hb:Blk w g T cs)(l:P.underlying T=some d)(j:(match d with| .struct _| .array _ _=>true|_=>false)=true)(hi:(P.info? T).map (·.size)=some cs.size)(B:R (.returned (.agg cs)) w):bodyPost P fn R .ret a w:=
 bodyPost_ret (v:=.agg cs) (by simp[results,C,hp,asAddr,run_loadVar_row w g T T cs (0,0) d hb l j hi]) hd B
def Ed{P:Program}{fn:Func}{R:Ending->World->Prop}{a:Act}{w:World}{t u g:Nat}{T:TypeId}{cs:Array Value}{d:TypeDesc}(B:fn.results= #[.cell t T,.tmp u])(hd:a.defers=[])(hp:a.tmps[t]?.getD undef=.pointer (some ⟨g,0,none⟩))(hb:Blk w g T cs)(l:P.underlying T=some d)(j:(match d with| .struct _| .array _ _=>true|_=>false)=true)(hi:(P.info? T).map (·.size)=some cs.size)(C:R (.returned (.tuple #[.agg cs,a.tmps.getD u undef])) w):bodyPost P fn R .ret a w:=
 bodyPost_ret (v:=.tuple #[.agg cs,a.tmps.getD u undef]) (by simp[results,B,hp,asAddr,run_loadVar_row w g T T cs (0,0) d hb l j hi]) hd C
def Bi:Elem Tryz.prog 92 3 1 8:=Elem.of Tryz.underlying92 (z:=.int .i64 0) ah rfl aa
def CZ:Elem Tryz.prog 28 4 1 1:=Elem.of Tryz.underlying28 (z:=.bool false) ah rfl aa
def Cz:Elem Tryz.prog 29 92 1 24:=Elem.of Tryz.underlying29 (z:=.slice none 0 0) ah rfl aa
def Fq{α:Type}(f:α->Value)(l:List α)(d:α){i}(hi:i<l.length):(l.map f)[i]? =some (f (l.getD i d)):=by
 rw[List.getElem?_map,List.getElem?_eq_getElem hi,List.getD_eq_getElem?_getD,List.getElem?_eq_getElem hi];rfl
theorem Arr.reads{α:Type}{w A n}{f:α->Value}{l:List α}{d:α}(h:Arr w A n 1 (fun i=>[f (l.getD i d)]))(Z:l.length=n):Reads w w.heap.size 1 A n (l.map f):=by
 refine⟨by simp[Z],fun hn=> ?_⟩;obtain⟨b,o,e,hb,hc⟩:=h hn;refine⟨_,e,hb,fun j u B=> ?_⟩;have D:j<l.length:=by
  have:=(List.getElem?_eq_some_iff.1 B).1;simpa using this
 rw[Fq f l d D] at B;injection B with B;have:=hc j aa 0 u (by show some (f (l.getD j d))=some u;rw[B]);rw[Nat.mul_one,Nat.add_zero] at this;rw[<-this];unfold Addr.add;by_cases C:j=0
 .subst C;simp
 .rw[if_neg C]
theorem Arr.jJ{α:Type}{w B e n}{f:α->Value}{l:List α}{v}(d:α)(h:w.ownsRow B e 1 v n (l.map f)):∃A c,v=.slice A n c/\n<=c/\l.length=n/\Arr w A n 1 (fun i=>[f (l.getD i d)]):=by
 have Z:l.length=n:=by have:=h.1;simpa using this
 obtain⟨A,c,e,hc,_,J⟩:=iT h;refine⟨A,c,e,hc,Z,fun hn=> ?_⟩;rcases h.2 with ⟨hv,D⟩|⟨g,G,cur,hv,hb,I,_⟩
 .omega
 .rw[e] at hv;injection hv with H _ _;subst H;refine⟨g,0,rfl,(Array.getElem?_eq_some_iff.1 I).1,fun i hi t u j=> ?_⟩;cases t with
  |succ t=>simp at j
  |zero=>
   obtain⟨K,C,_,F⟩:=J.2 hn;injection C with C;subst C;have:=F i _ (Fq f l d aa);simp only[List.getElem?_cons_zero,Option.some.injEq] at j;rw[<-j,Nat.mul_one,Nat.add_zero,<-this];unfold Addr.add;by_cases D:i=0
   .subst D;simp
   .rw[if_neg D]
def fe{w base g e t size n v xs cs}(h:w.ownsRow base e size v n xs)(hb:Blk w g t cs)(l:t≠e):v.ownBlock≠some g:=by
 intro hv;rcases h.2 with ⟨rfl,_⟩|⟨g',G,cur,rfl,_,j,_⟩
 .cases hv
 .simp only[Value.ownBlock,Option.some.injEq] at hv;subst hv;rw[hb] at j;injection j with j;injection j with _ B;exact l B
def NT(l:List Int):∀u∈l.map (Value.int .i64),u.oneCell'=true:=by
 exact Abo
def M3(l:List Bool):∀u∈l.map Value.bool,u.oneCell'=true:=by
 exact Abo
def Jc(A n c)(l:List Bool)(w:World)(h:Arr w A n 1 (fun i=>[.bool (l.getD i false)]))(Z:l.length=n)(hn:n<=1000000):
  CV 123 #[.slice A n c] w fun v w'=>w'.ownsRow w.heap.size 4 1 v n (l.map (Value.bool)):=by
 have C:=Arr.reads (f:=Value.bool) h Z;have Q:=aJ C;clear C;cases A with
 |none=>
  have j:n=0:=by
   exact Adf
  subst j;obtain rfl:l=[]:=List.eq_nil_of_length_eq_zero Z;clear h Z Q;have B:=Lib.run_eql_slice_nil (P:=Tryz.prog) (t:=28) (a:=none) (n:=0) (c:=c) (n':=0) (c':=0) (h:=Tryz.underlying28);go_enter Tryz.func123,Tryz.ntmps123;go_wp2;all_goals
   exact Acf
 |some ad=>
  clear h;have G:=aJ Z;clear Z;have B:=Lib.run_eql_slice_nil (P:=Tryz.prog) (t:=28) (a:=some ad) (n:=n) (c:=c) (n':=0) (c':=0) (h:=Tryz.underlying28);go_enter Tryz.func123,Tryz.ntmps123;(go_wp2_with (at_builtin;refine iY CZ rfl (.tmp 5) (.tmp 6) rfl w.heap.size _ 0 [] rf (World.ownsRow_lit _ _ _ aa aa ag) _ n _ (l.map (Value.bool)) rf (Q.ext (Ext.new w _)) (M3 l) aa aa ag ?_));exact AcT
def Jj(A n c)(l:List Int)(w:World)(h:Arr w A n 1 (fun i=>[.int .i64 (l.getD i 0)]))(Z:l.length=n)(hn:n<=1000000):
  CV 124 #[.slice A n c] w fun v w'=>w'.ownsRow w.heap.size 3 1 v n (l.map (Value.int .i64)):=by
 have C:=Arr.reads (f:=Value.int .i64) h Z;have Q:=aJ C;clear C;cases A with
 |none=>
  have j:n=0:=by
   exact Adf
  subst j;obtain rfl:l=[]:=List.eq_nil_of_length_eq_zero Z;clear h Z Q;have B:=Lib.run_eql_slice_nil (P:=Tryz.prog) (t:=92) (a:=none) (n:=0) (c:=c) (n':=0) (c':=0) (h:=Tryz.underlying92);go_enter Tryz.func124,Tryz.ntmps124;go_wp2;all_goals
   exact Acf
 |some ad=>
  clear h;have G:=aJ Z;clear Z;have B:=Lib.run_eql_slice_nil (P:=Tryz.prog) (t:=92) (a:=some ad) (n:=n) (c:=c) (n':=0) (c':=0) (h:=Tryz.underlying92);go_enter Tryz.func124,Tryz.ntmps124;(go_wp2_with (at_builtin;refine iY Bi rfl (.tmp 5) (.tmp 6) rfl w.heap.size _ 0 [] rf (World.ownsRow_lit _ _ _ aa aa ag) _ n _ (l.map (Value.int .i64)) rf (Q.ext (Ext.new w _)) (NT l) aa aa ag ?_));exact AcT
def mv (c x:Int):Int:=if x=2 then c else x
def ut(c p i):(resolve c p).links.getD i []=(p.links.getD i []).map (mv c):=by
 show(p.links.map (List.map (mv c))).getD i []=_;rw[List.getD_eq_getElem?_getD,List.getD_eq_getElem?_getD,List.getElem?_map];cases p.links[i]? <;>rfl
def uL (f:Int->Int) (l:List Int) (t:Nat):List Int:=(l.take t).map f++l.drop t
def Qc(f l):uL f l 0=l:=by simp[uL]
def PW(f l t):(uL f l t).length=l.length:=by simp[uL];omega
def Fx{f l t}(h:l.length=t):uL f l t=l.map f:=by subst h;simp[uL]
theorem E8{f l t}(h:t<l.length):(uL f l t)[t]? =some (l.getD t 0):=by
 unfold uL;rw[List.getElem?_append_right ae];simp only[List.length_map,List.length_take];rw[Nat.min_eq_left aa,Nat.sub_self,List.getElem?_drop,Nat.add_zero,List.getElem?_eq_getElem h,List.getD_eq_getElem?_getD,List.getElem?_eq_getElem h];rfl
theorem zm{f l t}(h:t<l.length):(uL f l t).set t (f (l.getD t 0))=uL f l (t+1):=by
 unfold uL;rw[List.set_append_right _ _ ae];simp only[List.length_map,List.length_take];rw[Nat.min_eq_left aa,Nat.sub_self,jT h];have e:l.drop t=l[t]::l.drop (t+1):=List.drop_eq_getElem_cons h;rw[e,List.set_cons_zero,List.map_append,List.append_assoc];rfl
def Dw{f l t}(h:t<l.length)(hv:f (l.getD t 0)=l.getD t 0):uL f l (t+1)=uL f l t:=by
 rw[<-zm h,hv];apply List.ext_getElem?;intro j;by_cases e:j=t
 .subst e;rw[List.getElem?_set_self (by rw[PW];exact h),E8 h]
 .rw[List.getElem?_set_ne (fun h=>e h.symm)]
def Kw{w base g n G e xs}(h:w.ownsRow base e 1 (.slice (some ⟨g,0,none⟩) n G) n xs)(j u):
  (w.setCell ⟨g,j,none⟩ u).ownsRow base e 1 (.slice (some ⟨g,0,none⟩) n G) n (xs.set j u)/\Mod (fun k=>k=g) w (w.setCell ⟨g,j,none⟩ u):=
 ⟨(h.stored j u).1,Mod.grown (h.stored j u).2 (fun k l=>by injection l with l;exact l.symm)⟩
def Ext.mod{S w0 w w'}(h:Ext w0 w)(m:Mod S w w')(hs:∀k,S k->w0.heap.size<=k):Ext w0 w':=
 ⟨m.os.trans h.os,m.tape.trans h.tape,m.output.trans h.output,Nat.le_trans h.size m.size,fun k j=>(m.block k (Nat.lt_of_lt_of_le j h.size) (fun e=>by have:=hs k e;omega)).trans (h.block k j)⟩
def El{w:World}{base g n G e}{f:Int->Value}{l:List Int}(h:w.ownsRow base e 1 (.slice (some ⟨g,0,none⟩) n G) n (l.map f)){j x}(B:j<n)(J:l[j]? =some x):
  w.cell? ⟨g,j,none⟩=some (f x)/\w.frozen? ⟨g,j,none⟩=false:=by
 refine⟨?_,h.frozenAt j⟩;rw[h.cellAt j aa,List.getElem?_map,J];rfl
def uP (w:World) (B k:Nat) (R:Nat->Hd) (f:Nat->List Int):Prop:=∀i,i<k->w.ownsRow B 3 1 (R i).v (R i).n ((f i).map (.int .i64))
def uP.ext{w w' B k R}{f:Nat->List Int}(h:uP w B k R f)(x:Ext w w'):uP w' B k R f:=fun i hi=>dU (h i hi) x
def wQ (R:Nat->Hd) (k:Nat):List Value:=(List.range k).map fun i=>(R i).v
theorem CQ(R k):wQ R (k+1)=wQ R k++[(R k).v]:=by unfold wQ;rw[List.range_succ,List.map_append];rfl
theorem Al{R V k}(h:∀i,i<k->R i=V i):wQ R k=wQ V k:=by
 unfold wQ;exact List.map_congr_left fun i hi=>by rw[h i (List.mem_range.1 hi)]
theorem jy.made{w B C l v1 D R p}(P:w.ownsRow B 4 1 v1 C (p.closed.map Value.bool))(J:w.ownsRow B 92 1 D l (wQ R l))(Z:p.links.length=l)(G:uP w B l R (fun i=>p.links.getD i []))(hp:C<=1000000)(hq:l<=1000000)(K:∀i,i<l->(R i).n<=1000000):∃PA F PB qc,v1=.slice PA C F/\D=.slice PB l qc/\jy w PA C PB l R p:=by
 obtain⟨PA,F,O,_,S,M⟩:=Arr.jJ false P;have j:w.ownsRow B 92 1 D l ((List.range l).map fun i=>(R i).v):=J;obtain⟨PB,qc,N,_,_,H⟩:=Arr.jJ 0 j;refine⟨PA,F,PB,qc,O,N,S,M,Z,H.congr fun i hi=> ?_,fun i hi=> ?_,fun i hi=> ?_,aa,aa,fun i hi=>by have:=K i hi;omega⟩
 .rw[List.getD_eq_getElem?_getD,List.getElem?_range hi];rfl
 .obtain⟨_,_,_,_,Y,_⟩:=Arr.jJ 0 (G i hi);exact Y
 .obtain⟨A,c,e,_,_,I⟩:=Arr.jJ 0 (G i hi);unfold Hd.v at e;injection e with L _ _;rw[L];exact I
def vO (nm:ByteArray) (A0:Option Addr) (n0 c0:Nat) (A1:Option Addr) (n1 c1:Nat) (A2:Option Addr) (n2 c2:Nat) (A3:Option Addr) (n3 c3:Nat) (PA:Option Addr) (B C:Nat) (PB:Option Addr) (j qc:Nat) (l:Option Addr) (O T:Nat):Value:=.agg #[.string nm,.slice A0 n0 c0,.slice A1 n1 c1,.slice A2 n2 c2,.slice A3 n3 c3,.slice PA B C,.slice PB j qc,.slice l O T]
def zJ (w:World) (j:Option Addr) (O:Nat) (g:List Int):Prop:=g.length=O/\Arr w j O 1 (fun i=>[.int .i64 (g.getD i 0)])
def zJ.ext{w w' j O g}(h:zJ w j O g)(x:Ext w w'):zJ w' j O g:=⟨h.1,h.2.ext x⟩
def EB (x:(Int×Int)×(Int×Int)):Value:=.agg #[.int .i64 x.1.1,.int .i64 x.1.2,.int .i64 x.2.1,.int .i64 x.2.2]
theorem P7{s p i t}(hn:(s.bays.getD i default).links.length<=2)(B:t<(s.bays.getD i default).links.length)(l:∀u,u<t->(p.links.getD i []).getD u 0≠1)(j:(p.links.getD i []).getD t 0=1):uh s p i=Cn s p (iZ s i t):=by
 unfold uh;by_cases C:t=0
 .subst C;rw[if_pos j]
 .obtain rfl:t=1:=aa;rw[if_neg (l 0 aa),if_pos ⟨B,j⟩]
theorem JD{s p i n}(hn:(s.bays.getD i default).links.length=n)(l:1<=n)(j:∀u,u<n->(p.links.getD i []).getD u 0≠1):uh s p i=(0,0):=by
 unfold uh;rw[if_neg (j 0 aa),if_neg (fun h=>j 1 aa h.2)]
theorem uK(nm){A0}{n0 c0:Nat}{A1}{n1 c1:Nat}{A2}{n2 c2:Nat}{A3}{n3 c3:Nat}{PA}{G L:Nat}{PB}{C qc:Nat}{K}{p:dC}(J)(O T:Nat)(i k:Nat)(l:Int)(N:l=(k:Int))(w)(hp:jy w PA G PB C K p)(hi:i<C)(U:k<(p.links.getD i []).length):
  CE 187 #[vO nm A0 n0 c0 A1 n1 c1 A2 n2 c2 A3 n3 c3 PA G L PB C qc J O T,.int .i64 (i:Int),.int .i64 l] w (.bool (decide ((p.links.getD i []).getD k 0=1))):=by
 subst N;have D:Hid (Ext w (w.alloc (.cells #[.string nm,.slice A0 n0 c0,.slice A1 n1 c1,.slice A2 n2 c2,.slice A3 n3 c3,.slice PA G L,.slice PB C qc,.slice J O T] 215))):=aJ (Ext.new _ _);obtain⟨-,hb⟩:=an1 w 215 #[.string nm,.slice A0 n0 c0,.slice A1 n1 c1,.slice A2 n2 c2,.slice A3 n3 c3,.slice PA G L,.slice PB C qc,.slice J O T];have W:=hb.cell;clear hb;obtain⟨pb,B,I,S,f0⟩:=(hp.ext D.o).rows.one hi;have Y:k<(K i).n:=by rw[<-hp.lens i hi];exact U
 obtain⟨R,Q,j,M,P⟩:=((hp.ext D.o).ints i hi).one Y;have F:=hp.mx.2.1;have H:=hp.mx.2.2 i hi;unfold Hd.v at f0;clear hp;generalize K i=V at f0 P j Y H;generalize (p.links.getD i []).getD k 0=x at P;rw[j] at f0;subst I;unfold vO;go_enter Tryz.func187,Tryz.ntmps187;go_wp2;go_ret;exact⟨rfl,D.o⟩
theorem M8(nm){A0 n0 c0 A1 n1 c1 A2 n2 c2 A3 n3 c3}(PA C G PB B qc){l O T g}(b w)(I:zJ w l O g)(hb:b<O):
  CE 188 #[vO nm A0 n0 c0 A1 n1 c1 A2 n2 c2 A3 n3 c3 PA C G PB B qc l O T,.int .i64 (b:Int)] w (.agg #[.int .i64 1,.int .i64 (g.getD b 0)]):=by
 have D:Hid (Ext w ((w.alloc (.cells #[.string nm,.slice A0 n0 c0,.slice A1 n1 c1,.slice A2 n2 c2,.slice A3 n3 c3,.slice PA C G,.slice PB B qc,.slice l O T] 215)).alloc (.cells #[.int .i64 0,.int .i64 0] 186))):=aJ ((Ext.new _ _).alloc _);obtain⟨-,F,-⟩:=an2 w 215 #[.string nm,.slice A0 n0 c0,.slice A1 n1 c1,.slice A2 n2 c2,.slice A3 n3 c3,.slice PA C G,.slice PB B qc,.slice l O T] 186 #[.int .i64 0,.int .i64 0];have Q:=F.cell;clear F;obtain⟨M,j,H,K,f0⟩:=I.2.one hb;generalize N:g.getD b 0=x at f0;have P:=aJ N;clear N;have J:Hid (∀u v,Ext w ((((w.alloc (.cells #[.string nm,.slice A0 n0 c0,.slice A1 n1 c1,.slice A2 n2 c2,.slice A3 n3 c3,.slice PA C G,.slice PB B qc,.slice l O T] 215)).alloc (.cells #[.int .i64 0,.int .i64 0] 186)).setCell ⟨w.heap.size+1,0,none⟩ u).setCell ⟨w.heap.size+1,1,none⟩ v)):=aJ (fun u v=>gz (g:=w.heap.size+1) (show w.heap.size<=w.heap.size+1 by omega) 0 [u,v] D.o);have L:Hid (∀u v,Blk ((((w.alloc (.cells #[.string nm,.slice A0 n0 c0,.slice A1 n1 c1,.slice A2 n2 c2,.slice A3 n3 c3,.slice PA C G,.slice PB B qc,.slice l O T] 215)).alloc (.cells #[.int .i64 0,.int .i64 0] 186)).setCell ⟨w.heap.size+1,0,none⟩ u).setCell ⟨w.heap.size+1,1,none⟩ v) (w.heap.size+1) 186 #[u,v]):=aJ (fun u v=>bY 0 [u,v] (Blk.new' _ _ ag));subst H;clear I;unfold vO;go_enter Tryz.func188,Tryz.ntmps188;go_wp2;exact rA rfl rfl rfl (Blk.new' _ _ ag) Tryz.underlying186 rfl ah ⟨rfl,(Ext.new _ _).alloc _⟩
theorem H5(nm){A0 n0 c0 A1 n1 c1 A2 n2 c2 A3 n3 c3 L s PA pn pc PB qn qc K p GA O T}(i w)(hs:lY w A0 n0 c0 A1 n1 c1 A2 n2 c2 A3 n3 c3 L s)(hp:jy w PA pn PB qn K p)(WB:lG s)(WR:∀i,i<s.bays.length->(p.links.getD i []).length=(s.bays.getD i default).links.length)(hg:zJ w GA O (groups s p))(Q:O=s.buses.length)(hi:i<n3)(hq:i<qn)(hk:(s.bays.getD i default).kind=2):
  CE 155 #[vO nm A0 n0 c0 A1 n1 c1 A2 n2 c2 A3 n3 c3 PA pn pc PB qn qc GA O T,.int .i64 (i:Int)] w (EB (sides s p i)):=by
 have WL:=hs.mx;obtain⟨m0,m1,m2,m3⟩:=WL;have Y:=hs.l3;have hL:=(hs.links i hi);have XL:=WB.link (show i<s.bays.length by omega);have M:=fun k hk=>WB.bus (i:=i) (k:=k) (show i<s.bays.length by omega) hk;have Xl:O<=4:=by have:=WB.nb;omega
 obtain⟨lb,lo,hA,hb,e0,e1,e2,e3,e4,e5,e6,e7,e8,e9,WI,WH⟩:=hs.bays.bay hi;subst hA;have d0:decide ((i:Int)<0)=false:=ag;have d1:decide ((n3:Int)<=(i:Int))=false:=ae;have HS:=aJ hs;have HP:=aJ hp;have HG:=aJ hg;have C:=aJ XL;have W:=aJ M;have WN:=aJ hL;have Wx:Hid ((s.bays.getD i default).links.length=(L i).n):=aJ hL.1;have U:=aJ (WR i aa);have WP:Hid (i<qn):=aJ hq;clear hs hp hg XL M hL WB WR Q Y hq;have X8:Hid (sides s p i=(uh s p i,(3,(s.bays.getD i default).obj))):=aJ (by unfold sides;rw[if_neg (by rw[hk];decide),hk];rfl);have S:∀k,k<(s.bays.getD i default).links.length->iZ s i k<O:=fun k WF=>by have:=(W.o k WF).2;have:=HG.o.1;rw[uj] at this;omega
 have WO:=aJ S;clear S;rw[hk] at e1;generalize Xu:L i=B at e6;have l:Hid (Lks w B.A B.n (s.bays.getD i default).links):=aJ (by rw[<-Xu];exact WN.o);have Ww:Hid ((s.bays.getD i default).links.length=B.n):=aJ l.o.1;clear Xu Wx WN;have Wq:=aJ hk;clear hk;have X4:B.n<=2:=by have:=C.o.1.2;have:=Ww.o;omega
 have Wz:0<B.n:=by have:=C.o.1.1;have:=Ww.o;omega
 obtain⟨kb,ko,hI,Xm,_⟩:=l.o.2.at_ Wz;obtain⟨lA,ln,lc⟩:=B;simp only at hI Wz X4;subst hI;generalize Wp:s.bays.getD i default=b at e0 e1 e2 e3 e4 e5 e6 e7 e8 e9 WI WH X8;have WM:=aJ Wp;clear Wp;obtain⟨w4,b0,b1,-,-⟩:=an4 w 215 #[.string nm,.slice A0 n0 c0,.slice A1 n1 c1,.slice A2 n2 c2,.slice (some ⟨lb,lo,none⟩) n3 c3,.slice PA pn pc,.slice PB qn qc,.slice GA O T] 187 #[.int .i64 0,.int .i64 0,.int .i64 0,.int .i64 0] 57 #[.string b.name,.int .i64 2,.int .i64 b.obj,.int .i64 b.en,.int .i64 b.z.r,.int .i64 b.z.x,.slice (some ⟨kb,ko,none⟩) ln lc,.bool b.closed,.int .i64 b.ct,.int .i64 b.vt,.int .i64 b.sat,.int .i64 b.travel] 187 #[.int .i64 0,.int .i64 0,.int .i64 3,.int .i64 b.obj];have b2:Blk ((((w.alloc (.cells #[.string nm,.slice A0 n0 c0,.slice A1 n1 c1,.slice A2 n2 c2,.slice (some ⟨lb,lo,none⟩) n3 c3,.slice PA pn pc,.slice PB qn qc,.slice GA O T] 215)).alloc (.cells #[.int .i64 0,.int .i64 0,.int .i64 0,.int .i64 0] 187)).alloc (.cells #[.string b.name,.int .i64 2,.int .i64 b.obj,.int .i64 b.en,.int .i64 b.z.r,.int .i64 b.z.x,.slice (some ⟨kb,ko,none⟩) ln lc,.bool b.closed,.int .i64 b.ct,.int .i64 b.vt,.int .i64 b.sat,.int .i64 b.travel] 57)).alloc (.cells #[.int .i64 0,.int .i64 0,.int .i64 3,.int .i64 b.obj] 187)) (w.heap.size+1+1) 57 #[.string b.name,.int .i64 2,.int .i64 b.obj,.int .i64 b.en,.int .i64 b.z.r,.int .i64 b.z.x,.slice (some ⟨kb,ko,none⟩) ln lc,.bool b.closed,.int .i64 b.ct,.int .i64 b.vt,.int .i64 b.sat,.int .i64 b.travel]:=(Blk.new' _ _ ag).alloc _;have b3:Blk ((((w.alloc (.cells #[.string nm,.slice A0 n0 c0,.slice A1 n1 c1,.slice A2 n2 c2,.slice (some ⟨lb,lo,none⟩) n3 c3,.slice PA pn pc,.slice PB qn qc,.slice GA O T] 215)).alloc (.cells #[.int .i64 0,.int .i64 0,.int .i64 0,.int .i64 0] 187)).alloc (.cells #[.string b.name,.int .i64 2,.int .i64 b.obj,.int .i64 b.en,.int .i64 b.z.r,.int .i64 b.z.x,.slice (some ⟨kb,ko,none⟩) ln lc,.bool b.closed,.int .i64 b.ct,.int .i64 b.vt,.int .i64 b.sat,.int .i64 b.travel] 57)).alloc (.cells #[.int .i64 0,.int .i64 0,.int .i64 3,.int .i64 b.obj] 187)) (w.heap.size+1+1+1) 187 #[.int .i64 0,.int .i64 0,.int .i64 3,.int .i64 b.obj]:=Blk.new' _ _ ag;have HW:=aJ w4;have Xq:=aJ b0;have Ws:=aJ b1;have V:=aJ b2;have Wv:=aJ b3;clear w4 b0 b1 b2 b3;unfold vO;go_enter Tryz.func155,Tryz.ntmps155;(go_wp2_with fail);generalize ((((w.alloc (.cells #[.string nm,.slice A0 n0 c0,.slice A1 n1 c1,.slice A2 n2 c2,.slice (some ⟨lb,lo,none⟩) n3 c3,.slice PA pn pc,.slice PB qn qc,.slice GA O T] 215)).alloc (.cells #[.int .i64 0,.int .i64 0,.int .i64 0,.int .i64 0] 187)).alloc (.cells #[.string b.name,.int .i64 2,.int .i64 b.obj,.int .i64 b.en,.int .i64 b.z.r,.int .i64 b.z.x,.slice (some ⟨kb,ko,none⟩) ln lc,.bool b.closed,.int .i64 b.ct,.int .i64 b.vt,.int .i64 b.sat,.int .i64 b.travel] 57)).alloc (.cells #[.int .i64 0,.int .i64 0,.int .i64 3,.int .i64 b.obj] 187))=w5 at HW Xq Ws V Wv⊢;clear e0 e1 e2 e3 e4 e5 e6 e7 e8 e9 WI WH;generalize N:w.heap.size+1+1+1=q3 at Wv⊢;generalize Xi:w.heap.size+1+1=q2 at V⊢;generalize G:w.heap.size+1=q1 at Ws⊢;generalize WA:w.heap.size=q0 at Xq⊢;have F:Hid (w.heap.size<=q3/\q1<q3):=aJ aa;have WE:Hid (w.heap.size<=q1):=aJ aa;clear N Xi G WA;have k2:=V.cell;go_loopw [58] (fun j wr=>∃t:Nat,t<=ln/\j=.int .i64 (t:Int)/\(∀u,u<t->(p.links.getD i []).getD u 0≠1)/\Ext w5 wr) (fun j _=>ln-(intOf j).toNat)
 case atStart=>exact⟨0,aa,rfl,by intros;omega,Ext.refl _⟩
 case round=>
  obtain⟨t,ht,rfl,hz,J⟩:=hrel;have HZ:=aJ hz;have HX:=aJ J;clear hz J k2;have k0:=(Xq.ext HX.o).cell;have l0:=(Xq.ext HX.o).lt;have l3:=(Wv.ext HX.o).lt;have l1:=(Ws.ext HX.o).lt;have l2:=(V.ext HX.o).lt;by_cases Wo:t<ln
  .have hd:decide (t<ln)=true:=ae;obtain⟨XU,XT,Wt,WW,hc⟩:=(l.ext (HW.trans HX.o)).2.at_ Wo;injection Wt with Wt;injection Wt with Xt I _;subst Xt I;have g0:wr.cell? ⟨kb,ko+t*2,none⟩=some (.int .i64 ((s.bays.getD i default).links.getD t default).bus):=hc 0 _ rfl;have g1:wr.cell? ⟨kb,ko+t*2+1,none⟩=some (.int .i64 ((s.bays.getD i default).links.getD t default).pos):=hc 1 _ rfl;rw[(W.o t Abf).1] at g0;clear hc;have hu:=WO.o t Abf;have WU:Hid (t<(p.links.getD i []).length):=aJ (by have:=Ww.o;have:=U.o;omega);have P:Hid ((p.links.getD i []).getD t 0=1->uh s p i=Cn s p (iZ s i t)):=aJ (P7 Abf Abf HZ.o);generalize iZ s i t=u at g0 hu P;generalize ((s.bays.getD i default).links.getD t default).pos=ps at g1;have Z:Hid (Ext w5 (wr.alloc (.cells #[.int .i64 (u:Int),.int .i64 ps] 137))):=aJ (HX.alloc _);obtain⟨-,Xa⟩:=an1 wr 137 #[.int .i64 (u:Int),.int .i64 ps];have WJ:=aJ Xa;clear Xa;(go_wp2_with fail);refine(uK nm GA O T i t _ rfl _ (HP.ext (HW.trans Z.o)) WP.o WU.o).mono ?_;rintro e w6 ⟨rfl,J⟩;have WQ:=aJ (Z.trans J);have kl:=(WJ.ext J).cell;have ll:=(WJ.ext J).lt;have WS:=(Xq.ext WQ.o).cell;have Wu:q0<w6.heap.size:=(Xq.ext WQ.o).lt;have D:q3<w6.heap.size:=(Wv.ext WQ.o).lt;clear J;by_cases H:(p.links.getD i []).getD t 0=1
   .have dx:decide ((p.links.getD i []).getD t 0=1)=true:=decide_eq_true H;rw[dx];have R:=aJ (P.o H);clear H dx;(go_wp2_with fail);refine(M8 nm PA pn pc PB qn qc u _ (HG.ext (HW.trans WQ.o)) hu).mono ?_;rintro e w7 ⟨rfl,J⟩;have WX:=aJ (WQ.trans J);clear J kl ll WS Wu D;have b7:=Wv.ext WX.o;have c7:=Ws.ext WX.o;have W9:=b7.cell;have WZ:=b7.frozen;have Xc:=c7.cell;have XI:=c7.frozen;have Xb:q1<w7.heap.size:=c7.lt;have WY:q3<w7.heap.size:=b7.lt;have b8:=bY 0 [.int .i64 1,.int .i64 ((groups s p).getD u 0)] b7;have c8:Blk (puts w7 q3 0 [.int .i64 1,.int .i64 ((groups s p).getD u 0)]) q1 187 #[.int .i64 0,.int .i64 0,.int .i64 0,.int .i64 0]:=((c7.far (by have:=F.o.2;show q1≠q3;omega) _).far (by have:=F.o.2;show q1≠q3;omega) _);have x8:Ext w (puts w7 q3 0 [.int .i64 1,.int .i64 ((groups s p).getD u 0)]):=gz (g:=q3) F.o.1 0 _ (HW.trans WX.o);have Wy:=aJ b8;have WT:=aJ c8;have Xn:=aJ x8;clear b7 c7 b8 c8 x8;have WV:¬q1=q3:=by have:=F.o.2;omega
    have WG:¬q3=q1:=by have:=F.o.2;omega
    (go_wp2_with fail);refine rA rfl rfl rfl (bY 0 [.int .i64 1,.int .i64 ((groups s p).getD u 0),.int .i64 3,.int .i64 b.obj] WT.o) Tryz.underlying187 rfl ah ⟨?_,gz (g:=q1) WE.o 0 [.int .i64 1,.int .i64 ((groups s p).getD u 0),.int .i64 3,.int .i64 b.obj] Xn.o⟩;rw[X8.o,R.o];rfl
   .have dx:decide ((p.links.getD i []).getD t 0=1)=false:=decide_eq_false H;rw[dx];have WC:=aJ H;clear H dx;go_wp2_with fail
    go_roundw
    case rel=>exact⟨t+1,aa,au,fun v hv=>by
     by_cases e:v=t
     .rw[e];exact WC.o
     .exact HZ.o v aa,WQ.o⟩
    case measure=>simp[intOf];omega
  .obtain rfl:t=ln:=aa;clear Wo ht;have WK:Hid (uh s p i=(0,0)):=aJ (JD Ww.o (by have:=C.o.1.1;have:=Ww.o;omega) HZ.o);have k3:=(Wv.ext HX.o).cell;have k1:=(Ws.ext HX.o).cell;have f1:=(Ws.ext HX.o).frozen;(go_wp2_with fail);refine rA rfl rfl rfl (bY 0 [.int .i64 0,.int .i64 0,.int .i64 3,.int .i64 b.obj] (Ws.ext HX.o)) Tryz.underlying187 rfl ah ⟨?_,gz (g:=q1) WE.o 0 [.int .i64 0,.int .i64 0,.int .i64 3,.int .i64 b.obj] (HW.trans HX.o)⟩;rw[X8.o,WK.o];rfl
theorem lG.kind{s}(h:lG s){i}(hi:i<s.bays.length):(s.bays.getD i default).kind=1\/(s.bays.getD i default).kind=2\/(s.bays.getD i default).kind=3:=by
 have j:=h.obj i hi;unfold iX at j;by_cases C:(s.bays.getD i default).kind=1
 .exact .inl C
 by_cases l:(s.bays.getD i default).kind=2
 .exact .inr (.inl l)
 by_cases B:(s.bays.getD i default).kind=3
 .exact .inr (.inr B)
 rw[if_neg C,if_neg l,if_neg B] at j;cases j
def Di(s p k):jc s p (k+1)=pI s p k (jc s p k):=rfl
theorem uY{s p k}(h:(s.bays.getD k default).kind=3\/(s.bays.getD k default).links.length≠2\/(p.links.getD k []).getD 0 0≠1\/(p.links.getD k []).getD 1 0≠1):jc s p (k+1)=jc s p k:=by
 rw[Di];unfold pI;rw[if_neg];unfold joins;intro e;simp only[Bool.and_eq_true,decide_eq_true_eq] at e;rcases h with h|h|h|h
 .exact e.1.1.1 h
 .exact h e.1.1.2
 .exact h e.1.2
 .exact h e.2
theorem MN{s p k}(C:(s.bays.getD k default).kind≠3)(j:(s.bays.getD k default).links.length=2)(l:(p.links.getD k []).getD 0 0=1)(B:(p.links.getD k []).getD 1 0=1):
  jc s p (k+1)=merge ((jc s p k).getD (iZ s k 0) 0) ((jc s p k).getD (iZ s k 1) 0) (jc s p k):=by
 rw[Di];unfold pI;rw[if_pos];unfold joins;simp only[Bool.and_eq_true,decide_eq_true_eq];exact⟨⟨⟨C,j⟩,l⟩,B⟩
theorem CF{s p}(h:kQ s p=0):p.closed.length=s.bays.length/\p.links.length=s.bays.length/\∀i,i<s.bays.length->(p.links.getD i []).length=(s.bays.getD i default).links.length:=by
 unfold kQ at h;split at h
 .rename_i Z
  refine⟨Z.1,Z.2,?_⟩;split at h
  .rename_i ha
   intro i hi;exact of_decide_eq_true (List.all_eq_true.1 ha i (List.mem_range.2 hi))
  .cases h
 .cases h
def iota (k:Nat):List Int:=(List.range k).map (fun j:Nat=>(j:Int))
theorem Mf(k):(iota k).map (Value.int .i64)++[Value.int .i64 (k:Int)]=(iota (k+1)).map (Value.int .i64):=by
 unfold iota;rw[List.range_succ,List.map_append,List.map_append];rfl
def N9{l:List Int}{j}(h:j<l.length):l[j]? =some (l.getD j 0):=by
 rw[List.getD_eq_getElem?_getD,List.getElem?_eq_getElem h];rfl
theorem GY{A0 n0 c0 A1 n1 c1 A2 n2 c2 A3 n3 c3 L s PA pn pc PB qn qc K p}(w)(hs:lY w A0 n0 c0 A1 n1 c1 A2 n2 c2 A3 n3 c3 L s)(hp:jy w PA pn PB qn K p)(hc:chk s=0)(Xc:kQ s p=0):
  Calls Tryz.prog 154 #[stV s.name A0 n0 c0 A1 n1 c1 A2 n2 c2 A3 n3 c3,qg PA pn pc PB qn qc] w fun e w'=>∃GA T,e=.returned (.tuple #[vO s.name A0 n0 c0 A1 n1 c1 A2 n2 c2 A3 n3 c3 PA pn pc PB qn qc GA n0 T,.bool true])/\zJ w' GA n0 (groups s p)/\Ext w w':=by
 have D:Hid (Ext w (((w.alloc (.cells #[.string s.name,.slice A0 n0 c0,.slice A1 n1 c1,.slice A2 n2 c2,.slice A3 n3 c3] 27)).alloc (.cells #[.slice PA pn pc,.slice PB qn qc] 31)).alloc (.cells #[.string ByteArray.empty,.slice none 0 0,.slice none 0 0,.slice none 0 0,.slice none 0 0,.slice none 0 0,.slice none 0 0,.slice none 0 0] 215))):=aJ (((Ext.new _ _).trans (Ext.new _ _)).trans (Ext.new _ _));have HS:=aJ (hs.ext D.o);have HP:=aJ (hp.ext D.o);have HC:=aJ hc;have Xr:=aJ Xc;have WG:=aJ (wU hc);obtain⟨m0,m1,m2,m3⟩:=hs.mx;have Z:=aJ hs.l3;have R:Hid (s.buses.length=n0):=aJ (by have:=hs.buses.1;simpa using this);have X6:Hid (1<=n0/\n0<=4):=aJ (by have:=WG.nb;have:=R.o;omega);have Wz:=X6.o.1;have U:=aJ (CF Xc);have HQ:Hid (qn=n3):=aJ (by have:=hp.ll;have:=U.o.2.1;have:=Z.o;omega);clear hs hp hc Xc;obtain⟨-,Ws,V,-⟩:=ah3 w 27 #[.string s.name,.slice A0 n0 c0,.slice A1 n1 c1,.slice A2 n2 c2,.slice A3 n3 c3] 31 #[.slice PA pn pc,.slice PB qn qc] 215 #[.string ByteArray.empty,.slice none 0 0,.slice none 0 0,.slice none 0 0,.slice none 0 0,.slice none 0 0,.slice none 0 0,.slice none 0 0];have Wv:Hid (Blk (((w.alloc (.cells #[.string s.name,.slice A0 n0 c0,.slice A1 n1 c1,.slice A2 n2 c2,.slice A3 n3 c3] 27)).alloc (.cells #[.slice PA pn pc,.slice PB qn qc] 31)).alloc (.cells #[.string ByteArray.empty,.slice none 0 0,.slice none 0 0,.slice none 0 0,.slice none 0 0,.slice none 0 0,.slice none 0 0,.slice none 0 0] 215)) (w.heap.size+1+1) 215 #[.string ByteArray.empty,.slice none 0 0,.slice none 0 0,.slice none 0 0,.slice none 0 0,.slice none 0 0,.slice none 0 0,.slice none 0 0]):=aJ (Blk.new' _ _ ag);unfold stV qg;go_enter Tryz.func154,Tryz.ntmps154;(go_wp2_with fail);refine(yo _ HS.o).mono ?_;rintro e w1 ⟨rfl,J⟩;rw[HC.o];replace D:=D.aC J;replace HS:=HS.aA J;replace HP:=HP.aA J;replace Ws:=Ws.aA J;replace V:=V.aA J;replace Wv:=Wv.aA J;have h1:=Ws.lt;have h2:=V.lt;have k1:=Ws.cell;have k2:=V.cell;clear J;(go_wp2_with fail);refine(xQ s.name _ HS.o HP.o).mono ?_;rintro e w2 ⟨rfl,J⟩;rw[Xr.o];replace D:=D.aC J;replace HS:=HS.aA J;replace HP:=HP.aA J;replace Ws:=Ws.aA J;replace V:=V.aA J;replace Wv:=Wv.aA J;clear h1 h2 k1 k2 J;have h1:=Ws.lt;have h2:=V.lt;have k1:=Ws.cell;have k2:=V.cell;obtain⟨-,Wx⟩:=an1 w2 215 #[.string s.name,.slice A0 n0 c0,.slice A1 n1 c1,.slice A2 n2 c2,.slice A3 n3 c3,.slice PA pn pc,.slice PB qn qc,.slice none 0 0];have WP:=aJ Wx;clear Wx;have Xj:Hid (Ext w2 (w2.alloc (.cells #[.string s.name,.slice A0 n0 c0,.slice A1 n1 c1,.slice A2 n2 c2,.slice A3 n3 c3,.slice PA pn pc,.slice PB qn qc,.slice none 0 0] 215))):=aJ (Ext.new _ _);(go_wp2_with fail);clear k1 k2 h1 h2;generalize Xi:w.heap.size+1+1=q2 at Wv⊢;generalize G:w.heap.size+1=q1 at V⊢;generalize WA:w.heap.size=q0 at Ws⊢;have WF:Hid (w.heap.size<=q2):=aJ aa;clear Xi G WA;generalize XE:w2.alloc (.cells #[.string s.name,.slice A0 n0 c0,.slice A1 n1 c1,.slice A2 n2 c2,.slice A3 n3 c3,.slice PA pn pc,.slice PB qn qc,.slice none 0 0] 215)=w6 at WP Xj⊢;clear XE;generalize Xz:w2.heap.size=g6 at WP⊢;have XB:=aJ Xz;clear Xz;go_loopw [32] (fun i wr=>∃(k:Nat) (v:Value),k<=n0/\i=.int .i64 (k:Int)/\Blk wr g6 215 #[.string s.name,.slice A0 n0 c0,.slice A1 n1 c1,.slice A2 n2 c2,.slice A3 n3 c3,.slice PA pn pc,.slice PB qn qc,v]/\wr.ownsRow (g6+1) 3 1 v k ((iota k).map (.int .i64))/\Ext w2 wr) (fun i _=>n0-(intOf i).toNat)
 case atStart=>exact⟨0,_,aa,rfl,WP.o,World.ownsRow_nil _ _ _ _,Xj.o⟩
 case round=>
  clear WP Xj;obtain⟨k,v,hk,rfl,Wx,F,J⟩:=hrel;obtain⟨Av,cv,rfl,_,_,_⟩:=iT F;have WP:=aJ Wx;have H:=aJ F;have HX:=aJ J;have k6:=Wx.cell;have l6:=Wx.lt;have k0:=(Ws.ext J).cell;have l0:=(Ws.ext J).lt;clear Wx F J;by_cases Wo:k<n0
  .have hd:decide (k<n0)=true:=ae;(go_wp2_with (at_builtin;refine dK Bi rfl (.tmp 36) (.tmp 38) rfl (g6+1) _ k _ rf (H.alloc _) wr.heap.size 1 1 [.int .i64 (k:Int)] rf (Blk.new _ _ _) rfl AcB aa aa aa ae ?_));intro gA M w7 Xb WV XF Xv;rw[Mf] at Xb;have WK:=dR WV (WP.alloc (.cells #[.int .i64 (k:Int)] 3)) (iB H.o aa);have Xa:Mod (fun g=>g=g6\/(Value.slice Av k cv).ownBlock=some g) wr (w7.setCell ⟨g6,7,none⟩ (.slice (some ⟨gA,0,none⟩) (k+1) M)):=((Mod.of (Ext.new _ _)).trans (Mod.grown WV (fun g h=> .inr h))).trans (Mod.only (Only.set w7 g6 7 _) (.inl rfl));have k7:=WK.cell;have f7:=WK.frozen;have l7:=WK.lt;have WC:Blk (w7.setCell ⟨g6,7,none⟩ (.slice (some ⟨gA,0,none⟩) (k+1) M)) g6 215 #[.string s.name,.slice A0 n0 c0,.slice A1 n1 c1,.slice A2 n2 c2,.slice A3 n3 c3,.slice PA pn pc,.slice PB qn qc,.slice (some ⟨gA,0,none⟩) (k+1) M]:=by simpa using WK.mX 7 (.slice (some ⟨gA,0,none⟩) (k+1) M)
   have Xy:=qp Xb (Only.set w7 g6 7 (.slice (some ⟨gA,0,none⟩) (k+1) M)) (iB Xb aa);have Wy:=aJ WC;have XD:=aJ Xy;have WZ:=aJ Xa;clear WK Xa WC Xy Xb WV XF;go_wp2_with fail
   go_roundw
   case rel=>
    refine⟨k+1,_,aa,au,Wy.o,XD.o,HX.mod WZ.o (fun g hg=> ?_)⟩;have:=XB.o;rcases hg with hg|hg
    .omega
    .have:=(H.lt g hg).1;omega
   case measure=>simp[intOf];omega
  .obtain rfl:n0=k:=aa;clear Wo hk;(go_wp2_with fail);clear k6 l6 k0 l0;go_loopw [45] (fun i wr=>∃(j:Nat) (v:Value),j<=n3/\i=.int .i64 (j:Int)/\Blk wr g6 215 #[.string s.name,.slice A0 n0 c0,.slice A1 n1 c1,.slice A2 n2 c2,.slice A3 n3 c3,.slice PA pn pc,.slice PB qn qc,v]/\wr.ownsRow (g6+1) 3 1 v n0 ((jc s p j).map (.int .i64))/\Ext w2 wr) (fun i _=>n3-(intOf i).toNat)
   case atStart=>exact⟨0,_,aa,rfl,WP.o,by rw[show jc s p 0=iota n0 from by rw[<-R.o];rfl];exact H.o,HX.o⟩
   case round=>
    clear WP H HX;obtain⟨j,v,hj,rfl,Wx,F,J⟩:=hrel;obtain⟨gr,Y,rfl,Yd,Yc⟩:=F.form aa;obtain⟨wv,WU⟩:∃wv,wv=wr:=⟨_,rfl⟩;subst WU;have WP:=aJ Wx;have H:=aJ F;have HX:=aJ J;have k6:=Wx.cell;have l6:=Wx.lt;have k0:=(Ws.ext J).cell;have l0:=(Ws.ext J).lt;clear Wx F J;by_cases Wo:j<n3
    .have hd:decide (j<n3)=true:=ae;obtain⟨lb,lo,hA,hb,e0,e1,e2,e3,e4,e5,e6,e7,e8,e9,WI,WH⟩:=(HS.ext HX.o).bays.bay Wo;subst hA;generalize Xu:L j=B at e6;have WN:Hid (Lks wv B.A B.n (s.bays.getD j default).links):=aJ (by rw[<-Xu];exact((HS.ext HX.o).links j Wo));have Ww:Hid ((s.bays.getD j default).links.length=B.n):=aJ WN.o.1;clear Xu;generalize Wp:s.bays.getD j default=b at e0 e1 e2 e3 e4 e5 e6 e7 e8 e9 WI WH;have WM:=aJ Wp;clear Wp;have WR:Hid (Ext w2 (wv.alloc (.cells #[.string b.name,.int .i64 b.kind,.int .i64 b.obj,.int .i64 b.en,.int .i64 b.z.r,.int .i64 b.z.x,.slice B.A B.n B.c,.bool b.closed,.int .i64 b.ct,.int .i64 b.vt,.int .i64 b.sat,.int .i64 b.travel] 57))):=aJ (HX.alloc _);have Xo:=aJ (H.alloc (.cells #[.string b.name,.int .i64 b.kind,.int .i64 b.obj,.int .i64 b.en,.int .i64 b.z.r,.int .i64 b.z.x,.slice B.A B.n B.c,.bool b.closed,.int .i64 b.ct,.int .i64 b.vt,.int .i64 b.sat,.int .i64 b.travel] 57));have Wq:=aJ (WP.alloc (.cells #[.string b.name,.int .i64 b.kind,.int .i64 b.obj,.int .i64 b.en,.int .i64 b.z.r,.int .i64 b.z.x,.slice B.A B.n B.c,.bool b.closed,.int .i64 b.ct,.int .i64 b.vt,.int .i64 b.sat,.int .i64 b.travel] 57));obtain⟨-,WJ⟩:=an1 wv 57 #[.string b.name,.int .i64 b.kind,.int .i64 b.obj,.int .i64 b.en,.int .i64 b.z.r,.int .i64 b.z.x,.slice B.A B.n B.c,.bool b.closed,.int .i64 b.ct,.int .i64 b.vt,.int .i64 b.sat,.int .i64 b.travel];have WB:=aJ WJ;clear WJ;by_cases h1:b.kind=3
     .have q1:((b.kind:Int)==3)=true:=by simp[h1]
      have HJ:Hid (jc s p (j+1)=jc s p j):=aJ (uY (.inl (by rw[WM.o];exact h1)));clear h1;go_wp2_with fail
      exact Aci
     have q1:((b.kind:Int)==3)=false:=by simp[h1]
     have H1:=aJ h1;clear h1;by_cases h2:B.n=2
     rotate_left
     .have q2:((B.n:Int) !=2)=true:=ae;have HJ:Hid (jc s p (j+1)=jc s p j):=aJ (uY (.inr (.inl (by rw[Ww.o];exact h2))));clear h2;go_wp2_with fail
      exact Aci
     obtain⟨kb,ko,hI,Xm,WS⟩:=WN.o.2.at_ (show 0<B.n by omega);obtain⟨XU,XT,Wt,_,O⟩:=WN.o.2.at_ (show 1<B.n by omega);rw[hI] at Wt;injection Wt with Wt;injection Wt with Xt I _;subst Xt I;have WT:Hid (j<s.bays.length):=aJ Ac4;have f0:wv.cell? ⟨kb,ko,none⟩=some (.int .i64 (iZ s j 0:Int)):=by
      have:=WS 0 _ rfl;rw[(WG.o.bus WT.o Abf).1] at this;simpa using this
     have f1:wv.cell? ⟨kb,ko+2,none⟩=some (.int .i64 (iZ s j 1:Int)):=by
      have:=O 0 _ rfl;rw[(WG.o.bus WT.o Abf).1] at this;simpa using this
     have WW:iZ s j 0<n0:=by have:=(WG.bus WT.o (show 0<_ by have:=Ww.o;omega)).2;have:=R.o;omega
     have Xd:iZ s j 1<n0:=by have:=(WG.bus WT.o (show 1<_ by have:=Ww.o;omega)).2;have:=R.o;omega
     have Ye:Hid ((p.links.getD j []).length=2):=aJ (by have:=U.o.2.2 j WT.o;have:=Ww.o;omega);have XL:Hid (j<qn):=aJ (by have:=HQ.o;omega);have Q:Hid ((p.links.getD j []).getD 0 0=1->(p.links.getD j []).getD 1 0=1->jc s p (j+1)=merge ((jc s p j).getD (iZ s j 0) 0) ((jc s p j).getD (iZ s j 1) 0) (jc s p j)):=aJ (fun h3 h4=>MN (by rw[WM.o];exact H1.o) (by rw[Ww.o];exact h2) h3 h4);have Xq:Hid ((jc s p j).length=n0):=aJ (by rw[jD];exact R.o);generalize iZ s j 0=u0 at f0 WW Q;generalize iZ s j 1=u1 at f1 Xd Q;obtain⟨lA,ln,lc⟩:=B;simp only at hI h2;subst hI h2;clear WS O;have XK:=(Ext.new wv (.cells #[.string b.name,.int .i64 b.kind,.int .i64 b.obj,.int .i64 b.en,.int .i64 b.z.r,.int .i64 b.z.x,.slice (some ⟨kb,ko,none⟩) 2 lc,.bool b.closed,.int .i64 b.ct,.int .i64 b.vt,.int .i64 b.sat,.int .i64 b.travel] 57)).cell_ f0;have XJ:=(Ext.new wv (.cells #[.string b.name,.int .i64 b.kind,.int .i64 b.obj,.int .i64 b.en,.int .i64 b.z.r,.int .i64 b.z.x,.slice (some ⟨kb,ko,none⟩) 2 lc,.bool b.closed,.int .i64 b.ct,.int .i64 b.vt,.int .i64 b.sat,.int .i64 b.travel] 57)).cell_ f1;(go_wp2_with fail);refine(uK s.name (some ⟨gr,0,none⟩) n0 Y j 0 _ rfl _ (HP.ext WR.o) XL.o (by rw[Ye.o];decide)).mono ?_;rintro e w6 ⟨rfl,J⟩;have WQ:=aJ (WR.trans J);have XG:=aJ (dU Xo.o J);have S:=aJ (Wq.ext J);have Xk:=aJ (WB.ext J);have XN:=J.cell_ XK;have XQ:=J.cell_ XJ;clear J f0 f1 XK XJ e0 e1 e2 e3 e4 e5 e6 e7 e8 e9 WI WH;have XZ:=S.cell;have XW:=S.lt;have X8:=Xk.cell;have XX:=Xk.lt;by_cases h3:(p.links.getD j []).getD 0 0=1
     rotate_left
     .have q3:decide ((p.links.getD j []).getD 0 0=1)=false:=decide_eq_false h3;rw[q3];have HJ:Hid (jc s p (j+1)=jc s p j):=aJ (uY (.inr (.inr (.inl h3))));clear h3 q3;go_wp2_with fail
      go_roundw
      case rel=>exact⟨j+1,_,aa,au,S.o,by rw[HJ.o];exact XG.o,WQ.o⟩
      case measure=>simp[intOf];omega
     have q3:decide ((p.links.getD j []).getD 0 0=1)=true:=decide_eq_true h3;rw[q3];replace Q:=aJ (Q.o h3);clear h3 q3;(go_wp2_with fail);refine(uK s.name (some ⟨gr,0,none⟩) n0 Y j 1 _ rfl _ (HP.ext WQ.o) XL.o (by rw[Ye.o];decide)).mono ?_;rintro e w7 ⟨rfl,J⟩;have WX:=aJ (WQ.trans J);have Xp:=aJ (dU XG.o J);have WO:=aJ (S.ext J);have Xw:=aJ (Xk.ext J);have XM:=J.cell_ XN;have XI:=J.cell_ XQ;clear J XN XQ XZ XW X8 XX;have X4:=WO.cell;have X9:=WO.lt;have XY:=Xw.cell;have XV:=Xw.lt;by_cases h3:(p.links.getD j []).getD 1 0=1
     rotate_left
     .have q3:decide ((p.links.getD j []).getD 1 0=1)=false:=decide_eq_false h3;rw[q3];have HJ:Hid (jc s p (j+1)=jc s p j):=aJ (uY (.inr (.inr (.inr h3))));clear h3 q3;go_wp2_with fail
      go_roundw
      case rel=>exact⟨j+1,_,aa,au,WO.o,by rw[HJ.o];exact Xp.o,WX.o⟩
      case measure=>simp[intOf];omega
     have q3:decide ((p.links.getD j []).getD 1 0=1)=true:=decide_eq_true h3;rw[q3];replace Q:=aJ (Q.o h3);clear h3 q3;have XP:=(El Xp.o WW (N9 (by have:=Xq.o;omega))).1;have XO:=(El Xp.o Xd (N9 (by have:=Xq.o;omega))).1;have Yg:=(Xp.lt gr rfl).2;have Yf:kb<w7.heap.size:=by
      have:=(HX.size);exact block_lt_of_cell XM
     generalize (jc s p j).getD u0 0=x0 at XP Q;generalize (jc s p j).getD u1 0=x1 at XO Q;(go_wp2_with fail);go_quiet (fail);have X7:=(WO.drewN nq).cell;have X3:=(WO.drewN nq).lt;(go_wp2_with fail);clear XP XO XM XI X4 X9 XY XV X7 X3;have Xn:=aJ (WX.drewN nq);have Wy:=aJ (WO.drewN nq);have XH:Hid ((w7.drewN nq).ownsRow (g6+1) 3 1 (.slice (some ⟨gr,0,none⟩) n0 Y) n0 ((jc s p j).map (.int .i64))):=aJ (dU Xp.o ((Ext.refl _).drewN nq));generalize w7.drewN nq=w8 at Xn Wy XH⊢;have WL:Hid ((jc s p j).map (fun v=>if v=max x0 x1 then min x0 x1 else v)=merge x0 x1 (jc s p j)):=aJ (MS _);rw[<-WL.o] at Q;generalize max x0 x1=mx at Q WL⊢;generalize min x0 x1=mn at Q WL⊢;generalize jc s p j=l at XH Xq Q WL;clear WR WQ WX Wq S WO WB Xk Xw Xo XG Xp WL;go_loopw [98] (fun i wq=>∃t:Nat,t<=n0/\i=.int .i64 (t:Int)/\wq.ownsRow (g6+1) 3 1 (.slice (some ⟨gr,0,none⟩) n0 Y) n0 ((uL (fun v=>if v=mx then mn else v) l t).map (.int .i64))/\Mod (fun g=>g=gr) w8 wq) (fun i _=>n0-(intOf i).toNat)
     case atStart=>exact⟨0,aa,rfl,by rw[Qc];exact XH.o,Mod.refl _ _⟩
     case round=>
      obtain⟨t,ht,rfl,Xx,W9⟩:=hrel;have WY:=aJ Xx;have Xh:=aJ W9;have XA:=Wy.mod W9 (fun h=>aa);have Xf:=aJ XA;have kq:=XA.cell;have lq:=XA.lt;clear Xx W9 XA;by_cases Xg:t<n0
      .have Ya:decide (t<n0)=true:=ae;have WE:t<l.length:=by have:=Xq.o;omega
       obtain⟨q1,q2⟩:=El WY.o Xg (E8 WE);have Yh:=(WY.lt gr rfl).2;have Wu:=aJ (Kw WY.o t (.int .i64 mn));have Xe:=aJ (zm (f:=fun v=>if v=mx then mn else v) WE);have N:=aJ (Dw (f:=fun v=>if v=mx then mn else v) WE);generalize l.getD t 0=x at q1 Xe N;by_cases P:x=mx
       .have dx:((x:Int)==mx)=true:=ae;have W:=aJ P;clear P;go_wp2_with fail
        go_roundw
        case rel=>
         refine⟨t+1,aa,au,?_,?_⟩
         .have h1:=Wu.o.1;rw[<-List.map_set (f:=Value.int .i64) (a:=mn)] at h1;have h2:=Xe.o;simp only[if_pos W.o] at h2;rw[<-h2];exact h1
         .exact Xh.trans Wu.o.2
        case measure=>simp[intOf];omega
       .have dx:((x:Int)==mx)=false:=ae;have W:=aJ P;clear P;go_wp2_with fail
        go_roundw
        case rel=>exact⟨t+1,aa,au,by rw[N.o (if_neg W.o)];exact WY.o,Xh.o⟩
        case measure=>simp[intOf];omega
      .obtain rfl:n0=t:=aa;clear Xg ht;have XR:=aJ (Fx (f:=fun v=>if v=mx then mn else v) Xq.o);go_wp2_with fail
       go_roundw
       case rel=>exact⟨j+1,_,aa,au,Xf.o,by rw[Q.o,<-XR.o];exact WY.o,Xn.mod Xh.o (fun g hg=>by have:=XB.o;omega)⟩
       case measure=>simp[intOf];omega
    .obtain rfl:n3=j:=aa;clear Wo hj;have C:=Wv.ext HX.o;have kr:=C.cell;have fr:=C.frozen;have lr:=C.lt;(go_wp2_with fail);have Yb:Hid (groups s p=jc s p n3):=aJ (by unfold groups;rw[Z.o]);have r1:=qp H.o (fK wv q2 0 [.string s.name,.slice A0 n0 c0,.slice A1 n1 c1,.slice A2 n2 c2,.slice A3 n3 c3,.slice PA pn pc,.slice PB qn qc,.slice (some ⟨gr,0,none⟩) n0 Y]) (fe H.o C aj);obtain⟨GA,T,eg,_,Xl,XC⟩:=Arr.jJ 0 r1;injection eg with X5 _ _;subst X5;refine Ed rfl rfl rfl (bY 0 [.string s.name,.slice A0 n0 c0,.slice A1 n1 c1,.slice A2 n2 c2,.slice A3 n3 c3,.slice PA pn pc,.slice PB qn qc,.slice (some ⟨gr,0,none⟩) n0 Y] C) Tryz.underlying215 rfl ah ⟨_,Y,rfl,?_,gz (g:=q2) WF.o 0 [.string s.name,.slice A0 n0 c0,.slice A1 n1 c1,.slice A2 n2 c2,.slice A3 n3 c3,.slice PA pn pc,.slice PB qn qc,.slice (some ⟨gr,0,none⟩) n0 Y] (D.trans HX.o)⟩;rw[Yb.o];exact⟨Xl,XC⟩
theorem Fa{A0 n0 c0 A1 n1 c1 A2 n2 c2 A3 n3 c3 L s PA C G PB B qc K p}(w)(hs:lY w A0 n0 c0 A1 n1 c1 A2 n2 c2 A3 n3 c3 L s)(hp:jy w PA C PB B K p)(hc:chk s=0)(j:kQ s p=0):
  Calls Tryz.prog 121 #[stV s.name A0 n0 c0 A1 n1 c1 A2 n2 c2 A3 n3 c3,qg PA C G PB B qc] w fun e w'=>∃l T,e=.returned (.slice l n0 T)/\zJ w' l n0 (groups s p)/\Ext w w':=by
 have D:Hid (Ext w ((w.alloc (.cells #[.string s.name,.slice A0 n0 c0,.slice A1 n1 c1,.slice A2 n2 c2,.slice A3 n3 c3] 27)).alloc (.cells #[.slice PA C G,.slice PB B qc] 31))):=aJ ((Ext.new _ _).trans (Ext.new _ _));have P:=aJ (hs.ext D.o);have O:=aJ (hp.ext D.o);have N:=aJ hc;have H:=aJ j;clear hs hp hc j;unfold stV qg;go_enter Tryz.func121,Tryz.ntmps121;(go_wp2_with fail);refine(GY _ P.o O.o N.o H.o).mono ?_;rintro e w1 ⟨l,T,rfl,M,J⟩;have F:=aJ (D.trans J);have I:Hid (Ext w1 (w1.alloc (.cells #[.string s.name,.slice A0 n0 c0,.slice A1 n1 c1,.slice A2 n2 c2,.slice A3 n3 c3,.slice PA C G,.slice PB B qc,.slice l n0 T] 215))):=aJ (Ext.new _ _);have Q:=aJ (M.ext I.o);clear M;clear J;unfold vO;(go_wp2_with fail);go_ret;exact⟨l,T,rfl,Q.o,F.trans I.o⟩
def rG:List Value:=[.string ByteArray.empty,.int .i64 0,.int .i64 0,.int .i64 0,.int .i64 0,.int .i64 0,.slice none 0 0,.bool false,.int .i64 0,.int .i64 0,.int .i64 0,.int .i64 0]
def AC:(Tryz.prog.info? 57).map (·.zero)=some (some (.agg rG.toArray)):=ah
def qj:(Tryz.prog.info? 57).map (·.size)=some (12:Nat):=ah
theorem EQ(b h):∀v∈jC b h,v.oneCell'=true:=by
 intro v hv;unfold jC at hv;simp only[List.mem_cons,List.not_mem_nil,or_false] at hv;rcases hv with rfl|rfl|rfl|rfl|rfl|rfl|rfl|rfl|rfl|rfl|rfl|rfl<;>rfl
def Sn{w g b h}(hb:Blk w g 57 rG.toArray):Blk (puts w g 0 (jC b h)) g 57 (jC b h).toArray:=by
 have j:Blk (puts w g 0 (jC b h)) g 57 (fD rG.toArray 0 (jC b h)):=bY 0 (jC b h) hb;rw[iy rG (jC b h) rfl] at j;exact j
def DL{w wd j b h}(hd:wd=w.alloc (.cells rG.toArray 57))(O:j=puts wd w.heap.size 0 (jC b h)):Blk j w.heap.size 57 (jC b h).toArray/\Ext w j:=by
 have l:Blk wd w.heap.size 57 rG.toArray:=by rw[hd];exact Blk.new _ _ _
 have H:Ext w wd:=by rw[hd];exact Ext.new _ _
 exact⟨by rw[O];exact Sn l,by rw[O];exact gz (Nat.le_refl _:Own w w.heap.size) 0 _ H⟩
def jZ:BrV:=⟨0,0,zEn,zEn,zEn⟩
def brc (n:Nat) (B:Nat->BrV):List Value:=(List.range n).flatMap fun j=>(B j).cs
theorem mU(n B):brc (n+1) B=brc n B++(B n).cs:=by
 unfold brc;exact Abz
def kY(b:BrV):b.cs.length=20:=rfl
def j4:∀(n:Nat) (B:Nat->BrV),(brc n B).length=n*20
 |0,_=>rfl
 |n+1,B=>by rw[mU,List.length_append,j4 n B,kY];omega
def xL:∀{n:Nat} {B D:Nat->BrV},(∀i,i<n->B i=D i)->brc n B=brc n D
 |0,_,_,_=>rfl
 |n+1,B,D,h=>by rw[mU,mU,xL (fun i hi=>h i aa),h n aa]
def uu{B j t}(l:t<20):∀{n:Nat},j<n->(brc n B)[j*20+t]? =(B j).cs[t]?
 |0,h=>absurd h aa
 |n+1,h=>by
  rw[mU];by_cases e:j=n
  .subst e;rw[List.getElem?_append_right (by rw[j4];omega),j4,show j*20+t-j*20=t by omega]
  .rw[List.getElem?_append_left (by rw[j4];omega)];exact uu l aa
def yI(a B):∀b,brc a B++brc b (fun _=>jZ)=brc (a+b) (fun i=>if i<a then B i else jZ)
 |0=>by
  show brc a B++[]=_;rw[List.append_nil];exact xL fun i hi=>by rw[if_pos hi]
 |b+1=>by
  rw[mU,<-List.append_assoc,yI a B b,show a+(b+1)=(a+b)+1 by omega,mU,if_neg aa]
def Sj{B k n}(r)(F:k<n):(brc n B).take (k*20)++r.cs++(brc n B).drop (k*20+20)=brc n (upd B k r):=by
 apply List.ext_getElem?;intro p;have l1:((brc n B).take (k*20)).length=k*20:=by rw[List.length_take,j4];omega
 by_cases hp:p<n*20
 .obtain⟨j,t,rfl,l⟩:∃j t,p=j*20+t/\t<20:=⟨p/20,p%20,aa,aa⟩;have C:j<n:=aa;rw[uu l C];by_cases G:j<k
  .rw[List.append_assoc,List.getElem?_append_left (by rw[l1];omega),List.getElem?_take_of_lt aa,uu l C,upd_ne aa]
  .by_cases D:j=k
   .subst D;rw[List.append_assoc,List.getElem?_append_right (by rw[l1];omega),l1,show j*20+t-j*20=t by omega,List.getElem?_append_left (by rw[kY];exact l),upd_same]
   .rw[List.getElem?_append_right (by rw[List.length_append,l1,kY];omega),List.length_append,l1,kY,List.getElem?_drop,show k*20+20+(j*20+t-(k*20+20))=j*20+t by omega,uu l C,upd_ne D]
 .rw[List.getElem?_eq_none (by simp only[List.length_append,l1,kY,List.length_drop,j4];omega),List.getElem?_eq_none (by rw[j4];omega)]
theorem Qr(b:BrV):∀(t:Nat) (v:Value),b.cs[t]? =some v->mM v=true:=by
 intro t v hv;have l:t<20:=by have:=(List.getElem?_eq_some_iff.1 hv).1;rwa[kY] at this
 have R:∀u∈b.cs,mM u=true:=by
  intro u j;unfold BrV.cs at j;simp only[List.mem_cons,List.not_mem_nil,or_false] at j;rcases j with rfl|rfl|rfl|rfl|rfl|rfl|rfl|rfl|rfl|rfl|rfl|rfl|rfl|rfl|rfl|rfl|rfl|rfl|rfl|rfl<;>rfl
 exact R v (List.mem_of_getElem? hv)
def NC{n:Nat}{B}(p:Nat)(v)(h:(brc n B)[p]? =some v):mM v=true:=by
 have hp:p<n*20:=by have:=(List.getElem?_eq_some_iff.1 h).1;rwa[j4] at this
 obtain⟨j,t,rfl,l⟩:∃j t,p=j*20+t/\t<20:=⟨p/20,p%20,aa,aa⟩;rw[uu l aa] at h;exact Qr _ t v h
def SN:(Tryz.prog.info? 167).map (fun i=>(i.zero,i.size,i.bytes))=some (some (.agg jZ.cs.toArray),20,304):=ah
def nA (n:Nat) (l:List Value):List Value:=(List.range n).flatMap fun _=>l
theorem pJ(n l):nA (n+1) l=nA n l++l:=by
 unfold nA;exact Abz
def oD(l):∀n,(nA n l).length=n*l.length
 |0=>by simp[nA]
 |n+1=>by rw[pJ,List.length_append,oD l n,Nat.succ_mul]
def Co{l j t}(C:t<l.length):∀{n:Nat},j<n->(nA n l)[j*l.length+t]? =l[t]?
 |0,h=>absurd h aa
 |n+1,h=>by
  rw[pJ];by_cases e:j=n
  .subst e;rw[List.getElem?_append_right (by rw[oD];omega),oD,show j*l.length+t-j*l.length=t by omega]
  .have B:j<n:=aa;have D:j*l.length+l.length<=n*l.length:=by rw[<-Nat.succ_mul];exact Nat.mul_le_mul_right _ B
   rw[List.getElem?_append_left (by rw[oD];omega)];exact Co C B
theorem pE(l)(C:0<l.length)(n):madeCells l.toArray (n*l.length)=(nA n l).toArray:=by
 unfold madeCells;apply Array.ext';apply List.ext_getElem?;intro p;by_cases hp:p<n*l.length
 .have D:p%l.length<l.length:=Nat.mod_lt _ C;have hd:p/l.length<n:=(Nat.div_lt_iff_lt_mul C).2 hp;have e:p=p/l.length*l.length+p%l.length:=(Nat.div_add_mod' p l.length).symm;have B:=Co (l:=l) (j:=p/l.length) (t:=p%l.length) D hd;rw[<-e] at B;rw[B];simp[List.getElem?_map,hp,List.getElem?_range,D]
 .rw[List.getElem?_eq_none ae,List.getElem?_eq_none (by simp[oD];omega)]
def JY(n):nA n jZ.cs=brc n fun _=>jZ:=rfl
def Ig(n):Builtin.zeroCells (Value.agg jZ.cs.toArray).cells n=(brc n fun _=>jZ).toArray:=by
 rw[<-JY,<-pE _ aj];rfl
def mV (w:World) (B0:Nat) (v:Value) (k:Nat) (B:Nat->BrV):Prop:=
 (v=.slice none 0 0/\k=0)\/∃(g G:Nat) (B':Nat->BrV),v=.slice (some ⟨g,0,none⟩) k G/\B0<=g/\k<=G/\Blk w g 167 (brc G B').toArray/\∀i,i<k->B' i=B i
def mV.ext{w w' B0 v k B}(h:mV w B0 v k B)(e:Ext w w'):mV w' B0 v k B:=by
 rcases h with h|⟨g,G,B',j,C,D,F,l⟩
 .exact .inl h
 .exact .inr ⟨g,G,B',j,C,D,F.ext e,l⟩
def mV.mod{S w w' B0 v k B}(h:mV w B0 v k B)(m:Mod S w w')(hs:∀g,v.ownBlock=some g->¬S g):mV w' B0 v k B:=by
 rcases h with h|⟨g,G,B',j,C,D,F,l⟩
 .exact .inl h
 .exact .inr ⟨g,G,B',j,C,D,F.mod m (hs g (by rw[j];rfl)),l⟩
def mV.far{w B0 v k B}(h:mV w B0 v k B):gG (fun g=>v.ownBlock=some g) w:=fun g l _=>by
 rcases h with ⟨rfl,_⟩|⟨g',G,B',rfl,F,D,C,H⟩
 .cases l
 .have:g'=g:=by simpa[Value.ownBlock] using l
  subst this;exact⟨_,_,C,fun j v hv=>NC j v (by rwa[List.getElem?_toArray] at hv)⟩
def mV.low{w B0 v k B}(h:mV w B0 v k B){g}(j:v.ownBlock=some g):B0<=g/\g<w.heap.size:=by
 rcases h with ⟨rfl,_⟩|⟨g',G,B',rfl,l,F,C,D⟩
 .cases j
 .have:g'=g:=by simpa[Value.ownBlock] using j
  subst this;exact⟨l,C.lt⟩
def mV.arr{w B0 v k B}(h:mV w B0 v k B):∃A c,v=.slice A k c/\Arr w A k 20 (fun i=>(B i).cs)/\∀b o,A=some ⟨b,o,none⟩->B0<=b:=by
 rcases h with ⟨rfl,rfl⟩|⟨g,G,B',rfl,H,F,l,C⟩
 .exact⟨none,0,rfl,fun h=>absurd h aa,fun b o e=>by cases e⟩
 .refine⟨some ⟨g,0,none⟩,G,rfl,fun I=>⟨g,0,rfl,l.lt,fun i hi t u j=> ?_⟩,fun b o e=>by injection e with e;injection e with J;omega⟩;have D:t<20:=by have:=(List.getElem?_eq_some_iff.1 j).1;rwa[kY] at this
  rw[l.cell,List.getElem?_toArray,Nat.zero_add,uu D aa,C i hi];exact j
def Iy{w B0 k v B}(h:mV w B0 v k B)(hk:k<=1000)(W:B0<=w.heap.size){r O}(hb:Blk w O 167 r.cs.toArray)(c F):
  ∃H w',(Builtin.append_ #[96,96] F #[v,.slice (some ⟨O,0,none⟩) 1 c]).run Tryz.prog w=.ok H w'/\mV w' B0 H (k+1) (upd B k r)/\Mod (fun g=>v.ownBlock=some g) w w'/\(∀g,H.ownBlock=some g->v.ownBlock=some g\/g=w.heap.size):=by
 obtain⟨i0,U,R,J,Q⟩:=info_parts SN;have hn:∀j u,r.cs[j]? =some u->w.cell? ((⟨O,0,none⟩:Addr).add j)=some u:=fun j u S=>by
  have:=World.news_of_block hb j u;simpa using this (by simpa using S)
 have h1:∀u∈r.cs,u.oneCell'=true:=Ji r;have C:brc 1 (fun _=>r)=r.cs:=by rw[mU];rfl
 rcases h with ⟨rfl,rfl⟩|⟨g,G,B',rfl,V,I,N,Y⟩
 .have L:=run_append_nil (P:=Tryz.prog) w 96 F 167 i0 (.agg jZ.cs.toArray) Tryz.underlying96 U R ⟨O,0,none⟩ 1 c r.cs (by rw[J];rfl) hn aa aa (by rw[Q];omega);have l:=grownCap_ge w 1 0 167;have ec:(r.cs.toArray++Builtin.zeroCells (Value.agg jZ.cs.toArray).cells (grownCap w 1 0 167-1))=(brc (grownCap w 1 0 167) (fun i=>if i<1 then r else jZ)).toArray:=by
   rw[Ig];have:=yI 1 (fun _=>r) (grownCap w 1 0 167-1);rw[show 1+(grownCap w 1 0 167-1)=grownCap w 1 0 167 by omega] at this;rw[<-this,C];simp
  rw[ec] at L;refine⟨_,_,L,.inr ⟨w.heap.size,_,(fun i=>if i<1 then r else jZ),rfl,W,l,?_,fun i hi=> ?_⟩,Mod.of ((Ext.refl w).drew.alloc _),fun g V=>Or.inr (by simpa[Value.ownBlock] using V.symm)⟩
  .have:=Blk.new w.drew 167 (brc (grownCap w 1 0 167) (fun i=>if i<1 then r else jZ)).toArray;exact this
  .obtain rfl:i=0:=aa;show r=upd B 0 r 0;rw[upd_same]
 .have T:(brc G B').toArray.size=G*20:=by simp[j4]
  by_cases K:k+1<=G
  .have L:=run_append_room (P:=Tryz.prog) w 96 F 167 i0 Tryz.underlying96 U g k G _ N ⟨O,0,none⟩ 1 c r.cs (by rw[J];rfl) hn h1 K (by rw[J,T,kY];omega);have ec:((brc G B').toArray.toList.take (k*i0.size)++r.cs++(brc G B').toArray.toList.drop (k*i0.size+r.cs.length)).toArray=(brc G (upd B' k r)).toArray:=by
    rw[J,kY];exact congrArg List.toArray (Sj r aa)
   rw[ec] at L;refine⟨_,_,L,.inr ⟨g,G,(upd B' k r),rfl,V,K,JO N,fun i hi=> ?_⟩,(Only.IV w g _).mono fun j hj=>by subst hj;rfl,fun g' M=>Or.inl M⟩;by_cases e:i=k
   .subst e;rw[upd_same,upd_same]
   .rw[upd_ne e,upd_ne e];exact Y i aa
  .obtain rfl:G=k:=aa;have Z:∀j u,(brc G B')[j]? =some u->w.cell? ((⟨g,0,none⟩:Addr).add j)=some u:=fun j u S=>World.news_of_block N j u (by simpa using S);have L:=run_append_grow (P:=Tryz.prog) w 96 F 167 i0 (.agg jZ.cs.toArray) Tryz.underlying96 U R ⟨g,0,none⟩ G G (brc G B') (by rw[J,j4]) Z ⟨O,0,none⟩ 1 c r.cs (by rw[J];rfl) hn aa aa (by
    have:=nextslicecap_le (need:=G+1) (old:=G) aa;rw[Q];omega)
   have l:=grownCap_ge w (G+1) G 167;have ec:((brc G B').toArray++r.cs.toArray++Builtin.zeroCells (Value.agg jZ.cs.toArray).cells (grownCap w (G+1) G 167-(G+1)))=(brc (grownCap w (G+1) G 167) (fun i=>if i<G+1 then upd B' G r i else jZ)).toArray:=by
    rw[Ig];have:=yI (G+1) (upd B' G r) (grownCap w (G+1) G 167-(G+1));rw[show G+1+(grownCap w (G+1) G 167-(G+1))=grownCap w (G+1) G 167 by omega] at this;rw[<-this,mU,upd_same,xL (B:=upd B' G r) (D:=B') (fun i hi=>upd_ne aa)];simp
   rw[ec] at L;refine⟨_,_,L,.inr ⟨w.heap.size,_,(fun i=>if i<G+1 then upd B' G r i else jZ),rfl,W,l,?_,fun i hi=> ?_⟩,Mod.of ((Ext.refl w).drew.alloc _),fun g' M=>Or.inr (by simpa[Value.ownBlock] using M.symm)⟩
   .have:=Blk.new w.drew 167 (brc (grownCap w (G+1) G 167) (fun i=>if i<G+1 then upd B' G r i else jZ)).toArray;exact this
   .show(if i<G+1 then upd B' G r i else jZ)=upd B G r i;rw[if_pos hi];by_cases e:i=G
    .subst e;rw[upd_same,upd_same]
    .rw[upd_ne e,upd_ne e];exact Y i aa
def shf (kind:Int):Nat:=if kind=2\/kind=6\/kind=9 then 1 else if kind=3\/kind=4\/kind=7 then 2 else 0
theorem UK(kind):shf kind<3:=by
 unfold shf;split
 .omega
 .split<;>omega
structure Gr0 (w0 w:World) (gx gf:Nat) (C:Nat->Value) (nb:Nat) (Bv:Nat->BrV) (brs:List BrD):Prop where
 g:eZ w gx 105 393 (eO C fun _=>zEn)
 c:bT w gf
 m:Mod (fun k=>k=gx) w0 w
 own:mV w w0.heap.size (C 0) nb Bv
 len:brs.length=nb
 br:∀i,i<nb->vC w (Bv i) (brs.getD i default)
 n32:∀i,i<33->mM (C i)=true
 lx:gx<w0.heap.size
 lf:gf<w0.heap.size
section
variable {w0 w w' w2:World} {gx gf nb:Nat} {C:Nat->Value} {Bv:Nat->BrV} {brs:List BrD}
def Gr0.ne(h:Gr0 w0 w gx gf C nb Bv brs):gf≠gx:=Blk.fO h.c h.g aj
def Gr0.far(h:Gr0 w0 w gx gf C nb Bv brs):gG (fun k=>k=gx) w:=gG.of h.g (fun k _=>ol h.n32 k) (fun k j=>j)
def Gr0.ext(h:Gr0 w0 w gx gf C nb Bv brs)(x:Ext w w'):Gr0 w0 w' gx gf C nb Bv brs:=⟨h.g.ext x,h.c.ext x,h.m.trans (Mod.of x),h.own.ext x,h.len,fun i hi=>(h.br i hi).ext x,h.n32,h.lx,h.lf⟩
def Gr0.mod{S}(h:Gr0 w0 w gx gf C nb Bv brs)(m:Mod S w w')(hs:∀k,S k->w0.heap.size<=k)(B:gG S w)(l:∀g,(C 0).ownBlock=some g->¬S g):Gr0 w0 w' gx gf C nb Bv brs:=by
 have lx:=h.lx;have lf:=h.lf;refine⟨h.g.mod m (fun e=>by have:=hs _ e;omega),Blk.mod h.c m (fun e=>by have:=hs _ e;omega),?_,h.own.mod m l,h.len,fun i hi=>(h.br i hi).fQ m B,h.n32,h.lx,h.lf⟩;exact⟨m.os.trans h.m.os,m.tape.trans h.m.tape,m.output.trans h.m.output,Nat.le_trans h.m.size m.size,fun k j hn=>(m.block k (Nat.lt_of_lt_of_le j h.m.size) (fun e=>by have:=hs _ e;omega)).trans (h.m.block k j hn)⟩
theorem CO{C E i}(v)(hi:i<33)(k):upd (eO C E) i v k=eO (upd C i v) E k:=by
 by_cases h:k=i
 .subst h;rw[upd_same,dY hi,upd_same]
 .rw[upd_ne h];unfold eO;by_cases j:k<33
  .rw[if_pos j,if_pos j,upd_ne h]
  .rw[if_neg j,if_neg j]
def Gr0.set(h:Gr0 w0 w gx gf C nb Bv brs){i}(v)(hi:i<33)(D:i≠0)(hv:mM v=true):Gr0 w0 (w.setCell ⟨gx,i,none⟩ v) gx gf (upd C i v) nb Bv brs/\Mod (fun k=>k=gx) w (w.setCell ⟨gx,i,none⟩ v):=by
 have l:Mod (fun k=>k=gx) w (w.setCell ⟨gx,i,none⟩ v):=Mod.set _ _ _ _ rfl;have J:∀g,(C 0).ownBlock=some g->g≠gx:=fun g F=>by have:=(h.own.low F).1;have:=h.lx;omega
 refine⟨⟨(h.g.set v aa).congr (fun k _=>CO v hi k),Blk.mod h.c l h.ne,h.m.trans l,?_,h.len,fun j B=>(h.br j B).fQ l h.far,fun j B=> ?_,h.lx,h.lf⟩,l⟩
 .rw[upd_ne (Ne.symm D)];exact h.own.mod l J
 .by_cases e:j=i
  .subst e;rw[upd_same];exact hv
  .rw[upd_ne e];exact h.n32 j B
def MV{l:List BrD}{b i}:(l++[b]).getD i default=if i<l.length then l.getD i default else if i=l.length then b else default:=by
 rw[List.getD_eq_getElem?_getD,List.getD_eq_getElem?_getD];by_cases h:i<l.length
 .rw[if_pos h,List.getElem?_append_left h]
 .rw[if_neg h,List.getElem?_append_right aa];by_cases j:i=l.length
  .rw[if_pos j,j,Nat.sub_self];rfl
  .rw[if_neg j,List.getElem?_eq_none ae];rfl
def Pw{w B0 v k B}(h:mV w B0 v k B):mM v=true:=by
 rcases h with ⟨rfl,_⟩|⟨g',G,B',rfl,_⟩<;>rfl
def Gr0.push(h:Gr0 w0 w gx gf C nb Bv brs){r b H}(N:vC w r b)(K:mV w' w0.heap.size H (nb+1) (upd Bv nb r))(G:Mod (fun g=>(C 0).ownBlock=some g) w w')(Y:w2=w'.setCell ⟨gx,0,none⟩ H):
  Gr0 w0 w2 gx gf (upd C 0 H) (nb+1) (upd Bv nb r) (brs++[b])/\Mod (fun g=>g=gx\/(C 0).ownBlock=some g) w w2/\gG (fun g=>g=gx\/(C 0).ownBlock=some g) w:=by
 subst Y;have B:∀g,(C 0).ownBlock=some g->w0.heap.size<=g:=fun g D=>(h.own.low D).1;have lx:=h.lx;have lf:=h.lf;have J:∀g,(C 0).ownBlock=some g->g≠gx:=fun g D=>by have:=B g D;omega
 have g1:eZ w' gx 105 393 (eO C fun _=>zEn):=h.g.mod G (fun e=>J _ e rfl);have c1:bT w' gf:=Blk.mod h.c G (fun e=>by have:=B _ e;omega);have l:Mod (fun k=>k=gx) w' (w'.setCell ⟨gx,0,none⟩ H):=Mod.set _ _ _ _ rfl;have O:gG (fun k=>k=gx) w':=gG.of g1 (fun k _=>ol h.n32 k) (fun k I=>I);have P:∀g,H.ownBlock=some g->¬g=gx:=fun g D=>by have:=(K.low D).1;omega
 have F:Mod (fun g=>g=gx\/(C 0).ownBlock=some g) w (w'.setCell ⟨gx,0,none⟩ H):=
  ⟨l.os.trans G.os,l.tape.trans G.tape,l.output.trans G.output,Nat.le_trans G.size l.size,fun k I hn=>(l.block k (Nat.lt_of_lt_of_le I G.size) (fun e=>hn (Or.inl e))).trans (G.block k I (fun e=>hn (Or.inr e)))⟩
 have hF:gG (fun g=>g=gx\/(C 0).ownBlock=some g) w:=fun g D Z=>by
  rcases D with D|D
  .exact h.far g D Z
  .exact h.own.far g D Z
 refine⟨⟨(g1.set H aa).congr (fun k _=>CO H aa k),Blk.mod c1 l h.ne,?_,?_,by rw[List.length_append,h.len];rfl,fun i hi=> ?_,fun j M=> ?_,h.lx,h.lf⟩,F,hF⟩
 .exact⟨F.os.trans h.m.os,F.tape.trans h.m.tape,F.output.trans h.m.output,Nat.le_trans h.m.size F.size,fun k I hn=>(F.block k (Nat.lt_of_lt_of_le I h.m.size) (fun e=>by
   rcases e with e|e
   .exact hn e
   .have:=B _ e;omega)).trans (h.m.block k I hn)⟩
 .rw[upd_same];exact K.mod l P
 .rw[MV,h.len];by_cases L:i<nb
  .rw[if_pos L,upd_ne aa];exact(h.br i L).fQ F hF
  .rw[if_neg L,if_pos aa,show i=nb by omega,upd_same];exact N.fQ F hF
 .by_cases e:j=0
  .subst e;rw[upd_same];exact Pw K
  .rw[upd_ne e];exact h.n32 j M
end
def Eo (B:Nat) (PA PB:Option Addr) (j:Nat) (K:Nat->Hd):Prop:=
 (∀b o,PA=some ⟨b,o,none⟩->B<=b)/\(∀b o,PB=some ⟨b,o,none⟩->B<=b)/\∀i,i<j->∀b o,(K i).A=some ⟨b,o,none⟩->B<=b
def jy.mod{S w w' B PA l PB j K p}(h:jy w PA l PB j K p)(hn:Eo B PA PB j K)(m:Mod S w w')(hS:∀g,S g->g<B):jy w' PA l PB j K p:=
 ⟨h.lc,h.closed.mod m (fun b o e hs=>by have:=hn.1 b o e;have:=hS b hs;omega),h.ll,h.rows.mod m (fun b o e hs=>by have:=hn.2.1 b o e;have:=hS b hs;omega),h.lens,fun i hi=>(h.ints i hi).mod m (fun b o e hs=>by have:=hn.2.2 i hi b o e;have:=hS b hs;omega),h.mx⟩
structure Kp3 (w:World) (a b c:Nat) where
 val:World
 ha:val.heap[a]? =w.heap[a]?
 hb:val.heap[b]? =w.heap[b]?
 hc:val.heap[c]? =w.heap[c]?
instance (w:World) (a b c:Nat):Nonempty (Kp3 w a b c):=⟨⟨w,rfl,rfl,rfl⟩⟩
theorem AO{w w':World}{g i v}(h:w'.heap[g]? =w.heap[g]?)(hv:w.cell? ⟨g,i,none⟩=some v):w'.cell? ⟨g,i,none⟩=some v:=by
 unfold World.cell? at hv⊢;simp only[h] at hv⊢;exact hv
def Kp3.a{w a b c i v}(h:w.cell? ⟨a,i,none⟩=some v)(x:Kp3 w a b c):x.val.cell? ⟨a,i,none⟩=some v:=AO x.ha h
def Kp3.b{w a b c i v}(h:w.cell? ⟨b,i,none⟩=some v)(x:Kp3 w a b c):x.val.cell? ⟨b,i,none⟩=some v:=AO x.hb h
def Kp3.of{S w w' a b c}(m:Mod S w w')(la:a<w.heap.size)(lb:b<w.heap.size)(lc:c<w.heap.size)(ha:¬S a)(hb:¬S b)(hc:¬S c):∃x:Kp3 w a b c,w'=x.val:=
 ⟨⟨w',m.block a la ha,m.block b lb hb,m.block c lc hc⟩,rfl⟩
def Ci{w ops rest o a Q}(L:o.guard=none)(s x:Operand)(l:o.op=.call {callee:=.builtin .append,args:= #[s,x],argTypes:= #[96,96]}){B0 k j c v B r}(hs:a.eval s=v)(J:a.eval x=.slice (some ⟨j,0,none⟩) 1 c)(D:mV w B0 v k B)(G:k<=1000)(I:B0<=w.heap.size)(hb:Blk w j 167 r.cs.toArray)(h:∀H w',mV w' B0 H (k+1) (upd B k r)->Mod (fun g=>v.ownBlock=some g) w w'->(∀g,H.ownBlock=some g->v.ownBlock=some g\/g=w.heap.size)->wpList Tryz.prog ops Q rest (a.put o.dst H) w'):
  wpList Tryz.prog ops Q (o::rest) a w:=by
 obtain⟨H,w',K,F,C,M⟩:=Iy D G I hb c o.type;exact Jl L s x _ l hs J K (h H w' F C M)
theorem Cb{PA pn pc PB qn qc K p}(w)(hp:jy w PA pn PB qn K p)(hb:pn<=1000)(hq:qn<=1000)(hk:∀i,i<qn->(K i).n<=1000):
  Calls Tryz.prog 82 #[qg PA pn pc PB qn qc,.bool false] w fun e w'=>∃Wp WI O Ww R,e=.returned (qg Wp pn WI O qn Ww)/\jy w' Wp pn O qn R (resolve 0 p)/\(∀i,i<qn->(R i).n=(K i).n)/\Eo w.heap.size Wp O qn R/\Ext w w':=by
 have D:Hid (Ext w ((w.alloc (.cells #[.slice PA pn pc,.slice PB qn qc] 31)).alloc (.cells #[.slice none 0 0,.slice none 0 0] 31))):=aJ ((Ext.new _ _).trans (Ext.new _ _));have HP:=aJ (hp.ext D.o);clear hp;have WJ:=aJ hk;clear hk;obtain⟨-,Ws,V⟩:=ah2 w 31 #[.slice PA pn pc,.slice PB qn qc] 31 #[.slice none 0 0,.slice none 0 0];unfold qg;go_enter Tryz.func82,Tryz.ntmps82;(go_wp2_with fail);refine(Jc PA pn pc p.closed _ HP.closed HP.lc aa).mono ?_;rintro e w1 ⟨v1,rfl,ho,J⟩;have WW:=aJ (D.trans J);have B:=aJ (HP.ext J);have WB:=aJ (Ws.ext J);have X9:=aJ (V.ext J);obtain⟨A1,c1,rfl,_,_,_⟩:=iT ho;have HO:=aJ (ho.less (base':=w.heap.size) ae);have WG:w.heap.size+1<w1.heap.size:=(V.ext J).lt;have WN:w.heap.size<w1.heap.size:=aa;have k1:=WB.cell;clear J ho HP Ws V;obtain⟨-,Wx⟩:=an1 w1 31 #[.slice A1 pn c1,.slice none 0 0];have WP:=aJ Wx;clear Wx;have Xj:Hid (Ext w1 (w1.alloc (.cells #[.slice A1 pn c1,.slice none 0 0] 31))):=aJ (Ext.new _ _);(go_wp2_with fail);generalize XE:w1.alloc (.cells #[.slice A1 pn c1,.slice none 0 0] 31)=w6 at WP Xj⊢;clear XE;generalize Xz:w1.heap.size=g6 at WP WN WG⊢;have XB:=aJ Xz;clear Xz;clear k1;go_loopw [19] (fun i wr=>∃(k:Nat) (v:Value) (R:Nat->Hd),k<=qn/\i=.int .i64 (k:Int)/\Blk wr g6 31 #[.slice A1 pn c1,v]/\wr.ownsRow (g6+1) 92 1 v k (wQ R k)/\uP wr (g6+1) k R (fun i=>(p.links.getD i []).map (mv 0))/\(∀i,i<k->(R i).n=(K i).n)/\Ext w1 wr) (fun i _=>qn-(intOf i).toNat)
 case atStart=>exact⟨0,_,K,aa,rfl,WP.o,World.ownsRow_nil _ _ _ _,fun i hi=>absurd hi aa,fun i hi=>absurd hi aa,Xj.o⟩
 case round=>
  clear WP Xj;obtain⟨k,v,R,G,rfl,Wx,F,T,Y,J⟩:=hrel;obtain⟨wv,WU⟩:∃wv,wv=wr:=⟨_,rfl⟩;subst WU;obtain⟨Av,cv,rfl,_,_,_⟩:=iT F;have WP:=aJ Wx;have H:=aJ F;have Wq:=aJ T;have WF:=aJ Y;have HX:=aJ J;have Xl:g6<wv.heap.size:=Wx.lt;clear Wx F T Y J;by_cases Wo:k<qn
  .have hd:decide (k<qn)=true:=ae;have Xm:=WJ.o k Wo;obtain⟨pb,WR,I,WX,f0⟩:=(B.ext HX.o).rows.one Wo;have C:Hid ((p.links.getD k []).length=(K k).n):=aJ (B.lens k Wo);have S:=aJ ((B.ext HX.o).ints k Wo);unfold Hd.v at f0;generalize Xd:K k=kh at f0 C S Xm;have WM:Hid ((K k).n=kh.n):=aJ (by rw[Xd]);clear Xd;subst I;generalize Z:p.links.getD k []=l at C S;have HL:=aJ Z;clear Z;have Wz:w.heap.size<wv.heap.size:=aa;have Q:w.heap.size+1<wv.heap.size:=aa;(go_wp2_with fail);refine(Jj kh.A kh.n kh.c l _ S.o C.o aa).mono ?_;rintro e w2 ⟨v3,rfl,WO,P⟩;obtain⟨A3,c3,rfl,_,_,_⟩:=iT WO;have WS:=aJ WO;have W:=aJ P;have WT:=P.size;clear WO P f0;go_wp2_with fail
   go_loopw [27] (fun i wq=>∃t:Nat,t<=kh.n/\i=.int .i64 (t:Int)/\wq.ownsRow wv.heap.size 3 1 (.slice A3 kh.n c3) kh.n ((uL (mv 0) l t).map (.int .i64))/\Mod (fun g=>(Value.slice A3 kh.n c3).ownBlock=some g) w2 wq) (fun i _=>kh.n-(intOf i).toNat)
   case atStart=>exact⟨0,aa,rfl,by rw[Qc];exact WS.o,Mod.refl _ _⟩
   case round=>
    obtain⟨t,ht,rfl,Xx,W9⟩:=hrel;have WY:=aJ Xx;have Xh:=aJ W9;clear Xx W9;by_cases Xg:t<kh.n
    .have Ya:decide (t<kh.n)=true:=ae;have WE:t<l.length:=by have:=C.o;omega
     obtain⟨g3,Xi,WH,Xf,WQ⟩:=WY.form aa;injection WH with Xw _ Xr;subst Xw Xr;obtain⟨q1,q2⟩:=El WY.o Xg (E8 WE);have Wu:=Kw WY.o t (.int .i64 0);have Xe:=zm (f:=mv 0) WE;have N:=Dw (f:=mv 0) WE;generalize l.getD t 0=x at q1 Xe N;have Wu:=aJ Wu;have Xe:=aJ Xe;have N:=aJ N;by_cases P:x=2
     .have dx:((x:Int)==2)=true:=ae;subst P;go_wp2_with fail
      go_roundw
      case rel=>
       refine⟨t+1,aa,au,?_,?_⟩
       .have h1:=Wu.o.1;rw[<-List.map_set (f:=Value.int .i64) (a:=(0:Int))] at h1;rw[<-Xe.o];exact h1
       .exact Xh.trans (Wu.o.2.mono fun k hk=>by rw[hk];rfl)
      case measure=>simp[intOf];omega
     .have dx:((x:Int)==2)=false:=ae;have Xc:=aJ P;clear P;go_wp2_with fail
      go_roundw
      case rel=>exact⟨t+1,aa,au,by rw[N.o (by unfold mv;rw[if_neg Xc.o])];exact WY.o,Xh.o⟩
      case measure=>simp[intOf];omega
    .obtain rfl:t=kh.n:=aa;clear Xg ht;have Wv:Ext wv wr:=W.mod Xh.o (fun g hg=>(WY.lt g hg).1);have XL:=aJ Wv;have U:=WP.ext Wv;have k6:=U.cell;have XO:=U.lt;have WL:=Wv.size;have j:=aJ (dU H.o Wv);clear Wv U;(go_wp2_with (at_builtin;refine dK Cz rfl (.tmp 40) (.tmp 42) rfl (g6+1) _ k (wQ R k) rf (j.alloc _) wr.heap.size 1 1 [.slice A3 kh.n c3] rf (Blk.new _ _ _) rfl AcB aa aa aa ae ?_));intro gA M w7 Xb WV XF Xv;have WK:=dR WV ((WP.ext XL.o).alloc (.cells #[.slice A3 kh.n c3] 92)) (iB j.o aa);have Xa:Mod (fun g=>g=g6\/(Value.slice Av k cv).ownBlock=some g) wr (w7.setCell ⟨g6,1,none⟩ (.slice (some ⟨gA,0,none⟩) (k+1) M)):=((Mod.of (Ext.new _ _)).trans (Mod.grown WV (fun g h=> .inr h))).trans (Mod.only (Only.set w7 g6 1 _) (.inl rfl));have k7:=WK.cell;have f7:=WK.frozen;have WC:Blk (w7.setCell ⟨g6,1,none⟩ (.slice (some ⟨gA,0,none⟩) (k+1) M)) g6 31 #[.slice A1 pn c1,.slice (some ⟨gA,0,none⟩) (k+1) M]:=by simpa using WK.mX 1 (.slice (some ⟨gA,0,none⟩) (k+1) M)
     have Xy:=qp Xb (Only.set w7 g6 1 (.slice (some ⟨gA,0,none⟩) (k+1) M)) (iB Xb aa);have Wy:=aJ WC;have XD:=aJ Xy;have WZ:=aJ Xa;clear WK Xa WC Xy Xb WV XF;go_wp2_with fail
     go_roundw
     case rel=>
      refine⟨k+1,_,upd R k ⟨A3,kh.n,c3⟩,aa,au,Wy.o,?_,fun i hi=> ?_,fun i hi=> ?_,(HX.trans XL.o).mod WZ.o (fun g hg=> ?_)⟩
      .rw[CQ,upd_same,Al (fun i hi=>upd_ne (show i≠k by omega))];exact XD.o
      .by_cases e:i=k
       .subst e;simp only[upd_same,HL.o];rw[<-Fx C.o];refine(jR (WY.less aa) WZ.o fun g hg hS=> ?_);have:=(WY.lt g hg).1;rcases hS with hS|hS
        .omega
        .have:=(H.lt g hS).2;omega
       .rw[upd_ne e];have h1:=dU (Wq.o i aa) XL.o;refine jR h1 WZ.o fun g hg hS=> ?_;rcases hS with hS|hS
        .have:=(h1.lt g hg).1;omega
        .rcases sK h1 j.o aj with h2|h2
         .rw[h2] at hg;cases hg
         .exact h2 (hg.trans hS.symm)
      .by_cases e:i=k
       .subst e;rw[upd_same];exact WM.symm
       .rw[upd_ne e];exact WF.o i aa
      .have:=XB.o;rcases hg with hg|hg
       .omega
       .have:=(H.lt g hg).1;omega
     case measure=>simp[intOf];omega
  .obtain rfl:k=qn:=aa;clear Wo G;have WA:=(X9.ext HX.o);have k6:=WP.cell;have kr:=WA.cell;have fr:=WA.frozen;have Xk:=WA.lt;(go_wp2_with fail);have X3:=fK wv (w.heap.size+1) 0 [.slice A1 pn c1,.slice Av k cv];have r1:=qp (dU HO.o HX.o) X3 (fe (dU HO.o HX.o) WA aj);have r2:=qp (H.less (base':=w.heap.size) aa) X3 (fe H.o WA aj);have r3:uP (puts wv (w.heap.size+1) 0 [.slice A1 pn c1,.slice Av k cv]) w.heap.size k R (fun i=>(resolve 0 p).links.getD i []):=fun i hi=>by
    have h:=Wq.o i hi;have:=qp (h.less (base':=w.heap.size) aa) X3 (fe h WA aj);simp only[ut];exact this
   have XK:=B.ll;obtain⟨Wp,WI,O,Ww,e1,e2,L⟩:=jy.made r1 r2 (p:=resolve 0 p) (by rw[<-XK];simp[resolve]) r3 aa aa (fun i hi=>by rw[WF.o i hi];have:=WJ.o i hi;omega);have Wt:Eo w.heap.size Wp O k R:=by
    refine⟨fun b o e=> ?_,fun b o e=> ?_,fun i hi b o e=> ?_⟩
    .rw[e] at e1;exact(r1.lt b (by rw[e1];rfl)).1
    .rw[e] at e2;exact(r2.lt b (by rw[e2];rfl)).1
    .exact((r3 i hi).lt b (by unfold Hd.v;rw[e];rfl)).1
   refine rA rfl rfl rfl (bY 0 [.slice A1 pn c1,.slice Av k cv] WA) Tryz.underlying31 rfl ah ⟨Wp,WI,O,Ww,R,?_,L,WF.o,Wt,gz (g:=w.heap.size+1) (show w.heap.size<=w.heap.size+1 by omega) 0 [.slice A1 pn c1,.slice Av k cv] (WW.trans HX.o)⟩;rw[<-e1,<-e2];rfl
def jw (C:Nat->Value) (L:Nat->Bool) (i:Nat):Value:=if 15<=i/\i<33 then .bool (L (i-15)) else C i
theorem mH{C L k}(j:k<18):jw C L (15+k)=.bool (L k):=by
 unfold jw;rw[if_pos aa,show 15+k-15=k by omega]
theorem lC{C L i}(h:i<15):jw C L i=C i:=by unfold jw;rw[if_neg aa]
theorem Jo{C L}(h:∀i,i<33->mM (C i)=true)(i)(hi:i<33):mM (jw C L i)=true:=by
 unfold jw;split
 .rfl
 .exact h i hi
theorem MK{C E L k}(B:k<18)(i):upd (eO (jw C L) E) (15+k) (.bool true) i=eO (jw C (upd L k true)) E i:=by
 by_cases h:i=15+k
 .subst h;rw[upd_same,dY aa,mH B,upd_same]
 .rw[upd_ne h];unfold eO;by_cases l:i<33
  .rw[if_pos l,if_pos l];unfold jw;by_cases j:15<=i/\i<33
   .rw[if_pos j,if_pos j,upd_ne aa]
   .rw[if_neg j,if_neg j]
  .rw[if_neg l,if_neg l]
def yU{L n}(j:L n=false):∀k,cnt (upd L n true) k=cnt L k+(if n<k then 1 else 0)
 |0=>rfl
 |k+1=>by
  show cnt (upd L n true) k+(if upd L n true k=true then 1 else 0)=cnt L k+(if L k=true then 1 else 0)+_;rw[yU j k];by_cases h:k=n
  .subst h;rw[upd_same,j,if_pos rfl,if_neg aa,if_neg aj,if_pos aa]
  .rw[upd_ne h];by_cases l:n<k
   .rw[if_pos l,if_pos (show n<k+1 by omega)];omega
   .rw[if_neg l,if_neg (show ¬n<k+1 by omega)];omega
def rV (lb:Bool) (n:Nat) (L:Nat->Bool):Nat->Bool:=if lb=true/\n≠17/\L n=false then upd L n true else L
def mR (L:Nat->Bool) (b:BrD):Bool:=decide (b.b=17)||(L b.a||L b.b)
def stp (b:BrD) (L:Nat->Bool) (j:Nat):Nat->Bool:=if j=0 then L else if j=1 then rV (mR L b) b.a L else rV (mR L b) b.b (rV (mR L b) b.a L)
theorem BF(lb n L k):rV lb n L k=(L k||(lb&&decide (k≠17)&&decide (k=n))):=by
 unfold rV;by_cases h:lb=true/\n≠17/\L n=false
 .rw[if_pos h];by_cases e:k=n
  .subst e;rw[upd_same,h.1];simp[h.2.1]
  .rw[upd_ne e];simp[e]
 .rw[if_neg h];by_cases e:k=n
  .subst e;cases Z:lb
   .simp
   .by_cases B:k=17
    .simp[B]
    .have:L k=true:=by
      cases j:L k with
      |true=>rfl
      |false=>exact absurd ⟨Z,B,j⟩ h
     simp[this]
  .simp[e]
theorem Tc(b L k):stp b L 2 k=qC L b k:=by
 unfold stp qC;rw[if_neg aa,if_neg aa,BF,BF];unfold mR;cases L k<;>cases decide (b.b=17)<;>cases L b.a<;>cases L b.b<;>cases decide (k≠17)<;>cases decide (k=b.a)<;>cases decide (k=b.b)<;>rfl
def wI(b L){j}(B:j<2):stp b L (j+1)=rV (mR L b) (if j=0 then b.a else b.b) (stp b L j):=by
 have l:j=0\/j=1:=aa;rcases l with rfl|rfl<;>rfl
def AQ{lb n L}(h:L 17=false):rV lb n L 17=false:=by rw[BF,h];simp
theorem Ep{b L}(h:L 17=false)(j):stp b L j 17=false:=by
 unfold stp;split
 .exact h
 .split
  .exact AQ h
  .exact AQ (AQ h)
theorem oF{lb n L}(h:lb=false\/n=17\/L n=true):rV lb n L=L:=by
 unfold rV;refine if_neg fun hc=> ?_;rcases h with h|h|h
 .rw[h] at hc;cases hc.1
 .exact hc.2.1 h
 .rw[h] at hc;cases hc.2.2
theorem jX{lb n L}(h:lb=true)(l:n≠17)(j:L n=false):rV lb n L=upd L n true:=by
 unfold rV;exact if_pos ⟨h,l,j⟩
def UU(L):cnt L 18<=18:=Jh 18
structure Rv (w wr:World) (gx:Nat) (C:Nat->Value) (E:Nat->En) (bs:List BrD) (L:Nat->Bool):Prop where
 g:eZ wr gx 105 393 (eO (jw C L) E)
 m:Mod (fun k=>k=gx) w wr
 sub:∀k,L k=true->JoinD bs k
section
variable {w wr wr':World} {gx:Nat} {C:Nat->Value} {E:Nat->En} {bs:List BrD} {L:Nat->Bool}
def Rv.ext(h:Rv w wr gx C E bs L)(x:Ext wr wr'):Rv w wr' gx C E bs L:=⟨h.g.ext x,h.m.trans (Mod.of x),h.sub⟩
def Rv.set(h:Rv w wr gx C E bs L){n}(hn:n<18)(l:JoinD bs n):Rv w (wr.setCell ⟨gx,15+n,none⟩ (.bool true)) gx C E bs (upd L n true):=by
 refine⟨(h.g.set (.bool true) aa).congr (fun k _=>MK hn k),h.m.trans (Mod.set _ _ _ _ rfl),fun k j=> ?_⟩;by_cases e:k=n
 .subst e;exact l
 .rw[upd_ne e] at j;exact h.sub k j
theorem II{b}(hb:b∈bs)(hs:∀k,L k=true->JoinD bs k)(B:L 17=false)(h:mR L b=true):JoinD bs b.a:=by
 unfold mR at h;simp only[Bool.or_eq_true,decide_eq_true_eq] at h;rcases h with h|h|h
 .exact .neutral b hb h
 .exact hs _ h
 .exact .fro b hb (fun e=>by rw[e,B] at h;cases h) (hs _ h)
theorem Ik{b}(hb:b∈bs)(hs:∀k,L k=true->JoinD bs k)(B:L 17=false)(h:mR L b=true)(hn:b.b≠17):JoinD bs b.b:=by
 unfold mR at h;simp only[Bool.or_eq_true,decide_eq_true_eq] at h;rcases h with h|h|h
 .exact absurd h hn
 .exact .fwd b hb hn (hs _ h)
 .exact hs _ h
end
structure Rnd (bs:List BrD) (Lr L:Nat->Bool) (ch:Bool) (i:Nat):Prop where
 no:ch=false->L=Lr/\∀j,j<i->∀n,qC Lr (bs.getD j default) n=Lr n
 yes:ch=true->cnt Lr 18<cnt L 18
def Rnd.le{bs l L j i}(h:Rnd bs l L j i):cnt l 18<=cnt L 18:=by
 cases hc:j with
 |false=>rw[(h.no hc).1];exact Nat.le_refl _
 |true=>exact Nat.le_of_lt (h.yes hc)
def Rnd.next{bs l L C D i b}(h:Rnd bs l L C i)(hb:bs.getD i default=b)(Z:cnt l 18<=cnt (stp b L 2) 18)(hn:D=false->C=false/\stp b L 2=L)(R:D=true->cnt l 18<cnt (stp b L 2) 18):Rnd bs l (stp b L 2) D (i+1):=by
 refine⟨fun hc=> ?_,R⟩;obtain⟨H,F⟩:=hn hc;obtain⟨B,G⟩:=h.no H;refine⟨F.trans B,fun j I n=> ?_⟩;by_cases e:j=i
 .subst e;rw[hb,<-B,<-Tc,F]
 .exact G j aa n
def SC{a b:Nat}{j:Nat}(B:j<2)(w):Sem.run Tryz.prog (Instr.index 64 (.agg #[.int .i64 (a:Int),.int .i64 (b:Int)]) (.int .i64 (j:Int))) w=.ok (.int .i64 ((if j=0 then a else b:Nat):Int)) w:=by
 have l:j=0\/j=1:=aa;rcases l with rfl|rfl<;>simp[Instr.index,run_underlying Tryz.underlying64,asIntOf,go_sem,Tryz.isAgg3,Tryz.sizeOf3,part]
theorem Py(gx nb cb C E A Bv bs w)(hg:eZ w gx 105 393 (eO C E))(hn:rH w C A nb cb Bv bs (fun _=>false))(Xi:∀i,i<33->mM (C i)=true)(hA:∀b o,A=some ⟨b,o,none⟩->b≠gx):
  Calls Tryz.prog 83 #[.pointer (some ⟨gx,0,none⟩)] w fun e w'=>e=.returned (.tuple #[])/\eZ w' gx 105 393 (eO (jw C (lv bs)) E)/\Mod (fun k=>k=gx) w w':=by
 have HG:=aJ hg;have HN:=aJ hn;have XZ:=aJ Xi;have HA:=aJ hA;have Xk:Hid (Rv w w gx C E bs (fun _=>false)):=aJ ⟨hg.congr (fun k _=>by
  unfold eO;by_cases h:k<33
  .rw[if_pos h,if_pos h];unfold jw;by_cases h2:15<=k/\k<33
   .rw[if_pos h2,<-hn.live (k-15) aa,show 15+(k-15)=k by omega]
   .rw[if_neg h2]
  .rw[if_neg h,if_neg h]),Mod.of (Ext.refl _),fun k hk=>by cases hk⟩
 clear hg hn Xi hA;go_enter Tryz.func83,Tryz.ntmps83;go_wp2_with fail
 go_loopg [2] 40 (fun gk cv wr=>∃(L:Nat->Bool) (ch:Bool),cv=.bool ch/\Rv w wr gx C E bs L/\L 17=false/\(ch=true->37<=gk+2*cnt L 18)/\(ch=false->36<=gk+2*cnt L 18/\∀j,j<nb->∀n,qC L (bs.getD j default) n=L n))
 case atStart=>exact⟨_,true,rfl,Xk.o,rfl,fun _=>aa,fun h=>by cases h⟩
 case round=>
  clear Xk;obtain⟨L,ch,rfl,hR,B,Xo,WN⟩:=hrel;have Q:=aJ hR;have Xr:=aJ B;have Xj:=aJ Xo;have Xd:=aJ WN;clear hR B Xo WN;cases ch with
  |false=>
   have WV:=aJ (Xd.o rfl);clear Xd Xj;(go_wp2_with fail);have hL:L=lv bs:=Vr HN.ok (xy.of Xr.o (fun b hb n=>by
    obtain⟨j,hj,e⟩:=List.getElem_of_mem hb;have:=WV.o.2 j (by have:=HN.len;omega) n;rw[List.getD_eq_getElem?_getD,List.getElem?_eq_getElem hj] at this;simpa[e] using this)) Q.sub
   refine bodyPost_end (results_none rfl _ _ _) rfl ⟨rfl,by rw[<-hL];exact Q.g,Q.m⟩
  |true=>
   have WJ:=aJ (Xj.o rfl);clear Xd Xj;have Xq:=Q.g.cell_ (k:=0) aa ((dY aa).trans ((lC aa).trans HN.br));(go_wp2_with fail);clear Xq;go_loopw [2,14] (fun cv iv wz=>∃(i:Nat) (O:Nat->Bool) (ch:Bool),i<=nb/\iv=.int .i64 i/\cv=.bool ch/\Rv w wz gx C E bs O/\O 17=false/\Rnd bs L O ch i) (fun _ iv _=>nb-(intOf iv).toNat)
   case atStart=>exact⟨0,L,false,aa,rfl,rfl,Q.o,Xr.o,fun _=>⟨rfl,fun j hj=>aa⟩,fun h=>by cases h⟩
   case round=>
    rename World=>wz;obtain⟨i,O,ch,hi,rfl,rfl,Xe,Xg,Xx⟩:=hrel;have Wt:=aJ Xe;have N:=aJ Xg;have R:=aJ Xx;clear Xe Xg Xx;by_cases Wo:i<nb
    .have hd:decide ((i:Int)<(nb:Int))=true:=ae;obtain⟨bA,oA,hA,Xa,Xt⟩:=HN.arr aa;subst hA;have Xn:bA≠gx:=HA.o _ _ rfl;have XT:=aJ (show wz.rangeAt bA (oA+i*20) (Bv i).cs from fun j v hv=>by
      have h1:=Xt i Wo j v hv;unfold World.cell? at h1⊢;simp only[Wt.o.m.block bA Xa Xn] at h1⊢;exact h1)
     clear Xt Xa Xn;(iterate 21 (try (first|go_values|go_skip|go_guarded|go_step|go_upon|go_in|go_back|go_simp)));refine wpList_load_mid rfl 167 _ rfl bA (oA+i*20) rf (Bv i).cs _ XT.o Tryz.underlying167 rfl vY ?_;refine eG rfl 167 rfl _ Lu ?_;intro wd Xb;refine aT rfl 167 (.tmp 4) (.tmp 17) rfl wz.heap.size 0 (Bv i).cs rf rf Ac5 vY (Ji _) ?_;intro we Xc;refine Qp ?_;have WA:Blk wd wz.heap.size 167 zBr:=by rw[Xb];exact Blk.new _ _ _
     have H:Ext wz wd:=by rw[Xb];exact Ext.new _ _
     have P:Ext wz we:=by rw[Xc];exact gz (Nat.le_refl _:Own wz wz.heap.size) 0 _ H
     have Wz:Blk we wz.heap.size 167 (Bv i).cs.toArray:=by rw[Xc];exact OD WA
     have J:=aJ Wz;replace Wt:=Wt.aA P;clear Xb Xc WA H P Wz;generalize wz.heap.size=WS at J⊢;have Xm:wrap64 ((i:Int)+1)=(i:Int)+1:=IntWalk.wrap64_in _ (by have:=HN.len;have:=HN.l23;omega);have WC:=aJ Xm;clear Xm;have hm:bs.getD i default∈bs:=Bj (by have:=HN.len;omega);have WB:=HN.ok _ hm;have Wq:=HN.ab i Wo;obtain⟨b,Xh⟩:∃b,bs.getD i default=b:=⟨_,rfl⟩;rw[Xh] at hm WB Wq;have Xf:=aJ Xh;have HM:=aJ hm;have WG:=aJ WB;have WO:=aJ Wq;clear WB Wq hm Xh;have XB:b.a<17:=WG.a;have X7:b.b<=17:=WG.b;have WX:we.cell? ⟨WS,0,none⟩=some (.int .i64 (b.a:Int)):=(J.cell 0).trans (by rw[<-WO.o.1];rfl);have WW:we.cell? ⟨WS,1,none⟩=some (.int .i64 (b.b:Int)):=(J.cell 1).trans (by rw[<-WO.o.2];rfl);have WR:=Wt.g.cell_ (k:=15+b.a) aa ((dY aa).trans (mH aa));have WU:=Wt.g.cell_ (k:=15+b.b) aa ((dY aa).trans (mH aa));have p1:(0:Int)<=(b.a:Int):=aa;have p2:(b.a:Int)<18:=aa;have p3:(0:Int)<=(b.b:Int):=aa;have p4:(b.b:Int)<18:=aa;by_cases hb:b.b=17
     .have hq:((b.b:Int)==17)=true:=by rw[hb];rfl
      have WM:=aJ hb;clear hb;have S:=aJ Wt.o;have Wx:Hid (mR O b=true):=aJ (by unfold mR;simp[WM.o]);exact Aab
     .have hq:((b.b:Int)==17)=false:=ae;have WM:=aJ hb;clear hb;cases XA:O b.a with
      |true=>
       rw[XA] at WR;have S:=aJ Wt.o;have Wx:Hid (mR O b=true):=aJ (by unfold mR;simp[XA]);exact Aab
      |false=>
       rw[XA] at WR;cases Wy:O b.b with
       |true=>
        rw[Wy] at WU;have S:=aJ Wt.o;have Wx:Hid (mR O b=true):=aJ (by unfold mR;simp[Wy]);exact Aab
       |false=>
        rw[Wy] at WU;have S:=aJ Wt.o;have Wx:Hid (mR O b=false):=aJ (by unfold mR;simp[XA,Wy,WM.o]);(go_wp2_with fail);go_quiet (fail);generalize K:we.drewN nq=wq;have Wv:Ext we wq:=by rw[<-K];exact(Ext.refl _).drewN _
        replace Wt:=Wt.aA Wv;replace J:=J.aA Wv;clear Wv K WX WW WR WU;have WX:wq.cell? ⟨WS,0,none⟩=some (.int .i64 (b.a:Int)):=(J.cell 0).trans (by rw[<-WO.o.1];rfl);have WW:wq.cell? ⟨WS,1,none⟩=some (.int .i64 (b.b:Int)):=(J.cell 1).trans (by rw[<-WO.o.2];rfl);clear hq J;(go_wp2_with fail);clear WX WW;go_loopw [2,44] (fun cv jv wx=>∃(j:Nat) (D:Bool),j<=2/\jv=.int .i64 j/\cv=.bool D/\Rv w wx gx C E bs (stp b O j)/\cnt L 18<=cnt (stp b O j) 18/\(D=false->ch=false/\stp b O j=O)/\(D=true->cnt L 18<cnt (stp b O j) 18)) (fun _ jv _=>2-(intOf jv).toNat)
        case atStart=>exact⟨0,ch,aa,rfl,rfl,Wt.o,R.le,fun h=>⟨h,rfl⟩,R.yes⟩
        case round=>
         rename World=>wx;obtain⟨j,D,hj,rfl,rfl,WE,G,Wp,WH⟩:=hrel;have V:=aJ WE;have Ww:=aJ G;have Wu:=aJ Wp;have W:=aJ WH;clear WE G Wp WH Wt;by_cases Ws:j<2
         .have WP:decide ((j:Int)<2)=true:=ae;have WQ:=SC (a:=b.a) (b:=b.b) Ws wx;obtain⟨n,hn⟩:∃n,(if j=0 then b.a else b.b)=n:=⟨_,rfl⟩;rw[hn] at WQ;have WZ:n<=17:=by rw[<-hn];split<;>omega
          have I:=wI b O Ws;rw[hn,Wx.o] at I;have l:=aJ I;have WY:=aJ hn;clear I hn;have T:=aJ (oF (lb:=false) (n:=n) (L:=stp b O j) (Or.inl rfl));go_wp2_with fail
          go_roundw
          case rel=>exact⟨j+1,D,aa,au,rfl,by rw[l.o,T.o];exact V.o,by rw[l.o,T.o];exact Ww.o,fun h=>by rw[l.o,T.o];exact Wu.o h,fun h=>by rw[l.o,T.o];exact W.o h⟩
          case measure=>simp[intOf];omega
         .obtain rfl:j=2:=aa;have WP:decide ((2:Int)<2)=false:=aj
          go_wp2_with fail
          go_roundw
          case rel=>exact⟨i+1,stp b O 2,D,aa,by rw[WC.o];rfl,rfl,V.o,Ep N.o 2,R.next Xf.o Ww.o (Wu.o) (W.o)⟩
          case measure=>rw[WC.o];simp[intOf];omega
    .obtain rfl:i=nb:=aa;have hd:decide ((i:Int)<(i:Int))=false:=ag
     go_wp2_with fail
     go_roundg (gk-1)
     case measure=>have:=WJ.o;have:=UU L;omega
     case rel=>exact⟨O,ch,rfl,Wt.o,N.o,fun hc=>by have:=R.yes hc;have:=WJ.o;omega,fun hc=>⟨by have h1:=(R.no hc).1;rw[h1];have:=WJ.o;omega,fun j hj n=>by have h1:=(R.no hc).1;rw[h1];exact(R.no hc).2 j hj n⟩⟩
def ny (W:World) (B0:Nat) (v0:Value) (gB gH:Nat) (v:Value) (o:Option BrD):Prop:=
 match o with
 |none=>v=.pointer none
 |some b=>∃(g k:Nat) (bv:BrV),v=.pointer (some ⟨g,k,none⟩)/\B0<=g/\v0.ownBlock≠some g/\g≠gB/\g≠gH/\g<W.heap.size/\(∀t u,bv.cs[t]? =some u->W.cell? ⟨g,k+t,none⟩=some u)/\vC W bv b
section
variable {W W':World} {B0:Nat} {v0 v1:Value} {gB gH:Nat} {v:Value} {o:Option BrD}
def ny.ext(h:ny W B0 v0 gB gH v o)(x:Ext W W'):ny W' B0 v0 gB gH v o:=by
 cases o with
 |none=>exact h
 |some b=>
  obtain⟨g,k,bv,H,D,F,G,l,I,j,B⟩:=h;exact⟨g,k,bv,H,D,F,G,l,Nat.lt_of_lt_of_le I x.size,fun t u C=>x.cell_ (j t u C),B.ext x⟩
def vM{S}(m:Mod S W W'){g i u}(Z:g<W.heap.size)(hS:¬S g)(h:W.cell? ⟨g,i,none⟩=some u):W'.cell? ⟨g,i,none⟩=some u:=AO (m.block g Z hS) h
def ny.mod{S}(h:ny W B0 v0 gB gH v o)(m:Mod S W W')(G:gG S W)(hS:∀g,S g->g<B0\/v0.ownBlock=some g\/g=gB\/g=gH):ny W' B0 v0 gB gH v o:=by
 cases o with
 |none=>exact h
 |some b=>
  obtain⟨g,k,bv,J,F,j,B,l,C,H,I⟩:=h;have hn:¬S g:=fun e=>by
   rcases hS g e with e|e|e|e
   .omega
   .exact j e
   .exact B e
   .exact l e
  exact⟨g,k,bv,J,F,j,B,l,Nat.lt_of_lt_of_le C m.size,fun t u D=>vM m C hn (H t u D),I.fQ m G⟩
def ny.own(h:ny W B0 v0 gB gH v o)(hv:∀g,v1.ownBlock=some g->v0.ownBlock=some g\/W.heap.size<=g):ny W B0 v1 gB gH v o:=by
 cases o with
 |none=>exact h
 |some b=>
  obtain⟨g,k,bv,G,C,D,F,l,H,j,B⟩:=h;refine⟨g,k,bv,G,C,fun e=> ?_,F,l,H,j,B⟩;rcases hv g e with e|e
  .exact D e
  .omega
def ny.V6(h:ny W B0 v0 gB gB v o)(x:Ext W W'){g}(J:W.heap.size<=g):ny W' B0 v0 gB g v o:=by
 cases o with
 |none=>exact h
 |some b=>
  obtain⟨g',k,bv,G,C,D,F,I,H,j,l⟩:=h;exact⟨g',k,bv,G,C,D,F,aa,Nat.lt_of_lt_of_le H x.size,fun t u B=>x.cell_ (j t u B),l.ext x⟩
def ny.is(h:ny W B0 v0 gB gH v o){X}(L:X<B0):nE W X v o:=by
 cases o with
 |none=>exact h
 |some b=>
  obtain⟨g,k,bv,B,F,G,H,D,C,l,j⟩:=h;exact⟨g,k,bv,B,aa,C,l,j.pa,j.pb,j.z0,j.z1,j.e⟩
def ny.low(h:ny W B0 v0 gB gH v o){g k}(e:v=.pointer (some ⟨g,k,none⟩)):B0<=g:=by
 cases o with
 |none=>have h:v=.pointer none:=h;rw[h] at e;injection e with e;cases e
 |some b=>
  obtain⟨g',B,bv,j,l,_⟩:=h;rw[j] at e;injection e with e;injection e with e;injection e with e _ _;omega
def ny.of{g bv b}(hb:Blk W g 167 bv.cs.toArray)(hi:vC W bv b)(l:B0<=g)(D:v0.ownBlock≠some g)(B:g≠gB)(C:g≠gH):ny W B0 v0 gB gH (.pointer (some ⟨g,0,none⟩)) (some b):=
 ⟨g,0,bv,rfl,l,D,B,C,hb.lt,fun t u j=>by rw[Nat.zero_add,hb.cell,List.getElem?_toArray];exact j,hi⟩
end
structure Gs (w W:World) (gx gf gB gH:Nat) (C:Nat->Value) (Bv:Nat->BrV) (brs:List BrD) (n:Nat) (wv:Nat->Value) (wd:Nat->Option BrD):Prop where
 r:Gr0 w W gx gf C brs.length Bv brs
 c13:C 13=.slice (some ⟨gB,0,none⟩) n n
 bB:eZ W gB 165 n wv
 lB:w.heap.size<=gB
 wy:∀j,j<n->ny W w.heap.size (C 0) gB gH (wv j) (wd j)
section
variable {w W W':World} {gx gf gB gH n:Nat} {C:Nat->Value} {Bv:Nat->BrV} {brs:List BrD} {wv:Nat->Value} {wd:Nat->Option BrD}
def Gs.ext(h:Gs w W gx gf gB gH C Bv brs n wv wd)(x:Ext W W'):Gs w W' gx gf gB gH C Bv brs n wv wd:=
 ⟨h.r.ext x,h.c13,h.bB.ext x,h.lB,fun j l=>(h.wy j l).ext x⟩
def mV.ne{v k B0}(h:mV W B0 v k Bv){g t cs}(hb:Blk W g t cs)(j:t≠167):v.ownBlock≠some g:=fun e=>by
 rcases h with ⟨rfl,_⟩|⟨g',G,B',rfl,_,_,l,_⟩
 .cases e
 .have:g'=g:=by simpa[Value.ownBlock] using e
  subst this;exact Blk.fO hb l j rfl
def Gs.set(h:Gs w W gx gf gB gH C Bv brs n wv wd){i v}(hi:i<33)(D:i≠0)(B:i≠13)(hv:mM v=true)(Y:W'=W.setCell ⟨gx,i,none⟩ v):Gs w W' gx gf gB gH (upd C i v) Bv brs n wv wd/\Mod (fun k=>k=gx) W W':=by
 subst Y;obtain⟨H,l⟩:=h.r.set v hi D hv;have lx:=h.r.lx;have lB:=h.lB;refine⟨⟨H,by rw[upd_ne (Ne.symm B)];exact h.c13,h.bB.mod l aa,lB,fun j G=> ?_⟩,l⟩;rw[upd_ne (Ne.symm D)];exact(h.wy j G).mod l h.r.far (fun g F=> .inl (by have F:g=gx:=F;omega))
def Gs.VQ(h:Gs w W gx gf gB gH C Bv brs n wv wd)(hn:∀j,j<n->mM (wv j)=true):gG (fun k=>k=gB) W:=gG.of h.bB (fun k l=>hn k l) (fun k l=>l)
def ny.mM{B0:Nat}{v0:Value}{v:Value}{o:Option BrD}(h:ny W B0 v0 gB gH v o):mM v=true:=by
 cases o with
 |none=>have h:v=.pointer none:=h;rw[h];rfl
 |some b=>obtain⟨g,k,bv,j,_⟩:=h;rw[j];rfl
def Gs.ptr(h:Gs w W gx gf gB gH C Bv brs n wv wd){i v}{o:Option BrD}(hi:i<n)(hv:ny W w.heap.size (C 0) gB gH v o)(Y:W'=W.setCell ⟨gB,i,none⟩ v):Gs w W' gx gf gB gH C Bv brs n (upd wv i v) (upd wd i o)/\Mod (fun k=>k=gB) W W'/\gG (fun k=>k=gB) W:=by
 subst Y;have B:Mod (fun k=>k=gB) W (W.setCell ⟨gB,i,none⟩ v):=Mod.set _ _ _ _ rfl;have D:=h.VQ (fun j F=>(h.wy j F).mM);have lB:=h.lB;refine⟨⟨h.r.mod B (fun k G=>by have G:k=gB:=G;omega) D (fun g l e=> ?_),h.c13,h.bB.set v hi,lB,fun j F=> ?_⟩,B,D⟩
 .have e:g=gB:=e;subst e;exact h.r.own.ne h.bB aj l
 .by_cases e:j=i
  .subst e;rw[upd_same,upd_same];exact hv.mod B D (fun g l=> .inr (.inr (.inl l)))
  .rw[upd_ne e,upd_ne e];exact(h.wy j F).mod B D (fun g l=> .inr (.inr (.inl l)))
def Gs.push{W2}(h:Gs w W gx gf gB gH C Bv brs n wv wd){r b H}(V:vC W r b)(N:mV W' w.heap.size H (brs.length+1) (upd Bv brs.length r))(O:Mod (fun g=>(C 0).ownBlock=some g) W W')(hv:∀g,H.ownBlock=some g->(C 0).ownBlock=some g\/g=W.heap.size)(Y:W2=W'.setCell ⟨gx,0,none⟩ H):
  Gs w W2 gx gf gB gH (upd C 0 H) (upd Bv brs.length r) (brs++[b]) n wv wd/\Mod (fun g=>g=gx\/(C 0).ownBlock=some g) W W2/\gG (fun g=>g=gx\/(C 0).ownBlock=some g) W:=by
 obtain⟨h1,B,I⟩:=h.r.push V N O Y;have lx:=h.r.lx;have lB:=h.lB;have Z:(brs++[b]).length=brs.length+1:=ag;refine⟨⟨by rw[Z];exact h1,by rw[upd_ne aj];exact h.c13,h.bB.mod B (fun e=> ?_),lB,fun j F=> ?_⟩,B,I⟩
 .rcases e with e|e
  .omega
  .exact h.r.own.ne h.bB aj e
 .rw[upd_same];have K:=((h.wy j F).own (v1:=H) (fun g T=>(hv g T).imp id (fun e=>aa)));cases J:wd j with
  |none=>have D:=h.wy j F;rw[J] at D;exact D
  |some d=>
   have D:=h.wy j F;rw[J] at K D;obtain⟨g,k,bv,L,e2,e3,S,P,G,Q,U⟩:=K;obtain⟨g',k',l,q1,q2,R,_⟩:=D;rw[L] at q1;injection q1 with q1;injection q1 with q1;injection q1 with q1 _ _;subst q1;have hn:¬(g=gx\/(C 0).ownBlock=some g):=fun e=>by
    rcases e with e|e
    .omega
    .exact R e
   exact⟨g,k,bv,L,e2,e3,S,P,Nat.lt_of_lt_of_le G B.size,fun t u M=>vM B G hn (Q t u M),U.fQ B I⟩
def Gs.older(h:Gs w W gx gf gB gH C Bv brs n wv wd){wa}(x:Ext wa w)(Z:wa.heap.size<=gx):Ext wa W:=fw x h.r.m (fun k j=>by have j:k=gx:=j;omega)
end
theorem OM{s p}(h:kQ s p=0):kQ s (resolve 0 p)=0:=by
 have Z:∀i,((resolve 0 p).links.getD i [])=(p.links.getD i []).map (mv 0):=fun i=>ut 0 p i;have l:(resolve 0 p).links.length=p.links.length:=by simp[resolve]
 have j:(resolve 0 p).closed=p.closed:=rfl;unfold kQ at h⊢;rw[l,j];split at h
 .rename_i G
  rw[if_pos G];split at h
  .rename_i B
   rw[if_pos (by
    rw[List.all_eq_true] at B⊢;intro i hi;have:=B i hi;rw[Z,List.length_map];exact this)]
   split at h
   .rename_i C
    rw[if_pos (by
     rw[List.all_eq_true] at C⊢;intro i hi;have D:=C i hi;rw[List.all_eq_true] at D⊢;rw[Z];intro x J;obtain⟨y,R,rfl⟩:=List.mem_map.1 J;have F:=D y R;unfold mv;split
     .unfold nK at F⊢;simp_all
     .exact F)]
   .exact absurd h aj
  .exact absurd h aj
 .exact absurd h aj
def Fw{s p i b}(h:iV s p i=some b):gQ s p (i+1)=gQ s p i++[b]:=by
 show gQ s p i++(iV s p i).toList=_;rw[h];rfl
def Fz{s p i}(h:iV s p i=none):gQ s p (i+1)=gQ s p i:=by
 show gQ s p i++(iV s p i).toList=_;rw[h];simp
theorem BZ{s p i}(h:nP s p i=false):iV s p i=none:=by
 unfold iV;simp only[];rw[if_neg (by rw[h];decide)]
theorem Ai{s p i l e}(h:nP s p i=false):rJ s p l e i=false:=by
 unfold rJ;rw[h];rfl
theorem JC{s p i l e}(h:(s.bays.getD i default).kind≠1):rJ s p l e i=false:=by
 unfold rJ;rw[decide_eq_false h];simp
def wd0 (s:StD) (p:dC) (k j:Nat):Option BrD:=if j<k then iV s p j else none
structure Bt (w W:World) (gx gf gB g7 g8 g9:Nat) (ST PO FL:Array Value) (C:Nat->Value) (Bv:Nat->BrV) (wv:Nat->Value) (s:StD) (p:dC) (i k:Nat):Prop where
 g:Gs w W gx gf gB gB C Bv (gQ s p i) s.bays.length wv (wd0 s p k)
 b7:Blk W g7 27 ST
 b8:Blk W g8 31 PO
 b9:Blk W g9 33 FL
 ends:∀l e,l<6->e<2->C (1+2*l+e)=.int .i64 (Ca s p l e i:Nat)
 c14:C 14=.int .i64 0
 liv:∀k,k<18->C (15+k)=.bool false
section
variable {w W W' W2:World} {gx gf gB g7 g8 g9:Nat} {ST PO FL:Array Value} {C:Nat->Value} {Bv:Nat->BrV} {wv:Nat->Value} {s:StD} {p:dC} {i k:Nat}
def Bt.ext(h:Bt w W gx gf gB g7 g8 g9 ST PO FL C Bv wv s p i k)(x:Ext W W'):Bt w W' gx gf gB g7 g8 g9 ST PO FL C Bv wv s p i k:=
 ⟨h.g.ext x,h.b7.ext x,h.b8.ext x,h.b9.ext x,h.ends,h.c14,h.liv⟩
def Gs.congr{n gH brs}{wd l:Nat->Option BrD}(h:Gs w W gx gf gB gH C Bv brs n wv wd)(e:∀j,j<n->wd j=l j):Gs w W gx gf gB gH C Bv brs n wv l:=
 ⟨h.r,h.c13,h.bB,h.lB,fun j B=>by rw[<-e j B];exact h.wy j B⟩
theorem Qx{j}(hb:iV s p k=none):wd0 s p k j=wd0 s p (k+1) j:=by
 unfold wd0;by_cases l:j<k
 .rw[if_pos l,if_pos aa]
 .by_cases B:j=k
  .subst B;rw[if_neg l,if_pos aa,hb]
  .rw[if_neg l,if_neg aa]
theorem PE{j b}(hb:iV s p k=some b):upd (wd0 s p k) k (some b) j=wd0 s p (k+1) j:=by
 by_cases l:j=k
 .subst l;rw[upd_same];unfold wd0;rw[if_pos aa,hb]
 .rw[upd_ne l];unfold wd0;by_cases B:j<k
  .rw[if_pos B,if_pos aa]
  .rw[if_neg B,if_neg aa]
def Cr{l e}(h:rJ s p l e i=false):Ca s p l e (i+1)=Ca s p l e i:=by
 show(if rJ s p l e i=true then kT s p i else Ca s p l e i)=_;rw[h,if_neg aj]
def Bt.skip(h:Bt w W gx gf gB g7 g8 g9 ST PO FL C Bv wv s p i i)(hb:iV s p i=none)(O:∀l e,rJ s p l e i=false):Bt w W gx gf gB g7 g8 g9 ST PO FL C Bv wv s p (i+1) (i+1):=
 ⟨by rw[Fz hb];exact h.g.congr fun j _=>Qx hb,h.b7,h.b8,h.b9,fun l e Z B=>by rw[Cr (O l e)];exact h.ends l e Z B,h.c14,h.liv⟩
def Bt.ptr(h:Bt w W gx gf gB g7 g8 g9 ST PO FL C Bv wv s p i i)(hi:i<s.bays.length){b}(hb:iV s p i=some b){v}(hv:ny W w.heap.size (C 0) gB gB v (some b))(Y:W'=W.setCell ⟨gB,i,none⟩ v):Bt w W' gx gf gB g7 g8 g9 ST PO FL C Bv (upd wv i v) s p i (i+1)/\Mod (fun k=>k=gB) W W'/\gG (fun k=>k=gB) W:=by
 obtain⟨D,l,B⟩:=h.g.ptr hi hv Y;exact⟨⟨D.congr fun j _=>PE hb,h.b7.mod l (Blk.fO h.b7 h.g.bB aj),h.b8.mod l (Blk.fO h.b8 h.g.bB aj),h.b9.mod l (Blk.fO h.b9 h.g.bB aj),h.ends,h.c14,h.liv⟩,l,B⟩
def Bt.push(h:Bt w W gx gf gB g7 g8 g9 ST PO FL C Bv wv s p i (i+1)){b}(hb:iV s p i=some b)(O:∀l e,rJ s p l e i=false){r H}(G:vC W r b)(B:mV W' w.heap.size H ((gQ s p i).length+1) (upd Bv (gQ s p i).length r))(D:Mod (fun g=>(C 0).ownBlock=some g) W W')(hv:∀g,H.ownBlock=some g->(C 0).ownBlock=some g\/g=W.heap.size)(Y:W2=W'.setCell ⟨gx,0,none⟩ H):
  Bt w W2 gx gf gB g7 g8 g9 ST PO FL (upd C 0 H) (upd Bv (gQ s p i).length r) wv s p (i+1) (i+1):=by
 obtain⟨I,j,J⟩:=h.g.push G B D hv Y;refine⟨by rw[Fw hb];exact I,h.b7.mod j ?_,h.b8.mod j ?_,h.b9.mod j ?_,fun l e Z j=> ?_,?_,fun k F=> ?_⟩
 .rintro(e|e)
  .exact Blk.fO h.b7 h.g.r.g aj e
  .exact h.g.r.own.ne h.b7 aj e
 .rintro(e|e)
  .exact Blk.fO h.b8 h.g.r.g aj e
  .exact h.g.r.own.ne h.b8 aj e
 .rintro(e|e)
  .exact Blk.fO h.b9 h.g.r.g aj e
  .exact h.g.r.own.ne h.b9 aj e
 .rw[upd_ne aa,Cr (O l e)];exact h.ends l e Z j
 .rw[upd_ne aa];exact h.c14
 .rw[upd_ne aa];exact h.liv k F
end
structure BG (w W:World) (gx gf:Nat) (C:Nat->Value) (Bv:Nat->BrV) (s:StD) (p:dC) (f:dQ):Prop where
 r:Gr0 w W gx gf C (cZ s p f).length Bv (cZ s p f)
 ends:∀l e,l<6->e<2->C (1+2*l+e)=.int .i64 (mD s p l e:Nat)
 c14:C 14=.int .i64 (fH s p f:Nat)
 liv:∀k,k<18->C (15+k)=.bool false
 bays:∃(gB:Nat) (wv:Nat->Value),C 13=.slice (some ⟨gB,0,none⟩) s.bays.length s.bays.length/\w.heap.size<=gB/\eZ W gB 165 s.bays.length wv/\∀i,i<s.bays.length->nE W gx (wv i) (way s p f i)/\∀g k,wv i=.pointer (some ⟨g,k,none⟩)->w.heap.size<=g
def ND:(Tryz.prog.info? 165).map (fun i=>(i.zero,i.size,i.bytes))=some (some (.pointer none),1,8):=ah
theorem Ml(n:Nat)(hn:n<=1000)(W:World):(Instr.makeSlice 98 (.int .i64 n) (.int .i64 n)).run Tryz.prog W=.ok (.slice (some ⟨W.heap.size,0,none⟩) n n) (W.alloc (.cells (ofC n fun _=> .pointer none) 165)):=by
 obtain⟨i0,U,B,l,j⟩:=info_parts ND;have h:=run_make (P:=Tryz.prog) W 98 165 i0 (.pointer none) Tryz.underlying98 U B .i64 .i64 n n aa aa Abt aa;rw[h,l];have e:=pE [Value.pointer none] aj n;have C:(nA n [Value.pointer none]).toArray=ofC n fun _=>Value.pointer none:=by
  apply Array.ext';unfold nA ofC;simp[List.flatMap,List.map_const']
 rw[C] at e;simp only[Int.toNat_natCast];rw[show(Value.pointer none).cells=[Value.pointer none].toArray from rfl];exact congrArg (fun c=>Result.ok (Value.slice (some ⟨W.heap.size,0,none⟩) n n) (W.alloc (.cells c 165))) e
def oo:Op->Bool
 | .nilCheck _=>true
 |o=>gM o
def yX{P w w'}{n:Next}(h:Sem.run P (runtimePanic (α:=Next) .nilDeref) w=.ok n w'):False:=by
 simp[runtimePanic,Sem.run_bind] at h
theorem VL{P}{ev:Operand->Value}{o}{x:Operand}{w w'}{n:Next}(j:o.op=.nilCheck x)(h:(execOp ev o).run P w=.ok n w'):∃v,n=.value v:=by
 unfold execOp at h;simp only[j] at h;split at h
 .exact(yX h).elim
 .exact(yX h).elim
 .exact(yX h).elim
 .split at h
  .exact(yX h).elim
  .simp only[Sem.run_bind] at h;generalize Sem.run P program w=r1 at h;cases r1 with
   |halt x w=>simp[Result.andThen] at h
   |ok p w1=>
    simp only[Result.andThen_ok] at h;generalize Sem.run P (nilAhead _ _ _ _) w1=r2 at h;cases r2 with
    |halt x w=>simp[Result.andThen] at h
    |ok b w2=>
     simp only[Result.andThen_ok] at h;split at h
     .simp[unsupported,Result.andThen] at h
     .simp at h;exact⟨_,h.1.symm⟩
  .simp at h;exact⟨_,h.1.symm⟩
 .simp at h;exact⟨_,h.1.symm⟩
def BO{P}{ev:Operand->Value}{o w w'}(hp:oo o.op=true)(h:(execOp ev o).run P w=.ok .skip w'):False:=by
 by_cases hn:∃x,o.op=.nilCheck x
 .obtain⟨x,J⟩:=hn;obtain⟨v,hv⟩:=VL J h;cases hv
 .refine ul (o:=o) ?_ h;exact AbD
def yE{P}{ev:Operand->Value}{o w w' f args}(hp:oo o.op=true)(h:(execOp ev o).run P w=.ok (.enter f args) w'):False:=by
 by_cases hn:∃x,o.op=.nilCheck x
 .obtain⟨x,J⟩:=hn;obtain⟨v,hv⟩:=VL J h;cases hv
 .refine jN (o:=o) ?_ h;exact AbD
section
variable {P:Program} {ops:Array Oper} {Q Q':Exit->Act->World->Prop} {S:World->Prop}
theorem Ch{o a v}(hp:oo o.op=true)(Y:Region.wanted o (yielded ops a.tmps)=true)(h:∀w,S w->o.quietAt P a S w v):YieldsIf P ops S o v a:=by
 refine .inl ⟨Y,fun w hS=> ?_⟩;have j:=h w hS;unfold Oper.quietAt at j;generalize l:(execOp a.eval o).run P w=C at*
 cases C with
 |ok nx w'=>
  cases nx<;>simp only[Oper.quietUpon] at j
  case value u=>obtain⟨rfl,rfl⟩:=j;rfl
  case skip=>exact(BO hp l).elim
  case enter f args=>exact(yE hp l).elim
 |halt x w'=>simp only[Oper.quietUpon] at j
def uy (ops:Array Oper) (n:Nat):List (Bool×Nat)->Array Bool->Bool
 |[],listed=>Region.seqB .any ops (ops.size-n) n listed
 |(true,i)::rest,listed=>((ops[i]?).map fun o=>oo o.op).getD false&&Region.free .any ops listed i&&(Region.ready .any ops listed).contains i&&decide (i<n)&&uy ops n rest (listed.setIfInBounds i true)
 |(false,i)::rest,listed=>decide (Region.ready .any ops listed=[i])&&decide (i<n)&&uy ops n rest (listed.setIfInBounds i true)
theorem nR{n}{L:Act->World->Prop}(C:Region.noSelect ops=true)(hs:Region.sinkB .any ops n=true)(hc:Region.chainB .any ops n=true)(hn:n<ops.size):
  ∀(ord:List (Bool×Nat)) (B:Array Bool) (a:Act) (w:World),HeadInv .any ops n B->uy ops n ord B=true->S w->bP P ops S L ord a w->
  qP P ops S n (fun D a' w'=>Region.seqB .any ops (ops.size-n) n D=true/\L a' w') ord.length B a w
 |[],B,a,w,_,hB,_,h=>⟨by simpa[uy] using hB,h⟩
 |(true,i)::rest,B,a,w,inv,hB,hS,h=>by
  simp only[uy,Bool.and_eq_true,decide_eq_true_eq] at hB;obtain⟨⟨⟨⟨hp,I⟩,Q⟩,M⟩,K⟩:=hB;have N:i∈Region.ready .any ops B:=by simpa using Q
  unfold bP at h;cases l:ops[i]? with
  |none=>simp[l] at h
  |some o=>
   simp only[l] at h;have O:oo o.op=true:=by simpa[l] using hp
   by_cases Y:Region.wanted o (yielded ops a.tmps)=true
   .rw[if_pos Y] at h;obtain⟨v,R,J⟩:=h;exact jm (v:=v) l (Region.noSelect_spec C) hs hc hn M (fun _ _ _ G=>seqB_ready G.1) _ _ _ _ inv (Region.free_spec l I) N (Ch O Y R) hS (nR C hs hc hn rest _ _ _ (inv.set N M) K hS J)
   .rw[if_neg Y] at h;exact jm (v:=undef) l (Region.noSelect_spec C) hs hc hn M (fun _ _ _ G=>seqB_ready G.1) _ _ _ _ inv (Region.free_spec l I) N (.inr ⟨by simpa using Y,rfl⟩) hS (nR C hs hc hn rest _ _ _ (inv.set N M) K hS h)
 |(false,i)::rest,B,a,w,inv,hB,hS,h=>by
  simp only[uy,Bool.and_eq_true,decide_eq_true_eq] at hB;unfold bP at h;refine⟨by rw[hB.1.1];simp,fun j F=> ?_⟩;have H:=F;rw[hB.1.1] at F;obtain rfl:j=i:=by simpa using F
  exact⟨hB.1.2,wpOp_mono (fun a' w' h=>⟨h.1,nR C hs hc hn rest _ _ _ (inv.set H hB.1.2) hB.2 h.1 h.2⟩) h⟩
def oO{K a}{w:World}{l:List Oper}(n S)(ord:List (Bool×Nat))(N:P.follows .mixedOrders=true)(M:(Region.noSelect l.toArray&&Region.sinkB .any l.toArray n&&Region.chainB .any l.toArray n&&decide (n<l.length)&&decide (ord.length=n)&&uy l.toArray n ord (Array.replicate l.length false))=true)(hS:S w.drew)(h:bP P l.toArray S (fun a' w'=>wpList P l.toArray Q (l.drop n) a' w') ord a w.drew):(Code.region K l.toArray true).wp P Q a w:=by
 simp only[Bool.and_eq_true,decide_eq_true_eq] at M;obtain⟨⟨⟨⟨⟨C,hs⟩,hc⟩,hn⟩,T⟩,F⟩:=M;have J:n<l.toArray.size:=by simpa using hn
 have I:HeadInv .any l.toArray n (Array.replicate l.length false):=
  ⟨ag,fun j V _ Z=>AaS,fun t _ O=>getD_in (by simpa using O) (getD_replicate_false _ _)⟩
 have H:=nR (P:=P) C hs hc J ord _ a w.drew I F hS h;have D:(l.drop n).length=l.toArray.size-n:=ag;have G:=mQ (P:=P) (Q:=Q) (n:=n) (g:=l.toArray.size-n) (fun B a' w' L=>by
  have:=wpAny_of_seq (P:=P) (ops:=l.toArray) (md:=.any) (Q':=Q) (l.drop n) n B a' w' (fun j=>ag) (by rw[D];exact L.1) L.2;rwa[D] at this) _ _ _ _ H
 exact Ab9
end
def hfs (s:StD) (p:dC) (f:dQ) (k:Nat):BrD:=half s p f (k/2) (k%2)
structure Li (w W:World) (gx gf gB gH g6 g7:Nat) (ST FL:Array Value) (C:Nat->Value) (Bv:Nat->BrV) (wv:Nat->Value) (H:Nat->BrV) (s:StD) (p:dC) (f:dQ) (n1:Nat) (brs:List BrD) (fv m:Nat):Prop where
 g:Gs w W gx gf gB gH C Bv brs s.bays.length wv (wd0 s p s.bays.length)
 bH:Blk W gH 221 (brc (n1*2) H).toArray
 lH:w.heap.size<=gH
 b6:Blk W g6 27 ST
 b7:Blk W g7 33 FL
 hv:∀k,k<m->vC W (H k) (hfs s p f k)
 ends:∀l e,l<6->e<2->C (1+2*l+e)=.int .i64 (mD s p l e:Nat)
 c14:C 14=.int .i64 (fv:Int)
 liv:∀k,k<18->C (15+k)=.bool false
section
variable {w W W' W2:World} {gx gf gB gH g6 g7 n1 fv m:Nat} {ST FL:Array Value} {C:Nat->Value} {Bv:Nat->BrV} {wv:Nat->Value} {H:Nat->BrV} {s:StD} {p:dC} {f:dQ} {brs:List BrD}
def Li.start(G:Gs w W gx gf gB gB C Bv brs s.bays.length wv (wd0 s p s.bays.length))(O:∀l e,l<6->e<2->C (1+2*l+e)=.int .i64 (mD s p l e:Nat))(F:C 14=.int .i64 (fv:Int))(Z:∀k,k<18->C (15+k)=.bool false)(x:Ext W W2)(b6:Blk W2 g6 27 ST)(b7:Blk W2 g7 33 FL):
  Li w (W2.alloc (.cells (brc (n1*2) fun _=>jZ).toArray 221)) gx gf gB W2.heap.size g6 g7 ST FL C Bv wv (fun _=>jZ) s p f n1 brs fv 0:=by
 have B:Ext W2 (W2.alloc (.cells (brc (n1*2) fun _=>jZ).toArray 221)):=Ext.new _ _;have D:=(G.ext x).ext B;have hs:=(G.ext x).r.m.size;exact⟨⟨D.r,D.c13,D.bB,D.lB,fun j H=>((G.wy j H).ext x).V6 B (Nat.le_refl _)⟩,Blk.new _ _ _,hs,b6.ext B,b7.ext B,fun k I=>absurd I aa,O,F,Z⟩
end
def Nt:(Tryz.prog.info? 221).map (fun i=>(i.zero,i.size,i.bytes))=some (some (.agg (brc 2 fun _=>jZ).toArray),40,608):=ah
def yg:∀n:Nat,nA n (brc 2 fun _=>jZ)=brc (n*2) fun _=>jZ
 |0=>rfl
 |n+1=>by
  rw[pJ,yg n,yI,show(n+1)*2=n*2+2 by omega];simp only[ite_self]
def Gx(n:Nat)(hn:n<=1000)(W:World):(Instr.makeSlice 220 (.int .i64 n) (.int .i64 n)).run Tryz.prog W=.ok (.slice (some ⟨W.heap.size,0,none⟩) n n) (W.alloc (.cells (brc (n*2) fun _=>jZ).toArray 221)):=by
 obtain⟨i0,U,B,l,j⟩:=info_parts Nt;have h:=run_make (P:=Tryz.prog) W 220 221 i0 (.agg (brc 2 fun _=>jZ).toArray) Tryz.underlying220 U B .i64 .i64 n n aa aa Abt aa;rw[h,l];have e:=pE (brc 2 fun _=>jZ) (by rw[j4];omega) n;rw[j4,yg] at e;simp only[Int.toNat_natCast];rw[show(Value.agg (brc 2 fun _=>jZ).toArray).cells=(brc 2 fun _=>jZ).toArray from rfl,e]
def KT{w wd j:World}{t}{z cs:List Value}(Z:z.length=cs.length)(hd:wd=w.alloc (.cells z.toArray t))(O:j=puts wd w.heap.size 0 cs):Blk j w.heap.size t cs.toArray/\Ext w j:=by
 have l:Blk wd w.heap.size t z.toArray:=by rw[hd];exact Blk.new _ _ _
 have H:Ext w wd:=by rw[hd];exact Ext.new _ _
 refine⟨?_,by rw[O];exact gz (Nat.le_refl _:Own w w.heap.size) 0 _ H⟩;have B:Blk (puts wd w.heap.size 0 cs) w.heap.size t (fD z.toArray 0 cs):=bY 0 cs l;rw[iy z cs Z] at B;rw[O];exact B
def twC (a b:Int):List Value:=[.int .i64 a,.int .i64 b]
def Ry(a b):(Tryz.prog.info? 64).map (·.size)=some (twC a b).length:=ah
theorem TZ(a b):∀v∈twC a b,v.oneCell'=true:=by
 intro v hv;unfold twC at hv;simp only[List.mem_cons,List.not_mem_nil,or_false] at hv;rcases hv with rfl|rfl<;>rfl
def mV.form{w B0 k v B}(h:mV w B0 v k B)(j:0<k):∃g c,v=.slice (some ⟨g,0,none⟩) k c:=by
 rcases h with ⟨_,h⟩|⟨g,G,_,h,_⟩
 .omega
 .exact⟨g,G,h⟩
def BR(s p):∀i,(gQ s p i).length<=i
 |0=>Nat.le_refl _
 |i+1=>by
  show(gQ s p i++(iV s p i).toList).length<=i+1;have:=BR s p i;cases iV s p i<;>simp<;>omega
def Ti(a b:En):(Tryz.prog.info? 103).map (·.size)=some (a.cells++b.cells).length:=ah
def Sr(a b:En):∀v∈a.cells++b.cells,v.oneCell'=true:=by
 intro v hv;rcases List.mem_append.1 hv with h|h
 .exact dZ a v h
 .exact dZ b v h
def O0(b:BrV):(Tryz.prog.info? 167).map (·.size)=some b.cs.length:=by rw[kY];kernel_rfl
def UC{w W W':World}{g}{a b:En}(hb:Blk W g 103 (aN 2 fun _=>zEn).toArray)(J:Ext w W)(Z:w.heap.size<=g)(Y:W'=puts W g 0 (a.cells++b.cells)):Blk W' g 103 (a.cells++b.cells).toArray/\Ext w W'/\∀(v:Value) (q:GQ) (n:Nat),GV W v q n->GV W' v q n:=by
 have l:Mod (fun k=>k=g) W W':=by rw[Y];exact Mod.puts _ _ _ _ rfl
 have C:Far (fun k=>k=g) W:=fun k j _=>by
  have j:k=g:=j;rw[j];exact⟨_,_,hb,cu 2 _⟩
 refine⟨?_,fw J l (fun k j=>by have j:k=g:=j;omega),fun v q n h=>h.mod l C⟩;have B:=bY 0 (a.cells++b.cells) hb;rw[iy _ _ rf] at B;rw[Y];exact B
def Li.rng{w W gx gf gB gH g6 g7 n1 fv m ST FL C Bv wv H s p f brs}(h:Li w W gx gf gB gH g6 g7 ST FL C Bv wv H s p f n1 brs fv m){k o}(l:k<n1*2)(j:o=k*20):W.rangeAt gH o (H k).cs:=fun t v hv=>by
 have B:t<20:=by have:=(List.getElem?_eq_some_iff.1 hv).1;rwa[kY] at this
 subst j;rw[h.bH.cell,List.getElem?_toArray,uu B l];exact hv
theorem Li.fin{w W W' gx gf gB gH g6 g7 ST FL C Bv wv T H s p f fv}(h:Li w W gx gf gB gH g6 g7 ST FL C Bv wv H s p f s.lines.length (cZ s p f) fv (2*s.lines.length))(N:fv=fH s p f)(M:lG s)(L:Mod (fun k=>k=gB) W W')(hb:eZ W' gB 165 s.bays.length T)(Y:∀j,j<s.bays.length->T j=if (s.bays.getD j default).kind=1 then .pointer (some ⟨gH,(s.bays.getD j default).obj.toNat*40+(s.bays.getD j default).en.toNat*20,none⟩) else wv j):BG w W' gx gf C Bv s p f:=by
 have Q:=h.g.VQ (fun j F=>(h.g.wy j F).mM);have lB:=h.g.lB;have lx:=h.g.r.lx;have lH:=h.lH;have D:gH≠gB:=Blk.fO h.bH h.g.bB aj;refine⟨h.g.r.mod L (fun k G=>by have G:k=gB:=G;omega) Q (fun g S e=> ?_),h.ends,by rw[<-N];exact h.c14,h.liv,gB,T,h.g.c13,lB,hb,fun j F=> ?_⟩
 .have e:g=gB:=e;subst e;exact h.g.r.own.ne h.g.bB aj S
 .rw[Y j F];by_cases G:(s.bays.getD j default).kind=1
  .rw[if_pos G];have ho:=Vw (M.obj j F) G;have O:=Vb (M.rng j F);obtain⟨l,Z⟩:∃l:Nat,(s.bays.getD j default).obj.toNat=l:=⟨_,rfl⟩;obtain⟨e,B⟩:∃e:Nat,(s.bays.getD j default).en.toNat=e:=⟨_,rfl⟩;have V:l<s.lines.length:=aa;have P:e<2:=aa;have I:way s p f j=some (hfs s p f (2*l+e)):=by
    unfold way hfs;rw[if_pos G,Z,B,show(2*l+e)/2=l by omega,show(2*l+e)%2=e by omega]
   rw[I,Z,B];have K:=(h.hv (2*l+e) aa).fQ L Q;have R:=h.rng (k:=2*l+e) (o:=l*40+e*20) aa aa;exact⟨⟨gH,l*40+e*20,H (2*l+e),rfl,aa,Nat.lt_of_lt_of_le h.bH.lt L.size,fun t u U=>vM L h.bH.lt D (R t u U),K.pa,K.pb,K.z0,K.z1,K.e⟩,fun g k J=>by injection J with J;injection J with J;injection J with J _ _;omega⟩
  .rw[if_neg G];have I:way s p f j=wd0 s p s.bays.length j:=by unfold way wd0;rw[if_neg G,if_pos F]
   rw[I];exact⟨((h.g.wy j F).mod L Q (fun g S=> .inr (.inr (.inl S)))).is lx,fun g k J=>(h.g.wy j F).low J⟩
def zNd:List Value:=[.int .i64 0,.int .i64 0,.int .i64 0,.int .i64 0]
def Tf:(Tryz.prog.info? 187).map (·.zero)=some (some (.agg zNd.toArray)):=ah
def ndC (a b c d:Int):List Value:=[.int .i64 a,.int .i64 b,.int .i64 c,.int .i64 d]
def SV(a b c d):(Tryz.prog.info? 187).map (·.size)=some (ndC a b c d).length:=ah
theorem Uv(a b c d):∀v∈ndC a b c d,v.oneCell'=true:=by
 intro v hv;unfold ndC at hv;simp only[List.mem_cons,List.not_mem_nil,or_false] at hv;rcases hv with rfl|rfl|rfl|rfl<;>rfl
def LP:List Value:=[.string ByteArray.empty,.int .i64 0,.int .i64 0,.int .i64 0,.int .i64 0,.int .i64 0]
def OQ:(Tryz.prog.info? 83).map (·.zero)=some (some (.agg LP.toArray)):=ah
def FP(g):(Tryz.prog.info? 83).map (·.size)=some (vN g).length:=ah
theorem Sk(b):∀v∈vN b,v.oneCell'=true:=by
 intro v hv;unfold vN at hv;simp only[List.mem_cons,List.not_mem_nil,or_false] at hv;rcases hv with rfl|rfl|rfl|rfl|rfl|rfl<;>rfl
structure Bz (w W:World) (gx gf gB g7 g8 g9:Nat) (ST PO FL:Array Value) (C:Nat->Value) (Bv:Nat->BrV) (wv:Nat->Value) (s:StD) (p:dC) (fn:Nat):Prop where
 g:Gs w W gx gf gB gB C Bv (gQ s p s.bays.length) s.bays.length wv (wd0 s p s.bays.length)
 b7:Blk W g7 27 ST
 b8:Blk W g8 31 PO
 b9:Blk W g9 33 FL
 ends:∀l e,l<6->e<2->C (1+2*l+e)=.int .i64 (mD s p l e:Nat)
 c14:C 14=.int .i64 (fn:Int)
 liv:∀k,k<18->C (15+k)=.bool false
section
variable {w W W' W2:World} {gx gf gB g7 g8 g9 fn:Nat} {ST PO FL:Array Value} {C:Nat->Value} {Bv:Nat->BrV} {wv:Nat->Value} {s:StD} {p:dC}
def Bz.of(h:Bt w W gx gf gB g7 g8 g9 ST PO FL C Bv wv s p s.bays.length s.bays.length):Bz w W gx gf gB g7 g8 g9 ST PO FL C Bv wv s p 0:=⟨h.g,h.b7,h.b8,h.b9,h.ends,h.c14,h.liv⟩
def Bz.ext(h:Bz w W gx gf gB g7 g8 g9 ST PO FL C Bv wv s p fn)(x:Ext W W'):Bz w W' gx gf gB g7 g8 g9 ST PO FL C Bv wv s p fn:=⟨h.g.ext x,h.b7.ext x,h.b8.ext x,h.b9.ext x,h.ends,h.c14,h.liv⟩
def Bz.set(h:Bz w W gx gf gB g7 g8 g9 ST PO FL C Bv wv s p fn)(j:Nat)(Y:W'=W.setCell ⟨gx,14,none⟩ (.int .i64 (j:Int))):Bz w W' gx gf gB g7 g8 g9 ST PO FL (upd C 14 (.int .i64 (j:Int))) Bv wv s p j:=by
 obtain⟨F,B⟩:=h.g.set (i:=14) (v:=.int .i64 (j:Int)) aa aa aa rfl Y;exact⟨F,h.b7.mod B (Blk.fO h.b7 h.g.r.g aj),h.b8.mod B (Blk.fO h.b8 h.g.r.g aj),h.b9.mod B (Blk.fO h.b9 h.g.r.g aj),fun l e Z O=>by rw[upd_ne aa];exact h.ends l e Z O,upd_same ..,fun k D=>by rw[upd_ne aa];exact h.liv k D⟩
end
structure Bl (w W:World) (gx gf g7 g8 g9:Nat) (ST PO FL:Array Value) (C:Nat->Value) (l:Nat):Prop where
 g:Gr0 w W gx gf C 0 (fun _=>jZ) []
 b7:Blk W g7 27 ST
 b8:Blk W g8 31 PO
 b9:Blk W g9 33 FL
 ends:∀j e,j<l->e<2->C (1+2*j+e)=.int .i64 (2*j+e:Nat)
 hi:∀k,13<=k->C k=zC k
section
variable {w W W':World} {gx gf g7 g8 g9 l:Nat} {ST PO FL:Array Value} {C:Nat->Value}
def Bl.put(h:Bl w W gx gf g7 g8 g9 ST PO FL C l)(Z:l<6)(Y:W'=puts W gx (1+l*2) (twC ((2*l:Nat):Int) ((2*l+1:Nat):Int))):∃C',Bl w W' gx gf g7 g8 g9 ST PO FL C' (l+1):=by
 obtain⟨I,m1⟩:=h.g.set (i:=1+l*2) (.int .i64 ((2*l:Nat):Int)) aa aa rfl;obtain⟨F,m2⟩:=I.set (i:=1+l*2+1) (.int .i64 ((2*l+1:Nat):Int)) aa aa rfl;have B:Mod (fun k=>k=gx) W W':=by rw[Y];exact m1.trans m2
 refine⟨_,by rw[Y];exact F,h.b7.mod B (Blk.fO h.b7 h.g.g aj),h.b8.mod B (Blk.fO h.b8 h.g.g aj),h.b9.mod B (Blk.fO h.b9 h.g.g aj),fun j e J O=> ?_,fun k D=> ?_⟩
 .by_cases G:j=l
  .subst G;have H:e=0\/e=1:=aa;rcases H with rfl|rfl
   .rw[show 1+2*j+0=1+j*2 by omega,upd_ne aa,upd_same,Nat.add_zero]
   .rw[show 1+2*j+1=1+j*2+1 by omega,upd_same]
  .rw[upd_ne aa,upd_ne aa];exact h.ends j e aa O
 .rw[upd_ne aa,upd_ne aa];exact h.hi k D
theorem Bl.made{s p}(h:Bl w W gx gf g7 g8 g9 ST PO FL C 6)(Y:W'=(W.alloc (.cells (ofC s.bays.length fun _=> .pointer none) 165)).setCell ⟨gx,13,none⟩ (.slice (some ⟨W.heap.size,0,none⟩) s.bays.length s.bays.length))(F:w.heap.size<=W.heap.size):
  Bt w W' gx gf W.heap.size g7 g8 g9 ST PO FL (upd C 13 (.slice (some ⟨W.heap.size,0,none⟩) s.bays.length s.bays.length)) (fun _=>jZ) (fun _=> .pointer none) s p 0 0:=by
 have J:Ext W (W.alloc (.cells (ofC s.bays.length fun _=> .pointer none) 165)):=Ext.new _ _;obtain⟨G,D⟩:=(h.g.ext J).set (i:=13) (.slice (some ⟨W.heap.size,0,none⟩) s.bays.length s.bays.length) aa aa rfl;subst Y;have B:eZ (W.alloc (.cells (ofC s.bays.length fun _=> .pointer none) 165)) W.heap.size 165 s.bays.length (fun _=> .pointer none):=Blk.new _ _ _;have lx:=h.g.lx;refine⟨⟨G,by rw[upd_same],B.mod D aa,F,fun j H=>rfl⟩,(h.b7.ext J).mod D (Blk.fO h.b7 h.g.g aj),(h.b8.ext J).mod D (Blk.fO h.b8 h.g.g aj),(h.b9.ext J).mod D (Blk.fO h.b9 h.g.g aj),fun l e Z O=> ?_,?_,fun k I=> ?_⟩
 .rw[upd_ne aa];exact h.ends l e Z O
 .rw[upd_ne aa,h.hi 14 aa];rfl
 .rw[upd_ne aa,h.hi (15+k) aa];unfold zC;rw[if_neg aa,if_neg aa,if_neg aa,if_neg aa]
end
theorem Rx{s p}(h:lG s){i}(hi:i<s.bays.length)(j:(sides s p i).1.1=1):0<=(sides s p i).1.2/\(sides s p i).1.2<4:=by
 have D:=KU h p hi j;have G:=h.link hi;have C:0<=(sides s p i).1.2:=by
  unfold sides at j⊢;by_cases l:(s.bays.getD i default).kind=3
  .rw[if_pos l];exact(kR h p (h.bus hi (k:=0) aa).2).1
  .rw[if_neg l] at j⊢;simp only[] at j⊢;unfold uh at j⊢;split
   .exact(kR h p (h.bus hi (k:=0) aa).2).1
   .split
    .rename_i B
     exact(kR h p (h.bus hi (k:=1) B.1).2).1
    .decide
 omega
theorem wX(gx gf sq nb cb:Nat)(un C A Bv brs)(fN:Nat)(w)(hc:bT w gf)(hg:eZ w gx 105 393 C)(hn:rH w C A nb cb Bv brs (lv brs))(hf:C 14=.int .i64 (fN:Int))(WR:fN<=17)(hu:un=true->lv brs fN=true)(Xw:sq<=1):
  Calls Tryz.prog 125 #[.pointer (some ⟨gx,0,none⟩),.pointer (some ⟨gf,0,none⟩),.int .i64 (sq:Int),.bool un] w fun e w'=>∃f:Nat->En,e=.returned (.agg (aN 18 f).toArray)/\
   (∀k,k<18->GV w' (f k).v (p8 (lv brs) (rwx (lv brs)) (cnt (lv brs) 18) (usd (lv brs) sq brs) (if un=true then unit (rwx (lv brs) fN) else feed (rwx (lv brs)) (usd (lv brs) sq brs)) k) 841)/\Ext w w':=by
 have HN:=aJ hn;have HU:=aJ hu;have X6:=aJ hf;have WI:=aJ WR;have XR:=aJ Xw;have HC:=aJ hc;have HG:=aJ hg;clear hn hu hf WR Xw hc hg;go_enter Tryz.func125,Tryz.ntmps125;(iterate 3 (try (first|go_values|go_skip|go_guarded|go_step|go_upon|go_in|go_back|go_simp)));refine eG rfl 100 rfl _ vL ?_;intro w1 l;refine Qp ?_;have Wy:Hid (Blk w1 w.heap.size 100 (aN 18 fun _=>zEn).toArray):=aJ Adq;have HX:Hid (Ext w w1):=aJ (by rw[l];exact Ext.new _ _);clear l;generalize Xk:w.heap.size=g8 at Wy⊢;have Xj:Hid (w.heap.size<=g8):=aJ aa;clear Xk;(iterate 5 (try (first|go_values|go_skip|go_guarded|go_step|go_upon|go_in|go_back|go_simp)));refine eG rfl 100 rfl _ vL ?_;intro w2 l;refine Qp ?_;have F:Ext w1 w2:=by rw[l];exact Ext.new _ _
 have Wx:Hid (Blk w2 w1.heap.size 100 (aN 18 fun _=>zEn).toArray):=aJ Adq;have XH:Hid (w.heap.size<=w1.heap.size/\g8<w1.heap.size):=aJ ⟨HX.size,Wy.lt⟩;replace Wy:=Wy.aA F;replace HX:=HX.aC F;clear F l;generalize w1.heap.size=g9 at Wx XH⊢;(iterate 5 (try (first|go_values|go_skip|go_guarded|go_step|go_upon|go_in|go_back|go_simp)));refine eG rfl 222 rfl _ Jg ?_;intro w3 l;refine Qp ?_;have F:Ext w2 w3:=by rw[l];exact Ext.new _ _
 have O:Hid (eZ w3 w2.heap.size 222 18 fun _=> .int .i64 0):=aJ Adq;have Xe:Hid (w.heap.size<=w2.heap.size/\g9<w2.heap.size):=aJ ⟨HX.size,Wx.lt⟩;replace Wy:=Wy.aA F;replace Wx:=Wx.aA F;replace HX:=HX.aC F;clear F l;generalize w2.heap.size=g10 at O Xe⊢;have WT:w3.rangeAt gx 15 (jb (lv brs)):=(HG.ext HX.o).rangeAt (by simp[jb]) (fun j v hv=>sV HN.o hv);have Ws:=aJ WT;clear WT;(go_wp2_with (refine wpList_load_mid rfl 99 _ rfl gx 15 rf (jb (lv brs)) _ Ws.o Tryz.underlying99 rfl tC ?_));clear Ws;go_loopw [11,26] (fun nv iv wr=>∃i:Nat,i<=18/\iv=.int .i64 i/\nv=.int .i64 (cnt (lv brs) i:Nat)/\Lp1 w wr g8 g9 g10 (lv brs) i i) (fun _ iv _=>18-(intOf iv).toNat)
 case atStart=>exact⟨0,aa,rfl,rfl,Wy.o,⟨_,Wx.o,by intros;omega⟩,O.congr (fun k hk=>by rw[if_neg aa]),HX.o,Xj.o,XH.o,Xe.o⟩
 case round=>
  clear Wy Wx O HX Xj XH Xe;obtain⟨i,hi,rfl,rfl,hR⟩:=hrel;have Q:=aJ hR;clear hR;by_cases Wo:i<18
  .have hd:decide ((i:Int)<18)=true:=ae;have WN:=L8 (L:=lv brs) Wo wr;have q1:(0:Int)<=(i:Int):=aa;have q2:(i:Int)<18:=aa;(go_wp2_with fail);refine(dz gf 0 _ (HC.ext Q.x) aa aa).mono ?_;rintro _ wa ⟨_,rfl,M,F⟩;obtain⟨eN,rfl⟩:=M.en;have U:=aJ M;replace Q:=Q.aA F;clear M F WN;(iterate 5 (try (first|go_values|go_skip|go_guarded|go_step|go_upon|go_in|go_back|go_simp)));have N:=aJ (Q.there Wo);refine aT rfl 42 (.tmp 33) (.tmp 32) rfl g9 (i*6) eN.cells rf rf N.o bL (dZ eN) ?_;intro wb l;refine Qp ?_;have Wt:=aJ (Q.put Wo U.o l);clear Q U N l;have Xy:cnt (lv brs) i<=18:=Nat.le_trans (Jh i) hi;cases hL:lv brs i with
   |false=>
    have HL:=aJ hL;have XU:=aJ (Rk hL);go_wp2_with fail
    go_roundw
    case rel=>exact⟨i+1,aa,au,by rw[XU.o],Wt.skip HL.o⟩
    case measure=>simp[intOf];omega
   |true=>
    have HL:=aJ hL;have XU:=aJ (Ua hL);have Xo:=Wt.b10.cell (k:=i) aa;have X8:=Wt.b10.frozen;go_wp2_with fail
    go_roundw
    case rel=>exact⟨i+1,aa,au,by rw[XU.o],Wt.row Wo HL.o⟩
    case measure=>simp[intOf];omega
  .obtain rfl:i=18:=aa;have Xy:cnt (lv brs) 18<=17:=EA (Aw HN.ok).none;have Wp:∃n,cnt (lv brs) 18=n:=⟨_,rfl⟩;obtain⟨n,Wp⟩:=Wp;have Xi:=aJ Wp;rw[Wp] at Xy⊢;clear Wp;have hd:decide ((18:Int)<18)=false:=aj;(go_wp2_with fail);refine(DY gf n n _ (HC.ext Q.x) aa aa).mono ?_;rintro _ wB ⟨Ga,Ra,rfl,XY⟩;have XV:=aJ XY;clear XY;(go_wp2_with fail);refine(DY gf n 1 _ ((HC.ext Q.x).ext XV.ext) aa aa).mono ?_;rintro _ wC ⟨Gb,Rb,rfl,XD⟩;have Wt:=aJ (Lp2.of Q.o XV.o XD);clear Q XV XD;have k0:=HG.ext Wt.p1.x;have Xq:=k0.cell_ (k:=0) aa HN.br;have YL:=aJ k0;clear k0;(go_wp2_with fail);clear Xq;have X5:=aJ Xy;go_loopw [53] (fun iv wz=>∃i:Nat,i<=nb/\iv=.int .i64 i/\Lp2 w wz g8 g9 g10 Ga Gb (lv brs) n Ra Rb (eqA (lv brs) sq brs i) (eqB (lv brs) sq brs i)) (fun iv _=>nb-(intOf iv).toNat)
   case atStart=>exact⟨0,aa,rfl,Wt.o⟩
   case round=>
    clear Wt YL hd;rename World=>wz;obtain⟨i,hi,rfl,hR⟩:=hrel;have Q:=aJ hR;clear hR;by_cases Wo:i<nb
    .have hd:decide ((i:Int)<(nb:Int))=true:=ae;obtain⟨bA,oA,hA,Xa,Xt⟩:=HN.arr aa;subst hA;have XT:=aJ (show wz.rangeAt bA (oA+i*20) (Bv i).cs from fun j v hv=>Q.p1.x.cell_ (Xt i Wo j v hv));clear Xt;(iterate 21 (try (first|go_values|go_skip|go_guarded|go_step|go_upon|go_in|go_back|go_simp)));refine wpList_load_mid rfl 167 _ rfl bA (oA+i*20) rf (Bv i).cs _ XT.o Tryz.underlying167 rfl vY ?_;refine eG rfl 167 rfl _ Lu ?_;intro wd Xb;refine aT rfl 167 (.tmp 17) (.tmp 56) rfl wz.heap.size 0 (Bv i).cs rf rf Ac5 vY (Ji _) ?_;intro we Xc;refine Qp ?_;have WA:Blk wd wz.heap.size 167 zBr:=by rw[Xb];exact Blk.new _ _ _
     have H:Ext wz wd:=by rw[Xb];exact Ext.new _ _
     have P:Ext wz we:=by rw[Xc];exact gz (Nat.le_refl _:Own wz wz.heap.size) 0 _ H
     have Wz:Blk we wz.heap.size 167 (Bv i).cs.toArray:=by rw[Xc];exact OD WA
     have J:=aJ Wz;have W:=aJ P;replace Q:=Q.aA P;clear Xb Xc WA H P Wz;generalize wz.heap.size=WS at J⊢;have Xm:wrap64 ((i:Int)+1)=(i:Int)+1:=IntWalk.wrap64_in _ (by have:=HN.len;have:=HN.l23;omega);have WC:=aJ Xm;clear Xm;have hm:brs.getD i default∈brs:=Bj (by have:=HN.len;omega);have WB:=HN.ok _ hm;have Wq:=HN.ab i Wo;have T:=HN.len;have WG:=aJ WB;have WO:=aJ Wq;have Xp:=aJ T;clear WB Wq T hm;have XB:(Bv i).a<17:=by rw[WO.o.1];exact WG.a
     have WX:we.cell? ⟨WS,0,none⟩=some (.int .i64 ((Bv i).a:Int)):=(J.cell 0).trans rfl;have WW:we.cell? ⟨WS,1,none⟩=some (.int .i64 ((Bv i).b:Int)):=(J.cell 1).trans rfl;have kc:we.cell? ⟨gf,0,none⟩=some (.int .i64 0):=((Blk.ext HC.o Q.p1.x).cell 0).trans rfl;have kl:=(HG.ext Q.p1.x).cell_ (k:=15+(Bv i).a) aa (HN.live (Bv i).a aa);cases hL:lv brs (Bv i).a with
     |false=>
      rw[hL] at kl;have WF:used (lv brs) (brs.getD i default)=false:=by unfold used;rw[<-WO.o.1,hL];rfl
      have Xv:=aJ WF;clear WF;(go_wp2_with fail);go_quiet (fail);go_wp2_with fail
      exact Ab2
     |true=>
      rw[hL] at kl;by_cases Xl:(Bv i).a=(Bv i).b
      .have WF:used (lv brs) (brs.getD i default)=false:=by unfold used;rw[<-WO.o.1,<-WO.o.2,hL,Xl];simp
       have Xv:=aJ WF;clear WF;have XQ:(((Bv i).a:Int) !=((Bv i).b:Int))=false:=by rw[Xl];simp
       clear Xl;(go_wp2_with fail);go_quiet (fail);go_wp2_with fail
       exact Ab2
      .have WF:used (lv brs) (brs.getD i default)=true:=by unfold used;rw[<-WO.o.1,<-WO.o.2,hL];simp[Xl]
       have Xv:=aJ WF;clear WF;have XQ:(((Bv i).a:Int) !=((Bv i).b:Int))=true:=ae;have X9:=aJ Xl;have HL:=aJ hL;clear Xl;(go_wp2_with fail);go_quiet (fail);generalize K:we.drewN nq=wq;have Wv:Ext we wq:=by rw[<-K];exact(Ext.refl _).drewN _
       have XL:=aJ Wv;replace Q:=Q.aA Wv;replace J:=J.aA Wv;clear Wv K WX WW kc kl XQ;have XN:wq.rangeAt g10 0 ((List.range 18).map fun k=>Value.int .i64 (rwx (lv brs) k:Nat)):=Q.p1.rng;have XM:wq.rangeAt WS 0 (Bv i).cs:=fun j v hv=>(J.cell (0+j)).trans (by rw[Nat.zero_add,List.getElem?_toArray];exact hv);have XO:=aJ XN;have XP:=aJ XM;clear XN XM;(go_wp2_with (first|refine wpList_load_mid rfl 222 _ rfl g10 0 rf _ _ XO.o Tryz.underlying222 rfl Kg ?_|refine wpList_load_mid rfl 167 _ rfl WS 0 rf _ _ XP.o Tryz.underlying167 rfl vY ?_));clear XO XP;refine(PU HN.o (bT.ext HC.o Q.p1.x) Q.o Xi.o (by have:=Xp.o;omega) Xv.o XR.o (HC.lt)).mono ?_;rintro _ wf ⟨rfl,WE⟩;have V:=aJ WE;clear WE;go_wp2_with fail
       go_roundw
       case rel=>exact⟨i+1,aa,by rw[WC.o];rfl,V.o⟩
       case measure=>rw[WC.o];simp[intOf];omega
    .obtain rfl:i=nb:=aa;have hd:decide ((i:Int)<(i:Int))=false:=ag;have XK:brs.length=i:=HN.len;have XW:=Q.a;rw[<-XK,R7] at XW;have HA:=aJ XW;have B:=aJ Q.p1;clear XW;cases un with
     |false=>
      have WL:=Q.b;rw[<-XK,R8] at WL;have XE:=aJ WL;clear WL Q XK;have XG:Hid (Dp (rwx (lv brs)) (usd (lv brs) sq brs) (feed (rwx (lv brs)) (usd (lv brs) sq brs))):=aJ (Or.inl rfl);have kc:wz.cell? ⟨gf,0,none⟩=some (.int .i64 0):=((Blk.ext HC.o B.x).cell 0).trans rfl;(go_wp2_with fail);clear kc;refine(CK HN.ok HN.l23 XG.o Xi.o HA.o XE.o).mono ?_;rintro _ wS ⟨G,RX,rfl,WZ,F⟩;have HO:=aJ WZ;replace B:=B.aA F;clear WZ F HA XE;(go_wp2_with fail);refine(C9 gf _ _ _ _ (bT.ext HC.o B.x)).mono ?_;rintro _ wK ⟨rfl,F⟩;replace HO:=HO.aA F;replace B:=B.aA F;clear F;have kc:wK.cell? ⟨gf,0,none⟩=some (.int .i64 0):=((Blk.ext HC.o B.x).cell 0).trans rfl;have WT:wK.rangeAt gx 15 (jb (lv brs)):=(HG.ext B.x).rangeAt (by simp[jb]) (fun j v hv=>sV HN.o hv);have Ws:=aJ WT;clear WT;(go_wp2_with (refine wpList_load_mid rfl 99 _ rfl gx 15 rf (jb (lv brs)) _ Ws.o Tryz.underlying99 rfl tC ?_));clear Ws kc;have Z:=aJ (Lp3.of B.o HO.o);clear B HO;go_loopw [129] (fun iv wr=>∃i:Nat,i<=18/\iv=.int .i64 i/\Lp3 w wr g8 g9 g10 G (lv brs) n RX (sol n (eU zmx ((usd (lv brs) sq brs).map (Nb.br (rwx (lv brs))))) (col (feed (rwx (lv brs)) (usd (lv brs) sq brs)))) i) (fun iv _=>18-(intOf iv).toNat)
      case atStart=>exact⟨0,aa,rfl,Z.o⟩
      case round=>
       exact Aaf
     |true=>
      clear XK;have WK:∃r,rwx (lv brs) fN=r:=⟨_,rfl⟩;obtain⟨r,WK⟩:=WK;have Yt:lv brs fN=true:=HU.o rfl;have Xx:r<n:=by rw[<-WK,<-Xi.o];exact(Rwx.of (fun k hk=>sN HN.ok hk)).lt _ Yt
      have Yp:=aJ Yt;clear Yt;have Xy:n<=17:=X5.o;(go_wp2_with fail);refine(DY gf n 1 _ (bT.ext HC.o B.x) aa aa).mono ?_;rintro _ wD ⟨Gc,Rc,rfl,XZ⟩;have Xu:=aJ XZ;clear XZ;(go_wp2_with fail);have X4:=aJ (HG.ext (B.x.trans Xu.ext));have X3:=aK.cell (X4.cell_ (k:=14) aa X6.o);have XX:=aK.cell ((B.ext Xu.ext).b10.cell_ (k:=fN) (v:=.int .i64 (r:Int)) AcK (by simp only[if_pos (show fN<18 by have:=WI.o;omega),WK]));have X7:=aK.cell ((Xu.mx (Ext.refl _)).hd Xx aa);have WR:=WI.o;have q1:(0:Int)<=(fN:Int):=aa;have q2:(fN:Int)<18:=aa;have q3:(0:Int)<=(r:Int):=aa;have q4:(r:Int)<(n:Int):=aa;have W9:=aJ WK;clear WK;refine tN 12 [(2,.eq (.pointer (some ⟨gx,0,none⟩))),(10,.gv (GQ.i 1 0) 64)] ?_;refine Qs ?_;refine En_ ?_;intro lo Xh;refine Qs ?_;refine Ee (fun R I=>dz gf 1 _ (bT.ext HC.o ((B.x.trans Xu.ext).trans I.1)) aa aa) ?_;intro e1 WU Y;refine Qs ?_;refine bE ?_;intro wE I;have F:=I.ext;have Wu:GV wE e1.v (GQ.i 1 0) 64:=NF.ng (I.at_ 10 (e:=(e1.v,WU,Y)) rf);have S:=aJ Wu;have Ww:=aJ F;clear I F Wu X3 XX X7;have N:=aJ (IW Xu.o Ww.o Xx);refine aT rfl 42 (.tmp 102) (.tmp 101) rfl (Rc r).b 0 e1.cells rf rf N.o bL (dZ e1) ?_;intro wF l;refine Qp ?_;have WH:=Qh B.o HA.o Xu.o Ww.o Xx S.o l;clear N l S Ww Xu X4 Q;replace B:=aJ WH.1;replace HA:=aJ WH.2.1;have XE:=aJ WH.2.2;clear WH;have XG:Hid (Dp (rwx (lv brs)) (usd (lv brs) sq brs) (unit r)):=aJ (Or.inr ⟨_,rfl⟩);have WK:=W9.o;subst WK;have kc:wF.cell? ⟨gf,0,none⟩=some (.int .i64 0):=((Blk.ext HC.o B.x).cell 0).trans rfl;(go_wp2_with fail);clear kc;refine(CK HN.ok HN.l23 XG.o Xi.o HA.o XE.o).mono ?_;rintro _ wS ⟨G,RX,rfl,WZ,F⟩;have HO:=aJ WZ;replace B:=B.aA F;clear WZ F HA XE;(go_wp2_with fail);refine(C9 gf _ _ _ _ (bT.ext HC.o B.x)).mono ?_;rintro _ wK ⟨rfl,F⟩;replace HO:=HO.aA F;replace B:=B.aA F;clear F;have kc:wK.cell? ⟨gf,0,none⟩=some (.int .i64 0):=((Blk.ext HC.o B.x).cell 0).trans rfl;have WT:wK.rangeAt gx 15 (jb (lv brs)):=(HG.ext B.x).rangeAt (by simp[jb]) (fun j v hv=>sV HN.o hv);have Ws:=aJ WT;clear WT;(go_wp2_with (refine wpList_load_mid rfl 99 _ rfl gx 15 rf (jb (lv brs)) _ Ws.o Tryz.underlying99 rfl tC ?_));clear Ws kc;have Z:=aJ (Lp3.of B.o HO.o);clear B HO;go_loopw [129] (fun iv wr=>∃i:Nat,i<=18/\iv=.int .i64 i/\Lp3 w wr g8 g9 g10 G (lv brs) n RX (sol n (eU zmx ((usd (lv brs) sq brs).map (Nb.br (rwx (lv brs))))) (col (unit (rwx (lv brs) fN)))) i) (fun iv _=>18-(intOf iv).toNat)
      case atStart=>exact⟨0,aa,rfl,Z.o⟩
      case round=>
       exact Aaf
def rU(g):∀(xs j:List Value) (k:Nat) (w:World),puts w g k (xs++j)=puts (puts w g k xs) g (k+xs.length) j
 |[],_,_,_=>rfl
 |x::xs,j,k,w=>by
  show puts (w.setCell ⟨g,k,none⟩ x) g (k+1) (xs++j)=puts (puts (w.setCell ⟨g,k,none⟩ x) g (k+1) xs) g (k+(xs.length+1)) j;rw[rU g xs j (k+1),show k+(xs.length+1)=k+1+xs.length by omega]
structure Sv (w0 w:World) (gx gf g5 g7:Nat) (C:Nat->Value) (E:Nat->En) (D:Nat->Prop) (Q:Nat->GQ) (f:dQ) (f7:Nat->En) (bs:List BrD):Prop where
 g:GrS w0 w gx gf C E D Q 4400
 b5:Blk w g5 33 #[.int .i64 f.kind,.bool f.line,.int .i64 f.obj,.int .i64 f.num,.int .i64 f.den,.int .i64 f.r]
 b7:Blk w g7 100 (aN 18 f7).toArray
 v7:∀k,k<18->GV w (f7 k).v (bef bs k) 841
 l5:w0.heap.size<=g5
 l7:w0.heap.size<=g7
 lx:gx<w0.heap.size
section
variable {w0 w w':World} {gx gf g5 g7:Nat} {C:Nat->Value} {E:Nat->En} {D D':Nat->Prop} {Q Q':Nat->GQ} {f:dQ} {f7:Nat->En} {bs:List BrD}
def Sv.ext(h:Sv w0 w gx gf g5 g7 C E D Q f f7 bs)(x:Ext w w'):Sv w0 w' gx gf g5 g7 C E D Q f f7 bs:=⟨h.g.ext x,h.b5.ext x,h.b7.ext x,fun k j=>(h.v7 k j).ext x,h.l5,h.l7,h.lx⟩
def Sv.to(h:Sv w0 w gx gf g5 g7 C E D Q f f7 bs)(hd:∀e,e<60->D' e->D e/\Q e=Q' e):Sv w0 w gx gf g5 g7 C E D' Q' f f7 bs:=⟨h.g.to hd,h.b5,h.b7,h.v7,h.l5,h.l7,h.lx⟩
def Sv.put(h:Sv w0 w gx gf g5 g7 C E D Q f f7 bs){e a x q n}(O:e<60)(hn:n<=4400)(J:GV w x.v q n)(ha:a=33+e*6)(Y:w'=puts w gx a x.cells):
  Sv w0 w' gx gf g5 g7 C (upd E e x) (fun k=>k=e\/D k) (upd Q e q) f f7 bs:=by
 subst ha;obtain⟨B,j⟩:=h.g.put O (J.up hn) Y;have l5:=h.l5;have l7:=h.l7;have lx:=h.lx;exact⟨B,h.b5.mod j (by show ¬g5=gx;omega),h.b7.mod j (by show ¬g7=gx;omega),fun k l=>h.g.Ie j (h.v7 k l),h.l5,h.l7,h.lx⟩
def Sv.net{A nb j Bv}(h:Sv w0 w gx gf g5 g7 C E D Q f f7 bs)(hn:rH w0 C A nb j Bv bs (lv bs))(B:gG (fun k=>k=gx) w0)(l:∀b o,A=some ⟨b,o,none⟩->b≠gx):rH w (eO C E) A nb j Bv bs (lv bs):=
 hn.mod h.g.m B l (fun i hi=>dY hi)
end
noncomputable def xN (bs:List BrD) (fN:Nat) (f:dQ) (e:Nat):GQ:=
 if f.kind≠0/\lv bs fN=true then
  if e<54 then vlt bs fN f.kind f.r (e/18) (e%18) else if e<57 then fcu bs fN f.kind f.r (e-54) else if e=57 then bef bs fN else drp bs fN (e-58) fN
 else if e<54 then vbe bs (e/18) (e%18) else GQ.i 0 0
def Sv.start{w wq w2 F B:World}{gx gf g5 C W}{f:dQ}{f7 bs}(hc:bT w gf)(M:eZ w gx 105 393 (eO C W))(G:∀i,i<33->mM (C i)=true)(J:Ext w w2)(b5:Blk w2 g5 33 #[.int .i64 f.kind,.bool f.line,.int .i64 f.obj,.int .i64 f.num,.int .i64 f.den,.int .i64 f.r])(hv:∀k,k<18->GV w2 (f7 k).v (bef bs k) 841)(l5:w.heap.size<=g5)(lx:gx<w.heap.size)(H:F=w2.alloc (.cells (aN 18 fun _=>zEn).toArray 100))(I:B=puts F w2.heap.size 0 (aN 18 f7))(D Q)(K:∀e,¬D e):
  Sv w B gx gf g5 w2.heap.size C W D Q f f7 bs:=by
 have l:Ext w2 F:=by rw[H];exact Ext.new _ _
 have b7:Blk F w2.heap.size 100 (aN 18 fun _=>zEn).toArray:=by rw[H];exact Blk.new _ _ _
 have j:Ext w2 B:=by rw[I];exact gz (Nat.le_refl _:Own w2 w2.heap.size) 0 _ l
 have b8:Blk B w2.heap.size 100 (aN 18 f7).toArray:=by
  have:=bY 0 (aN 18 f7) b7;rw[iy _ _ (by rw[aW,aW])] at this;rw[I];exact this
 exact⟨⟨(M.ext J).ext j,fun e _ hd=>absurd hd (K e),Mod.of (J.trans j),(bT.ext hc J).ext j,G⟩,b5.ext j,b8,fun k L=>(hv k L).ext j,l5,J.size,lx⟩
def MU:(Tryz.prog.info? 194).map (·.zero)=some (some (.agg (aN 36 fun _=>zEn).toArray)):=ah
structure Sw (w0 w:World) (gx gf g5 g7 g9:Nat) (C:Nat->Value) (E:Nat->En) (D:Nat->Prop) (Q:Nat->GQ) (f:dQ) (f7:Nat->En) (bs:List BrD) (fN:Nat) (f9:Nat->En) (i:Nat):Prop where
 s:Sv w0 w gx gf g5 g7 C E D Q f f7 bs
 b9:Blk w g9 194 (aN 36 f9).toArray
 v9:∀e,e<i*18->GV w (f9 e).v (drp bs fN (e/18) (e%18)) 841
 l9:w0.heap.size<=g9
section
variable {w0 w w':World} {gx gf g5 g7 g9 fN i:Nat} {C:Nat->Value} {E:Nat->En} {D D':Nat->Prop} {Q Q':Nat->GQ} {f:dQ} {f7 f9:Nat->En} {bs:List BrD}
def Sw.start(h:Sv w0 w gx gf g5 g7 C E D Q f f7 bs)(Y:w'=w.alloc (.cells (aN 36 fun _=>zEn).toArray 194)):Sw w0 w' gx gf g5 g7 w.heap.size C E D Q f f7 bs fN (fun _=>zEn) 0:=by
 subst Y;exact⟨h.ext (Ext.new _ _),Blk.new _ _ _,fun e O=>aa,h.g.m.size⟩
def Sw.ext(h:Sw w0 w gx gf g5 g7 g9 C E D Q f f7 bs fN f9 i)(x:Ext w w'):Sw w0 w' gx gf g5 g7 g9 C E D Q f f7 bs fN f9 i:=⟨h.s.ext x,h.b9.ext x,fun e O=>(h.v9 e O).ext x,h.l9⟩
def Sw.to(h:Sw w0 w gx gf g5 g7 g9 C E D Q f f7 bs fN f9 i)(hd:∀e,e<60->D' e->D e/\Q e=Q' e):Sw w0 w gx gf g5 g7 g9 C E D' Q' f f7 bs fN f9 i:=⟨h.s.to hd,h.b9,h.v9,h.l9⟩
def Sw.put(h:Sw w0 w gx gf g5 g7 g9 C E D Q f f7 bs fN f9 i){e a x q n}(O:e<60)(hn:n<=4400)(J:GV w x.v q n)(ha:a=33+e*6)(Y:w'=puts w gx a x.cells):
  Sw w0 w' gx gf g5 g7 g9 C (upd E e x) (fun k=>k=e\/D k) (upd Q e q) f f7 bs fN f9 i:=by
 have j:Mod (fun k=>k=gx) w w':=by rw[Y];exact Mod.puts _ _ _ _ rfl
 have lx:=h.s.lx;have l9:=h.l9;exact⟨h.s.put O hn J ha Y,h.b9.mod j (by show ¬g9=gx;omega),fun k l=>h.s.g.Ie j (h.v9 k l),h.l9⟩
def JN{i}(hi:i<2)(f x):fD (aN 36 f).toArray (i*108) (aN 18 x)=(aN 36 fun e=>if e/18=i then x (e%18) else f e).toArray:=by
 rw[jE];congr 1;have D:(aN 36 f).length=216:=aW _ _;have C:(aN 18 x).length=108:=aW _ _;rw[D,C,List.take_of_length_le (l:=aN 18 x) aa];apply List.ext_getElem?;intro p;by_cases hp:p<216
 .obtain⟨j,t,rfl,F⟩:∃j t,p=j*6+t/\t<6:=⟨p/6,p%6,aa,aa⟩;have G:j<36:=aa;rw[dM (f:=fun e=>if e/18=i then x (e%18) else f e) F G];have B:((aN 36 f).take (i*108)).length=i*108:=by rw[List.length_take,D];omega
  by_cases H:j/18=i
  .simp only[if_pos H];rw[List.getElem?_append_left AaZ,List.getElem?_append_right (by rw[B];omega),B,show j*6+t-i*108=j%18*6+t by omega,dM F aa]
  .simp only[if_neg H];by_cases I:j/18<i
   .rw[List.getElem?_append_left AaZ,List.getElem?_append_left (by rw[B];omega),List.getElem?_take_of_lt aa,dM F G]
   .rw[List.getElem?_append_right AaZ,List.length_append,B,C,List.getElem?_drop,show i*108+108+(j*6+t-(i*108+108))=j*6+t by omega,dM F G]
 .rw[List.getElem?_eq_none AcP,List.getElem?_eq_none Ab8]
def Sw.drops(h:Sw w0 w gx gf g5 g7 g9 C E D Q f f7 bs fN f9 i)(hi:i<2){x}(J:∀k,k<18->GV w (x k).v (drp bs fN i k) 841)(Y:w'=puts w g9 (i*108) (aN 18 x)):
  Sw w0 w' gx gf g5 g7 g9 C E D Q f f7 bs fN (fun e=>if e/18=i then x (e%18) else f9 e) (i+1):=by
 have l:Mod (fun k=>k=g9) w w':=by rw[Y];exact Mod.puts _ _ _ _ rfl
 have hS:Far (fun k=>k=g9) w:=fun k B _=>by
  obtain rfl:k=g9:=B;exact⟨_,_,h.b9,cu _ _⟩
 have n5:¬g5=g9:=h.s.b5.fO h.b9 aj;have G:¬g7=g9:=h.s.b7.fO h.b9 aj;have nf:¬gf=g9:=Blk.fO h.s.g.f h.b9 aj;have j:¬gx=g9:=Blk.fO h.s.g.b h.b9 aj;have l9:=h.l9;have m:=h.s.g.m;refine⟨⟨⟨h.s.g.b.mod l j,fun e O hd=>(h.s.g.v e O hd).mod l hS,⟨l.os.trans m.os,l.tape.trans m.tape,l.output.trans m.output,Nat.le_trans m.size l.size,fun k B hn=>(l.block k (Nat.lt_of_lt_of_le B m.size) (fun e=>by have e:k=g9:=e;omega)).trans (m.block k B hn)⟩,Blk.mod h.s.g.f l nf,h.s.g.n⟩,h.s.b5.mod l n5,h.s.b7.mod l G,fun k B=>(h.s.v7 k B).mod l hS,h.s.l5,h.s.l7,h.s.lx⟩,?_,fun e O=> ?_,h.l9⟩
 .have:=bY (i*108) (aN 18 x) h.b9;rw[JN hi] at this;rw[Y];exact this
 .by_cases F:e/18=i
  .simp only[if_pos F];rw[F];exact(J _ (Nat.mod_lt _ aa)).mod l hS
  .simp only[if_neg F];exact(h.v9 e aa).mod l hS
def Sw.U2(h:Sw w0 w gx gf g5 g7 g9 C E D Q f f7 bs fN f9 i)(hi:i<2)(x):w.there g9 (i*108) (aN 18 x).length:=h.b9.there AbW
def Sw.c9(h:Sw w0 w gx gf g5 g7 g9 C E D Q f f7 bs fN f9 i){j k t u x}(G:j<2)(F:k<18)(J:f9 (j*18+k)=x)(l:x.cells[t]? =some u):w.cell? ⟨g9,j*108+k*6+t,none⟩=some u:=by
 have B:t<6:=(List.getElem?_eq_some_iff.1 l).1;subst J;rw[h.b9.cell,List.getElem?_toArray,show j*108+k*6+t=(j*18+k)*6+t by omega,dM B aa];exact l
def Sw.gx_(h:Sw w0 w gx gf g5 g7 g9 C E D Q f f7 bs fN f9 i){e a t x u}(O:e<60)(ha:a=33+e*6)(J:E e=x)(j:x.cells[t]? =some u):w.cell? ⟨gx,a+t,none⟩=some u:=by
 have l:t<6:=(List.getElem?_eq_some_iff.1 j).1;subst J;subst ha;exact h.s.g.b.cell_ aa (qh j)
def Sw.at9(h:Sw w0 w gx gf g5 g7 g9 C E D Q f f7 bs fN f9 i){j k x}(B:j*18+k<i*18)(F:k<18)(J:f9 (j*18+k)=x):GV w x.v (drp bs fN j k) 841:=by
 have l:=h.v9 _ B;rw[J,show(j*18+k)/18=j by omega,show(j*18+k)%18=k by omega] at l;exact l
noncomputable def pU (bs:List BrD) (fN:Nat) (e:Nat):GQ:=if e<54 then vbe bs (e/18) (e%18) else if e<57 then GQ.i 0 0 else if e=57 then bef bs fN else drp bs fN (e-58) fN
theorem Mk{bs fN e}(O:e<57\/58<=e/\e<58+0):(e=56\/e=55\/e=54\/e<54)/\upd (upd (upd (fun e=>vbe bs (e/18) (e%18)) 54 (GQ.i 0 0)) 55 (GQ.i 0 0)) 56 (GQ.i 0 0) e=pU bs fN e:=by
 refine⟨aa,?_⟩;unfold pU;by_cases j:e<54
 .rw[if_pos j,upd_ne aa,upd_ne aa,upd_ne aa]
 .rw[if_neg j,if_pos aa];have l:e=54\/e=55\/e=56:=aa;rcases l with rfl|rfl|rfl<;>rfl
theorem mid_step{bs fN e i}(hi:i<2)(O:e<57\/58<=e/\e<58+(i+1)):(e=58+i\/(e<57\/58<=e/\e<58+i))/\upd (pU bs fN) (58+i) (drp bs fN i fN) e=pU bs fN e:=by
 refine⟨aa,?_⟩;by_cases j:e=58+i
 .subst j;rw[upd_same];unfold pU;rw[if_neg aa,if_neg aa,if_neg aa,show 58+i-58=i by omega]
 .rw[upd_ne j]
end
theorem QI{bs fN e}(O:e<60):(e=57\/(e<57\/58<=e/\e<58+2))/\upd (pU bs fN) 57 (bef bs fN) e=pU bs fN e:=by
 refine⟨aa,?_⟩;by_cases j:e=57
 .subst j;rw[upd_same];unfold pU;rw[if_neg aa,if_neg aa,if_pos rfl]
 .rw[upd_ne j]
noncomputable def JF (bs:List BrD) (fN:Nat) (f:dQ) (e:Nat):GQ:=if e<54 then vbe bs (e/18) (e%18) else if e<57 then fcu bs fN f.kind f.r (e-54) else pU bs fN e
theorem Sw.faults{w0 w w' gx gf g5 g7 g9 fN i C E f f7 f9 bs}(h:Sw w0 w gx gf g5 g7 g9 C E (fun e=>e<60) (pU bs fN) f f7 bs fN f9 i){a}(ha:∀k,k<3->GV w (a k).v (fcu bs fN f.kind f.r k) 2600)(Y:w'=puts w gx 357 (aN 3 a)):Sw w0 w' gx gf g5 g7 g9 C (upd (upd (upd E 54 (a 0)) 55 (a 1)) 56 (a 2)) (fun e=>e<60) (JF bs fN f) f f7 bs fN f9 i:=by
 rw[iL,iL,iL] at Y;replace Y:w'=puts w gx 357 ((([]++(a 0).cells)++(a 1).cells)++(a 2).cells):=Y;rw[List.nil_append,rU,rU] at Y;have m1:Mod (fun k=>k=gx) w (puts w gx 357 (a 0).cells):=Mod.puts _ _ _ _ rfl;have j:=h.put (e:=54) (a:=357) aa aa (ha 0 aa) aa rfl;have m2:Mod (fun k=>k=gx) (puts w gx 357 (a 0).cells) (puts (puts w gx 357 (a 0).cells) gx 363 (a 1).cells):=Mod.puts _ _ _ _ rfl;have l:=j.put (e:=55) (a:=363) aa aa (h.s.g.Ie m1 (ha 1 aa)) aa rfl;have B:=l.put (e:=56) (a:=369) aa aa (j.s.g.Ie m2 (h.s.g.Ie m1 (ha 2 aa))) aa Y;refine B.to (fun e _ O=>⟨aa,?_⟩);unfold JF;by_cases j:e<54
 .rw[if_pos j,upd_ne aa,upd_ne aa,upd_ne aa];unfold pU;rw[if_pos j]
 .rw[if_neg j];by_cases l:e<57
  .rw[if_pos l];have D:e=54\/e=55\/e=56:=aa;rcases D with rfl|rfl|rfl<;>rfl
  .rw[if_neg l,upd_ne aa,upd_ne aa,upd_ne aa]
noncomputable def pg (bs:List BrD) (fN:Nat) (f:dQ) (i j e:Nat):GQ:=
 if e<54 then (if e%18<i\/e%18=i/\e/18<j then vlt bs fN f.kind f.r (e/18) (e%18) else vbe bs (e/18) (e%18)) else JF bs fN f e
theorem Vy{bs fN e f}:JF bs fN f e=pg bs fN f 0 0 e:=by
 unfold pg;by_cases h:e<54
 .rw[if_pos h,if_neg aa];unfold JF;rw[if_pos h]
 .rw[if_neg h]
theorem RN{bs fN e f}(l:f.kind≠0/\lv bs fN=true)(O:e<60):pg bs fN f 18 0 e=xN bs fN f e:=by
 unfold pg xN;rw[if_pos l];by_cases h:e<54
 .rw[if_pos h,if_pos h,if_pos (Or.inl (Nat.mod_lt _ aa))]
 .rw[if_neg h,if_neg h];unfold JF;rw[if_neg h];by_cases j:e<57
  .rw[if_pos j,if_pos j]
  .rw[if_neg j,if_neg j];unfold pU;rw[if_neg h,if_neg j]
theorem Rn{bs fN n k kd r}(h:lv bs k=false):vlt bs fN kd r n k=vbe bs n k:=by
 unfold vlt;have:drp bs fN (min n 1) k=GQ.i 0 0:=by unfold drp;exact oU h
 rw[this,GQ.bI];ext<;>simp only[GQ.dI,GQ.dJ,GQ.dE,GQ.dB]<;>grind
theorem Q8{bs fN e i j f}(h:lv bs i=false)(O:e<60):pg bs fN f i j e=pg bs fN f i (j+1) e:=by
 unfold pg;by_cases l:e<54
 .rw[if_pos l,if_pos l];by_cases C:e%18=i
  .rw[C,Rn h,ite_self,ite_self]
  .by_cases B:e%18<i
   .rw[if_pos (Or.inl B),if_pos (Or.inl B)]
   .rw[if_neg aa,if_neg aa]
 .rw[if_neg l,if_neg l]
theorem FX{bs fN e i f}(O:e<60):pg bs fN f i 3 e=pg bs fN f (i+1) 0 e:=by
 unfold pg;by_cases j:e<54
 .rw[if_pos j,if_pos j];by_cases l:e%18<i+1
  .rw[if_pos aa,if_pos (Or.inl l)]
  .rw[if_neg aa,if_neg aa]
 .rw[if_neg j,if_neg j]
theorem U7{bs}(hb:∀b∈bs,gF b)(Z:bs.length<=23)(n k):Bd (vbe bs n k) 841:=by
 unfold vbe;split
 .exact OL hb Z k
 .exact Aa8
theorem Rz{bs fN e i j m f}(D:min j 1=m)(F:j<3)(hi:i<18)(O:e<60):(e=j*18+i\/e<60)/\upd (pg bs fN f i j) (j*18+i) (vbe bs j i-fcu bs fN f.kind f.r j*drp bs fN m i) e=pg bs fN f i (j+1) e:=by
 refine⟨Or.inr O,?_⟩;by_cases B:e=j*18+i
 .subst B;rw[upd_same];unfold pg;rw[if_pos aa,if_pos (Or.inr ⟨aa,aa⟩),show(j*18+i)/18=j by omega,show(j*18+i)%18=i by omega,<-D];rfl
 .rw[upd_ne B];unfold pg;by_cases l:e<54
  .rw[if_pos l,if_pos l];by_cases C:e%18<i\/e%18=i/\e/18<j
   .rw[if_pos C,if_pos aa]
   .rw[if_neg C,if_neg aa]
  .rw[if_neg l,if_neg l]
theorem QE{bs fN e f}(h:¬(f.kind≠0/\lv bs fN=true))(O:e<60)(hd:e<57\/f.kind≠0/\lv bs fN=true):
  (e=56\/e=55\/e=54\/e<54)/\upd (upd (upd (fun e=>vbe bs (e/18) (e%18)) 54 (GQ.i 0 0)) 55 (GQ.i 0 0)) 56 (GQ.i 0 0) e=xN bs fN f e:=by
 have j:e<57:=hd.resolve_right h;refine⟨aa,?_⟩;unfold xN;rw[if_neg h];by_cases l:e<54
 .rw[if_pos l,upd_ne aa,upd_ne aa,upd_ne aa]
 .rw[if_neg l];have B:e=54\/e=55\/e=56:=aa;rcases B with rfl|rfl|rfl<;>rfl
def Sv.Vp{w0 w w' gx gf g5 g7 N C E D Q f f7 bs}(h:Sv w0 w gx gf g5 g7 C E D Q f f7 bs){a b c l j qc}(ha:GV w a.v l N)(hb:GV w b.v j N)(hc:GV w c.v qc N)(G:N<=4400)(Y:w'=puts w gx 357 (a.cells++(b.cells++c.cells))):Sv w0 w' gx gf g5 g7 C (upd (upd (upd E 54 a) 55 b) 56 c) (fun k=>k=56\/k=55\/k=54\/D k) (upd (upd (upd Q 54 l) 55 j) 56 qc) f f7 bs:=by
 rw[rU,rU] at Y;have m1:Mod (fun k=>k=gx) w (puts w gx 357 a.cells):=Mod.puts _ _ _ _ rfl;have H:=h.put (e:=54) (a:=357) aa G ha aa rfl;have B:=h.g.Ie m1 hb;have O:=h.g.Ie m1 hc;have m2:Mod (fun k=>k=gx) (puts w gx 357 a.cells) (puts (puts w gx 357 a.cells) gx 363 b.cells):=Mod.puts _ _ _ _ rfl;have I:=H.put (e:=55) (a:=363) aa G B aa rfl;have F:=H.g.Ie m2 O;exact I.put (e:=56) (a:=369) aa G F aa Y
theorem Ct{bs i e}(hi:i<18)(O:e<60)(hd:e<54/\e%18<i+1):
  (e=i\/e=36+i\/e=18+i\/e<54/\e%18<i)/\upd (upd (upd (fun e=>vbe bs (e/18) (e%18)) (18+i) (bef bs i)) (36+i) (GQ.i 0 0)) i (GQ.i 0 0) e=vbe bs (e/18) (e%18):=by
 refine⟨aa,?_⟩;by_cases j:e=i
 .subst j;rw[upd_same];unfold vbe;rw[if_neg aa]
 .rw[upd_ne j];by_cases l:e=36+i
  .subst l;rw[upd_same];unfold vbe;rw[if_neg aa]
  .rw[upd_ne l];by_cases B:e=18+i
   .subst B;rw[upd_same];unfold vbe;rw[if_pos aa,show(18+i)%18=i by omega]
   .rw[upd_ne B]
def lM{w0 w gx gf g5 g7 i t C E D Q f f7 bs x u}(h:Sv w0 w gx gf g5 g7 C E D Q f f7 bs)(J:f7 i=x)(hi:i<18)(j:x.cells[t]? =some u):w.cell? ⟨g7,i*6+t,none⟩=some u:=by
 have l:t<6:=(List.getElem?_eq_some_iff.1 j).1;subst J;rw[h.b7.cell,List.getElem?_toArray,dM l hi];exact j
section
variable {w W W1 W2:World} {gx gf:Nat} {C:Nat->Value} {Bv:Nat->BrV} {s:StD} {p:dC} {f:dQ}
def BG.net(h:BG w W gx gf C Bv s p f)(l:lG s)(B:qy s.buses.length s.lines.length f):∃A F,rH W C A (cZ s p f).length F Bv (cZ s p f) (fun _=>false)/\∀b o,A=some ⟨b,o,none⟩->b≠gx:=by
 obtain⟨A,c,I,G,D⟩:=h.r.own.arr;have j:=Dk (p:=p) l B;have lx:=h.r.lx;refine⟨A,c,⟨I,G,rfl,fun i hi=>⟨(h.r.br i hi).pa,(h.r.br i hi).pb⟩,fun i hi=>(h.r.br i hi).z0,fun i hi=>(h.r.br i hi).z1,fun i hi=>(h.r.br i hi).e,fun k H=>h.liv k H,j.2,j.1⟩,fun b o e=> ?_⟩;have:=D b o e;omega
theorem VE(n k)(hn:n<3)(j:k<18):xN (cZ s p f) (fH s p f) f (n*18+k)=nu (cZ s p f) (fH s p f) f n k:=by
 unfold xN nu;rw[if_pos (by omega:n*18+k<54),if_pos (by omega:n*18+k<54),show(n*18+k)/18=n by omega,show(n*18+k)%18=k by omega]
theorem Ve(n)(hn:n<3):xN (cZ s p f) (fH s p f) f (54+n)=vK (cZ s p f) (fH s p f) f n:=by
 unfold xN vK;rw[if_neg (by omega:¬54+n<54),if_pos (by omega:54+n<57),if_neg (by omega:¬54+n<54),show 54+n-54=n by omega]
def nE.old{W W' X Y v}{o:Option BrD}(h:nE W X v o)(m:Mod (fun k=>k=Y) W W')(j:gG (fun k=>k=Y) W)(Z:∀g k,v=.pointer (some ⟨g,k,none⟩)->Y<g):nE W' X v o:=by
 cases o with
 |none=>exact h
 |some b=>
  obtain⟨g,k,bv,B,D,l,J,H,K,G,I,F⟩:=h;have:=Z g k B;exact⟨g,k,bv,B,D,Nat.lt_of_lt_of_le l m.size,fun t u C=>vM m l aa (J t u C),H,K,G.fQ m j,I.fQ m j,F.fQ m j⟩
def nI.old{W W'}{X Y B:Nat}{C E}{s:StD}{p f}(h:nI W X C E s p f)(m:Mod (fun k=>k=Y) W W')(l:gG (fun k=>k=Y) W)(Z:∀(gB:Nat) (wv:Nat->Value),C 13=.slice (some ⟨gB,0,none⟩) s.bays.length s.bays.length->Arr W (some ⟨gB,0,none⟩) s.bays.length 1 (fun i=>[wv i])->Y<gB/\∀i,i<s.bays.length->∀g k,wv i=.pointer (some ⟨g,k,none⟩)->Y<g)(G:∃gB,C 13=.slice (some ⟨gB,0,none⟩) s.bays.length s.bays.length):nI W' X C E s p f:=by
 refine⟨fun n k hn I=>(h.v n k hn I).fQ m l,fun n hn=>(h.i n hn).fQ m l,fun F D=> ?_,h.live,h.ends,h.faulty,h.c0,?_⟩
 .obtain⟨a,b,c⟩:=h.seen F D;exact⟨a.fQ m l,b.fQ m l,c.fQ m l⟩
 .obtain⟨K,bc,wv,F,D,H⟩:=h.bays;obtain⟨gB,j⟩:=G;have e:=F.symm.trans j;injection e with J M L;subst J;obtain⟨q1,q2⟩:=Z gB wv j D;exact⟨_,bc,wv,F,D.mod m (fun b o e hb=>by injection e with e;injection e with e _ _;have hb:b=Y:=hb;omega),fun i hi=>(H i hi).old m l (q2 i hi)⟩
def BG.Jw(h:BG w W gx gf C Bv s p f)(K:lG s)(F:Mod (fun k=>k=gx) W W1){E}(hs:GrS W1 W2 gx gf (jw C (lv (cZ s p f))) E (fun e=>e<57\/f.kind≠0/\lv (cZ s p f) (fH s p f)=true) (xN (cZ s p f) (fH s p f) f) 4400):nI W2 gx (jw C (lv (cZ s p f))) E s p f:=by
 have H:Mod (fun k=>k=gx) W W2:=F.trans hs.m;have J:=h.r.far;refine⟨fun n k hn D=> ?_,fun n hn=> ?_,fun j B=>⟨?_,?_,?_⟩,fun k D=>mH D,fun l e Z O=> ?_,?_,?_,?_⟩
 .have:=hs.v (n*18+k) aa (.inl aa);rwa[VE n k hn D] at this
 .have:=hs.v (54+n) aa (.inl aa);rwa[Ve n hn] at this
 .have:=hs.v 57 aa (.inr ⟨j,B⟩);exact Abi
 .have:=hs.v 58 aa (.inr ⟨j,B⟩);exact Abi
 .have:=hs.v 59 aa (.inr ⟨j,B⟩);exact Abi
 .rw[lC aa];exact h.ends l e Z O
 .rw[lC aa];exact h.c14
 .obtain⟨A,c,j,_⟩:=h.r.own.arr;exact⟨A,_,c,by rw[lC aa];exact j⟩
 .obtain⟨gB,wv,j,B,I,N⟩:=h.bays;have lx:=h.r.lx;have hb:eZ W2 gB 165 s.bays.length wv:=I.mod H aa;refine⟨some ⟨gB,0,none⟩,s.bays.length,wv,by rw[lC aa];exact j,fun hn=>⟨gB,0,rfl,hb.lt,fun i hi t u G=> ?_⟩,fun i hi=>(N i hi).1.mod H J⟩;have L:t=0:=by have:=(List.getElem?_eq_some_iff.1 G).1;simp at this;omega
  subst L;have M:wv i=u:=by simpa using G
  rw[show 0+i*1+0=i by omega];exact hb.cell_ hi M
end
theorem Ij{s p}(h:kQ s p=0):p.closed.length=s.bays.length/\p.links.length=s.bays.length/\∀i,i<s.bays.length->(p.links.getD i []).length=(s.bays.getD i default).links.length:=by
 unfold kQ at h;split at h
 .rename_i l
  split at h
  .rename_i j
   rw[List.all_eq_true] at j;exact⟨l.1,l.2,fun i hi=>by have:=j i (List.mem_range.2 hi);simpa using this⟩
  .exact absurd h aj
 .exact absurd h aj
theorem Tg{s f}(h:chk s=0)(j:eD s.buses.length s.lines.length f=0):wM s f=0:=by
 unfold wM;rw[h,j];rfl
def fl (P:Nat->PQ) (j:Nat):GQ:=if j%2=0 then (P (j/2)).u else (P (j/2)).v
def iC (v1 j:Value) (e:Nat->En):List Value:=v1::j::aN 12 e
def fP(v1 j e):(iC v1 j e).length=74:=by show(aN 12 e).length+2=74;rw[aW]
def vU:(Tryz.prog.info? 47).map (·.zero)=some (some (.agg (iC (.slice none 0 0) (.slice none 0 0) fun _=>zEn).toArray)):=ah
def Vm:Tryz.zeroCells47=(iC (.slice none 0 0) (.slice none 0 0) fun _=>zEn).toArray:=ah
def O5(a b):(Tryz.zeroCells47.setIfInBounds 0 a).setIfInBounds 1 b=(iC a b fun _=>zEn).toArray:=by rw[Vm];rfl
def oI(v1 j e):(Tryz.prog.info? 47).map (·.size)=some (iC v1 j e).length:=by rw[fP];kernel_rfl
def chunk (i:Nat) (x e:Nat->En) (j:Nat):En:=if j/6=i then x (j%6) else e j
theorem zQ{n i}(hi:i<n)(x e):fD (aN (n*6) e).toArray (i*36) (aN 6 x)=(aN (n*6) (chunk i x e)).toArray:=by
 rw[jE];congr 1;have D:(aN (n*6) e).length=n*6*6:=aW _ _;have C:(aN 6 x).length=36:=aW _ _;rw[D,C,List.take_of_length_le (l:=aN 6 x) aa];apply List.ext_getElem?;intro p;by_cases hp:p<n*6*6
 .obtain⟨j,t,rfl,F⟩:∃j t,p=j*6+t/\t<6:=⟨p/6,p%6,aa,aa⟩;have G:j<n*6:=aa;rw[dM (f:=chunk i x e) F G];have B:((aN (n*6) e).take (i*36)).length=i*36:=by rw[List.length_take,D];omega
  unfold chunk;by_cases H:j/6=i
  .rw[if_pos H];rw[List.getElem?_append_left AaZ,List.getElem?_append_right (by rw[B];omega),B,show j*6+t-i*36=j%6*6+t by omega,dM F aa]
  .rw[if_neg H];by_cases I:j/6<i
   .rw[List.getElem?_append_left AaZ,List.getElem?_append_left (by rw[B];omega),List.getElem?_take_of_lt aa,dM F G]
   .rw[List.getElem?_append_right AaZ,List.length_append,B,C,List.getElem?_drop,show i*36+36+(j*6+t-(i*36+36))=j*6+t by omega,dM F G]
 .rw[List.getElem?_eq_none AcP,List.getElem?_eq_none Ab8]
def Ov:(Tryz.prog.info? 45).map (fun i=>(i.zero,i.size,i.bytes))=some (some (.agg (aN 6 fun _=>zEn).toArray),36,576):=ah
def BK:∀n:Nat,nA n (aN 6 fun _=>zEn)=aN (n*6) fun _=>zEn
 |0=>rfl
 |n+1=>by
  rw[pJ,BK n,F8,show(n+1)*6=n*6+6 by omega];simp only[ite_self]
def KS(n:Nat)(hn:n<=1000)(W:World):(Instr.makeSlice 37 (.int .i64 n) (.int .i64 n)).run Tryz.prog W=.ok (.slice (some ⟨W.heap.size,0,none⟩) n n) (W.alloc (.cells (aN (n*6) fun _=>zEn).toArray 45)):=by
 obtain⟨i0,U,B,l,j⟩:=info_parts Ov;have h:=run_make (P:=Tryz.prog) W 37 45 i0 (.agg (aN 6 fun _=>zEn).toArray) Tryz.underlying37 U B .i64 .i64 n n aa aa Abt aa;rw[h,l];have e:=pE (aN 6 fun _=>zEn) Ab8 n;rw[aW,BK] at e;simp only[Int.toNat_natCast];rw[show(Value.agg (aN 6 fun _=>zEn).toArray).cells=(aN 6 fun _=>zEn).toArray from rfl,e]
structure BX (w:World) (GC GV_:Nat) (ec ev ef:Nat->En) (s:StD) (p:dC) (f:dQ):Prop where
 bc:Blk w GC 45 (aN (s.bays.length*6) ec).toArray
 bv:Blk w GV_ 45 (aN (s.bays.length*6) ev).toArray
 c:∀i,i<s.bays.length->Ph3 w (fun j=>ec (i*6+j)) (phv (yC s p f i) (shf f.kind)) 4600
 v:∀i,i<s.bays.length->Ph3 w (fun j=>ev (i*6+j)) (phv (rR s p f i) (shf f.kind)) 4600
 fc:Ph3 w ef (phv (vK (cZ s p f) (fH s p f) f) (shf f.kind)) 4600
 fv:Ph3 w (fun j=>ef (6+j)) (phv (fun n=>nu (cZ s p f) (fH s p f) f n (fH s p f)) (shf f.kind)) 4600
def BX.ext{w w' GC GV_ ec ev ef s p f}(h:BX w GC GV_ ec ev ef s p f)(x:Ext w w'):BX w' GC GV_ ec ev ef s p f:=
 ⟨h.bc.ext x,h.bv.ext x,fun i hi=>(h.c i hi).ext x,fun i hi=>(h.v i hi).ext x,h.fc.ext x,h.fv.ext x⟩
def Np(k w)(j:0<=k/\k<=10):
  Calls Tryz.prog 43 #[.int .i64 k] w fun e w'=>e=.returned (.int .i64 (shf k:Nat))/\w'=w:=by
 have h:k=0\/k=1\/k=2\/k=3\/k=4\/k=5\/k=6\/k=7\/k=8\/k=9\/k=10:=aa;rcases h with rfl|rfl|rfl|rfl|rfl|rfl|rfl|rfl|rfl|rfl|rfl
 all_goals
  go_enter Tryz.func43,Tryz.ntmps43;go_wp2;go_ret;exact⟨rfl,rfl⟩
theorem vZ(a b e)(ha:a.oneCell'=true)(hb:b.oneCell'=true):∀v∈iC a b e,v.oneCell'=true:=by
 intro v hv;unfold iC at hv;simp only[List.mem_cons] at hv;rcases hv with rfl|rfl|hv
 .exact ha
 .exact hb
 .exact dH _ _ v hv
theorem Ph3.row{w e P n}(h:Ph3 w e P n):mh w 6 e (fl P) n:=fun j C=>by
 have l:=h (j/2) aa;unfold fl;by_cases B:j%2=0
 .rw[if_pos B];have:=l.1;rwa[show 2*(j/2)=j by omega] at this
 .rw[if_neg B];have:=l.2;rwa[show 2*(j/2)+1=j by omega] at this
theorem Ph3.of{w e P n}(h:mh w 6 e (fl P) n):Ph3 w e P n:=fun m B=>by
 have j:=h (2*m) aa;have l:=h (2*m+1) aa;unfold fl at j l;rw[if_pos aa,show 2*m/2=m by omega] at j;rw[if_neg aa,show(2*m+1)/2=m by omega] at l;exact⟨j,l⟩
section
variable {bs:List BrD} {fN:Nat} {f:dQ} {D:GQ}
def Den.dif(h:Den bs fN f D)(n j k):Bd (nu bs fN f n j-nu bs fN f n k) 4600:=
 (((h.JP j).2.2 n).sub ((h.JP k).2.2 n)).bd (gJ h.wd (by omega:2200<=2250)) h.ne aa aa
def Den.VU(h:Den bs fN f D)(j k){m}(C:0<=m/\m<=1000000):Bd (nu bs fN f 1 j-nu bs fN f 1 k-GQ.i m 0) 4600:=by
 have B:=(((h.JP j).2.2 1).sub ((h.JP k).2.2 1));have l:Fr D 0 2251 (GQ.i m 0):=(Fr.of (dS h.wd (nO (by show m.natAbs<=2^20;omega):Wh (GQ.i m 0) (q2 20)))).le aa;exact(B.sub l).bd (gJ h.wd (by omega:2200<=2250)) h.ne aa aa
end
def Nk(gx gf i C E){s p f D}(w)(hc:bT w gf)(J:eZ w gx 105 393 (eO C E))(hv:nI w gx C E s p f)(j:lG s)(l:qy s.buses.length s.lines.length f)(B:Den (cZ s p f) (fH s p f) f D)(hi:i<s.bays.length):
  Calls Tryz.prog 45 #[.pointer (some ⟨gx,0,none⟩),.pointer (some ⟨gf,0,none⟩),.int .i64 (i:Int)] w fun r w'=>∃a:Nat->En,r=.returned (.agg (aN 3 a).toArray)/\mh w' 3 a (yC s p f i) 4600/\Ext w w':=by
 obtain⟨H,bc,wv,F,I,Y⟩:=hv.bays;obtain⟨G,K⟩:=B.VI (way s p f i) (fun b hb=>DX j l hi hb);exact Nr gx gf i s.bays.length bc C E (nu (cZ s p f) (fH s p f) f) (lv (cZ s p f)) (way s p f i) H wv w hc J hv.v hv.live F I hi (Y i hi) (fun b hb=>DX j l hi hb)
  (fun b hb n hn=>B.dif n b.a b.b) (fun b hb=>B.VU b.a b.b (DX j l hi hb).emf) (fun n=>K.bd n)
def pQ(gf sh:Nat)(a q D w)(hc:bT w gf)(ha:mh w 3 a q 4600)(hq:rP q D)(hs:sh<3):
  Calls Tryz.prog 44 #[.pointer (some ⟨gf,0,none⟩),.agg (aN 3 a).toArray,.int .i64 (sh:Int)] w fun r w'=>∃e:Nat->En,r=.returned (.agg (aN 6 e).toArray)/\mh w' 6 e (fl (phv q sh)) 4600/\Ext w w':=
 (IY gf sh a q D w hc ha hq hs).mono fun r w' ⟨e,j,l,B⟩=>⟨e,j,l.row,B⟩
def FD(a b l B k):fD (a::b::l).toArray (k+2) B=(a::b::(fD l.toArray k B).toList).toArray:=by
 rw[jE,jE];have C:(a::b::l).length-(k+2)=l.length-k:=by simp only[List.length_cons];omega
 have j:k+2+B.length=(k+B.length)+1+1:=aa;rw[C,j,List.drop_succ_cons,List.drop_succ_cons,show k+2=k+1+1 from rfl,List.take_succ_cons,List.take_succ_cons];simp
theorem RF(a b e x){i}(hi:i<2):fD (iC a b e).toArray (i*36+2) (aN 6 x)=(iC a b (chunk i x e)).toArray:=by
 unfold iC;rw[FD,zQ (n:=2) hi]
structure SoS (w W:World) (g8 g10 g12 GC GV_:Nat) (C:Nat->Value) (E:Nat->En) (ec ev ef:Nat->En) (s:StD) (p:dC) (f:dQ) (i k:Nat):Prop where
 g:eZ W g8 105 393 (eO C E)
 c:bT W g10
 b12:Blk W g12 47 (iC (.slice (some ⟨GC,0,none⟩) s.bays.length s.bays.length) (.slice (some ⟨GV_,0,none⟩) s.bays.length s.bays.length) ef).toArray
 bc:Blk W GC 45 (aN (s.bays.length*6) ec).toArray
 bv:Blk W GV_ 45 (aN (s.bays.length*6) ev).toArray
 vc:∀j,j<i->Ph3 W (fun t=>ec (j*6+t)) (phv (yC s p f j) (shf f.kind)) 4600
 vv:∀j,j<k->Ph3 W (fun t=>ev (j*6+t)) (phv (rR s p f j) (shf f.kind)) 4600
 x:Ext w W
 lo:w.heap.size<=g8/\w.heap.size<=g10/\w.heap.size<=g12/\w.heap.size<=GC/\w.heap.size<=GV_
 ne:GC≠GV_
section
variable {w W W':World} {g8 g10 g12 GC GV_ i k:Nat} {C:Nat->Value} {E:Nat->En} {ec ev ef:Nat->En} {s:StD} {p:dC} {f:dQ}
def SoS.ext(h:SoS w W g8 g10 g12 GC GV_ C E ec ev ef s p f i k)(x:Ext W W'):SoS w W' g8 g10 g12 GC GV_ C E ec ev ef s p f i k:=
 ⟨h.g.ext x,h.c.ext x,h.b12.ext x,h.bc.ext x,h.bv.ext x,fun j l=>(h.vc j l).ext x,fun j l=>(h.vv j l).ext x,h.x.trans x,h.lo,h.ne⟩
def Ph3.mod{S e P n}(h:Ph3 W e P n)(m:Mod S W W')(hS:Far S W):Ph3 W' e P n:=fun j l=>⟨(h j l).1.mod m hS,(h j l).2.mod m hS⟩
def SoS.VY(h:SoS w W g8 g10 g12 GC GV_ C E ec ev ef s p f i k):Far (fun k=>k=GC) W:=fun k j _=>by
 obtain rfl:k=GC:=j;exact⟨_,_,h.bc,cu _ _⟩
def SoS.V9(h:SoS w W g8 g10 g12 GC GV_ C E ec ev ef s p f i k):Far (fun k=>k=GV_) W:=fun k j _=>by
 obtain rfl:k=GV_:=j;exact⟨_,_,h.bv,cu _ _⟩
theorem SoS.V5(h:SoS w W g8 g10 g12 GC GV_ C E ec ev ef s p f i i){e}(hi:i<s.bays.length)(O:mh W 6 e (fl (phv (yC s p f i) (shf f.kind))) 4600)(Y:W'=puts W GC (i*36) (aN 6 e)):SoS w W' g8 g10 g12 GC GV_ C E (chunk i e ec) ev ef s p f (i+1) i:=by
 have l:Mod (fun k=>k=GC) W W':=by rw[Y];exact Mod.puts _ _ _ _ rfl
 have lo:=h.lo;have hS:=h.VY;have H:¬g8=GC:=Blk.fO h.g h.bc aj;have U:¬g10=GC:=Blk.fO h.c h.bc aj;have D:¬g12=GC:=Blk.fO h.b12 h.bc aj;refine⟨h.g.mod l H,Blk.mod h.c l U,h.b12.mod l D,?_,h.bv.mod l (fun e=>h.ne e.symm),fun j F=> ?_,fun j F=>(h.vv j F).mod l hS,fw h.x l (fun k G=>by have G:k=GC:=G;omega),h.lo,h.ne⟩
 .have:=bY (i*36) (aN 6 e) h.bc;rw[zQ hi] at this;rw[Y];exact this
 .by_cases J:j=i
  .subst J;refine Ph3.of (fun t B=> ?_);show GV W' (chunk j e ec (j*6+t)).v _ _;exact AbI
  .refine Ph3.of (fun t B=> ?_);have I:chunk i e ec (j*6+t)=ec (j*6+t):=(by unfold chunk;rw[if_neg aa]);show GV W' (chunk i e ec (j*6+t)).v _ _;rw[I];exact((h.vc j aa).row t B).mod l hS
theorem SoS.V7(h:SoS w W g8 g10 g12 GC GV_ C E ec ev ef s p f (i+1) i){e}(hi:i<s.bays.length)(O:mh W 6 e (fl (phv (rR s p f i) (shf f.kind))) 4600)(Y:W'=puts W GV_ (i*36) (aN 6 e)):SoS w W' g8 g10 g12 GC GV_ C E ec (chunk i e ev) ef s p f (i+1) (i+1):=by
 have l:Mod (fun k=>k=GV_) W W':=by rw[Y];exact Mod.puts _ _ _ _ rfl
 have lo:=h.lo;have hS:=h.V9;have H:¬g8=GV_:=Blk.fO h.g h.bv aj;have U:¬g10=GV_:=Blk.fO h.c h.bv aj;have D:¬g12=GV_:=Blk.fO h.b12 h.bv aj;refine⟨h.g.mod l H,Blk.mod h.c l U,h.b12.mod l D,h.bc.mod l h.ne,?_,fun j F=>(h.vc j F).mod l hS,fun j F=> ?_,fw h.x l (fun k G=>by have G:k=GV_:=G;omega),h.lo,h.ne⟩
 .have:=bY (i*36) (aN 6 e) h.bv;rw[zQ hi] at this;rw[Y];exact this
 .by_cases J:j=i
  .subst J;refine Ph3.of (fun t B=> ?_);show GV W' (chunk j e ev (j*6+t)).v _ _;exact AbI
  .refine Ph3.of (fun t B=> ?_);have I:chunk i e ev (j*6+t)=ev (j*6+t):=(by unfold chunk;rw[if_neg aa]);show GV W' (chunk i e ev (j*6+t)).v _ _;rw[I];exact((h.vv j aa).row t B).mod l hS
def SoS.Ty(h:SoS w W g8 g10 g12 GC GV_ C E ec ev ef s p f i k){m a e}(H:m<2)(ha:a=m*36+2)(Y:W'=puts W g12 a (aN 6 e)):SoS w W' g8 g10 g12 GC GV_ C E ec ev (chunk m e ef) s p f i k/\Mod (fun k=>k=g12) W W'/\Far (fun k=>k=g12) W:=by
 subst ha;have D:Mod (fun k=>k=g12) W W':=by rw[Y];exact Mod.puts _ _ _ _ rfl
 have lo:=h.lo;have hS:Far (fun k=>k=g12) W:=fun k F _=>by
  obtain rfl:k=g12:=F;refine⟨_,_,h.b12,?_⟩;show(List.all (_::_::aN 12 ef) _)=true;rw[List.all_cons,List.all_cons];exact cu 12 ef
 have I:¬g8=g12:=Blk.fO h.g h.b12 aj;have U:¬g10=g12:=Blk.fO h.c h.b12 aj;have B:¬GC=g12:=Blk.fO h.bc h.b12 aj;have l:¬GV_=g12:=Blk.fO h.bv h.b12 aj;refine⟨⟨h.g.mod D I,Blk.mod h.c D U,?_,h.bc.mod D B,h.bv.mod D l,fun j G=>(h.vc j G).mod D hS,fun j G=>(h.vv j G).mod D hS,fw h.x D (fun k F=>by have F:k=g12:=F;omega),h.lo,h.ne⟩,D,hS⟩;have:=bY (m*36+2) (aN 6 e) h.b12;rw[RF _ _ _ _ H] at this;rw[Y];exact this
def SoS.KM(h:SoS w W g8 g10 g12 GC GV_ C E ec ev ef s p f i k){a}(ha:a+36<=74)(x):W.there g12 a (aN 6 x).length:=h.b12.there (by rw[List.size_toArray,fP,aW];omega)
def UF{w gx a C E}(h:eZ w gx 105 393 (eO C E))(ha:a<=57){o}(B:o=33+a*6):w.rangeAt gx o (aN 3 fun k=>E (a+k)):=fun t v hv=>by
 have D:t<18:=by have:=(List.getElem?_eq_some_iff.1 hv).1;rwa[aW] at this
 obtain⟨j,u,rfl,l⟩:∃j u,t=j*6+u/\u<6:=⟨t/6,t%6,aa,aa⟩;rw[dM l aa] at hv;have:=h.en (e:=a+j) aa (a:=33+(a+j)*6) rfl u v hv;rw[B,show 33+a*6+(j*6+u)=33+(a+j)*6+u by omega];exact this
def SoS.UI(h:SoS w W g8 g10 g12 GC GV_ C E ec ev ef s p f i k){j}(l:j<s.bays.length)(x):W.there GC (j*36) (aN 6 x).length:=h.bc.there AbW
def SoS.Uw(h:SoS w W g8 g10 g12 GC GV_ C E ec ev ef s p f i k){j}(l:j<s.bays.length)(x):W.there GV_ (j*36) (aN 6 x).length:=h.bv.there AbW
end
end Go.Proofs.YtbfnfkppkmpieaaGreat
