import Derived.Test.YtbfnfkppkmpieaaGreatQsd
set_option linter.unusedVariables false
set_option linter.unusedSimpArgs false
set_option maxHeartbeats 25600000
set_option maxRecDepth 200000
set_option linter.defProp false
namespace Go.Proofs.YtbfnfkppkmpieaaGreat
open Go.RowKit
open Go.RowKit Go.ChangeShapes Go.WideShapes Go.ChangeAt Go.Joins Go.Deep
open Go.RowKit Go.Deep
open Go.Proofs.Tryz
open Option renaming some->γ,none->δ
open Bool renaming true->ε,false->ζ
open Inhabited renaming default->η
open Value renaming slice->aO
open World renaming alloc->aU
open Mc
def Al:(prog.info? 45).map (·.zero)=γ (γ (.agg (bD 6 fun _=>zEn).toArray)):=ah
def xP:(prog.info? 44).map (·.zero)=γ (γ (.agg (bD 2 fun _=>zEn).toArray)):=ah
def je(f):(prog.info? 45).map (·.size)=γ (bD 6 f).length:=by rw[bN];kernel_rfl
def kD(f):(prog.info? 44).map (·.size)=γ (bD 2 f).length:=by rw[bN];kernel_rfl
def Ph3 (w:World) (e:Nat->En) (P:Nat->PQ) (n:Nat):Prop:=∀m,m<3->GV w (e (2*m)).v (P m).u n/\GV w (e (2*m+1)).v (P m).v n
def Ph3.ext{w w' e P n}(h:Ph3 w e P n)(x:Ext w w'):Ph3 w' e P n:=fun m j=>⟨(h m j).1.ext x,(h m j).2.ext x⟩
def two (a b:En) (j:Nat):En:=if j=0 then a else b
def PV.row{w v p n}(h:PV w v p n):∃e:Nat->En,v=.agg (bD 2 e).toArray/\GV w (e 0).v p.u n/\GV w (e 1).v p.v n:=by
 obtain⟨a,b,d,x,y,z,G,I,S,J,T⟩:=h;obtain⟨s1,A1,n1,c1,s2,A2,n2,c2,s3,A3,n3,c3,s4,A4,n4,c4,s5,A5,n5,c5,s6,A6,n6,c6,rfl,B,j,D,l,C,F⟩:=G;exact⟨two ⟨s1,A1,n1,c1,s2,A2,n2,c2,s3,A3,n3,c3⟩ ⟨s4,A4,n4,c4,s5,A5,n5,c5,s6,A6,n6,c6⟩,rfl,⟨a,b,d,RG.mk B j D,I,S⟩,⟨x,y,z,RG.mk l C F,J,T⟩⟩
def afP{w e p n}(l:GV w (e 0).v p.u n)(B:GV w (e 1).v p.v n):PV w (.agg (bD 2 e).toArray) p n:=by
 obtain⟨a,b,d,j,I,S⟩:=l;obtain⟨x,y,z,G,J,T⟩:=B;refine⟨a,b,d,x,y,z,?_,I,S,J,T⟩;have r1:=j;have r2:=G;exact⟨_,_,_,_,_,_,_,_,_,_,_,_,_,_,_,_,_,_,_,_,_,_,_,_,rfl,j.at1,j.at2,j.at3,G.at1,G.at2,G.at3⟩
def AV.row{w v p0 p1 p2 n}(h:AV w v p0 p1 p2 n):∃e:Nat->En,v=.agg (bD 6 e).toArray/\(GV w (e 0).v p0.u n/\GV w (e 1).v p0.v n)/\(GV w (e 2).v p1.u n/\GV w (e 3).v p1.v n)/\(GV w (e 4).v p2.u n/\GV w (e 5).v p2.v n):=by
 obtain⟨z1,z2,z3,H,G,O,L,Q,z9,J,l,M,Z,YA,YQ,D,I,Y,⟨S,A,N,C,rfl,h1,h2,h3,h4,h5,h6,h7,h8,h9,YZ,Yu,Yp,YF,ZP,R,T,B,Yq⟩,I1,S1,I2,S2,F,S3,K,S4,U,P,V,W⟩:=h;refine⟨fun j=>⟨S (3*j+1),A (3*j+1),N (3*j+1),C (3*j+1),S (3*j+2),A (3*j+2),N (3*j+2),C (3*j+2),S (3*j+3),A (3*j+3),N (3*j+3),C (3*j+3)⟩,rfl,⟨⟨_,_,_,RG.mk h1 h2 h3,I1,S1⟩,⟨_,_,_,RG.mk h4 h5 h6,I2,S2⟩⟩,⟨⟨_,_,_,RG.mk h7 h8 h9,F,S3⟩,⟨_,_,_,RG.mk YZ Yu Yp,K,S4⟩⟩,⟨⟨_,_,_,RG.mk YF ZP R,U,P⟩,⟨_,_,_,RG.mk T B Yq,V,W⟩⟩⟩
def jw{w W W' g n t f f0}(J:Ext w W)(C:w.heap.size<=g)(hb:Blk W g t (bD n f0).toArray)(B:W'=puts W g 0 (bD n f)):Blk W' g t (bD n f).toArray/\Ext w W'/\∀v q m,GV W v q m->GV W' v q m:=by
 subst B;have l:Mod (fun k=>k=g) W (puts W g 0 (bD n f)):=Mod.puts _ _ _ _ rfl;refine⟨?_,fQ J l (fun k j=>by have j:k=g:=j;omega),fun v q m hv=>hv.mod l (fun k j _=>by
  obtain rfl:k=g:=j;exact⟨_,_,hb,dI _ _⟩)⟩
 have:=dm 0 (bD n f) hb;exact Abu
def gm{w g n t f f0}(hb:Blk w g t (bD n f0).toArray):w.there g 0 (bD n f).length:=hb.there AaG
def OC(g e w)(hc:dh w g):
  CE 86 #[aN g 0,.agg (bD 6 e).toArray,aJ] w (.agg (bD 6 e).toArray):=by
 have C:=aW hc;clear hc;go_enter func86,ntmps86;(go_wp2_with (refine bJ rfl 45 rfl _ Al (fun j G=>Hid.o ?_)));refine Qz ?_;replace G:=Hid.o G;have J:Ext w j:=by rw[G];exact(Ext.new _ _).alloc _
 have l:Blk j w.heap.size 45 (bD 6 e).toArray:=by rw[G];exact(Blk.new _ _ _).alloc _
 have Q:Blk j (w.heap.size+1) 45 (bD 6 fun _=>zEn).toArray:=by rw[G];exact aeW _ _ (fZ _ _)
 have Z:w.heap.size<=w.heap.size+1:=acb _;(try simp only[fZ]);clear G;generalize w.heap.size+1=g6 at Q Z⊢;generalize R:w.heap.size=g4 at l Z⊢;have O:=dh.ext C.o J;have k0:j.cell? (aM g 0)=γ (.int .i64 0):=Blk.cell O 0;have f0:=Blk.frozen O;have P:Ext j (j.setCell ⟨g,0,δ⟩ (.int .i64 0)):=(Ext.refl j).stay O rfl;have W:=aW (J.trans P);have U:=aW (l.ext P).rng;have S:=aW (Q.ext P);have D:Hid (w.heap.size<=g6):=aW aa;clear J P l Q Z R O;have N:=aW (gm (f:=e) S.o);(go_wp2_with (refine υ rfl 45 _ rfl g4 (0) rf (bD 6 e) _ U.o A8 rfl (je e) (Hid.o ?_)));refine Qz ?_;(go_wp2_with (refine bf rfl 45 (.tmp 6) (.tmp 23) rfl g6 (0) (bD 6 e) rf rf N.o (je e) (dX 6 e) (fun B G=>Hid.o ?_)));refine Qz ?_;replace G:=Hid.o G;have hF:=jw W.o D.o S.o G;go_wp2_with fail;exact jM rfl rfl rf hF.1 A8 rfl (by rw[Ad];exact je e) ⟨rfl,hF.2.1⟩
def Ot(g e w)(hc:dh w g):
  CE 171 #[aN g 0,.agg (bD 2 e).toArray,aJ] w (.agg (bD 2 e).toArray):=by
 have C:=aW hc;clear hc;go_enter func171,ntmps171;(go_wp2_with (refine bJ rfl 44 rfl _ xP (fun j G=>Hid.o ?_)));refine Qz ?_;replace G:=Hid.o G;have J:Ext w j:=by rw[G];exact(Ext.new _ _).alloc _
 have l:Blk j w.heap.size 44 (bD 2 e).toArray:=by rw[G];exact(Blk.new _ _ _).alloc _
 have Q:Blk j (w.heap.size+1) 44 (bD 2 fun _=>zEn).toArray:=by rw[G];exact aeW _ _ (fZ _ _)
 have Z:w.heap.size<=w.heap.size+1:=acb _;(try simp only[fZ]);clear G;generalize w.heap.size+1=g6 at Q Z⊢;generalize R:w.heap.size=g4 at l Z⊢;have O:=dh.ext C.o J;have k0:j.cell? (aM g 0)=γ (.int .i64 0):=Blk.cell O 0;have f0:=Blk.frozen O;have P:Ext j (j.setCell ⟨g,0,δ⟩ (.int .i64 0)):=(Ext.refl j).stay O rfl;have W:=aW (J.trans P);have U:=aW (l.ext P).rng;have S:=aW (Q.ext P);have D:Hid (w.heap.size<=g6):=aW aa;clear J P l Q Z R O;have N:=aW (gm (f:=e) S.o);(go_wp2_with (refine υ rfl 44 _ rfl g4 (0) rf (bD 2 e) _ U.o aai rfl (kD e) (Hid.o ?_)));refine Qz ?_;(go_wp2_with (refine bf rfl 44 (.tmp 6) (.tmp 23) rfl g6 (0) (bD 2 e) rf rf N.o (kD e) (dX 2 e) (fun B G=>Hid.o ?_)));refine Qz ?_;replace G:=Hid.o G;have hF:=jw W.o D.o S.o G;go_wp2_with fail;exact jM rfl rfl rf hF.1 aai rfl (by rw[Ad];exact kD e) ⟨rfl,hF.2.1⟩
def KQ(g:Nat)(R)(p:PQ)(n K:Nat)(m1:Int)(w)(hc:dh w g)(h0:GV w (R 0).v p.u n)(h1:GV w (R 1).v p.v n)(l1: -9223372036854775808<=m1)(u1:m1<=9223372036854775807)(T:m1%12=(K:Int))(hn:2*n+65<=12800):
  Calls prog 131 #[aN g 0,.agg (bD 2 R).toArray,m1,.func (Fn.func 132) #[] #[]] w fun r w'=>∃e:Nat->En,r=.returned (.agg (bD 2 e).toArray)/\GV w' (e 0).v (p*PQ.zp K).u (n+n+65)/\GV w' (e 1).v (p*PQ.zp K).v (n+n+65)/\Ext w w':=by
 have HC:=aW hc;have HX:=aW (afP h0 h1);clear hc h0 h1;go_enter func131,ntmps131;(go_wp2_with (refine bJ rfl 44 rfl _ xP (fun Y G=>Hid.o ?_)));refine Qz ?_;replace G:=Hid.o G;have J:Ext w Y:=by rw[G];exact(Ext.new _ _).alloc _
 have P:Blk Y w.heap.size 44 (bD 2 R).toArray:=by rw[G];exact(Blk.new _ _ _).alloc _
 have Q:Blk Y (w.heap.size+1) 44 (bD 2 fun _=>zEn).toArray:=by rw[G];exact aeW _ _ (fZ _ _)
 have Z:w.heap.size<=w.heap.size+1:=acb _;(try simp only[fZ]);clear G;generalize w.heap.size+1=g8 at Q Z⊢;generalize V:w.heap.size=g5 at P Z⊢;have k0:Y.cell? (aM g 0)=γ (.int .i64 0):=Blk.cell (dh.ext HC.o J) 0;have l:=aW J;have S:=aW P.rng;have C:=aW Q;have HL:Hid (w.heap.size<=g8):=aW aa;clear J P Q Z V;(go_wp2_with (refine υ rfl 44 _ rfl g5 (0) rf (bD 2 R) _ S.o aai rfl (kD R) (Hid.o ?_)));refine Qz ?_;clear k0;go_wp2_with fail;refine(Tc _ p n m1 K _ (HX.ext l.o) l1 u1 T hn).mono ?_;rintro _ w2 ⟨_,rfl,⟨u,rfl,O⟩,F⟩;obtain⟨D,rfl,L,I⟩:=O.row;have M:=aW (And.intro L I);clear L I;replace l:=l.aC F;replace C:=C.aA F;clear O F S;(go_wp2_with (refine bJ rfl 44 rfl _ xP (fun W G=>Hid.o ?_)));refine Qz ?_;replace G:=Hid.o G;have J:Ext w2 W:=by rw[G];exact Ext.new _ _
 have hb:Blk W w2.heap.size 44 (bD 2 fun _=>zEn).toArray:=by rw[G];exact Blk.new _ _ _
 have N:=aW (gm (f:=D) hb);have YL:=l.size;clear G;generalize j:w2.heap.size=g10 at hb N⊢;(go_wp2_with (refine bf rfl 44 (.tmp 10) (.tmp 23) rfl g10 (0) (bD 2 D) rf rf N.o (kD D) (dX 2 D) (fun Yu G=>Hid.o ?_)));refine Qz ?_;replace G:=Hid.o G;obtain⟨U,H,YG⟩:=jw J aa hb G;replace l:=l.aC H;replace C:=C.aA H;replace M:=aW (And.intro (M.o.1.ext H) (M.o.2.ext H));have B:=aW U.rng;clear U H YG hb J N G YL j;(go_wp2_with (refine υ rfl 44 _ rfl g10 (0) rf (bD 2 D) _ B.o aai rfl (kD D) (Hid.o ?_)));refine Qz ?_;go_wp2_with fail;refine(Ot g D _ (dh.ext HC.o l.o)).mono ?_;rintro _ w3 ⟨rfl,F⟩;replace l:=l.aC F;replace C:=C.aA F;replace M:=aW (And.intro (M.o.1.ext F) (M.o.2.ext F));clear F B;have N:=aW (gm (f:=D) C.o);(go_wp2_with (refine bf rfl 44 (.tmp 8) (.tmp 28) rfl g8 (0) (bD 2 D) rf rf N.o (kD D) (dX 2 D) (fun YF G=>Hid.o ?_)));refine Qz ?_;replace G:=Hid.o G;have hF:=jw l.o HL.o C.o G;go_wp2_with fail;exact jM rfl rfl rf hF.1 aai rfl (by rw[Ad];exact kD D) ⟨D,rfl,hF.2.2 _ _ _ M.o.1,hF.2.2 _ _ _ M.o.2,hF.2.1⟩
def S9(g:Nat)(l)(p:PQ)(n K:Nat)(m1:Int)(w)(hc:dh w g)(H:GV w (l 0).v p.u n)(M:GV w (l 1).v p.v n)(l1: -9223372036854775808<=m1)(u1:m1<=9223372036854775807)(T:m1%12=(K:Int))(hn:2*n+65<=12800):
  Calls prog 87 #[aN g 0,.agg (bD 2 l).toArray,m1] w fun r w'=>∃e:Nat->En,r=.returned (.agg (bD 2 e).toArray)/\GV w' (e 0).v (p*PQ.zp K).u (n+n+65)/\GV w' (e 1).v (p*PQ.zp K).v (n+n+65)/\Ext w w':=by
 have W:=aW hc;have P:=aW (And.intro H M);clear hc H M;go_enter func87,ntmps87;(go_wp2_with (refine bJ rfl 44 rfl _ xP (fun D G=>Hid.o ?_)));refine Qz ?_;replace G:=Hid.o G;have J:Ext w D:=by rw[G];exact(Ext.new _ _).alloc _
 have B:Blk D w.heap.size 44 (bD 2 l).toArray:=by rw[G];exact(Blk.new _ _ _).alloc _
 have Q:Blk D (w.heap.size+1) 44 (bD 2 fun _=>zEn).toArray:=by rw[G];exact aeW _ _ (fZ _ _)
 have Z:w.heap.size<=w.heap.size+1:=acb _;(try simp only[fZ]);clear G;generalize w.heap.size+1=g6 at Q Z⊢;generalize R:w.heap.size=g4 at B Z⊢;have j:=aW J;have U:=aW B.rng;have S:=aW Q;have Y:Hid (w.heap.size<=g6):=aW aa;clear J B Q Z R;(go_wp2_with (refine υ rfl 44 _ rfl g4 (0) rf (bD 2 l) _ U.o aai rfl (kD l) (Hid.o ?_)));refine Qz ?_;go_wp2_with fail;refine(KQ g l p n K m1 _ (dh.ext W.o j.o) (P.o.1.ext j.o) (P.o.2.ext j.o) l1 u1 T hn).mono ?_;rintro _ w2 ⟨C,rfl,L,I,F⟩;have O:=aW (And.intro L I);clear L I;replace j:=j.aC F;replace S:=S.aA F;clear F U;have N:=aW (gm (f:=C) S.o);(go_wp2_with (refine bf rfl 44 (.tmp 6) (.tmp 10) rfl g6 (0) (bD 2 C) rf rf N.o (kD C) (dX 2 C) (fun V G=>Hid.o ?_)));refine Qz ?_;replace G:=Hid.o G;have hF:=jw j.o Y.o S.o G;go_wp2_with fail;exact jM rfl rfl rf hF.1 aai rfl (by rw[Ad];exact kD C) ⟨C,rfl,hF.2.2 _ _ _ O.o.1,hF.2.2 _ _ _ O.o.2,hF.2.1⟩
def Dc:∀(xs j:List Value) (cs:Array Value) (k:Nat),gI cs k (xs++j)=gI (gI cs k xs) (k+xs.length) j
 |[],_,_,_=>rfl
 |x::xs,j,cs,k=>by
  show gI (cs.setIfInBounds k x) (k+1) (xs++j)=gI (gI (cs.setIfInBounds k x) (k+1) xs) (k+(xs.length+1)) j;rw[Dc xs j _ (k+1),show k+(xs.length+1)=k+1+xs.length by omega]
def Pw{e x m}(B:m<3):gI (bD 6 e).toArray (m*12) (bD 2 x)=(bD 6 (upd (upd e (2*m) (x 0)) (2*m+1) (x 1))).toArray:=by
 have l:bD 2 x=(x 0).cells++(x 1).cells:=by rw[jg,jg];rfl
 have j:gI (bD 6 e).toArray (m*12) ((x 0).cells++(x 1).cells)=gI (gI (bD 6 e).toArray (m*12) (x 0).cells) (m*12+6) (x 1).cells:=Dc _ _ _ _;rw[l,j,show m*12=2*m*6 by omega,ou (x 0) aa,show 2*m*6+6=(2*m+1)*6 by omega,ou (x 1) aa]
def Blk.Wq{w g n j o t f}(h:Blk w g t (bD n f).toArray)(B:j<n)(l:o=j*6):w.rangeAt g o (f j).cells:=fun t v hv=>by
 subst l;have C:t<6:=by have:=(μ.1 hv).1;rwa[sQ] at this
 rw[h.cell,Γ,dP C B];exact hv
structure PhS (w wr:World) (gf g6 g7:Nat) (e1 e:Nat->En) (q:Nat->GQ) (sh i:Nat):Prop where
 c:dh wr gf
 b6:Blk wr g6 45 (bD 6 fun _=>zEn).toArray
 b7:Blk wr g7 45 (bD 6 e).toArray
 v:∀m,m<i->GV wr (e (2*((m+sh)%3))).v (phv q sh ((m+sh)%3)).u 4600/\GV wr (e (2*((m+sh)%3)+1)).v (phv q sh ((m+sh)%3)).v 4600
 u:∀m,m<3->GV wr (e1 (2*m)).v (phq q m).u 4600/\GV wr (e1 (2*m+1)).v (phq q m).v 4600
 x:Ext w wr
 l6:w.heap.size<=g6
 l7:g6<g7
def PhS.ext{w wr wr' gf g6 g7 sh i l e q}(h:PhS w wr gf g6 g7 l e q sh i)(x:Ext wr wr'):PhS w wr' gf g6 g7 l e q sh i:=
 ⟨h.c.ext x,h.b6.ext x,h.b7.ext x,fun m j=>⟨(h.v m j).1.ext x,(h.v m j).2.ext x⟩,fun m j=>⟨(h.u m j).1.ext x,(h.u m j).2.ext x⟩,h.x.trans x,h.l6,h.l7⟩
def PhS.put{w wr wr' gf g6 g7 sh i G e x q}(h:PhS w wr gf g6 g7 G e q sh i)(hi:i<3)(I:GV wr (x 0).v (phv q sh ((i+sh)%3)).u 4600)(J:GV wr (x 1).v (phv q sh ((i+sh)%3)).v 4600)(j:gf<w.heap.size){a}(ha:a=(i+sh)%3*12)(F:wr'=puts wr g7 a (bD 2 x)):PhS w wr' gf g6 g7 G (upd (upd e (2*((i+sh)%3)) (x 0)) (2*((i+sh)%3)+1) (x 1)) q sh (i+1):=by
 subst ha;have D:(i+sh)%3<3:=pz _ aa;have l:Mod (fun k=>k=g7) wr wr':=by rw[F];exact Mod.puts _ _ _ _ rfl
 have hS:Far (fun k=>k=g7) wr:=fun k C _=>by
  obtain rfl:k=g7:=C;exact⟨_,_,h.b7,dI _ _⟩
 have l6:=h.l6;have l7:=h.l7;refine⟨Blk.mod h.c l (by show ¬gf=g7;omega),h.b6.mod l (by show ¬g6=g7;omega),?_,fun m K=> ?_,fun m B=>⟨(h.u m B).1.mod l hS,(h.u m B).2.mod l hS⟩,fQ h.x l (fun k C=>by have C:k=g7:=C;omega),h.l6,h.l7⟩
 .have:=dm ((i+sh)%3*12) (bD 2 x) h.b7;rw[Pw D] at this;rw[F];exact this
 .by_cases H:m=i
  .subst H;rw[upd_ne aa,upd_same,upd_same];exact⟨I.mod l hS,J.mod l hS⟩
  .have L:(m+sh)%3≠(i+sh)%3:=aa;rw[upd_ne aa,upd_ne aa,upd_ne aa,upd_ne aa];have:=h.v m aa;exact⟨this.1.mod l hS,this.2.mod l hS⟩
theorem WQ{q sh m}(hs:sh<3)(j:m<3):phv q sh ((m+sh)%3)=phq q m*PQ.zp (8*sh%12):=by
 unfold phv;rw[show((m+sh)%3+3-sh)%3=m by omega]
def PhS.all{w wr gf g6 g7 sh j e q}(h:PhS w wr gf g6 g7 j e q sh 3)(hs:sh<3):Ph3 wr e (phv q sh) 4600:=fun m l=>by
 have:=h.v ((m+3-sh)%3) aa;rw[show((m+3-sh)%3+sh)%3=m by omega] at this;exact this
def Wt{e}{k:Nat}(l:k<3)(w):Sem.run prog (Instr.index 45 (.agg (bD 6 e).toArray) (.int .i64 (k:Int))) w=.ok (.agg (bD 2 fun t=>e (2*k+t)).toArray) w:=by
 have j:k=0\/k=1\/k=2:=aa;rcases j with rfl|rfl|rfl
 all_goals
  simp[Instr.index,abg A8,asIntOf,go_sem,isAgg44,sizeOf44,part,bD,En.cells,abW]
theorem KZ(gf sh:Nat)(a q D w)(hc:dh w gf)(ha:∀k,k<3->GV w (a k).v (q k) 4600)(hq:tZ q D)(hs:sh<3):
  Calls prog 44 #[aN gf 0,.agg (bD 3 a).toArray,(sh:Int)] w fun r w'=>∃e:Nat->En,r=.returned (.agg (bD 6 e).toArray)/\Ph3 w' e (phv q sh) 4600/\Ext w w':=by
 have HC:=aW hc;have HA:=aW ha;have HQ:=aW hq;have YX:=aW hs;have ZC:Hid (gf<w.heap.size):=aW (Blk.lt hc);clear hc ha hq hs;go_enter func44,ntmps44;(go_wp2_with (refine bJ rfl 45 rfl _ Al (fun w_ G=>Hid.o ?_)));refine Qz ?_;replace G:=Hid.o G;have J:Ext w w_:=by rw[G];exact(Ext.new _ _).alloc _
 have YA:Blk w_ w.heap.size 102 (bD 3 a).toArray:=by rw[G];exact(Blk.new _ _ _).alloc _
 have Q:Blk w_ (w.heap.size+1) 45 (bD 6 fun _=>zEn).toArray:=by rw[G];exact aeW _ _ (fZ _ _)
 have Z:w.heap.size<=w.heap.size+1:=acb _;(try simp only[fZ]);clear G;generalize w.heap.size+1=g6 at Q Z⊢;generalize R:w.heap.size=g4 at YA Z⊢;have YO:Hid (w.heap.size<=g6):=aW aa;clear Z R;(go_wp2_with (refine bJ rfl 45 rfl _ Al (fun W G=>Hid.o ?_)));refine Qz ?_;replace G:=Hid.o G;have H:Ext w_ W:=by rw[G];exact Ext.new _ _
 have YS:Blk W w_.heap.size 45 (bD 6 fun _=>zEn).toArray:=by rw[G];exact Blk.new _ _ _
 have Yt:Hid (g6<w_.heap.size):=aW Q.lt;clear G;generalize w_.heap.size=g7 at YS Yt⊢;have HX:=aW (J.trans H);have U:=aW (YA.ext H);have S:=aW (Q.ext H);have M:=aW YS;clear J H YA Q YS;have k0:W.cell? (aM gf 0)=γ (.int .i64 0):=Blk.cell (dh.ext HC.o HX.o) 0;have V:Hid (W.rangeAt g4 0 (a 0).cells):=aW (U.Wq (j:=0) aa rfl);have P:Hid (W.rangeAt g4 6 (a 1).cells):=aW (U.Wq (j:=1) aa rfl);have K:Hid (W.rangeAt g4 12 (a 2).cells):=aW (U.Wq (j:=2) aa rfl);(go_wp2_with (refine υ rfl 42 _ rfl g4 (0) rf ((a 0).cells) _ V.o abF rfl cu (Hid.o ?_)));refine Qz ?_;(go_wp2_with (refine υ rfl 42 _ rfl g4 (6) rf ((a 1).cells) _ P.o abF rfl cu (Hid.o ?_)));refine Qz ?_;(go_wp2_with (refine υ rfl 42 _ rfl g4 (12) rf ((a 2).cells) _ K.o abF rfl cu (Hid.o ?_)));refine Qz ?_;clear k0 V P K;go_wp2_with fail;refine(Ph 4600 (a 0).v (q 0) (a 1).v (q 1) (a 2).v (q 2) _ ((HA.o 0 aa).ext HX.o) ((HA.o 1 aa).ext HX.o) ((HA.o 2 aa).ext HX.o) HQ.sum aa).mono ?_;rintro _ w2 ⟨_,rfl,⟨u,rfl,O⟩,F⟩;obtain⟨e1,rfl,Yw,YB,Yx⟩:=O.row;have YC:∀m,m<3->GV w2 (e1 (2*m)).v (phq q m).u 4600/\GV w2 (e1 (2*m+1)).v (phq q m).v 4600:=fun m hm=>by
  have hp:=HQ.phq m;have h3:m=0\/m=1\/m=2:=aa;rcases h3 with rfl|rfl|rfl
  .exact⟨GV.to (q:=(phq q 0).u) (by rw[XT];unfold ph0;have e:q 0+(q 1+q 2)=aeY 1 (q 0) 1 (aeY 1 (q 1) 1 (q 2) 1) 1:=Acd;rw[e];exact Yw.1) hp.1,GV.to (q:=(phq q 0).v) Yw.2 hp.2⟩
  .exact⟨GV.to (q:=(phq q 1).u) (by rw[X8];unfold ph1;have e:q 1+q 2=aeY 1 (q 1) 1 (q 2) 1:=Acd;rw[e];exact YB.1) hp.1,GV.to (q:=(phq q 1).v) YB.2 hp.2⟩
  .exact⟨GV.to (q:=(phq q 2).u) (by rw[Yh];unfold ph2;have e:q 1+q 2=aeY 1 (q 1) 1 (q 2) 1:=Acd;rw[e];exact Yx.1) hp.1,GV.to (q:=(phq q 2).v) Yx.2 hp.2⟩
 have HU:=aW YC;replace HX:=HX.aC F;replace S:=S.aA F;replace M:=M.aA F;clear YC O Yw YB Yx F U;(go_wp2_with (refine bJ rfl 45 rfl _ Al (fun T G=>Hid.o ?_)));refine Qz ?_;replace G:=Hid.o G;have J:Ext w2 T:=by rw[G];exact Ext.new _ _
 have YP:Blk T w2.heap.size 45 (bD 6 fun _=>zEn).toArray:=by rw[G];exact Blk.new _ _ _
 have N:=aW (gm (f:=e1) YP);have YV:w2.heap.size<=w2.heap.size:=κ _;clear G;generalize Zi:w2.heap.size=g8 at YP YV N⊢;(go_wp2_with (refine bf rfl 45 (.tmp 8) (.tmp 26) rfl g8 (0) (bD 6 e1) rf rf N.o (je e1) (dX 6 e1) (fun Yu G=>Hid.o ?_)));refine Qz ?_;replace G:=Hid.o G;obtain⟨ac,Y,YT⟩:=jw J aa YP G;clear G J YP N;have Yr:=aW ac.rng;(go_wp2_with (refine υ rfl 45 _ rfl g8 (0) rf (bD 6 e1) _ Yr.o A8 rfl (je e1) (Hid.o ?_)));refine Qz ?_;go_wp2_with fail;refine(OC gf e1 _ (dh.ext HC.o (HX.trans Y))).mono ?_;rintro _ w4 ⟨rfl,F⟩;have ZW:=ac.ext F;have N:=aW (gm (f:=e1) ZW);(go_wp2_with (refine bf rfl 45 (.tmp 8) (.tmp 31) rfl g8 (0) (bD 6 e1) rf rf N.o (je e1) (dX 6 e1) (fun YF G=>Hid.o ?_)));refine Qz ?_;replace G:=Hid.o G;obtain⟨ZK,l,Yy⟩:=jw (Y.trans F) aa ZW G;clear G N ZW Yr;have Yr:=aW ZK.rng;replace HX:=HX.aC l;have HS:Hid (PhS w _ gf g6 g7 e1 (fun _=>zEn) q sh 0):=aW ⟨dh.ext HC.o HX.o,S.ext l,M.ext l,fun m hm=>absurd hm aa,fun m hm=>⟨(HU.o m hm).1.ext l,(HU.o m hm).2.ext l⟩,HX.o,YO.o,Yt.o⟩;clear HX S M HU ac Y YT F ZK l Yy YV Zi YO Yt;(go_wp2_with (refine υ rfl 45 _ rfl g8 (0) rf (bD 6 e1) _ Yr.o A8 rfl (je e1) (Hid.o ?_)));refine Qz ?_;clear Yr;go_wp2_with fail
 go_loopw [33] (fun iv wr=>∃i:Nat,i<=3/\iv=.int .i64 i/\∃e,PhS w wr gf g6 g7 e1 e q sh i) (aT 3)
 case atStart=>exact⟨0,aa,rfl,_,HS.o⟩
 case round=>
  clear HS;rename World=>wr;obtain⟨i,hi,rfl,e,hR⟩:=hrel;have HR:=aW hR;clear hR;by_cases Yp:i<3
  .have hd:decide ((i:Int)<3)=ε:=ae;have Yz:=Wt (e:=e1) Yp wr;have q1:(0:Int)<=i:=aa;have q2:(i:Int)<3:=aa;obtain⟨e2,ad⟩:∃f:Nat->En,(fun t=>e1 (2*i+t))=f:=⟨_,rfl⟩;rw[ad] at Yz;have Zd:=aW ad;have ZH:(0:Int)<=(sh:Int)/\(sh:Int)<3:=by have:=YX.o;omega
   obtain⟨s0,s1⟩:=ZH;clear ad;(go_wp2_with (refine bJ rfl 44 rfl _ xP (fun af G=>Hid.o ?_)));refine Qz ?_;replace G:=Hid.o G;have Yq:Ext wr af:=by rw[G];exact Ext.new _ _
   have ZK:Blk af wr.heap.size 44 (bD 2 fun _=>zEn).toArray:=by rw[G];exact Blk.new _ _ _
   have N:=aW (gm (f:=e2) ZK);clear G Yz;generalize YD:wr.heap.size=ZI at ZK N⊢;(go_wp2_with (refine bf rfl 44 (.tmp 11) (.tmp 36) rfl ZI (0) (bD 2 e2) rf rf N.o (kD e2) (dX 2 e2) (fun YG G=>Hid.o ?_)));refine Qz ?_;replace G:=Hid.o G;obtain⟨Za,C,YE⟩:=jw Yq aa ZK G;have Yr:=aW Za.rng;have B:=aW C;clear G N Yq ZK Za C YE YD;(go_wp2_with (refine υ rfl 44 _ rfl ZI (0) rf (bD 2 e2) _ Yr.o aai rfl (kD e2) (Hid.o ?_)));refine Qz ?_;clear Yr;go_wp2_with fail;refine(S9 gf e2 (phq q i) 4600 (8*sh%12) _ _ (dh.ext HR.c B.o) (by have:=(HR.u i Yp).1;rw[<-Zd.o];exact this.ext B.o) (by have:=(HR.u i Yp).2;rw[<-Zd.o];exact this.ext B.o) aa aa aa aa).mono ?_;rintro _ w5 ⟨e3,rfl,L,I,F⟩;have hp:=WQ (q:=q) YX.o Yp;rw[<-hp] at L I;have YY:=(HQ.phv YX.o ((i+sh)%3)).bd HQ.o.2.1 HQ.o.1 (n:=4600) aa aa;have Zj:=aW (GV.to L YY.1);have ZE:=aW (GV.to I YY.2);replace HR:=HR.aA (B.trans F);clear L I hp YY F B Zd;obtain⟨m,hm⟩:∃m,(i+sh)%3=m:=⟨_,rfl⟩;have ZF:m<3:=aa;have Zw:((i:Int)+(sh:Int))%3=(m:Int):=aa;have HM:=aW hm;clear hm;have p1:(0:Int)<=m:=aa;have p2:(m:Int)<3:=aa;have N:Hid (w5.there g7 (m*12) (bD 2 e3).length):=aW (HR.b7.there AaG);(go_wp2_with (refine bf rfl 44 (.tmp 46) (.tmp 45) rfl g7 (m*12) (bD 2 e3) rf rf N.o (kD e3) (dX 2 e3) (fun YI G=>Hid.o ?_)));refine Qz ?_;replace G:=Hid.o G;have Yv:=aW (HR.put Yp Zj.o ZE.o ZC.o (a:=m*12) (by rw[HM.o]) G);clear HR N G Zj ZE;go_wp2_with fail
   go_roundw
   case rel=>exact⟨i+1,aa,au,_,Yv.o⟩
   case measure=>exact aV
  .obtain rfl:i=3:=aa;have hd:decide ((3:Int)<3)=ζ:=aj;have Yr:=aW HR.b7.rng;have N:=aW (gm (f:=e) HR.b6);(go_wp2_with (refine υ rfl 45 _ rfl g7 (0) rf (bD 6 e) _ Yr.o A8 rfl (je e) (Hid.o ?_)));refine Qz ?_;(go_wp2_with (refine bf rfl 45 (.tmp 6) (.tmp 48) rfl g6 (0) (bD 6 e) rf rf N.o (je e) (dX 6 e) (fun YH G=>Hid.o ?_)));refine Qz ?_;replace G:=Hid.o G;have hF:=jw HR.x HR.l6 HR.b6 G;have ha:=HR.all YX.o;go_wp2_with fail;exact jM rfl rfl rf hF.1 A8 rfl (by rw[Ad];exact je e) ⟨e,rfl,fun m hm=>⟨hF.2.2 _ _ _ (ha m hm).1,hF.2.2 _ _ _ (ha m hm).2⟩,hF.2.1⟩
def XU(x):x-GQ.i 0 0=x:=by ext<;>simp only[GQ.dU,GQ.dV,GQ.dM,GQ.dJ]<;>grind
noncomputable def cq (V:Nat->Nat->GQ) (L:Nat->Bool) (o:Option BrD) (n:Nat):GQ:=
 match o with
 |none=>GQ.i 0 0
 |some b=>if 13<=b.a/\L b.a=ε then (V n b.a-V n b.b-(if n=1 then GQ.i b.emf 0 else GQ.i 0 0))/b.zs (min n 1) else GQ.i 0 0
structure CuS (w wr:World) (gf g6 g7:Nat) (a:Nat->En) (q:Nat->GQ) (i:Nat):Prop where
 c:dh wr gf
 s:AtS w wr 3 102 g6 g7 a
 v:∀k,k<3->GV wr (a k).v (if k<i then q k else GQ.i 0 0) 4600
section
variable {w wr wr':World} {gf g6 g7 i:Nat} {a:Nat->En} {q:Nat->GQ}
def CuS.ext(h:CuS w wr gf g6 g7 a q i)(x:Ext wr wr'):CuS w wr' gf g6 g7 a q i:=⟨h.c.ext x,h.s.ext x,fun k j=>(h.v k j).ext x⟩
def CuS.put(h:CuS w wr gf g6 g7 a q i)(j:gf<w.heap.size)(hi:i<3){e}(O:GV wr e.v (q i) 4600)(D:wr'=puts wr g7 (i*6) e.cells):CuS w wr' gf g6 g7 (upd a i e) q (i+1):=by
 obtain⟨G,B⟩:=h.s.put hi e rfl D;have l4:=h.s.l4;have l5:=h.s.l5;refine⟨Blk.mod h.c B (by show ¬gf=g7;omega),G,fun k F=> ?_⟩;by_cases l:k=i
 .subst l;rw[upd_same,ι aa];exact O.mod B h.s.far
 .rw[upd_ne l];have:=(h.v k F).mod B h.s.far;by_cases C:k<i
  .rw[ι C] at this;rw[ι aa];exact this
  .rw[θ C] at this;rw[θ aa];exact this
def CuS.skip(h:CuS w wr gf g6 g7 a q i)(hq:q i=GQ.i 0 0):CuS w wr gf g6 g7 a q (i+1):=⟨h.c,h.s,fun k l=>by
 have:=h.v k l;by_cases j:k<i
 .rw[ι j] at this;rw[ι aa];exact this
 .rw[θ j] at this;by_cases B:k=i
  .subst B;rw[ι aa,hq];exact this
  .rw[θ aa];exact this⟩
end
def OO(gx gf i nq bc:Nat)(C:Nat->Value)(E:Nat->En)(V:Nat->Nat->GQ)(Lv:Nat->Bool)(o:Option BrD)(BA:Option Addr)(wv:Nat->Value)(w:World)(hc:dh w gf)(hg:fP w gx 105 393 (fO C E))(hV:∀n k,n<3->k<18->GV w (E (n*18+k)).v (V n k) 4400)(hL:∀k,k<18->C (15+k)=.bool (Lv k))(YF:C 13=.slice BA nq bc)(hA:Arr w BA nq 1 (fun i=>[wv i]))(hi:i<nq)(hw:oQ w gx (wv i) o)(YC:∀b,o=γ b->gV b)(YA:∀b,o=γ b->∀n,n<3->Bd (V n b.a-V n b.b) 4600)(O:∀b,o=γ b->Bd (V 1 b.a-V 1 b.b-GQ.i b.emf 0) 4600)(ZB:∀n,Bd (cq V Lv o n) 4600):
  Calls prog 45 #[aN gx 0,aN gf 0,(i:Int)] w fun r w'=>∃a:Nat->En,r=.returned (.agg (bD 3 a).toArray)/\ni w' 3 a (cq V Lv o) 4600/\Ext w w':=by
 have HC:=aW hc;have HG:=aW hg;have Q:=aW hV;have HL:=aW hL;have aI:=aW YF;have HW:=aW hw;have YH:=aW YC;have YP:=aW YA;have Za:=aW O;have YX:=aW ZB;obtain⟨gb,ob,rfl,Zm,Zl⟩:=hA.at_ hi;have ZI:w.cell? (aM gb (ob+i))=γ (wv i):=by have:=Zl 0 _ rfl;simpa using this
 have Z7:=aW ZI;have ZC:Hid (gf<w.heap.size):=aW (Blk.lt hc);have YN:Hid (gx<w.heap.size):=aW hg.lt;have ZJ:=aW hi;clear hc hg hV hL YF hA hw YC YA O ZB Zm Zl ZI hi;go_enter func45,ntmps45;(go_wp2_with (refine bJ rfl 102 rfl _ uS (fun w_ G=>Hid.o ?_)));refine Qz ?_;replace G:=Hid.o G;have HX:Hid (Ext w w_):=aW (by rw[G];exact Ext.new _ _);have S:Hid (Blk w_ w.heap.size 102 (bD 3 fun _=>zEn).toArray):=aW (by rw[G];exact Blk.new _ _ _);clear G;generalize Zr:w.heap.size=g6 at S⊢;have YO:Hid (w.heap.size<=g6):=aW aa;clear Zr;go_wp2_with fail;refine(dO gf 0 _ (dh.ext HC.o HX.o) aa aa).mono ?_;rintro _ wa ⟨_,rfl,M,F⟩;obtain⟨P,rfl⟩:=M.en;replace HX:=HX.aC F;replace S:=S.aA F;have H:=aW M;clear M F;go_wp2_with fail;refine(dO gf 0 _ (dh.ext HC.o HX.o) aa aa).mono ?_;rintro _ wb ⟨_,rfl,M,F⟩;obtain⟨fb,rfl⟩:=M.en;replace HX:=HX.aC F;replace S:=S.aA F;replace H:=H.aA F;have YK:=aW M;clear M F;go_wp2_with fail;refine(dO gf 0 _ (dh.ext HC.o HX.o) aa aa).mono ?_;rintro _ wc ⟨_,rfl,M,F⟩;obtain⟨fc,rfl⟩:=M.en;replace HX:=HX.aC F;replace S:=S.aA F;replace H:=H.aA F;replace YK:=YK.aA F;have YR:=aW M;clear M F;(iterate 2 (try (first|go_values|go_skip|go_guarded|go_step|go_upon|go_in|go_back|go_simp)));simp only[En.v,gv];(go_wp2_with (refine bJ rfl 102 rfl _ uS (fun W G=>Hid.o ?_)));refine Qz ?_;replace G:=Hid.o G;have F:Ext wc W:=by rw[G];exact Ext.new _ _
 have YS:Blk W wc.heap.size 102 (bD 3 fun _=>zEn).toArray:=by rw[G];exact Blk.new _ _ _
 have N:Hid (W.there wc.heap.size 0 18):=aW (YS.there AbV);have YU:=S.lt;clear G;generalize Zn:wc.heap.size=g7 at YS N YU⊢;(go_wp2_with (refine bf rfl 102 (.tmp 7) (.tmp 17) rfl g7 (0) (P.cells++(fb.cells++fc.cells)) rf rf N.o pJ (sU _ _ _) (fun T G=>Hid.o ?_)));refine Qz ?_;replace G:=Hid.o G;have YQ:T=puts W g7 0 (bD 3 (pk3 P fb fc)):=by rw[xq];exact G
 have HO:=jw (w:=wc) F aa YS YQ;have HR:Hid (CuS w T gf g6 g7 (pk3 P fb fc) (cq V Lv o) 0):=aW ⟨dh.ext HC.o (HX.trans HO.2.1),⟨S.ext HO.2.1,HO.1,HX.trans HO.2.1,YO.o,YU⟩,fun k hk=>by
  have h3:k=0\/k=1\/k=2:=aa;rcases h3 with rfl|rfl|rfl
  .exact(HO.2.2 _ _ _ (H.ext F)).up aa
  .exact(HO.2.2 _ _ _ (YK.ext F)).up aa
  .exact(HO.2.2 _ _ _ (YR.ext F)).up aa⟩
 clear HX S YO H YK YR F YS N YU Zn YQ HO G;have ZH:=(HG.ext HR.s.x).cell_ (k:=13) aa ((dR aa).trans aI.o);have kw:=HR.s.x.cell_ Z7.o;have q1:(0:Int)<=i:=aa;have q2:(i:Int)<nq:=by have:=ZJ.o;omega
 cases o with
 |none=>
  have YV:wv i=.pointer δ:=HW.o;rw[YV] at kw;go_wp2_with fail;go_quiet (fail);generalize J:T.drewN nq=wr;have Yq:Ext T wr:=by rw[<-J];exact(Ext.refl _).drewN _
  replace HR:=HR.aA Yq;clear Yq J;have Yr:=aW HR.s.b5.rng;obtain⟨fr,L⟩:∃f:Nat->En,pk3 P fb fc=f:=⟨_,rfl⟩;rw[L] at Yr;have N:=aW (gm (f:=fr) HR.s.b4);have K:Hid (ni wr 3 fr (cq V Lv δ) 4600):=aW (fun k hk=>by rw[<-L];have h:=HR.v k hk;rw[θ aa] at h;rw[show cq V Lv δ k=GQ.i 0 0 from rfl];exact h);exact Aaq
 |some b=>
  obtain⟨gw,ow,bv,YV,Yt,Yp,YE,Zf,YB,YJ,ZX,aq⟩:=HW.o;rw[YV] at kw;have j:=aW YE;have Zq:=aW (And.intro YJ (And.intro ZX aq));have YI:=aW (And.intro Zf YB);have YC:=YH.o b rfl;have YW:=aW YC;have Zv:=YC.a;have a0:=YC.b;clear YV Yt Yp YE Zf YB YJ ZX aq YC;have aB:=HR.s.x.cell_ (show w.cell? (aM gw ow)=γ (.int .i64 (b.a:Int)) from by have:=j.o 0 _ rfl;rw[YI.o.1] at this;exact this);have Z8:=HR.s.x.cell_ (show w.cell? (aM gw (ow+1))=γ (.int .i64 (b.b:Int)) from by have:=j.o 1 _ rfl;rw[YI.o.2] at this;exact this);have kl:=(HG.ext HR.s.x).cell_ (k:=15+b.a) aa ((dR aa).trans (HL.o b.a aa));have p1:(0:Int)<=b.a:=aa;have p2:(b.a:Int)<18:=aa;have p3:(0:Int)<=b.b:=aa;have p4:(b.b:Int)<18:=aa;by_cases YF:13<=b.a
  .have hd:decide ((b.a:Int)<13)=ζ:=ae;cases hL:Lv b.a with
   |false=>
    rw[hL] at kl;have ZT:=aW hL;clear hL;go_wp2_with fail;go_quiet (fail);generalize J:T.drewN nq=wr;have Yq:Ext T wr:=by rw[<-J];exact(Ext.refl _).drewN _
    replace HR:=HR.aA Yq;clear Yq J;have Yr:=aW HR.s.b5.rng;obtain⟨fr,L⟩:∃f:Nat->En,pk3 P fb fc=f:=⟨_,rfl⟩;rw[L] at Yr;have N:=aW (gm (f:=fr) HR.s.b4);have K:Hid (ni wr 3 fr (cq V Lv (γ b)) 4600):=aW (fun k hk=>by rw[<-L];have h:=HR.v k hk;rw[θ aa] at h;rw[show cq V Lv (γ b) k=GQ.i 0 0 from θ (fun h=>by rw[ZT.o] at h;cases h.2)];exact h);exact Aaq
   |true=>
    rw[hL] at kl;have YZ:=aW hL;have ZG:=aW YF;clear hL;go_wp2_with fail;go_quiet (fail);generalize J:T.drewN nq=aE;have Yq:Ext T aE:=by rw[<-J];exact(Ext.refl _).drewN _
    replace HR:=HR.aA Yq;clear Yq J ZH kw aB Z8 kl;go_wp2_with fail
    go_loopw [47] (fun iv wr=>∃n:Nat,n<=3/\iv=.int .i64 n/\∃a,CuS w wr gf g6 g7 a (cq V Lv (γ b)) n) (aT 3)
    case atStart=>exact⟨0,aa,rfl,_,HR.o⟩
    case round=>
     clear HR;rename World=>wr;obtain⟨n,hn,rfl,a,hR⟩:=hrel;have HR:=aW hR;clear hR;by_cases Yp:n<3
     .have hd:decide ((n:Int)<3)=ε:=ae;have q3:(0:Int)<=n:=aa;have q4:(n:Int)<3:=aa;obtain⟨ea,ap⟩:∃e,E (n*18+b.a)=e:=⟨_,rfl⟩;obtain⟨eb,ao⟩:∃e,E (n*18+b.b)=e:=⟨_,rfl⟩;have Zd:Hid (GV wr ea.v (V n b.a) 4400):=aW (by rw[<-ap];exact(Q.o n b.a Yp aa).ext HR.s.x);have YM:Hid (GV wr eb.v (V n b.b) 4400):=aW (by rw[<-ao];exact(Q.o n b.b Yp aa).ext HR.s.x);have am:=aW (HG.ext HR.s.x);have ZL:=six (w:=wr) (g:=gx) (a:=33+n*108+b.a*6) (e:=ea) (fun t u hu=>am.en (e:=n*18+b.a) aa aa t u (by rw[ap];exact hu));have ZO:=six (w:=wr) (g:=gx) (a:=33+n*108+b.b*6) (e:=eb) (fun t u hu=>am.en (e:=n*18+b.b) aa aa t u (by rw[ao];exact hu));have Zx:=aX.cell (HR.s.x.cell_ (show w.cell? (aM gw ow)=γ (.int .i64 (b.a:Int)) from by have:=j.o 0 _ rfl;rw[YI.o.1] at this;exact this));have aG:=aX.cell (HR.s.x.cell_ (show w.cell? (aM gw (ow+1))=γ (.int .i64 (b.b:Int)) from by have:=j.o 1 _ rfl;rw[YI.o.2] at this;exact this));clear ap ao;go_wp2_with fail;refine tN 25 [(4,.eq (.pointer (γ (aM gw ow)))),(7,.eq (.pointer (γ (aM gx 0)))),(15,.eq (.pointer (γ (aM gw ow)))),(18,.eq (.pointer (γ (aM gx 0)))),(23,.gv (V n b.a-V n b.b) (8865)),(24,.box 42 aQ3)] ?_;refine Qs ?_;refine En_ ?_;intro Zj Zc;refine Qs ?_;refine En_ ?_;intro a3 a2;refine Qs ?_;refine En_ ?_;intro ay ar;refine Qs ?_;refine En_ ?_;intro Z9 aw;refine Qs ?_;refine Ee (fun R I=>uR gf ea.v eb.v (V n b.a) (V n b.b) 4400 4400 _ (dh.ext HR.c I.1) (Zd.ext I.1) (YM.ext I.1) aa) ?_;intro U av az;refine Eb ?_;intro g10 ax ZE;refine bP ?_;intro wE I;have F:=I.ext;have Zz:=I.hV 23;have Ze:=I.hB 24;have YL:=aW (I.low 24 _ rf);clear ZE;have Yx:=aW F;clear I F;have HD:Hid (GV wE U.v (V n b.a-V n b.b) 4600):=aW (GV.to Zz.o (YP.o b rfl n Yp));have N:=aW (Ze.there (o:=0) (n:=6) ag);refine bF rfl 42 (.tmp 10) (.tmp 73) rfl g10 0 U.cells rf rf N.o cu (eO U) ?_;intro wf l;refine Qp ?_;obtain⟨F,Yu,M,-⟩:=oK U Yx.o YL.o Ze.o l;have B:=aW Yu;replace HD:=aW (M _ _ _ HD.o);have D:=aW F;have Zh:=aW (show wr.heap.size<=g10 from YL.o);clear l N F Yu M Yx Ze YL Zz Zd YM am Zx aG ZL ZO;obtain⟨m,hm⟩:∃m,min n 1=m:=⟨_,rfl⟩;have Zw:(min (n:Int) 1)=(m:Int):=aa;have YD:m<2:=aa;obtain⟨ez,ZM⟩:∃e,bv.z m=e:=⟨_,rfl⟩;have ZY:Hid (GV w ez.v (b.zs m) 64):=aW (by rw[<-ZM];have h2:m=0\/m=1:=aa;rcases h2 with rfl|rfl<;>first|exact Zq.o.1|exact Zq.o.2.1);have Zg:Hid (∀t u,ez.cells[t]? =γ u->w.cell? (aM gw (ow+2+m*6+t))=γ u):=aW (fun t u hu=>by rw[show ow+2+m*6+t=ow+(2+m*6+t) by omega];exact j.o _ _ (bv.zat aa (by rw[ZM];exact hu)));have HM:=aW hm;clear hm ZM;have p5:(0:Int)<=m:=aa;have p6:(m:Int)<2:=aa;by_cases h1:n=1
      .have Zi:((n:Int)==1)=ε:=by rw[h1];rfl
       have ZF:=aW h1;clear h1;have ZN:Hid (V n b.a-V n b.b-GQ.i b.emf 0=V n b.a-V n b.b-(if n=1 then GQ.i b.emf 0 else GQ.i 0 0)):=aW (by rw[ι ZF.o]);go_wp2_with fail;have Yw:=aX.blk B.o;have ZV:=aX.cell (show wf.cell? (aM gw (ow+14))=_ from (HR.s.x.trans D.o).cell_ (j.o 14 (.bool bv.e.s1) rfl));have ZR:=aX.cell (show wf.cell? (aM gw (ow+14+1))=_ from (HR.s.x.trans D.o).cell_ (j.o 15 (.slice bv.e.A1 bv.e.n1 bv.e.c1) rfl));have ZW:=aX.cell (show wf.cell? (aM gw (ow+14+2))=_ from (HR.s.x.trans D.o).cell_ (j.o 16 (.bool bv.e.s2) rfl));have ZQ:=aX.cell (show wf.cell? (aM gw (ow+14+3))=_ from (HR.s.x.trans D.o).cell_ (j.o 17 (.slice bv.e.A2 bv.e.n2 bv.e.c2) rfl));have ZZ:=aX.cell (show wf.cell? (aM gw (ow+14+4))=_ from (HR.s.x.trans D.o).cell_ (j.o 18 (.bool bv.e.s3) rfl));have ZP:=aX.cell (show wf.cell? (aM gw (ow+14+5))=_ from (HR.s.x.trans D.o).cell_ (j.o 19 (.slice bv.e.A3 bv.e.n3 bv.e.c3) rfl));refine tN 7 [(3,.eq (.pointer (γ (aM gw ow)))),(6,.gv (V n b.a-V n b.b-GQ.i b.emf 0) (4729))] ?_;refine Qs ?_;refine En_ ?_;intro a1 aP;refine Qs ?_;refine Ee (fun R I=>uR gf U.v bv.e.v (V n b.a-V n b.b) (GQ.i b.emf 0) 4600 64 _ ((dh.ext HR.c D.o).ext I.1) (HD.ext I.1) (((Zq.o.2.2.ext HR.s.x).ext D.o).ext I.1) aa) ?_;intro ee ac ad;refine bP ?_;intro wE I;have F:=I.ext;have ZA:=I.hV 6;have Yx:=aW F;clear I F;have N:=aW ((B.ext Yx.o).there (o:=0) (n:=6) ag);refine bF rfl 42 (.tmp 10) (.tmp 82) rfl g10 0 ee.cells rf rf N.o cu (eO ee) ?_;intro wg l;refine Qp ?_;have HO:=jw (w:=wr) (n:=1) (f:=fun _=>ee) (f0:=fun _=>U) (D.trans Yx.o) Zh.o (show Blk wE g10 42 (bD 1 fun _=>U).toArray from B.ext Yx.o) l;replace B:Hid (Blk wg g10 42 #[ee.s1,aO ee.A1 ee.n1 ee.c1,ee.s2,aO ee.A2 ee.n2 ee.c2,ee.s3,aO ee.A3 ee.n3 ee.c3]):=aW HO.1;replace D:=aW HO.2.1;replace HD:Hid (GV wg ee.v (V n b.a-V n b.b-GQ.i b.emf 0) 4600):=aW (GV.to (HO.2.2 _ _ _ ZA.o) (by have:=Za.o b rfl;rw[ZF.o];exact this));clear l N Yx ZA HO Yw ZV ZR ZW ZQ ZZ ZP;have kc:wg.cell? (aM gf 0)=γ (.int .i64 0):=((HR.ext D.o).c.cell 0).trans rfl;have Zp:=B.cell;have Zy:cq V Lv (γ b) n=(V n b.a-V n b.b-GQ.i b.emf 0)/b.zs m:=by rw[<-HM.o];exact(ι ⟨ZG.o,YZ.o⟩).trans (by rw[<-ZN.o])
       have Zt:=aW Zy;clear Zy;by_cases hz:V n b.a-V n b.b-GQ.i b.emf 0=GQ.i 0 0
       .have HZ:=aW hz;clear hz;go_wp2_with fail;refine(yt ee.v (V n b.a-V n b.b-GQ.i b.emf 0) 4600 _ HD.o aa HZ.o).mono ?_;rintro _ wh ⟨rfl,F⟩;have Yv:=aW ((HR.ext (D.trans F)).skip (by rw[Zt.o,HZ.o,aft]));clear kc Zp F HR;go_wp2_with fail
        go_roundw
        case rel=>exact⟨n+1,aa,au,_,Yv.o⟩
        case measure=>exact aV
       .have HZ:=aW hz;clear hz;go_wp2_with fail;refine(Bh ee.v (V n b.a-V n b.b-GQ.i b.emf 0) 4600 _ HD.o aa HZ.o).mono ?_;rintro _ wh ⟨rfl,F⟩;replace D:=D.aC F;replace B:=B.aA F;replace HD:=HD.aA F;clear kc Zp F;go_wp2_with fail;have Yw:=aX.blk B.o;have ZK:=six (g:=gw) (a:=ow+2+m*6) (e:=ez) (fun t u hu=>(HR.s.x.trans D.o).cell_ (Zg.o t u hu));have YY:=YX.o n;rw[Zt.o] at YY;have YT:=aW YY;clear YY;refine tN 12 [(5,.eq (.int .i64 (m:Int))),(6,.eq (.pointer (γ (aM gw ow)))),(10,.gv ((V n b.a-V n b.b-GQ.i b.emf 0)/b.zs m) (4600))] ?_;refine Qs ?_;refine eF rf rf rf ?_ ?_
        .exact AcH
        intro v_ Zk Zo YG;obtain⟨R,Yy⟩:=YG;obtain rfl:v_=_:=Yy.get;clear Yy R;refine Qp ?_;refine En_ ?_;intro ac ad;refine Qs ?_;refine Ee (fun R I=>nS gf ee.v ez.v (V n b.a-V n b.b-GQ.i b.emf 0) (b.zs m) 4600 64 _ ((dh.ext HR.c D.o).ext I.1) (HD.ext I.1) (((ZY.ext HR.s.x).ext D.o).ext I.1) (YW.ne m) 4600 aa aa YT.o aa) ?_;intro eq af ai;refine Qs ?_;refine bP ?_;intro wE I;have F:=I.ext;have Z:=I.hV 10;have Yx:=aW F;clear I F;have N:=aW ((HR.ext (D.trans Yx.o)).s.there Yp);refine bF rfl 42 (.tmp 104) (.tmp 103) rfl g7 (n*6) eq.cells rf rf N.o cu (eO eq) ?_;intro wj l;refine Qp ?_;have Yv:=aW ((HR.ext (D.trans Yx.o)).put ZC.o Yp (e:=eq) (by rw[Zt.o];exact Z.o) l);clear l N Yx Z HR D B HD Yw ZK;go_wp2_with fail
        go_roundw
        case rel=>exact⟨n+1,aa,au,_,Yv.o⟩
        case measure=>exact aV
      .have Zi:((n:Int)==1)=ζ:=ae;have ZF:=aW h1;clear h1;have ZN:Hid (V n b.a-V n b.b=V n b.a-V n b.b-(if n=1 then GQ.i b.emf 0 else GQ.i 0 0)):=aW (by rw[θ ZF.o];exact(XU _).symm);have kc:wf.cell? (aM gf 0)=γ (.int .i64 0):=((HR.ext D.o).c.cell 0).trans rfl;have Zp:=B.cell;have Zy:cq V Lv (γ b) n=(V n b.a-V n b.b)/b.zs m:=by rw[<-HM.o];exact(ι ⟨ZG.o,YZ.o⟩).trans (by rw[<-ZN.o])
       have Zt:=aW Zy;clear Zy;by_cases hz:V n b.a-V n b.b=GQ.i 0 0
       .have HZ:=aW hz;clear hz;go_wp2_with fail;refine(yt U.v (V n b.a-V n b.b) 4600 _ HD.o aa HZ.o).mono ?_;rintro _ wh ⟨rfl,F⟩;have Yv:=aW ((HR.ext (D.trans F)).skip (by rw[Zt.o,HZ.o,aft]));clear kc Zp F HR;go_wp2_with fail
        go_roundw
        case rel=>exact⟨n+1,aa,au,_,Yv.o⟩
        case measure=>exact aV
       .have HZ:=aW hz;clear hz;go_wp2_with fail;refine(Bh U.v (V n b.a-V n b.b) 4600 _ HD.o aa HZ.o).mono ?_;rintro _ wh ⟨rfl,F⟩;replace D:=D.aC F;replace B:=B.aA F;replace HD:=HD.aA F;clear kc Zp F;go_wp2_with fail;have Yw:=aX.blk B.o;have ZK:=six (g:=gw) (a:=ow+2+m*6) (e:=ez) (fun t u hu=>(HR.s.x.trans D.o).cell_ (Zg.o t u hu));have YY:=YX.o n;rw[Zt.o] at YY;have YT:=aW YY;clear YY;refine tN 12 [(5,.eq (.int .i64 (m:Int))),(6,.eq (.pointer (γ (aM gw ow)))),(10,.gv ((V n b.a-V n b.b)/b.zs m) (4600))] ?_;refine Qs ?_;refine eF rf rf rf ?_ ?_
        .exact AcH
        intro v_ Zk Zo YG;obtain⟨R,Yy⟩:=YG;obtain rfl:v_=_:=Yy.get;clear Yy R;refine Qp ?_;refine En_ ?_;intro ac ad;refine Qs ?_;refine Ee (fun R I=>nS gf U.v ez.v (V n b.a-V n b.b) (b.zs m) 4600 64 _ ((dh.ext HR.c D.o).ext I.1) (HD.ext I.1) (((ZY.ext HR.s.x).ext D.o).ext I.1) (YW.ne m) 4600 aa aa YT.o aa) ?_;intro eq af ai;refine Qs ?_;refine bP ?_;intro wE I;have F:=I.ext;have Z:=I.hV 10;have Yx:=aW F;clear I F;have N:=aW ((HR.ext (D.trans Yx.o)).s.there Yp);refine bF rfl 42 (.tmp 104) (.tmp 103) rfl g7 (n*6) eq.cells rf rf N.o cu (eO eq) ?_;intro wj l;refine Qp ?_;have Yv:=aW ((HR.ext (D.trans Yx.o)).put ZC.o Yp (e:=eq) (by rw[Zt.o];exact Z.o) l);clear l N Yx Z HR D B HD Yw ZK;go_wp2_with fail
        go_roundw
        case rel=>exact⟨n+1,aa,au,_,Yv.o⟩
        case measure=>exact aV
     .obtain rfl:n=3:=aa;have hd:decide ((3:Int)<3)=ζ:=aj;have Yr:=aW HR.s.b5.rng;obtain⟨fr,L⟩:∃f:Nat->En,a=f:=⟨_,rfl⟩;rw[L] at Yr;have N:=aW (gm (f:=fr) HR.s.b4);have K:Hid (ni wr 3 fr (cq V Lv (γ b)) 4600):=aW (fun k hk=>by rw[<-L];have h:=HR.v k hk;rw[ι hk] at h;exact h);have Yz:=aW (L ▸ HR.s);clear L;(go_wp2_with (refine υ rfl 102 _ rfl g7 (0) rf (bD 3 fr) _ Yr.o xx rfl (jV _) (Hid.o ?_)));refine Qz ?_;refine bf rfl 102 (.tmp 6) (.tmp 106) rfl g6 (0) (bD 3 fr) rf rf N.o (jV _) (dX 3 _) (fun we G=> ?_);refine Qp ?_;replace G:=Hid.o G;have Y:=aW (Yz.fin G);clear G;go_wp2_with fail;exact jM rfl rfl rf Y.o.1 xx rfl (pG _) ⟨_,rfl,fun k hk=>Y.o.2.2 _ _ _ (K.o k hk),Y.o.2.1⟩
  .have hd:decide ((b.a:Int)<13)=ε:=ae;have ZU:=aW YF;clear YF;go_wp2_with fail;go_quiet (fail);generalize J:T.drewN nq=wr;have Yq:Ext T wr:=by rw[<-J];exact(Ext.refl _).drewN _
   replace HR:=HR.aA Yq;clear Yq J;have Yr:=aW HR.s.b5.rng;obtain⟨fr,L⟩:∃f:Nat->En,pk3 P fb fc=f:=⟨_,rfl⟩;rw[L] at Yr;have N:=aW (gm (f:=fr) HR.s.b4);have K:Hid (ni wr 3 fr (cq V Lv (γ b)) 4600):=aW (fun k hk=>by rw[<-L];have h:=HR.v k hk;rw[θ aa] at h;rw[show cq V Lv (γ b) k=GQ.i 0 0 from θ (fun h=>ZU.o h.1)];exact h);exact Aaq
def qJ (nm:ByteArray) (A0:Option Addr) (n0 c0:Nat) (A1:Option Addr) (n1 c1:Nat) (A2:Option Addr) (n2 c2:Nat) (A3:Option Addr) (n3 c3:Nat) (PA:Option Addr) (l B:Nat) (PB:Option Addr) (V qc:Nat) (j:Option Addr) (C Q:Nat):Value:=.agg #[nm,aO A0 n0 c0,aO A1 n1 c1,aO A2 n2 c2,aO A3 n3 c3,aO PA l B,aO PB V qc,aO j C Q]
def vS (w:World) (l:Option Addr) (j:Nat) (g:List Int):Prop:=g.length=j/\Arr w l j 1 (fun i=>[.int .i64 (g.getD i 0)])
def vS.ext{w w' l j g}(h:vS w l j g)(x:Ext w w'):vS w' l j g:=⟨h.1,h.2.ext x⟩
def vZ (x:(Int×Int)×(Int×Int)):Value:=.agg #[x.1.1,x.1.2,x.2.1,x.2.2]
theorem IC{s p i t}(hn:(s.bays.getD i η).links.length<=2)(l:t<(s.bays.getD i η).links.length)(C:∀u,u<t->(p.links.getD i []).getD u 0≠1)(j:(p.links.getD i []).getD t 0=1):oW s p i=tL s p (gY s i t):=by
 unfold oW;by_cases B:t=0
 .subst B;rw[ι j]
 .obtain rfl:t=1:=aa;rw[θ (C 0 aa),ι ⟨l,j⟩]
theorem CQ{s p i n}(hn:(s.bays.getD i η).links.length=n)(l:1<=n)(j:∀u,u<n->(p.links.getD i []).getD u 0≠1):oW s p i=(0,0):=by
 unfold oW;rw[θ (j 0 aa),θ (fun h=>j 1 aa h.2)]
theorem tJ(nm){A0}{n0 c0:Nat}{A1}{n1 c1:Nat}{A2}{n2 c2:Nat}{A3}{n3 c3:Nat}{PA}{F L:Nat}{PB}{V qc:Nat}{K}{p:dH}(J)(N Q:Nat)(i k:Nat)(l:Int)(I:l=(k:Int))(w)(hp:iN w PA F PB V K p)(hi:i<V)(U:k<(p.links.getD i []).length):
  CE 187 #[qJ nm A0 n0 c0 A1 n1 c1 A2 n2 c2 A3 n3 c3 PA F L PB V qc J N Q,(i:Int),l] w (.bool (decide ((p.links.getD i []).getD k 0=1))):=by
 subst I;have D:Hid (Ext w (aL w #[nm,aO A0 n0 c0,aO A1 n1 c1,aO A2 n2 c2,aO A3 n3 c3,aO PA F L,aO PB V qc,aO J N Q] 215)):=aW (Ext.new _ _);obtain⟨-,hb⟩:=an1 w 215 #[nm,aO A0 n0 c0,aO A1 n1 c1,aO A2 n2 c2,aO A3 n3 c3,aO PA F L,aO PB V qc,aO J N Q];have C:=hb.cell;clear hb;obtain⟨pb,B,M,T,f0⟩:=(hp.ext D.o).rows.one hi;have O:k<(K i).n:=by rw[<-hp.lens i hi];exact U
 obtain⟨R,Y,j,P,S⟩:=((hp.ext D.o).ints i hi).one O;have G:=hp.mx.2.1;have H:=hp.mx.2.2 i hi;unfold Hd.v at f0;clear hp;generalize K i=W at f0 S j O H;generalize (p.links.getD i []).getD k 0=x at S;rw[j] at f0;subst M;unfold qJ;go_enter func187,ntmps187;go_wp2;go_ret;exact⟨rfl,D.o⟩
theorem vC(nm){A0 n0 c0 A1 n1 c1 A2 n2 c2 A3 n3 c3}(PA F H PB V qc){B l Q g}(b w)(J:vS w B l g)(hb:b<l):
  CE 188 #[qJ nm A0 n0 c0 A1 n1 c1 A2 n2 c2 A3 n3 c3 PA F H PB V qc B l Q,(b:Int)] w (.agg #[aK,(g.getD b 0)]):=by
 have D:Hid (Ext w (aL (aL w #[nm,aO A0 n0 c0,aO A1 n1 c1,aO A2 n2 c2,aO A3 n3 c3,aO PA F H,aO PB V qc,aO B l Q] 215) #[aJ,aJ] 186)):=aW ((Ext.new _ _).alloc _);obtain⟨-,G,-⟩:=an2 w 215 #[nm,aO A0 n0 c0,aO A1 n1 c1,aO A2 n2 c2,aO A3 n3 c3,aO PA F H,aO PB V qc,aO B l Q] 186 #[aJ,aJ];have C:=G.cell;clear G;obtain⟨O,j,I,M,f0⟩:=J.2.one hb;generalize T:g.getD b 0=x at f0;have K:=aW T;clear T;have N:Hid (∀u v,Ext w ((((w.alloc (.cells #[nm,aO A0 n0 c0,aO A1 n1 c1,aO A2 n2 c2,aO A3 n3 c3,aO PA F H,aO PB V qc,aO B l Q] 215)).alloc (.cells #[aJ,aJ] 186)).setCell ⟨w.heap.size+1,0,δ⟩ u).setCell ⟨w.heap.size+1,1,δ⟩ v)):=aW (fun u v=>fK (g:=w.heap.size+1) (show w.heap.size<=w.heap.size+1 by omega) 0 [u,v] D.o);have L:Hid (∀u v,Blk ((((w.alloc (.cells #[nm,aO A0 n0 c0,aO A1 n1 c1,aO A2 n2 c2,aO A3 n3 c3,aO PA F H,aO PB V qc,aO B l Q] 215)).alloc (.cells #[aJ,aJ] 186)).setCell ⟨w.heap.size+1,0,δ⟩ u).setCell ⟨w.heap.size+1,1,δ⟩ v) (w.heap.size+1) 186 #[u,v]):=aW (fun u v=>dm 0 [u,v] (aeW _ _ ag));subst I;clear J;unfold qJ;go_enter func188,ntmps188;go_wp2;exact mG rfl rfl rfl (aeW _ _ ag) underlying186 rfl ah ⟨rfl,(Ext.new _ _).alloc _⟩
theorem II(nm){A0 n0 c0 A1 n1 c1 A2 n2 c2 A3 n3 c3 L s PA pn pc PB V qc K p GA D Q}(i w)(hs:j5 w A0 n0 c0 A1 n1 c1 A2 n2 c2 A3 n3 c3 L s)(hp:iN w PA pn PB V K p)(j:jG s)(YV:∀i,i<s.bays.length->(p.links.getD i []).length=(s.bays.getD i η).links.length)(hg:vS w GA D (groups s p))(F:D=s.buses.length)(hi:i<n3)(hq:i<V)(T:(s.bays.getD i η).kind=3):
  CE 155 #[qJ nm A0 n0 c0 A1 n1 c1 A2 n2 c2 A3 n3 c3 PA pn pc PB V qc GA D Q,(i:Int)] w (vZ (sides s p i)):=by
 have YN:=hs.mx;obtain⟨m0,m1,m2,m3⟩:=YN;have Yz:=hs.l3;have hL:=(hs.links i hi);have Zt:=j.link (show i<s.bays.length by omega);have l:=fun k T=>j.bus (i:=i) (k:=k) (show i<s.bays.length by omega) T;have Zx:D<=4:=by have:=j.nb;omega
 obtain⟨lb,lo,hA,hb,e0,e1,e2,e3,e4,e5,e6,e7,e8,e9,YJ,YM⟩:=hs.bays.bay hi;subst hA;have d0:decide ((i:Int)<0)=ζ:=ag;have d1:decide ((n3:Int)<=i)=ζ:=ae;have HS:=aW hs;have HP:=aW hp;have HG:=aW hg;have YK:=aW Zt;have R:=aW l;have YO:=aW hL;have S:Hid ((s.bays.getD i η).links.length=(L i).n):=aW hL.1;have Za:=aW (YV i aa);have YS:Hid (i<V):=aW hq;clear hs hp hg Zt l hL j YV F Yz hq;have Y:Hid (sides s p i=(tL s p (gY s i 0),tL s p (gY s i 1))):=aW (by unfold sides;rw[ι T]);have YL:=YK.o.2.1 T;have YR:=R.o 0 aa;have YT:=R.o 1 aa;have Yw:gY s i 0<D:=by have:=HG.o.1;rw[lF] at this;omega
 have YE:gY s i 1<D:=by have:=HG.o.1;rw[lF] at this;omega
 obtain⟨kb,ko,hI,Zo,YX⟩:=YO.o.2.at_ (show 0<(L i).n by have:=S.o;omega);obtain⟨ZJ,ZI,C,_,O⟩:=YO.o.2.at_ (show 1<(L i).n by have:=S.o;omega);rw[hI] at C;injection C with C;injection C with Zc G _;subst Zc G;have f0:w.cell? (aM kb ko)=γ (.int .i64 (gY s i 0:Int)):=by
  have:=YX 0 _ rfl;rw[YR.1] at this;simpa using this
 have f1:w.cell? (aM kb (ko+2))=γ (.int .i64 (gY s i 1:Int)):=by
  have:=O 0 _ rfl;rw[YT.1] at this;simpa using this
 have Zh:(L i).n=2:=by have:=S.o;omega
 clear YX O YR YT YL;rw[T] at e1;have q1:((i:Int)==3)=((i:Int)==3):=rfl;clear q1;generalize L i=N at e6 hI Zh;obtain⟨lA,ln,lc⟩:=N;simp only at hI Zh;subst hI Zh;have Yt:=aW T;clear T;generalize gY s i 0=u0 at f0 Yw Y;generalize gY s i 1=u1 at f1 YE Y;generalize YB:s.bays.getD i η=b at e0 e1 e2 e3 e4 e5 e6 e7 e8 e9 YJ YM;clear YB;obtain⟨w4,b0,b1,b2,b3⟩:=an4 w 215 #[nm,aO A0 n0 c0,aO A1 n1 c1,aO A2 n2 c2,aO (γ (aM lb lo)) n3 c3,aO PA pn pc,aO PB V qc,aO GA D Q] 187 #[aJ,aJ,aJ,aJ] 57 #[b.name,(3:Int),b.obj,b.en,b.z.r,b.z.x,aO (γ (aM kb ko)) 2 lc,b.closed,b.ct,b.vt,b.sat,b.travel] 187 #[aJ,aJ,aJ,aJ];have HW:=aW w4;have Z:=aW b0;have Yr:=aW b1;have U:=aW b2;have Yu:=aW b3;clear w4 b0 b1 b2 b3;unfold qJ;go_enter aek,adH;go_wp2_with fail;generalize aU _ _=w5 at HW Z Yr U Yu⊢;clear e0 e1 e2 e3 e4 e5 e6 e7 e8 e9 YJ YM d0 d1;have g0:=HW.cell_ f0;have g1:=HW.cell_ f1;clear f0 f1;have Y1:=aX.blk Z.o;have Y2:=aX.blk U.o;have Y3:=fun x:aX w5=>aX.cell g0 x;have Y4:=fun x:aX w5=>aX.cell g1 x;refine bM 15 [(ε,0),(ε,1),(ε,2),(ε,3),(ε,4),(ε,5),(ε,7),(ε,8),(ε,9),(ε,10),(ε,11),(ε,12),(ζ,6),(ζ,13),(ε,14)] ah ah ?_;refine bC [0,1,2,3,4,5,7,8,9,10,11,12] [(ζ,6),(ζ,13),(ε,14)] _ ah ?_;refine Gq ?_;refine bz 6 [(ζ,13),(ε,14)] ah ?_;intro K I;simp only[bG];go_wp2_with fail;refine(vC nm PA pn pc PB V qc u0 _ (HG.ext (HW.trans ((Ext.refl w5).drew))) Yw).mono ?_;rintro e w6 ⟨rfl,J⟩;have P:=((Ext.refl w5).drew).trans J;have W:=aW P;clear J;go_wp2_with fail;refine I _ _ ⟨⟨w6,P⟩,rfl⟩ ?_;clear I K P;refine bz 13 [(ε,14)] ah ?_;intro K I;simp only[bG];go_wp2_with fail;refine(vC nm PA pn pc PB V qc u1 _ (HG.ext (HW.trans W.o)) YE).mono ?_;rintro e w7 ⟨rfl,J⟩;have H:=W.trans J;have Yx:=aW H;clear J;go_wp2_with fail;refine I _ _ ⟨⟨w7,H⟩,rfl⟩ ?_;clear I K H;refine bC [14] [] _ ah ?_;refine Gq ?_;simp only[cK,ξ,τ];have B7:=Yr.ext Yx.o;have k7:=B7.cell;have f7:=B7.frozen;have YQ:Hid (∀B,Ext w (puts w7 (w.heap.size+1) 0 B)):=aW (fun B=>fK (g:=w.heap.size+1) (show w.heap.size<=w.heap.size+1 by omega) 0 B (HW.trans Yx.o));have M:=aW B7;clear B7;go_wp2_with fail;refine mG rfl rfl rfl (dm 0 [.int .i64 1,.int .i64 ((groups s p).getD u0 0),.int .i64 1,.int .i64 ((groups s p).getD u1 0)] M.o) aa9 rfl ah ⟨?_,YQ.o [.int .i64 1,.int .i64 ((groups s p).getD u0 0),.int .i64 1,.int .i64 ((groups s p).getD u1 0)]⟩;rw[Y.o];rfl
theorem JH(nm){A0 n0 c0 A1 n1 c1 A2 n2 c2 A3 n3 c3 L s PA pn pc PB V qc K p GA gn Q}(i w)(hs:j5 w A0 n0 c0 A1 n1 c1 A2 n2 c2 A3 n3 c3 L s)(hp:iN w PA pn PB V K p)(YC:jG s)(YV:∀i,i<s.bays.length->(p.links.getD i []).length=(s.bays.getD i η).links.length)(hg:vS w GA gn (groups s p))(F:gn=s.buses.length)(hi:i<n3)(hq:i<V)(hk:(s.bays.getD i η).kind=1):
  CE 155 #[qJ nm A0 n0 c0 A1 n1 c1 A2 n2 c2 A3 n3 c3 PA pn pc PB V qc GA gn Q,(i:Int)] w (vZ (sides s p i)):=by
 have YN:=hs.mx;obtain⟨m0,m1,m2,m3⟩:=YN;have Yz:=hs.l3;have hL:=(hs.links i hi);have Zt:=YC.link (show i<s.bays.length by omega);have l:=fun k hk=>YC.bus (i:=i) (k:=k) (show i<s.bays.length by omega) hk;have Zx:gn<=4:=by have:=YC.nb;omega
 obtain⟨lb,lo,hA,hb,e0,e1,e2,e3,e4,e5,e6,e7,e8,e9,YJ,YM⟩:=hs.bays.bay hi;subst hA;have d0:decide ((i:Int)<0)=ζ:=ag;have d1:decide ((n3:Int)<=i)=ζ:=ae;have HS:=aW hs;have HP:=aW hp;have HG:=aW hg;have YK:=aW Zt;have R:=aW l;have YO:=aW hL;have S:Hid ((s.bays.getD i η).links.length=(L i).n):=aW hL.1;have Za:=aW (YV i aa);have YS:Hid (i<V):=aW hq;clear hs hp hg Zt l hL YC YV F Yz hq;have Zy:Hid (sides s p i=(oW s p i,(2,(s.bays.getD i η).obj))):=aW AcX;have W:∀k,k<(s.bays.getD i η).links.length->gY s i k<gn:=fun k YI=>by have:=(R.o k YI).2;have:=HG.o.1;rw[lF] at this;omega
 have YH:=aW W;clear W;rw[hk] at e1;generalize Zq:L i=N at e6;have I:Hid (Lks w N.A N.n (s.bays.getD i η).links):=aW (by rw[<-Zq];exact YO.o);have YD:Hid ((s.bays.getD i η).links.length=N.n):=aW I.o.1;clear Zq S YO;have Yt:=aW hk;clear hk;have ZN:N.n<=2:=by have:=YK.o.1.2;have:=YD.o;omega
 have Zi:0<N.n:=by have:=YK.o.1.1;have:=YD.o;omega
 obtain⟨kb,ko,hI,Zo,_⟩:=I.o.2.at_ Zi;obtain⟨lA,ln,lc⟩:=N;simp only at hI Zi ZN;subst hI;generalize YB:s.bays.getD i η=b at e0 e1 e2 e3 e4 e5 e6 e7 e8 e9 YJ YM Zy;have YU:=aW YB;clear YB;obtain⟨w4,b0,b1,-,-⟩:=an4 w 215 #[nm,aO A0 n0 c0,aO A1 n1 c1,aO A2 n2 c2,aO (γ (aM lb lo)) n3 c3,aO PA pn pc,aO PB V qc,aO GA gn Q] 187 #[aJ,aJ,aJ,aJ] 57 #[b.name,aK,b.obj,b.en,b.z.r,b.z.x,aO (γ (aM kb ko)) ln lc,b.closed,b.ct,b.vt,b.sat,b.travel] 187 #[aJ,aJ,(2:Int),b.obj];have b2:Blk ((((w.alloc (.cells #[nm,aO A0 n0 c0,aO A1 n1 c1,aO A2 n2 c2,aO (γ (aM lb lo)) n3 c3,aO PA pn pc,aO PB V qc,aO GA gn Q] 215)).alloc (.cells #[aJ,aJ,aJ,aJ] 187)).alloc (.cells #[b.name,aK,b.obj,b.en,b.z.r,b.z.x,aO (γ (aM kb ko)) ln lc,b.closed,b.ct,b.vt,b.sat,b.travel] 57)).alloc (.cells #[aJ,aJ,(2:Int),b.obj] 187)) (w.heap.size+1+1) 57 #[b.name,aK,b.obj,b.en,b.z.r,b.z.x,aO (γ (aM kb ko)) ln lc,b.closed,b.ct,b.vt,b.sat,b.travel]:=(aeW _ _ ag).alloc _;have b3:Blk ((((w.alloc (.cells #[nm,aO A0 n0 c0,aO A1 n1 c1,aO A2 n2 c2,aO (γ (aM lb lo)) n3 c3,aO PA pn pc,aO PB V qc,aO GA gn Q] 215)).alloc (.cells #[aJ,aJ,aJ,aJ] 187)).alloc (.cells #[b.name,aK,b.obj,b.en,b.z.r,b.z.x,aO (γ (aM kb ko)) ln lc,b.closed,b.ct,b.vt,b.sat,b.travel] 57)).alloc (.cells #[aJ,aJ,(2:Int),b.obj] 187)) (w.heap.size+1+1+1) 187 #[aJ,aJ,(2:Int),b.obj]:=aeW _ _ ag;have HW:=aW w4;have Z:=aW b0;have Yr:=aW b1;have U:=aW b2;have Yu:=aW b3;clear w4 b0 b1 b2 b3;unfold qJ;go_enter aek,adH;go_wp2_with fail;generalize aU _ _=w5 at HW Z Yr U Yu⊢;clear e0 e1 e2 e3 e4 e5 e6 e7 e8 e9 YJ YM;generalize O:w.heap.size+1+1+1=q3 at Yu⊢;generalize Zj:w.heap.size+1+1=q2 at U⊢;generalize T:w.heap.size+1=q1 at Yr⊢;generalize Yx:w.heap.size=q0 at Z⊢;have B:Hid (w.heap.size<=q3/\q1<q3):=aW aa;have Yy:Hid (w.heap.size<=q1):=aW aa;clear O Zj T Yx;have k2:=U.cell;go_loopw [58] (fun j wr=>∃t:Nat,t<=ln/\j=.int .i64 (t:Int)/\(∀u,u<t->(p.links.getD i []).getD u 0≠1)/\Ext w5 wr) (aT ln)
 case atStart=>exact⟨0,aa,rfl,by intros;omega,Ext.refl _⟩
 case round=>
  obtain⟨t,ht,rfl,hz,J⟩:=hrel;have HZ:=aW hz;have HX:=aW J;clear hz J k2;have k0:=(Z.ext HX.o).cell;have l0:=(Z.ext HX.o).lt;have l3:=(Yu.ext HX.o).lt;have l1:=(Yr.ext HX.o).lt;have l2:=(U.ext HX.o).lt;by_cases Yp:t<ln
  .have hd:decide (t<ln)=ε:=ae;obtain⟨ZJ,ZI,Yv,YW,hc⟩:=(I.ext (HW.trans HX.o)).2.at_ Yp;injection Yv with Yv;injection Yv with Zc G _;subst Zc G;have g0:wr.cell? (aM kb (ko+t*2))=γ (.int .i64 ((s.bays.getD i η).links.getD t η).bus):=hc 0 _ rfl;have g1:=hc 1 _ rfl;rw[(R.o t AbU).1] at g0;clear hc;have hu:=YH.o t AbU;have Yw:Hid (t<(p.links.getD i []).length):=aW (by have:=YD.o;have:=Za.o;omega);have M:Hid ((p.links.getD i []).getD t 0=1->oW s p i=tL s p (gY s i t)):=aW (IC AbU AbU HZ.o);generalize gY s i t=u at g0 hu M;generalize ((s.bays.getD i η).links.getD t η).pos=ps at g1;have Y:Hid (Ext w5 (aL wr #[u,ps] 137)):=aW (HX.alloc _);obtain⟨-,Zm⟩:=an1 wr 137 #[u,ps];have YL:=aW Zm;clear Zm;go_wp2_with fail;refine(tJ nm GA gn Q i t _ rfl _ (HP.ext (HW.trans Y.o)) YS.o Yw.o).mono ?_;rintro e w6 ⟨rfl,J⟩;have YE:=aW (Y.trans J);have kl:=(YL.ext J).cell;have ll:=(YL.ext J).lt;have YR:=(Z.ext YE.o).cell;have YP:q0<w6.heap.size:=(Z.ext YE.o).lt;have D:q3<w6.heap.size:=(Yu.ext YE.o).lt;clear J;by_cases H:(p.links.getD i []).getD t 0=1
   .have dx:decide ((p.links.getD i []).getD t 0=1)=ε:=Δ H;rw[dx];have P:=aW (M.o H);clear H dx;go_wp2_with fail;refine(vC nm PA pn pc PB V qc u _ (HG.ext (HW.trans YE.o)) hu).mono ?_;rintro e w7 ⟨rfl,J⟩;have YQ:=aW (YE.trans J);clear J kl ll YR YP D;have b7:=Yu.ext YQ.o;have c7:=Yr.ext YQ.o;have YZ:=b7.cell;have YY:=b7.frozen;have Zf:=c7.cell;have ZK:=c7.frozen;have Ze:q1<w7.heap.size:=c7.lt;have Zd:q3<w7.heap.size:=b7.lt;have b8:=dm 0 [.int .i64 1,.int .i64 ((groups s p).getD u 0)] b7;have c8:Blk (puts w7 q3 0 [.int .i64 1,.int .i64 ((groups s p).getD u 0)]) q1 187 #[aJ,aJ,aJ,aJ]:=((c7.far Aa8 _).far Aa8 _);have x8:Ext w (puts w7 q3 0 [.int .i64 1,.int .i64 ((groups s p).getD u 0)]):=fK (g:=q3) B.o.1 0 _ (HW.trans YQ.o);have YA:=aW b8;have YT:=aW c8;have Zp:=aW x8;clear b7 c7 b8 c8 x8;have YX:¬q1=q3:=by have:=B.o.2;omega
    have YF:¬q3=q1:=by have:=B.o.2;omega
    go_wp2_with fail;refine mG rfl rfl rfl (dm 0 [.int .i64 1,.int .i64 ((groups s p).getD u 0),.int .i64 2,.int .i64 b.obj] YT.o) aa9 rfl ah ⟨?_,fK (g:=q1) Yy.o 0 [.int .i64 1,.int .i64 ((groups s p).getD u 0),.int .i64 2,.int .i64 b.obj] Zp.o⟩;rw[Zy.o,P.o];rfl
   .have dx:decide ((p.links.getD i []).getD t 0=1)=ζ:=π H;rw[dx];have YG:=aW H;clear H dx;go_wp2_with fail
    go_roundw
    case rel=>exact⟨t+1,aa,au,fun v hv=>by
     by_cases e:v=t
     .rw[e];exact YG.o
     .exact HZ.o v aa,YE.o⟩
    case measure=>exact aV
  .obtain rfl:t=ln:=aa;clear Yp ht;have Yq:Hid (oW s p i=(0,0)):=aW (CQ YD.o (by have:=YK.o.1.1;have:=YD.o;omega) HZ.o);have k3:=(Yu.ext HX.o).cell;have C:=(Yr.ext HX.o).cell;have f1:=(Yr.ext HX.o).frozen;go_wp2_with fail;refine mG rfl rfl rfl (dm 0 [.int .i64 0,.int .i64 0,.int .i64 2,.int .i64 b.obj] (Yr.ext HX.o)) aa9 rfl ah ⟨?_,fK (g:=q1) Yy.o 0 [.int .i64 0,.int .i64 0,.int .i64 2,.int .i64 b.obj] (HW.trans HX.o)⟩;rw[Zy.o,Yq.o];rfl
theorem Hy(nm){A0 n0 c0 A1 n1 c1 A2 n2 c2 A3 n3 c3 L s PA pn pc PB V qc K p GA gn Q}(i w)(hs:j5 w A0 n0 c0 A1 n1 c1 A2 n2 c2 A3 n3 c3 L s)(hp:iN w PA pn PB V K p)(YC:jG s)(YV:∀i,i<s.bays.length->(p.links.getD i []).length=(s.bays.getD i η).links.length)(hg:vS w GA gn (groups s p))(F:gn=s.buses.length)(hi:i<n3)(hq:i<V)(hk:(s.bays.getD i η).kind=2):
  CE 155 #[qJ nm A0 n0 c0 A1 n1 c1 A2 n2 c2 A3 n3 c3 PA pn pc PB V qc GA gn Q,(i:Int)] w (vZ (sides s p i)):=by
 have YN:=hs.mx;obtain⟨m0,m1,m2,m3⟩:=YN;have Yz:=hs.l3;have hL:=(hs.links i hi);have Zt:=YC.link (show i<s.bays.length by omega);have l:=fun k hk=>YC.bus (i:=i) (k:=k) (show i<s.bays.length by omega) hk;have Zx:gn<=4:=by have:=YC.nb;omega
 obtain⟨lb,lo,hA,hb,e0,e1,e2,e3,e4,e5,e6,e7,e8,e9,YJ,YM⟩:=hs.bays.bay hi;subst hA;have d0:decide ((i:Int)<0)=ζ:=ag;have d1:decide ((n3:Int)<=i)=ζ:=ae;have HS:=aW hs;have HP:=aW hp;have HG:=aW hg;have YK:=aW Zt;have R:=aW l;have YO:=aW hL;have S:Hid ((s.bays.getD i η).links.length=(L i).n):=aW hL.1;have Za:=aW (YV i aa);have YS:Hid (i<V):=aW hq;clear hs hp hg Zt l hL YC YV F Yz hq;have Zy:Hid (sides s p i=(oW s p i,(3,(s.bays.getD i η).obj))):=aW AcX;have W:∀k,k<(s.bays.getD i η).links.length->gY s i k<gn:=fun k YI=>by have:=(R.o k YI).2;have:=HG.o.1;rw[lF] at this;omega
 have YH:=aW W;clear W;rw[hk] at e1;generalize Zq:L i=N at e6;have I:Hid (Lks w N.A N.n (s.bays.getD i η).links):=aW (by rw[<-Zq];exact YO.o);have YD:Hid ((s.bays.getD i η).links.length=N.n):=aW I.o.1;clear Zq S YO;have Yt:=aW hk;clear hk;have ZN:N.n<=2:=by have:=YK.o.1.2;have:=YD.o;omega
 have Zi:0<N.n:=by have:=YK.o.1.1;have:=YD.o;omega
 obtain⟨kb,ko,hI,Zo,_⟩:=I.o.2.at_ Zi;obtain⟨lA,ln,lc⟩:=N;simp only at hI Zi ZN;subst hI;generalize YB:s.bays.getD i η=b at e0 e1 e2 e3 e4 e5 e6 e7 e8 e9 YJ YM Zy;have YU:=aW YB;clear YB;obtain⟨w4,b0,b1,-,-⟩:=an4 w 215 #[nm,aO A0 n0 c0,aO A1 n1 c1,aO A2 n2 c2,aO (γ (aM lb lo)) n3 c3,aO PA pn pc,aO PB V qc,aO GA gn Q] 187 #[aJ,aJ,aJ,aJ] 57 #[b.name,(2:Int),b.obj,b.en,b.z.r,b.z.x,aO (γ (aM kb ko)) ln lc,b.closed,b.ct,b.vt,b.sat,b.travel] 187 #[aJ,aJ,(3:Int),b.obj];have b2:Blk ((((w.alloc (.cells #[nm,aO A0 n0 c0,aO A1 n1 c1,aO A2 n2 c2,aO (γ (aM lb lo)) n3 c3,aO PA pn pc,aO PB V qc,aO GA gn Q] 215)).alloc (.cells #[aJ,aJ,aJ,aJ] 187)).alloc (.cells #[b.name,(2:Int),b.obj,b.en,b.z.r,b.z.x,aO (γ (aM kb ko)) ln lc,b.closed,b.ct,b.vt,b.sat,b.travel] 57)).alloc (.cells #[aJ,aJ,(3:Int),b.obj] 187)) (w.heap.size+1+1) 57 #[b.name,(2:Int),b.obj,b.en,b.z.r,b.z.x,aO (γ (aM kb ko)) ln lc,b.closed,b.ct,b.vt,b.sat,b.travel]:=(aeW _ _ ag).alloc _;have b3:Blk ((((w.alloc (.cells #[nm,aO A0 n0 c0,aO A1 n1 c1,aO A2 n2 c2,aO (γ (aM lb lo)) n3 c3,aO PA pn pc,aO PB V qc,aO GA gn Q] 215)).alloc (.cells #[aJ,aJ,aJ,aJ] 187)).alloc (.cells #[b.name,(2:Int),b.obj,b.en,b.z.r,b.z.x,aO (γ (aM kb ko)) ln lc,b.closed,b.ct,b.vt,b.sat,b.travel] 57)).alloc (.cells #[aJ,aJ,(3:Int),b.obj] 187)) (w.heap.size+1+1+1) 187 #[aJ,aJ,(3:Int),b.obj]:=aeW _ _ ag;have HW:=aW w4;have Z:=aW b0;have Yr:=aW b1;have U:=aW b2;have Yu:=aW b3;clear w4 b0 b1 b2 b3;unfold qJ;go_enter aek,adH;go_wp2_with fail;generalize aU _ _=w5 at HW Z Yr U Yu⊢;clear e0 e1 e2 e3 e4 e5 e6 e7 e8 e9 YJ YM;generalize O:w.heap.size+1+1+1=q3 at Yu⊢;generalize Zj:w.heap.size+1+1=q2 at U⊢;generalize T:w.heap.size+1=q1 at Yr⊢;generalize Yx:w.heap.size=q0 at Z⊢;have B:Hid (w.heap.size<=q3/\q1<q3):=aW aa;have Yy:Hid (w.heap.size<=q1):=aW aa;clear O Zj T Yx;have k2:=U.cell;go_loopw [58] (fun j wr=>∃t:Nat,t<=ln/\j=.int .i64 (t:Int)/\(∀u,u<t->(p.links.getD i []).getD u 0≠1)/\Ext w5 wr) (aT ln)
 case atStart=>exact⟨0,aa,rfl,by intros;omega,Ext.refl _⟩
 case round=>
  obtain⟨t,ht,rfl,hz,J⟩:=hrel;have HZ:=aW hz;have HX:=aW J;clear hz J k2;have k0:=(Z.ext HX.o).cell;have l0:=(Z.ext HX.o).lt;have l3:=(Yu.ext HX.o).lt;have l1:=(Yr.ext HX.o).lt;have l2:=(U.ext HX.o).lt;by_cases Yp:t<ln
  .have hd:decide (t<ln)=ε:=ae;obtain⟨ZJ,ZI,Yv,YW,hc⟩:=(I.ext (HW.trans HX.o)).2.at_ Yp;injection Yv with Yv;injection Yv with Zc G _;subst Zc G;have g0:wr.cell? (aM kb (ko+t*2))=γ (.int .i64 ((s.bays.getD i η).links.getD t η).bus):=hc 0 _ rfl;have g1:=hc 1 _ rfl;rw[(R.o t AbU).1] at g0;clear hc;have hu:=YH.o t AbU;have Yw:Hid (t<(p.links.getD i []).length):=aW (by have:=YD.o;have:=Za.o;omega);have M:Hid ((p.links.getD i []).getD t 0=1->oW s p i=tL s p (gY s i t)):=aW (IC AbU AbU HZ.o);generalize gY s i t=u at g0 hu M;generalize ((s.bays.getD i η).links.getD t η).pos=ps at g1;have Y:Hid (Ext w5 (aL wr #[u,ps] 137)):=aW (HX.alloc _);obtain⟨-,Zm⟩:=an1 wr 137 #[u,ps];have YL:=aW Zm;clear Zm;go_wp2_with fail;refine(tJ nm GA gn Q i t _ rfl _ (HP.ext (HW.trans Y.o)) YS.o Yw.o).mono ?_;rintro e w6 ⟨rfl,J⟩;have YE:=aW (Y.trans J);have kl:=(YL.ext J).cell;have ll:=(YL.ext J).lt;have YR:=(Z.ext YE.o).cell;have YP:q0<w6.heap.size:=(Z.ext YE.o).lt;have D:q3<w6.heap.size:=(Yu.ext YE.o).lt;clear J;by_cases H:(p.links.getD i []).getD t 0=1
   .have dx:decide ((p.links.getD i []).getD t 0=1)=ε:=Δ H;rw[dx];have P:=aW (M.o H);clear H dx;go_wp2_with fail;refine(vC nm PA pn pc PB V qc u _ (HG.ext (HW.trans YE.o)) hu).mono ?_;rintro e w7 ⟨rfl,J⟩;have YQ:=aW (YE.trans J);clear J kl ll YR YP D;have b7:=Yu.ext YQ.o;have c7:=Yr.ext YQ.o;have YZ:=b7.cell;have YY:=b7.frozen;have Zf:=c7.cell;have ZK:=c7.frozen;have Ze:q1<w7.heap.size:=c7.lt;have Zd:q3<w7.heap.size:=b7.lt;have b8:=dm 0 [.int .i64 1,.int .i64 ((groups s p).getD u 0)] b7;have c8:Blk (puts w7 q3 0 [.int .i64 1,.int .i64 ((groups s p).getD u 0)]) q1 187 #[aJ,aJ,aJ,aJ]:=((c7.far Aa8 _).far Aa8 _);have x8:Ext w (puts w7 q3 0 [.int .i64 1,.int .i64 ((groups s p).getD u 0)]):=fK (g:=q3) B.o.1 0 _ (HW.trans YQ.o);have YA:=aW b8;have YT:=aW c8;have Zp:=aW x8;clear b7 c7 b8 c8 x8;have YX:¬q1=q3:=by have:=B.o.2;omega
    have YF:¬q3=q1:=by have:=B.o.2;omega
    go_wp2_with fail;refine mG rfl rfl rfl (dm 0 [.int .i64 1,.int .i64 ((groups s p).getD u 0),.int .i64 3,.int .i64 b.obj] YT.o) aa9 rfl ah ⟨?_,fK (g:=q1) Yy.o 0 [.int .i64 1,.int .i64 ((groups s p).getD u 0),.int .i64 3,.int .i64 b.obj] Zp.o⟩;rw[Zy.o,P.o];rfl
   .have dx:decide ((p.links.getD i []).getD t 0=1)=ζ:=π H;rw[dx];have YG:=aW H;clear H dx;go_wp2_with fail
    go_roundw
    case rel=>exact⟨t+1,aa,au,fun v hv=>by
     by_cases e:v=t
     .rw[e];exact YG.o
     .exact HZ.o v aa,YE.o⟩
    case measure=>exact aV
  .obtain rfl:t=ln:=aa;clear Yp ht;have Yq:Hid (oW s p i=(0,0)):=aW (CQ YD.o (by have:=YK.o.1.1;have:=YD.o;omega) HZ.o);have k3:=(Yu.ext HX.o).cell;have C:=(Yr.ext HX.o).cell;have f1:=(Yr.ext HX.o).frozen;go_wp2_with fail;refine mG rfl rfl rfl (dm 0 [.int .i64 0,.int .i64 0,.int .i64 3,.int .i64 b.obj] (Yr.ext HX.o)) aa9 rfl ah ⟨?_,fK (g:=q1) Yy.o 0 [.int .i64 0,.int .i64 0,.int .i64 3,.int .i64 b.obj] (HW.trans HX.o)⟩;rw[Zy.o,Yq.o];rfl
theorem jG.kind{s}(h:jG s){i}(hi:i<s.bays.length):(s.bays.getD i η).kind=1\/(s.bays.getD i η).kind=2\/(s.bays.getD i η).kind=3:=by
 have j:=h.obj i hi;unfold jH at j;by_cases B:(s.bays.getD i η).kind=1
 .exact .inl B
 by_cases l:(s.bays.getD i η).kind=2
 .exact .inr (.inl l)
 by_cases C:(s.bays.getD i η).kind=3
 .exact .inr (.inr C)
 rw[θ B,θ l,θ C] at j;cases j
def Lb(nm){A0 n0 c0 A1 n1 c1 A2 n2 c2 A3 n3 c3 L s PA H I PB V qc K p G D Q}(i w)(hs:j5 w A0 n0 c0 A1 n1 c1 A2 n2 c2 A3 n3 c3 L s)(hp:iN w PA H PB V K p)(j:jG s)(l:∀i,i<s.bays.length->(p.links.getD i []).length=(s.bays.getD i η).links.length)(C:vS w G D (groups s p))(F:D=s.buses.length)(hi:i<n3)(hq:i<V):
  CE 155 #[qJ nm A0 n0 c0 A1 n1 c1 A2 n2 c2 A3 n3 c3 PA H I PB V qc G D Q,(i:Int)] w (vZ (sides s p i)):=by
 rcases j.kind (show i<s.bays.length by have:=hs.l3;omega) with B|B|B
 .exact JH nm i w hs hp j l C F hi hq B
 .exact Hy nm i w hs hp j l C F hi hq B
 .exact II nm i w hs hp j l C F hi hq B
def Eu(s p k):jm s p (k+1)=nT s p k (jm s p k):=rfl
theorem yg{s p k}(h:(s.bays.getD k η).kind=3\/(s.bays.getD k η).links.length≠2\/(p.links.getD k []).getD 0 0≠1\/(p.links.getD k []).getD 1 0≠1):jm s p (k+1)=jm s p k:=by
 rw[Eu];unfold nT;rw[θ];unfold joins;intro e;simp only[ρ,Θ] at e;rcases h with h|h|h|h
 .exact e.1.1.1 h
 .exact h e.1.1.2
 .exact h e.1.2
 .exact h e.2
theorem O6{s p k}(B:(s.bays.getD k η).kind≠3)(j:(s.bays.getD k η).links.length=2)(C:(p.links.getD k []).getD 0 0=1)(l:(p.links.getD k []).getD 1 0=1):
  jm s p (k+1)=merge ((jm s p k).getD (gY s k 0) 0) ((jm s p k).getD (gY s k 1) 0) (jm s p k):=by
 rw[Eu];unfold nT;rw[ι];unfold joins;simp only[ρ,Θ];exact⟨⟨⟨B,j⟩,C⟩,l⟩
theorem EP{s p}(h:jq s p=0):p.closed.length=s.bays.length/\p.links.length=s.bays.length/\∀i,i<s.bays.length->(p.links.getD i []).length=(s.bays.getD i η).links.length:=by
 unfold jq at h;split at h
 .rename_i Z
  refine⟨Z.1,Z.2,?_⟩;split at h
  .rename_i ha
   intro i hi;exact aa0 (qb.1 ha i (aav.2 hi))
  .cases h
 .cases h
def iota (k:Nat):List Int:=(List.range k).map (fun j:Nat=>(j:Int))
theorem OJ(k):(iota k).map (Value.int .i64)++[Value.int .i64 (k:Int)]=(iota (k+1)).map (Value.int .i64):=by
 unfold iota;rw[abW,aad,aad];rfl
def SQ{l:List Int}{j}(h:j<l.length):l[j]? =γ (l.getD j 0):=by
 rw[σ,ν h];rfl
theorem I9{A0 n0 c0 A1 n1 c1 A2 n2 c2 A3 n3 c3 L s PA pn pc PB V qc K p}(w)(hs:j5 w A0 n0 c0 A1 n1 c1 A2 n2 c2 A3 n3 c3 L s)(hp:iN w PA pn PB V K p)(hc:chk s=0)(ZF:jq s p=0):
  Calls prog 154 #[stV s.name A0 n0 c0 A1 n1 c1 A2 n2 c2 A3 n3 c3,lG PA pn pc PB V qc] w fun e w'=>∃GA Q,e=.returned (.tuple #[qJ s.name A0 n0 c0 A1 n1 c1 A2 n2 c2 A3 n3 c3 PA pn pc PB V qc GA n0 Q,ε])/\vS w' GA n0 (groups s p)/\Ext w w':=by
 have D:Hid (Ext w (aL (aL (aL w #[s.name,aO A0 n0 c0,aO A1 n1 c1,aO A2 n2 c2,aO A3 n3 c3] 27) #[aO PA pn pc,aO PB V qc] 31) #[ByteArray.empty,(),(),(),(),(),(),()] 215)):=aW (((Ext.new _ _).trans (Ext.new _ _)).trans (Ext.new _ _));have HS:=aW (hs.ext D.o);have HP:=aW (hp.ext D.o);have HC:=aW hc;have Z9:=aW ZF;have YH:=aW (uf hc);obtain⟨m0,m1,m2,m3⟩:=hs.mx;have Z:=aW hs.l3;have Ze:Hid (s.buses.length=n0):=aW (by have:=hs.buses.1;simpa using this);have Z8:Hid (1<=n0/\n0<=4):=aW (by have:=YH.nb;have:=Ze.o;omega);have YF:=Z8.o.1;have Za:=aW (EP ZF);have HQ:Hid (V=n3):=aW (by have:=hp.ll;have:=Za.o.2.1;have:=Z.o;omega);clear hs hp hc ZF;obtain⟨-,Yr,U,-⟩:=ah3 w 27 #[s.name,aO A0 n0 c0,aO A1 n1 c1,aO A2 n2 c2,aO A3 n3 c3] 31 #[aO PA pn pc,aO PB V qc] 215 #[ByteArray.empty,(),(),(),(),(),(),()];have Yu:Hid (Blk (aL (aL (aL w #[s.name,aO A0 n0 c0,aO A1 n1 c1,aO A2 n2 c2,aO A3 n3 c3] 27) #[aO PA pn pc,aO PB V qc] 31) #[ByteArray.empty,(),(),(),(),(),(),()] 215) (w.heap.size+1+1) 215 #[ByteArray.empty,(),(),(),(),(),(),()]):=aW (aeW _ _ ag);unfold stV lG;go_enter func154,ntmps154;go_wp2_with fail;refine(zO _ HS.o).mono ?_;rintro e w1 ⟨rfl,J⟩;rw[HC.o];replace D:=D.aC J;replace HS:=HS.aA J;replace HP:=HP.aA J;replace Yr:=Yr.aA J;replace U:=U.aA J;replace Yu:=Yu.aA J;have h1:=Yr.lt;have h2:=U.lt;have C:=Yr.cell;have k2:=U.cell;clear J;go_wp2_with fail;refine(zT s.name _ HS.o HP.o).mono ?_;rintro e w2 ⟨rfl,J⟩;rw[Z9.o];replace D:=D.aC J;replace HS:=HS.aA J;replace HP:=HP.aA J;replace Yr:=Yr.aA J;replace U:=U.aA J;replace Yu:=Yu.aA J;clear h1 h2 C k2 J;have h1:=Yr.lt;have h2:=U.lt;have C:=Yr.cell;have k2:=U.cell;obtain⟨-,Yy⟩:=an1 w2 215 #[s.name,aO A0 n0 c0,aO A1 n1 c1,aO A2 n2 c2,aO A3 n3 c3,aO PA pn pc,aO PB V qc,()];have YW:=aW Yy;clear Yy;have Zl:Hid (Ext w2 (aL w2 #[s.name,aO A0 n0 c0,aO A1 n1 c1,aO A2 n2 c2,aO A3 n3 c3,aO PA pn pc,aO PB V qc,()] 215)):=aW (Ext.new _ _);go_wp2_with fail;clear C k2 h1 h2;generalize Zj:w.heap.size+1+1=q2 at Yu⊢;generalize T:w.heap.size+1=q1 at U⊢;generalize Yx:w.heap.size=q0 at Yr⊢;have YI:Hid (w.heap.size<=q2):=aW aa;clear Zj T Yx;generalize ZL:w2.alloc (.cells #[s.name,aO A0 n0 c0,aO A1 n1 c1,aO A2 n2 c2,aO A3 n3 c3,aO PA pn pc,aO PB V qc,()] 215)=w6 at YW Zl⊢;clear ZL;generalize Zr:w2.heap.size=g6 at YW⊢;have ZE:=aW Zr;clear Zr;go_loopw [32] (fun i wr=>∃(k:Nat) (v:Value),k<=n0/\i=.int .i64 (k:Int)/\Blk wr g6 215 #[s.name,aO A0 n0 c0,aO A1 n1 c1,aO A2 n2 c2,aO A3 n3 c3,aO PA pn pc,aO PB V qc,v]/\wr.ownsRow (g6+1) 3 1 v k ((iota k).map (.int .i64))/\Ext w2 wr) (aT n0)
 case atStart=>exact⟨0,_,aa,rfl,YW.o,PI _ _ _ _,Zl.o⟩
 case round=>
  clear YW Zl;obtain⟨k,v,hk,rfl,Yy,F,J⟩:=hrel;obtain⟨Av,cv,rfl,_,_,_⟩:=jD F;have YW:=aW Yy;have B:=aW F;have HX:=aW J;have k6:=Yy.cell;have l6:=Yy.lt;have k0:=(Yr.ext J).cell;have l0:=(Yr.ext J).lt;clear Yy F J;by_cases Yp:k<n0
  .have hd:decide (k<n0)=ε:=ae;(go_wp2_with (at_builtin;refine eX C8 rfl (.tmp 36) (.tmp 38) rfl (g6+1) _ k _ rf (B.alloc _) wr.heap.size 1 1 [.int .i64 (k:Int)] rf (Blk.new _ _ _) rfl AaB aa aa aa ae ?_));intro gA H w7 Zi Zn ZN Zy;rw[OJ] at Zi;have YS:=gN Zn (YW.alloc (.cells #[k] 3)) (kG B.o aa);have Zh:Mod (fun g=>g=g6\/(Value.slice Av k cv).ownBlock=γ g) wr (w7.setCell ⟨g6,7,δ⟩ (.slice (γ (aM gA 0)) (k+1) H)):=((ae1 (Ext.new _ _)).trans (Mod.grown Zn (fun g h=> .inr h))).trans (Mod.only (Only.set w7 g6 7 _) (.inl rfl));have k7:=YS.cell;have f7:=YS.frozen;have l7:=YS.lt;have YP:Blk (w7.setCell ⟨g6,7,δ⟩ (.slice (γ (aM gA 0)) (k+1) H)) g6 215 #[s.name,aO A0 n0 c0,aO A1 n1 c1,aO A2 n2 c2,aO A3 n3 c3,aO PA pn pc,aO PB V qc,aO (γ (aM gA 0)) (k+1) H]:=by simpa using YS.mM 7 (.slice (γ (aM gA 0)) (k+1) H)
   have ZA:=rT Zi (Only.set w7 g6 7 (.slice (γ (aM gA 0)) (k+1) H)) (kG Zi aa);have YA:=aW YP;have ZP:=aW ZA;have YZ:=aW Zh;clear YS Zh YP ZA Zi Zn ZN;go_wp2_with fail
   go_roundw
   case rel=>
    refine⟨k+1,_,aa,au,YA.o,ZP.o,HX.mod YZ.o (fun g hg=> ?_)⟩;have:=ZE.o;rcases hg with hg|hg
    .omega
    .have:=(B.lt g hg).1;omega
   case measure=>exact aV
  .obtain rfl:n0=k:=aa;clear Yp hk;go_wp2_with fail;clear k6 l6 k0 l0;go_loopw [45] (fun i wr=>∃(j:Nat) (v:Value),j<=n3/\i=.int .i64 (j:Int)/\Blk wr g6 215 #[s.name,aO A0 n0 c0,aO A1 n1 c1,aO A2 n2 c2,aO A3 n3 c3,aO PA pn pc,aO PB V qc,v]/\wr.ownsRow (g6+1) 3 1 v n0 ((jm s p j).map (.int .i64))/\Ext w2 wr) (aT n3)
   case atStart=>exact⟨0,_,aa,rfl,YW.o,by rw[show jm s p 0=iota n0 from by rw[<-Ze.o];rfl];exact B.o,HX.o⟩
   case round=>
    clear YW B HX;obtain⟨j,v,hj,rfl,Yy,F,J⟩:=hrel;obtain⟨gr,Yq,rfl,aB,az⟩:=F.form aa;obtain⟨wv,YV⟩:∃wv,wv=wr:=⟨_,rfl⟩;subst YV;have YW:=aW Yy;have B:=aW F;have HX:=aW J;have k6:=Yy.cell;have l6:=Yy.lt;have k0:=(Yr.ext J).cell;have l0:=(Yr.ext J).lt;clear Yy F J;by_cases Yp:j<n3
    .have hd:decide (j<n3)=ε:=ae;obtain⟨lb,lo,hA,hb,e0,e1,e2,e3,e4,e5,e6,e7,e8,e9,YJ,YM⟩:=(HS.ext HX.o).bays.bay Yp;subst hA;generalize Zq:L j=N at e6;have YO:Hid (Lks wv N.A N.n (s.bays.getD j η).links):=aW (by rw[<-Zq];exact((HS.ext HX.o).links j Yp));have YD:Hid ((s.bays.getD j η).links.length=N.n):=aW YO.o.1;clear Zq;generalize YB:s.bays.getD j η=b at e0 e1 e2 e3 e4 e5 e6 e7 e8 e9 YJ YM;have YU:=aW YB;clear YB;have YK:Hid (Ext w2 (wv.alloc (.cells #[b.name,b.kind,b.obj,b.en,b.z.r,b.z.x,aO N.A N.n N.c,b.closed,b.ct,b.vt,b.sat,b.travel] 57))):=aW (HX.alloc _);have Zv:=aW (B.alloc (.cells #[b.name,b.kind,b.obj,b.en,b.z.r,b.z.x,aO N.A N.n N.c,b.closed,b.ct,b.vt,b.sat,b.travel] 57));have Yt:=aW (YW.alloc (.cells #[b.name,b.kind,b.obj,b.en,b.z.r,b.z.x,aO N.A N.n N.c,b.closed,b.ct,b.vt,b.sat,b.travel] 57));obtain⟨-,YL⟩:=an1 wv 57 #[b.name,b.kind,b.obj,b.en,b.z.r,b.z.x,aO N.A N.n N.c,b.closed,b.ct,b.vt,b.sat,b.travel];have YC:=aW YL;clear YL;by_cases h1:b.kind=3
     .have q1:((b.kind:Int)==3)=ε:=by simp[h1]
      have HJ:Hid (jm s p (j+1)=jm s p j):=aW (yg (.inl (by rw[YU.o];exact h1)));clear h1;go_wp2_with fail
      go_roundw
      case rel=>exact⟨j+1,_,aa,au,Yt.o,by rw[HJ.o];exact Zv.o,YK.o⟩
      case measure=>exact aV
     have q1:((b.kind:Int)==3)=ζ:=by simp[h1]
     have H1:=aW h1;clear h1;by_cases h2:N.n=2
     rotate_left
     .have q2:((N.n:Int) !=2)=ε:=ae;have HJ:Hid (jm s p (j+1)=jm s p j):=aW (yg (.inr (.inl (by rw[YD.o];exact h2))));clear h2;go_wp2_with fail
      go_roundw
      case rel=>exact⟨j+1,_,aa,au,Yt.o,by rw[HJ.o];exact Zv.o,YK.o⟩
      case measure=>exact aV
     obtain⟨kb,ko,hI,Zo,YX⟩:=YO.o.2.at_ (show 0<N.n by omega);obtain⟨ZJ,ZI,Yv,_,O⟩:=YO.o.2.at_ (show 1<N.n by omega);rw[hI] at Yv;injection Yv with Yv;injection Yv with Zc G _;subst Zc G;have YY:Hid (j<s.bays.length):=aW AcF;have f0:wv.cell? (aM kb ko)=γ (.int .i64 (gY s j 0:Int)):=by
      have:=YX 0 _ rfl;rw[(YH.o.bus YY.o AbU).1] at this;simpa using this
     have f1:wv.cell? (aM kb (ko+2))=γ (.int .i64 (gY s j 1:Int)):=by
      have:=O 0 _ rfl;rw[(YH.o.bus YY.o AbU).1] at this;simpa using this
     have YR:gY s j 0<n0:=by have:=(YH.bus YY.o (show 0<_ by have:=YD.o;omega)).2;have:=Ze.o;omega
     have YT:gY s j 1<n0:=by have:=(YH.bus YY.o (show 1<_ by have:=YD.o;omega)).2;have:=Ze.o;omega
     have ac:Hid ((p.links.getD j []).length=2):=aW (by have:=Za.o.2.2 j YY.o;have:=YD.o;omega);have ZV:Hid (j<V):=aW (by have:=HQ.o;omega);have R:Hid ((p.links.getD j []).getD 0 0=1->(p.links.getD j []).getD 1 0=1->jm s p (j+1)=merge ((jm s p j).getD (gY s j 0) 0) ((jm s p j).getD (gY s j 1) 0) (jm s p j)):=aW (fun h3 h4=>O6 (by rw[YU.o];exact H1.o) (by rw[YD.o];exact h2) h3 h4);have Zz:Hid ((jm s p j).length=n0):=aW (by rw[kP];exact Ze.o);generalize gY s j 0=u0 at f0 YR R;generalize gY s j 1=u1 at f1 YT R;obtain⟨lA,ln,lc⟩:=N;simp only at hI h2;subst hI h2;clear YX O;have ZZ:=(Ext.new wv (.cells #[b.name,b.kind,b.obj,b.en,b.z.r,b.z.x,aO (γ (aM kb ko)) 2 lc,b.closed,b.ct,b.vt,b.sat,b.travel] 57)).cell_ f0;have ZU:=(Ext.new wv (.cells #[b.name,b.kind,b.obj,b.en,b.z.r,b.z.x,aO (γ (aM kb ko)) 2 lc,b.closed,b.ct,b.vt,b.sat,b.travel] 57)).cell_ f1;go_wp2_with fail;refine(tJ s.name (γ ⟨gr,0,δ⟩) n0 Yq j 0 _ rfl _ (HP.ext YK.o) ZV.o (by rw[ac.o];decide)).mono ?_;rintro e w6 ⟨rfl,J⟩;have YE:=aW (YK.trans J);have ZO:=aW (eH Zv.o J);have S:=aW (Yt.ext J);have Zt:=aW (YC.ext J);have ZT:=J.cell_ ZZ;have ZR:=J.cell_ ZU;clear J f0 f1 ZZ ZU e0 e1 e2 e3 e4 e5 e6 e7 e8 e9 YJ YM;have av:=S.cell;have ai:=S.lt;have ad:=Zt.cell;have ap:=Zt.lt;by_cases h3:(p.links.getD j []).getD 0 0=1
     rotate_left
     .have q3:decide ((p.links.getD j []).getD 0 0=1)=ζ:=π h3;rw[q3];have HJ:Hid (jm s p (j+1)=jm s p j):=aW (yg (.inr (.inr (.inl h3))));clear h3 q3;go_wp2_with fail
      go_roundw
      case rel=>exact⟨j+1,_,aa,au,S.o,by rw[HJ.o];exact ZO.o,YE.o⟩
      case measure=>exact aV
     have q3:decide ((p.links.getD j []).getD 0 0=1)=ε:=Δ h3;rw[q3];replace R:=aW (R.o h3);clear h3 q3;go_wp2_with fail;refine(tJ s.name (γ ⟨gr,0,δ⟩) n0 Yq j 1 _ rfl _ (HP.ext YE.o) ZV.o (by rw[ac.o];decide)).mono ?_;rintro e w7 ⟨rfl,J⟩;have YQ:=aW (YE.trans J);have Zw:=aW (eH ZO.o J);have M:=aW (S.ext J);have ZC:=aW (Zt.ext J);have ZY:=J.cell_ ZT;have ZK:=J.cell_ ZR;clear J ZT ZR av ai ad ap;have ax:=M.cell;have af:=M.lt;have Z7:=ZC.cell;have aq:=ZC.lt;by_cases h3:(p.links.getD j []).getD 1 0=1
     rotate_left
     .have q3:decide ((p.links.getD j []).getD 1 0=1)=ζ:=π h3;rw[q3];have HJ:Hid (jm s p (j+1)=jm s p j):=aW (yg (.inr (.inr (.inr h3))));clear h3 q3;go_wp2_with fail
      go_roundw
      case rel=>exact⟨j+1,_,aa,au,M.o,by rw[HJ.o];exact Zw.o,YQ.o⟩
      case measure=>exact aV
     have q3:decide ((p.links.getD j []).getD 1 0=1)=ε:=Δ h3;rw[q3];replace R:=aW (R.o h3);clear h3 q3;have ZQ:=(FD Zw.o YR (SQ (by have:=Zz.o;omega))).1;have ZW:=(FD Zw.o YT (SQ (by have:=Zz.o;omega))).1;have aI:=(Zw.lt gr rfl).2;have ay:kb<w7.heap.size:=by
      have:=(HX.size);exact block_lt_of_cell ZY
     generalize (jm s p j).getD u0 0=x0 at ZQ R;generalize (jm s p j).getD u1 0=x1 at ZW R;go_wp2_with fail;go_quiet (fail);have aw:=(M.drewN nq).cell;have am:=(M.drewN nq).lt;go_wp2_with fail;clear ZQ ZW ZY ZK ax af Z7 aq aw am;have Zp:=aW (YQ.drewN nq);have YA:=aW (M.drewN nq);have ZM:Hid ((w7.drewN nq).ownsRow (g6+1) 3 1 (.slice (γ (aM gr 0)) n0 Yq) n0 ((jm s p j).map (.int .i64))):=aW (eH Zw.o ((Ext.refl _).drewN nq));generalize w7.drewN nq=w8 at Zp YA ZM⊢;have YN:Hid ((jm s p j).map (fun v=>if v=max x0 x1 then min x0 x1 else v)=merge x0 x1 (jm s p j)):=aW (OL _);rw[<-YN.o] at R;generalize max x0 x1=mx at R YN⊢;generalize min x0 x1=mn at R YN⊢;generalize jm s p j=l at ZM Zz R YN;clear YK YE YQ Yt S M YC Zt ZC Zv ZO Zw YN;go_loopw [98] (fun i wq=>∃t:Nat,t<=n0/\i=.int .i64 (t:Int)/\wq.ownsRow (g6+1) 3 1 (.slice (γ (aM gr 0)) n0 Yq) n0 ((vX (fun v=>if v=mx then mn else v) l t).map (.int .i64))/\Mod (fun g=>g=gr) w8 wq) (aT n0)
     case atStart=>exact⟨0,aa,rfl,by rw[SI];exact ZM.o,Mod.refl _ _⟩
     case round=>
      obtain⟨t,ht,rfl,ZB,Zg⟩:=hrel;have Zf:=aW ZB;have Zm:=aW Zg;have ZG:=YA.mod Zg (fun h=>aa);have Zd:=aW ZG;have kq:=ZG.cell;have lq:=ZG.lt;clear ZB Zg ZG;by_cases I:t<n0
      .have aG:decide (t<n0)=ε:=ae;have Yz:t<l.length:=by have:=Zz.o;omega
       obtain⟨q1,q2⟩:=FD Zf.o I (FP Yz);have aE:=(Zf.lt gr rfl).2;have Yw:=aW (Ma Zf.o t (.int .i64 mn));have Zk:=aW (CU (f:=fun v=>if v=mx then mn else v) Yz);have YG:=aW (Et (f:=fun v=>if v=mx then mn else v) Yz);generalize l.getD t 0=x at q1 Zk YG;by_cases P:x=mx
       .have dx:((x:Int)==mx)=ε:=ae;have W:=aW P;clear P;go_wp2_with fail
        go_roundw
        case rel=>
         refine⟨t+1,aa,au,?_,?_⟩
         .have h1:=Yw.o.1;rw[<-adW (f:=Value.int .i64) (a:=mn)] at h1;have h2:=Zk.o;simp only[ι W.o] at h2;rw[<-h2];exact h1
         .exact Zm.trans Yw.o.2
        case measure=>exact aV
       .have dx:((x:Int)==mx)=ζ:=ae;have W:=aW P;clear P;go_wp2_with fail
        go_roundw
        case rel=>exact⟨t+1,aa,au,by rw[YG.o (θ W.o)];exact Zf.o,Zm.o⟩
        case measure=>exact aV
      .obtain rfl:n0=t:=aa;clear I ht;have ZX:=aW (Jm (f:=fun v=>if v=mx then mn else v) Zz.o);go_wp2_with fail
       go_roundw
       case rel=>exact⟨j+1,_,aa,au,Zd.o,by rw[R.o,<-ZX.o];exact Zf.o,Zp.mod Zm.o (fun g hg=>by have:=ZE.o;omega)⟩
       case measure=>exact aV
    .obtain rfl:n3=j:=aa;clear Yp hj;have Y:=Yu.ext HX.o;have kr:=Y.cell;have fr:=Y.frozen;have lr:=Y.lt;go_wp2_with fail;have ao:Hid (groups s p=jm s p n3):=aW (by unfold groups;rw[Z.o]);have r1:=rT B.o (gP wv q2 0 [.string s.name,.slice A0 n0 c0,.slice A1 n1 c1,.slice A2 n2 c2,.slice A3 n3 c3,.slice PA pn pc,.slice PB V qc,.slice (γ (aM gr 0)) n0 Yq]) (fE B.o Y aj);obtain⟨GA,Q,eg,_,Zx,ZH⟩:=afh 0 r1;injection eg with ar _ _;subst ar;refine GN rfl rfl rfl (dm 0 [.string s.name,.slice A0 n0 c0,.slice A1 n1 c1,.slice A2 n2 c2,.slice A3 n3 c3,.slice PA pn pc,.slice PB V qc,.slice (γ (aM gr 0)) n0 Yq] Y) underlying215 rfl ah ⟨_,Yq,rfl,?_,fK (g:=q2) YI.o 0 [.string s.name,.slice A0 n0 c0,.slice A1 n1 c1,.slice A2 n2 c2,.slice A3 n3 c3,.slice PA pn pc,.slice PB V qc,.slice (γ (aM gr 0)) n0 Yq] (D.trans HX.o)⟩;rw[ao.o];exact⟨Zx,ZH⟩
theorem IG{A0 n0 c0 A1 n1 c1 A2 n2 c2 A3 n3 c3 L s PA C H PB V qc K p}(i w)(hs:j5 w A0 n0 c0 A1 n1 c1 A2 n2 c2 A3 n3 c3 L s)(hp:iN w PA C PB V K p)(hc:chk s=0)(B:jq s p=0)(hi:i<n3):
  CE 119 #[stV s.name A0 n0 c0 A1 n1 c1 A2 n2 c2 A3 n3 c3,lG PA C H PB V qc,(i:Int)] w (vZ (sides s p i)):=by
 have D:Hid (Ext w (aL (aL (aL w #[s.name,aO A0 n0 c0,aO A1 n1 c1,aO A2 n2 c2,aO A3 n3 c3] 27) #[aO PA C H,aO PB V qc] 31) #[aJ,aJ,aJ,aJ] 187)):=aW (((Ext.new _ _).trans (Ext.new _ _)).trans (Ext.new _ _));have I:=aW (hs.ext D.o);have M:=aW (hp.ext D.o);have HC:=aW hc;have N:=aW B;have O:=aW (uf hc);have G:=aW (EP B);have j:Hid (n0=s.buses.length):=aW (by have:=hs.buses.1;simpa using this.symm);have T:Hid (i<V):=aW (by have:=hp.ll;have:=G.o.2.1;have:=hs.l3;omega);have Y:=aW hi;clear hs hp hc B hi;obtain⟨-,P,U,-⟩:=ah3 w 27 #[s.name,aO A0 n0 c0,aO A1 n1 c1,aO A2 n2 c2,aO A3 n3 c3] 31 #[aO PA C H,aO PB V qc] 187 #[aJ,aJ,aJ,aJ];have l:Hid (Blk (aL (aL (aL w #[s.name,aO A0 n0 c0,aO A1 n1 c1,aO A2 n2 c2,aO A3 n3 c3] 27) #[aO PA C H,aO PB V qc] 31) #[aJ,aJ,aJ,aJ] 187) (w.heap.size+1+1) 187 #[aJ,aJ,aJ,aJ]):=aW (aeW _ _ ag);unfold stV lG;go_enter func119,ntmps119;go_wp2_with fail;refine(I9 _ I.o M.o HC.o N.o).mono ?_;rintro e w1 ⟨GA,Q,rfl,S,J⟩;have R:=aW (D.trans J);have F:Hid (Ext w1 (aL w1 #[s.name,aO A0 n0 c0,aO A1 n1 c1,aO A2 n2 c2,aO A3 n3 c3,aO PA C H,aO PB V qc,aO GA n0 Q] 215)):=aW (Ext.new _ _);have Z:=aW (S.ext F.o);clear S;replace I:=I.aA (J.trans F.o);replace M:=M.aA (J.trans F.o);replace l:=l.aA (J.trans F.o);clear J P U;unfold qJ;go_wp2_with fail;refine(Lb s.name i _ I.o M.o O.o G.o.2.2 Z.o j.o Y.o T.o).mono ?_;rintro e w2 ⟨rfl,J⟩;replace l:=l.aA J;have W:=aW ((R.trans F.o).trans J);clear J;have kr:=l.cell;have fr:=l.frozen;have lr:=l.lt;unfold vZ;go_wp2_with fail;exact mG rfl rfl rfl (dm 0 [.int .i64 (sides s p i).1.1,.int .i64 (sides s p i).1.2,.int .i64 (sides s p i).2.1,.int .i64 (sides s p i).2.2] l.o) aa9 rfl ah ⟨rfl,fK (g:=w.heap.size+1+1) (show w.heap.size<=w.heap.size+1+1 by omega) 0 [.int .i64 (sides s p i).1.1,.int .i64 (sides s p i).1.2,.int .i64 (sides s p i).2.1,.int .i64 (sides s p i).2.2] W.o⟩
theorem Gr{A0 n0 c0 A1 n1 c1 A2 n2 c2 A3 n3 c3 L s PA B F PB V qc K p}(w)(hs:j5 w A0 n0 c0 A1 n1 c1 A2 n2 c2 A3 n3 c3 L s)(hp:iN w PA B PB V K p)(hc:chk s=0)(j:jq s p=0):
  Calls prog 121 #[stV s.name A0 n0 c0 A1 n1 c1 A2 n2 c2 A3 n3 c3,lG PA B F PB V qc] w fun e w'=>∃l Q,e=.returned (.slice l n0 Q)/\vS w' l n0 (groups s p)/\Ext w w':=by
 have D:Hid (Ext w (aL (aL w #[s.name,aO A0 n0 c0,aO A1 n1 c1,aO A2 n2 c2,aO A3 n3 c3] 27) #[aO PA B F,aO PB V qc] 31)):=aW ((Ext.new _ _).trans (Ext.new _ _));have O:=aW (hs.ext D.o);have P:=aW (hp.ext D.o);have N:=aW hc;have C:=aW j;clear hs hp hc j;unfold stV lG;go_enter func121,ntmps121;go_wp2_with fail;refine(I9 _ O.o P.o N.o C.o).mono ?_;rintro e w1 ⟨l,Q,rfl,H,J⟩;have G:=aW (D.trans J);have I:Hid (Ext w1 (aL w1 #[s.name,aO A0 n0 c0,aO A1 n1 c1,aO A2 n2 c2,aO A3 n3 c3,aO PA B F,aO PB V qc,aO l n0 Q] 215)):=aW (Ext.new _ _);have M:=aW (H.ext I.o);clear H;clear J;unfold qJ;go_wp2_with fail;go_ret;exact⟨l,Q,rfl,M.o,G.trans I.o⟩
def tQ:List Value:=[.string ByteArray.empty,.int .i64 0,.int .i64 0,.int .i64 0,.int .i64 0,.int .i64 0,.slice δ 0 0,.bool ζ,.int .i64 0,.int .i64 0,.int .i64 0,.int .i64 0]
def Cm:(prog.info? 57).map (·.zero)=γ (γ (.agg tQ.toArray)):=ah
def rX:(prog.info? 57).map (·.size)=γ (12:Nat):=ah
theorem Fy(b h):∀v∈j6 b h,v.oneCell'=ε:=by
 intro v hv;unfold j6 at hv;simp only[lh,I6,aaM] at hv;rcases hv with rfl|rfl|rfl|rfl|rfl|rfl|rfl|rfl|rfl|rfl|rfl|rfl<;>rfl
def Tn{w g b h}(hb:Blk w g 57 tQ.toArray):Blk (puts w g 0 (j6 b h)) g 57 (j6 b h).toArray:=by
 have j:Blk (puts w g 0 (j6 b h)) g 57 (gI tQ.toArray 0 (j6 b h)):=dm 0 (j6 b h) hb;rw[iA tQ (j6 b h) rfl] at j;exact j
def Fs{w wd j b h}(hd:wd=w.alloc (.cells tQ.toArray 57))(O:j=puts wd w.heap.size 0 (j6 b h)):Blk j w.heap.size 57 (j6 b h).toArray/\Ext w j:=by
 have l:Blk wd w.heap.size 57 tQ.toArray:=by rw[hd];exact Blk.new _ _ _
 have H:Ext w wd:=by rw[hd];exact Ext.new _ _
 exact⟨by rw[O];exact Tn l,by rw[O];exact fK (κ _:Own w w.heap.size) 0 _ H⟩
theorem OD(gx gf i C E){A0 n0 c0 A1 n1 c1 A2 n2 c2 A3 n3 c3 LH s p f}(w)(hc:dh w gf)(hg:fP w gx 105 393 (fO C E))(hv:oU w gx C E s p f)(hs:j5 w A0 n0 c0 A1 n1 c1 A2 n2 c2 A3 n3 c3 LH s)(YC:jG s)(hi:i<n3):
  Calls prog 46 #[aN gx 0,aN gf 0,stV s.name A0 n0 c0 A1 n1 c1 A2 n2 c2 A3 n3 c3,(i:Int)] w fun r w'=>∃a:Nat->En,r=.returned (.agg (bD 3 a).toArray)/\ni w' 3 a (nN s p f i) 4600/\Ext w w':=by
 have HC:=aW hc;have HG:=aW hg;have Q:=aW hv;have Yw:=aW hs;have YH:=aW YC;have ZJ:=aW hi;have Yz:=hs.l3;have YM:i<s.bays.length:=aa;obtain⟨b,YY⟩:∃b,s.bays.getD i η=b:=⟨_,rfl⟩;have ad:=YC.obj i YM;have YX:=YC.rng i YM;have Zo:=YC.kind YM;rw[YY] at ad YX Zo;have YT:=aW YY;have YP:=aW YM;have ap:=aW ad;have am:=aW YX;have ZF:=aW Zo;obtain⟨gb,ob,ay,Zm,Zl⟩:=hs.bays.at_ hi;rw[YY] at Zl;subst ay;have aw:=aW Zl;have YL:=aW Zm;clear hc hg hv hs YC hi YY ad YX Zo YM Zl Zm Yz;unfold stV;go_enter func46,ntmps46;(go_wp2_with (refine bJ rfl 102 rfl _ uS (fun w_ G=>Hid.o ?_)));refine Qz ?_;replace G:=Hid.o G;have HX:Hid (Ext w w_):=aW (by rw[G];exact(Ext.new _ _).alloc _);have S:Hid (Blk w_ w.heap.size 27 #[s.name,aO A0 n0 c0,aO A1 n1 c1,aO A2 n2 c2,aO (γ (aM gb ob)) n3 c3]):=aW (by rw[G];exact(Blk.new _ _ _).alloc _);have YA:Hid (Blk w_ (w.heap.size+1) 102 (bD 3 fun _=>zEn).toArray):=aW (by rw[G];exact aeW _ _ (fZ _ _));clear G;(try simp only[fZ]);generalize Zi:w.heap.size+1=g8 at YA⊢;have YW:Hid (w.heap.size<=g8):=aW aa;clear Zi;generalize w.heap.size=g6 at S⊢;go_wp2_with fail;refine(dO gf 0 _ (dh.ext HC.o HX.o) aa aa).mono ?_;rintro _ wa ⟨_,rfl,M,F⟩;obtain⟨P,rfl⟩:=M.en;replace HX:=HX.aC F;replace S:=S.aA F;replace YA:=YA.aA F;have H:=aW M;clear M F;go_wp2_with fail;refine(dO gf 0 _ (dh.ext HC.o HX.o) aa aa).mono ?_;rintro _ wb ⟨_,rfl,M,F⟩;obtain⟨fb,rfl⟩:=M.en;replace HX:=HX.aC F;replace S:=S.aA F;replace YA:=YA.aA F;replace H:=H.aA F;have YK:=aW M;clear M F;go_wp2_with fail;refine(dO gf 0 _ (dh.ext HC.o HX.o) aa aa).mono ?_;rintro _ wc ⟨_,rfl,M,F⟩;obtain⟨fc,rfl⟩:=M.en;replace HX:=HX.aC F;replace S:=S.aA F;replace YA:=YA.aA F;replace H:=H.aA F;replace YK:=YK.aA F;have YR:=aW M;clear M F;(iterate 2 (try (first|go_values|go_skip|go_guarded|go_step|go_upon|go_in|go_back|go_simp)));simp only[En.v,gv];(go_wp2_with (refine bJ rfl 102 rfl _ uS (fun W G=>Hid.o ?_)));refine Qz ?_;replace G:=Hid.o G;have F:Ext wc W:=by rw[G];exact Ext.new _ _
 have YS:Blk W wc.heap.size 102 (bD 3 fun _=>zEn).toArray:=by rw[G];exact Blk.new _ _ _
 have N:Hid (W.there wc.heap.size 0 18):=aW (YS.there AbV);have YU:=YA.lt;clear G;generalize Zn:wc.heap.size=g9 at YS N YU⊢;(go_wp2_with (refine bf rfl 102 (.tmp 9) (.tmp 17) rfl g9 (0) (P.cells++(fb.cells++fc.cells)) rf rf N.o pJ (sU _ _ _) (fun T G=>Hid.o ?_)));refine Qz ?_;replace G:=Hid.o G;have YQ:T=puts W g9 0 (bD 3 (pk3 P fb fc)):=by rw[xq];exact G
 have HO:=jw (w:=wc) F aa YS YQ;have L:ni T 3 (pk3 P fb fc) (fun _=>GQ.i 0 0) 4600:=fun k hk=>by
  have h3:k=0\/k=1\/k=2:=aa;rcases h3 with rfl|rfl|rfl
  .exact(HO.2.2 _ _ _ (H.ext F)).up aa
  .exact(HO.2.2 _ _ _ (YK.ext F)).up aa
  .exact(HO.2.2 _ _ _ (YR.ext F)).up aa
 have K:=aW L;have D:=aW HO.1;replace HX:=HX.aC HO.2.1;replace S:=S.aA HO.2.1;replace YA:=YA.aA HO.2.1;have Zy:Hid (g8<g9):=aW YU;clear H YK YR F YS N YU Zn YQ HO G L;obtain⟨fz,Yu⟩:∃f,pk3 P fb fc=f:=⟨_,rfl⟩;rw[Yu] at K D;clear Yu;have k6:=S.cell;have q1:(0:Int)<=i:=aa;have q2:(i:Int)<n3:=by have:=ZJ.o;omega
 have Yr:=aW (show T.rangeAt gb (ob+i*12) (j6 b (LH i)) from fun j v hv=>HX.cell_ (aw.o j v hv));(go_wp2_with (refine υ rfl 57 _ rfl gb (ob+i*12) rf (j6 b (LH i)) _ Yr.o ab9 rfl rX (Hid.o ?_)));refine Qz ?_;(go_wp2_with (refine bJ rfl 57 rfl _ Cm (fun aP G=>Hid.o ?_)));refine Qz ?_;replace G:=Hid.o G;have ZN:=aW G;clear G;refine bf rfl 57 (.tmp 10) (.tmp 22) rfl T.heap.size 0 (j6 b (LH i)) rf rf (by rw[ZN.o];exact(Blk.new T 57 tQ.toArray).there (show 0+(j6 b (LH i)).length<=tQ.toArray.size from κ 12)) rX (Fy _ _) (fun Zz G=> ?_);refine Qp ?_;replace G:=Hid.o G;have HO:=Fs ZN.o G;have B:=aW HO.1;replace HX:=HX.aC HO.2;replace S:=S.aA HO.2;replace YA:=YA.aA HO.2;replace D:=D.aA HO.2;replace K:=K.aA HO.2;clear HO ZN G Yr k6;generalize T.heap.size=g10 at B⊢;have kk:Zz.cell? (aM g10 1)=γ (.int .i64 b.kind):=(B.cell 1).trans rfl;have ko:Zz.cell? (aM g10 2)=γ (.int .i64 b.obj):=(B.cell 2).trans rfl;have ke:Zz.cell? (aM g10 3)=γ (.int .i64 b.en):=(B.cell 3).trans rfl;by_cases h1:b.kind=1
 .have Zr:(b.kind==1)=ε:=by rw[h1];rfl
  have H1:=aW h1;clear h1;have ho:=RO ap.o H1.o;have O:=QM am.o;have h6:=YH.nl;obtain⟨l,Z⟩:∃l:Nat,b.obj=(l:Int):=⟨b.obj.toNat,aa⟩;obtain⟨e,YO⟩:∃e:Nat,b.en=(e:Int):=⟨b.en.toNat,aa⟩;rw[Z] at ko;rw[YO] at ke;have ar:l<6:=aa;have aE:e<2:=aa;have YD:=aW (And.intro Z YO);clear Z YO ho O h6;have Zh:=(AA (p:=p) YH.o (l:=l) (e:=e) ar aa _ (κ _)).1;obtain⟨nd,Yq⟩:∃n,jy s p l e=n:=⟨_,rfl⟩;have Zj:nd<=17:=by unfold jy at Yq;omega
  have Zp:=aW Yq;clear Yq Zh;have aB:=aX.cell ((HG.ext HX.o).cell_ (k:=1+l*2+e) (v:=.int .i64 (nd:Int)) aa ((dR aa).trans (by rw[show 1+l*2+e=1+2*l+e by omega,Q.o.ends l e ar aE,Zp.o])));have av:=aX.cell ko;have az:=aX.cell ke;have p1:(0:Int)<=l:=aa;have p2:(l:Int)<6:=aa;have p3:(0:Int)<=e:=aa;have p4:(e:Int)<2:=aa;go_wp2_with fail;refine tN 12 [(6,.eq (.pointer (γ (aM gx 0)))),(11,.eq (.agg (bD 3 fun k=>E (k*18+nd)).toArray))] ?_;refine Qs ?_;refine En_ ?_;intro aG aI;refine Qs ?_;refine eF rf rf rf ?_ ?_
  .intro R I;have hW:=I.1;clear I;go_simp;exact⟨rfl,(Xh gx nd C E _ ((HG.ext HX.o).ext hW) Zj).mono fun e w' ⟨O,J⟩=>⟨_,O,J,rfl⟩⟩
  intro v_ ZE ZC YG;obtain⟨R,Yy⟩:=YG;obtain rfl:v_=_:=Yy.get;clear Yy R;refine Qp ?_;refine bP ?_;intro wE I;have F:=I.ext;have Yx:=aW F;clear I F;have N:=aW (gm (f:=fun k=>E (k*18+nd)) (YA.ext Yx.o));refine bf rfl 102 (.tmp 8) (.tmp 38) rfl g8 (0) (bD 3 fun k=>E (k*18+nd)) rf rf N.o (jV _) (dX 3 _) (fun we G=> ?_);refine Qp ?_;replace G:=Hid.o G;have Y:=aW (jw (HX.trans Yx.o) YW.o (YA.ext Yx.o) G);clear G aB av az kk ko ke;go_wp2_with fail;exact jM rfl rfl rf Y.o.1 xx rfl (pG _) ⟨_,rfl,fun k hk=>Y.o.2.2 _ _ _ (by
   have h:=Q.v k nd hk aa;have e1:nN s p f i k=kH (dD s p f) (eZ s p f) f k nd:=by
    unfold nN;simp only[YT.o,ι H1.o];rw[YD.o.1,YD.o.2,Ex,Ex,Zp.o]
   rw[e1];exact((h.ext HX.o).ext Yx.o).up aa),Y.o.2.1⟩
 .have Zr:(b.kind==1)=ζ:=by simpa using h1
  have H1:=aW h1;clear h1;obtain⟨BA,bc,wv,Zg,Ze,Zc⟩:=Q.bays;have Zk:=Zc i YP.o;have V:way s p f i=gG s p i:=by unfold way;rw[YT.o,θ H1.o]
  rw[V] at Zk;obtain⟨gq,oq,rfl,YJ,Zw⟩:=Ze.at_ YP.o;have kq:Zz.cell? (aM gq (oq+i))=γ (wv i):=HX.cell_ (by have:=Zw 0 _ rfl;simpa using this);have ZH:=(HG.ext HX.o).cell_ (k:=13) aa ((dR aa).trans Zg);have q3:(i:Int)<s.bays.length:=by have:=YP.o;omega
  have Zx:=aW Zk;clear Zk V Ze Zc Zg YJ Zw;by_cases h2:b.kind=2
  .have YI:(b.kind==2)=ε:=by rw[h2];rfl
   have H2:=aW h2;clear h2;cases YZ:gG s p i with
   |none=>
    have Yv:wv i=.pointer δ:=by have:=Zx.o;rw[YZ] at this;exact this
    rw[Yv] at kq;have ai:=aW YZ;clear YZ Yv;have ho:=Ob ap.o H2.o;obtain⟨l,Z⟩:∃l:Nat,b.obj=(l:Int):=⟨b.obj.toNat,aa⟩;rw[Z] at ko;have Zt:l<n2:=by have:=Yw.l2;omega
    obtain⟨gs,os,ZX,ax,ao⟩:=Yw.srcs.at_ Zt;subst ZX;obtain⟨em,ac⟩:∃m,(s.srcs.getD l η).emf=m:=⟨_,rfl⟩;have ks:Zz.cell? (aM gs (os+l*6+1))=γ (.int .i64 em):=HX.cell_ (by have:=ao 1 _ rfl;rw[<-ac];exact this);have ZG:=YH.src l (by have:=Yw.l2;omega);unfold jr at ZG;simp only[ρ] at ZG;have YF:=fw.1 ZG.1.1;rw[ac] at YF;have ZB:Zz.cell? (aM g6 3)=γ (aO (γ (aM gs os)) n2 c2):=(S.cell 3).trans rfl;have p1:(0:Int)<=l:=aa;have p2:(l:Int)<n2:=aa;have aq:=aW (And.intro Z ac);have U:=aW YF;clear Z ac ho ax ao ZG YF;go_wp2_with fail;clear ks ZB kk ko ke kq ZH;refine(dO gf em _ (dh.ext HC.o HX.o) (by have:=U.o;omega) (by have:=U.o;omega)).mono ?_;rintro _ w5 ⟨_,rfl,M,F⟩;obtain⟨en,rfl⟩:=M.en;have HS:=aW (AtS.mk (n:=3) (YA.ext F) (D.ext F) (HX.trans F) YW.o Zy.o);have Zq:=aW M;replace K:=K.aA F;clear M F YA D HX;have N:Hid (w5.there g9 6 6):=aW (HS.there (i:=1) aa);(go_wp2_with (refine bf rfl 42 (.tmp 78) (.tmp 77) rfl g9 (6) (en.cells) rf rf N.o cu (eO en) (fun w6 G=>Hid.o ?_)));refine Qz ?_;replace G:=Hid.o G;obtain⟨YN,af⟩:=HS.put (i:=1) (a:=6) aa en aa G;have L:ni w6 3 (upd fz 1 en) (nN s p f i) 4600:=fun k hk=>by
     have e1:nN s p f i k=if k=1 then GQ.i em 0 else GQ.i 0 0:=(by unfold nN;simp only[YT.o,θ H1.o,ι H2.o,ai.o];rw[aq.o.1,Ex,aq.o.2]);rw[e1];by_cases Zr:k=1
     .subst Zr;rw[upd_same,ι rfl];exact(Zq.mod af HS.far).up aa
     .rw[upd_ne Zr,θ Zr];exact(K.o k hk).mod af HS.far
    have ZA:=aW L;have YA:=aW YN.b4;have D:=aW YN.b5;have HX:=aW YN.x;clear L YN af HS N G K Zq;have Yr:=aW D.rng;have N:=aW (gm (f:=(upd fz 1 en)) YA.o);(go_wp2_with (refine υ rfl 102 _ rfl g9 (0) rf (bD 3 (upd fz 1 en)) _ Yr.o xx rfl (jV _) (Hid.o ?_)));refine Qz ?_;refine bf rfl 102 (.tmp 8) (.tmp 79) rfl g8 (0) (bD 3 (upd fz 1 en)) rf rf N.o (jV _) (dX 3 _) (fun we G=> ?_);refine Qp ?_;replace G:=Hid.o G;have Y:=aW (jw HX.o YW.o YA.o G);clear G;go_wp2_with fail;exact jM rfl rfl rf Y.o.1 xx rfl (pG _) ⟨_,rfl,fun k hk=>Y.o.2.2 _ _ _ (ZA.o k hk),Y.o.2.1⟩
   |some br=>
    have Yv:=Zx.o;rw[YZ] at Yv;obtain⟨gw,ow,bv,YV,Yt,Yp,YE,Zf,YB,-⟩:=Yv;rw[YV] at kq;have Za:=Dn YH.o YP.o YZ;have Zv:=Za.1.a;have kf:Zz.cell? (aM gw ow)=γ (.int .i64 (br.a:Int)):=HX.cell_ (by have:=YE 0 _ rfl;rw[Zf] at this;exact this);have ai:=aW YZ;have Zd:=aW Zv;clear YZ YV Yt Yp YE Zf YB Za;go_wp2_with fail;clear kk ko ke kq ZH kf;refine(Xh gx br.a C E _ (HG.ext HX.o) (by have:=Zd.o;omega)).mono ?_;rintro _ w5 ⟨rfl,F⟩;replace HX:=HX.aC F;replace YA:=YA.aA F;clear F;have N:=aW (gm (f:=fun k=>E (k*18+br.a)) YA.o);(go_wp2_with (refine bf rfl 102 (.tmp 8) (.tmp 64) rfl g8 (0) (bD 3 fun k=>E (k*18+br.a)) rf rf N.o (jV _) (dX 3 _) (fun we G=>Hid.o ?_)));refine Qz ?_;replace G:=Hid.o G;have Y:=aW (jw HX.o YW.o YA.o G);clear G;go_wp2_with fail;exact jM rfl rfl rf Y.o.1 xx rfl (pG _) ⟨_,rfl,fun k hk=>Y.o.2.2 _ _ _ (by
     have h:=Q.v k br.a hk (by have:=Zd.o;omega);have e1:nN s p f i k=kH (dD s p f) (eZ s p f) f k br.a:=by
      unfold nN;simp only[YT.o,θ H1.o,ι H2.o,ai.o]
     rw[e1];exact(h.ext HX.o).up aa),Y.o.2.1⟩
  .have YI:(b.kind==2)=ζ:=by simpa using h2
   have H2:=aW h2;clear h2;have Yr:=aW D.rng;have N:=aW (gm (f:=fz) YA.o);(go_wp2_with (refine υ rfl 102 _ rfl g9 (0) rf (bD 3 fz) _ Yr.o xx rfl (jV _) (Hid.o ?_)));refine Qz ?_;refine bf rfl 102 (.tmp 8) (.tmp 79) rfl g8 (0) (bD 3 fz) rf rf N.o (jV _) (dX 3 _) (fun we G=> ?_);refine Qp ?_;replace G:=Hid.o G;have Y:=aW (jw HX.o YW.o YA.o G);clear G;go_wp2_with fail;exact jM rfl rfl rf Y.o.1 xx rfl (pG _) ⟨_,rfl,fun k hk=>Y.o.2.2 _ _ _ (by have h:=K.o k hk;have e1:nN s p f i k=GQ.i 0 0:=(by unfold nN;simp only[YT.o,θ H1.o,θ H2.o]);rw[e1];exact h),Y.o.2.1⟩
def kY:BrV:=⟨0,0,zEn,zEn,zEn⟩
def brc (n:Nat) (B:Nat->BrV):List Value:=(List.range n).flatMap fun j=>(B j).cs
theorem nW(n B):brc (n+1) B=brc n B++(B n).cs:=by
 unfold brc;exact Abt
def iO(b:BrV):b.cs.length=20:=rfl
def jK:∀(n:Nat) (B:Nat->BrV),(brc n B).length=n*20
 |0,_=>rfl
 |n+1,B=>by rw[nW,nH,jK n B,iO];omega
def yH:∀{n:Nat} {B D:Nat->BrV},(∀i,i<n->B i=D i)->brc n B=brc n D
 |0,_,_,_=>rfl
 |n+1,B,D,h=>by rw[nW,nW,yH (fun i hi=>h i aa),h n aa]
def vW{B j t}(l:t<20):∀{n:Nat},j<n->(brc n B)[j*20+t]? =(B j).cs[t]?
 |0,h=>absurd h aa
 |n+1,h=>by
  rw[nW];by_cases e:j=n
  .subst e;rw[kC (by rw[jK];omega),jK,show j*20+t-j*20=t by omega]
  .rw[Λ (by rw[jK];omega)];exact vW l aa
def Ai(a B):∀b,brc a B++brc b (fun _=>kY)=brc (a+b) (fun i=>if i<a then B i else kY)
 |0=>by
  show brc a B++[]=_;rw[Z6];exact yH fun i hi=>by rw[ι hi]
 |b+1=>by
  rw[nW,<-HV,Ai a B b,show a+(b+1)=(a+b)+1 by omega,nW,θ aa]
def NL{B k n}(r)(F:k<n):(brc n B).take (k*20)++r.cs++(brc n B).drop (k*20+20)=brc n (upd B k r):=by
 apply aam;intro p;have l1:((brc n B).take (k*20)).length=k*20:=by rw[Be,jK];omega
 by_cases hp:p<n*20
 .obtain⟨j,t,rfl,l⟩:∃j t,p=j*20+t/\t<20:=⟨p/20,p%20,aa,aa⟩;have C:j<n:=aa;rw[vW l C];by_cases G:j<k
  .rw[HV,Λ (by rw[l1];omega),NK aa,vW l C,upd_ne aa]
  .by_cases D:j=k
   .subst D;rw[HV,kC (by rw[l1];omega),l1,show j*20+t-j*20=t by omega,Λ (by rw[iO];exact l),upd_same]
   .rw[kC (by rw[nH,l1,iO];omega),nH,l1,iO,Zb,show k*20+20+(j*20+t-(k*20+20))=j*20+t by omega,vW l C,upd_ne D]
 .rw[qa (by simp only[nH,l1,iO,abK,jK];omega),qa (by rw[jK];omega)]
theorem PP(b:BrV):∀(t:Nat) (v:Value),b.cs[t]? =γ v->nY v=ε:=by
 intro t v hv;have l:t<20:=by have:=(μ.1 hv).1;rwa[iO] at this
 have R:∀u∈b.cs,nY u=ε:=by
  intro u j;unfold BrV.cs at j;simp only[lh,I6,aaM] at j;rcases j with rfl|rfl|rfl|rfl|rfl|rfl|rfl|rfl|rfl|rfl|rfl|rfl|rfl|rfl|rfl|rfl|rfl|rfl|rfl|rfl<;>rfl
 exact R v (wo hv)
def G9{n:Nat}{B}(p:Nat)(v)(h:(brc n B)[p]? =γ v):nY v=ε:=by
 have hp:p<n*20:=by have:=(μ.1 h).1;rwa[jK] at this
 obtain⟨j,t,rfl,l⟩:∃j t,p=j*20+t/\t<20:=⟨p/20,p%20,aa,aa⟩;rw[vW l aa] at h;exact PP _ t v h
def Uq:(prog.info? 167).map (fun i=>(i.zero,i.size,i.bytes))=γ (γ (.agg kY.cs.toArray),20,304):=ah
def oJ (n:Nat) (l:List Value):List Value:=(List.range n).flatMap fun _=>l
theorem qM(n l):oJ (n+1) l=oJ n l++l:=by
 unfold oJ;exact Abt
def qp(l):∀n,(oJ n l).length=n*l.length
 |0=>by simp[oJ]
 |n+1=>by rw[qM,nH,qp l n,Nat.succ_mul]
def DY{l j t}(C:t<l.length):∀{n:Nat},j<n->(oJ n l)[j*l.length+t]? =l[t]?
 |0,h=>absurd h aa
 |n+1,h=>by
  rw[qM];by_cases e:j=n
  .subst e;rw[kC (by rw[qp];omega),qp,show j*l.length+t-j*l.length=t by omega]
  .have B:j<n:=aa;have D:j*l.length+l.length<=n*l.length:=by rw[<-Nat.succ_mul];exact pq _ B
   rw[Λ (by rw[qp];omega)];exact DY C B
theorem qU(l)(D:0<l.length)(n):madeCells l.toArray (n*l.length)=(oJ n l).toArray:=by
 unfold madeCells;apply Array.ext';apply aam;intro p;by_cases hp:p<n*l.length
 .have B:p%l.length<l.length:=pz _ D;have hd:p/l.length<n:=(aaQ D).2 hp;have e:p=p/l.length*l.length+p%l.length:=(Nat.div_add_mod' p l.length).symm;have C:=DY (l:=l) (j:=p/l.length) (t:=p%l.length) B hd;rw[<-e] at C;rw[C];simp[z8,hp,aaA,B]
 .rw[qa ae,qa (by simp[qp];omega)]
def Ll(n):oJ n kY.cs=brc n fun _=>kY:=rfl
def H9(n):Builtin.zeroCells (Value.agg kY.cs.toArray).cells n=(brc n fun _=>kY).toArray:=by
 rw[<-Ll,<-qU _ aj];rfl
def oF (w:World) (B0:Nat) (v:Value) (k:Nat) (B:Nat->BrV):Prop:=
 (v=.slice δ 0 0/\k=0)\/∃(g G:Nat) (B':Nat->BrV),v=.slice (γ (aM g 0)) k G/\B0<=g/\k<=G/\Blk w g 167 (brc G B').toArray/\∀i,i<k->B' i=B i
def oF.ext{w w' B0 v k B}(h:oF w B0 v k B)(e:Ext w w'):oF w' B0 v k B:=by
 rcases h with h|⟨g,G,B',C,j,F,l,D⟩
 .exact .inl h
 .exact .inr ⟨g,G,B',C,j,F,l.ext e,D⟩
def oF.mod{S w w' B0 v k B}(h:oF w B0 v k B)(m:Mod S w w')(hs:∀g,v.ownBlock=γ g->¬S g):oF w' B0 v k B:=by
 rcases h with h|⟨g,G,B',j,l,F,C,D⟩
 .exact .inl h
 .exact .inr ⟨g,G,B',j,l,F,C.mod m (hs g (by rw[j];rfl)),D⟩
def oF.far{w B0 v k B}(h:oF w B0 v k B):iq (fun g=>v.ownBlock=γ g) w:=fun g l _=>by
 rcases h with ⟨rfl,_⟩|⟨g',G,B',rfl,D,H,C,F⟩
 .cases l
 .have:g'=g:=by simpa[Value.ownBlock] using l
  subst this;exact⟨_,_,C,fun j v hv=>G9 j v (by rwa[Γ] at hv)⟩
def oF.low{w B0 v k B}(h:oF w B0 v k B){g}(j:v.ownBlock=γ g):B0<=g/\g<w.heap.size:=by
 rcases h with ⟨rfl,_⟩|⟨g',G,B',rfl,l,F,C,D⟩
 .cases j
 .have:g'=g:=by simpa[Value.ownBlock] using j
  subst this;exact⟨l,C.lt⟩
def oF.arr{w B0 v k B}(h:oF w B0 v k B):∃A c,v=.slice A k c/\Arr w A k 20 (fun i=>(B i).cs)/\∀b o,A=γ ⟨b,o,δ⟩->B0<=b:=by
 rcases h with ⟨rfl,rfl⟩|⟨g,G,B',rfl,F,I,j,D⟩
 .exact⟨δ,0,rfl,fun h=>absurd h aa,fun b o e=>by cases e⟩
 .refine⟨γ ⟨g,0,δ⟩,G,rfl,fun H=>⟨g,0,rfl,j.lt,fun i hi t u l=> ?_⟩,fun b o e=>by injection e with e;injection e with J;omega⟩;have C:t<20:=by have:=(μ.1 l).1;rwa[iO] at this
  rw[j.cell,Γ,aan,vW C aa,D i hi];exact l
def Kb{w B0 k v B}(h:oF w B0 v k B)(hk:k<=1000)(Y:B0<=w.heap.size){r R}(hb:Blk w R 167 r.cs.toArray)(c F):
  ∃L w',(Builtin.append_ #[96,96] F #[v,aO (γ (aM R 0)) 1 c]).run prog w=.ok L w'/\oF w' B0 L (k+1) (upd B k r)/\Mod (fun g=>v.ownBlock=γ g) w w'/\(∀g,L.ownBlock=γ g->v.ownBlock=γ g\/g=w.heap.size):=by
 obtain⟨i0,M,S,J,O⟩:=abL Uq;have hn:∀j u,r.cs[j]? =γ u->w.cell? ((⟨R,0,δ⟩:Addr).add j)=γ u:=fun j u U=>by
  have:=acz hb j u;simpa using this (by simpa using U)
 have Z:∀u∈r.cs,u.oneCell'=ε:=yJ r;have C:brc 1 (fun _=>r)=r.cs:=by rw[nW];rfl
 rcases h with ⟨rfl,rfl⟩|⟨g,G,B',rfl,T,H,Q,W⟩
 .have K:=run_append_nil (P:=prog) w 96 F 167 i0 (.agg kY.cs.toArray) ac0 M S ⟨R,0,δ⟩ 1 c r.cs (by rw[J];rfl) hn aa aa Abf;have l:=grownCap_ge w 1 0 167;have ec:(r.cs.toArray++Builtin.zeroCells (Value.agg kY.cs.toArray).cells (grownCap w 1 0 167-1))=(brc (grownCap w 1 0 167) (fun i=>if i<1 then r else kY)).toArray:=by
   rw[H9];have:=Ai 1 (fun _=>r) (grownCap w 1 0 167-1);rw[show 1+(grownCap w 1 0 167-1)=grownCap w 1 0 167 by omega] at this;rw[<-this,C];simp
  rw[ec] at K;refine⟨_,_,K,.inr ⟨w.heap.size,_,(fun i=>if i<1 then r else kY),rfl,Y,l,?_,fun i hi=> ?_⟩,ae1 ((Ext.refl w).drew.alloc _),fun g T=>Or.inr (by simpa[Value.ownBlock] using T.symm)⟩
  .have:=Blk.new w.drew 167 (brc (grownCap w 1 0 167) (fun i=>if i<1 then r else kY)).toArray;exact this
  .obtain rfl:i=0:=aa;show r=upd B 0 r 0;rw[upd_same]
 .have V:(brc G B').toArray.size=G*20:=by simp[jK]
  by_cases I:k+1<=G
  .have K:=run_append_room (P:=prog) w 96 F 167 i0 ac0 M g k G _ Q ⟨R,0,δ⟩ 1 c r.cs (by rw[J];rfl) hn Z I (by rw[J,V,iO];omega);have ec:((brc G B').toArray.toList.take (k*i0.size)++r.cs++(brc G B').toArray.toList.drop (k*i0.size+r.cs.length)).toArray=(brc G (upd B' k r)).toArray:=by
    rw[J,iO];exact congrArg List.toArray (NL r aa)
   rw[ec] at K;refine⟨_,_,K,.inr ⟨g,G,(upd B' k r),rfl,T,I,KG Q,fun i hi=> ?_⟩,(af9 w g _).mono fun j hj=>by subst hj;rfl,fun g' N=>Or.inl N⟩;by_cases e:i=k
   .subst e;rw[upd_same,upd_same]
   .rw[upd_ne e,upd_ne e];exact W i aa
  .obtain rfl:G=k:=aa;have ho:∀j u,(brc G B')[j]? =γ u->w.cell? ((⟨g,0,δ⟩:Addr).add j)=γ u:=fun j u U=>acz Q j u (by simpa using U);have K:=run_append_grow (P:=prog) w 96 F 167 i0 (.agg kY.cs.toArray) ac0 M S ⟨g,0,δ⟩ G G (brc G B') (by rw[J,jK]) ho ⟨R,0,δ⟩ 1 c r.cs (by rw[J];rfl) hn aa aa (by
    have:=nextslicecap_le (need:=G+1) (old:=G) aa;rw[O];omega)
   have l:=grownCap_ge w (G+1) G 167;have ec:((brc G B').toArray++r.cs.toArray++Builtin.zeroCells (Value.agg kY.cs.toArray).cells (grownCap w (G+1) G 167-(G+1)))=(brc (grownCap w (G+1) G 167) (fun i=>if i<G+1 then upd B' G r i else kY)).toArray:=by
    rw[H9];have:=Ai (G+1) (upd B' G r) (grownCap w (G+1) G 167-(G+1));rw[show G+1+(grownCap w (G+1) G 167-(G+1))=grownCap w (G+1) G 167 by omega] at this;rw[<-this,nW,upd_same,yH (B:=upd B' G r) (D:=B') (fun i hi=>upd_ne aa)];simp
   rw[ec] at K;refine⟨_,_,K,.inr ⟨w.heap.size,_,(fun i=>if i<G+1 then upd B' G r i else kY),rfl,Y,l,?_,fun i hi=> ?_⟩,ae1 ((Ext.refl w).drew.alloc _),fun g' N=>Or.inr (by simpa[Value.ownBlock] using N.symm)⟩
   .have:=Blk.new w.drew 167 (brc (grownCap w (G+1) G 167) (fun i=>if i<G+1 then upd B' G r i else kY)).toArray;exact this
   .show(if i<G+1 then upd B' G r i else kY)=upd B G r i;rw[ι hi];by_cases e:i=G
    .subst e;rw[upd_same,upd_same]
    .rw[upd_ne e,upd_ne e];exact W i aa
def BrD.emk (k:Int) (b:BrD):BrD:={b with emf:=k*b.emf}
def qG.emk (k:Int) (g:qG):qG:={g with emf:=k*g.emf}
def StD.emk (k:Int) (s:StD):StD:={s with srcs:=s.srcs.map (qG.emk k)}
section
variable {k:Int} {s:StD} {p:dH} {f:dY} {bs:List BrD} {fN:Nat}
def Io:∀n,jm (s.emk k) p n=jm s p n
 |0=>rfl
 |n+1=>by
  show nT (s.emk k) p n (jm (s.emk k) p n)=nT s p n (jm s p n);rw[Io n];rfl
def CJ:groups (s.emk k) p=groups s p:=Io _
theorem uV(b):tL (s.emk k) p b=tL s p b:=by unfold tL;rw[CJ]
theorem OG(i):oW (s.emk k) p i=oW s p i:=by
 unfold oW;rw[uV,uV];rfl
theorem yQ(i):sides (s.emk k) p i=sides s p i:=by
 unfold sides;rw[uV,uV,OG];rfl
theorem zB(i):jZ (s.emk k) p i=jZ s p i:=by unfold jZ;rw[yQ]
theorem zG(i):iG (s.emk k) p i=iG s p i:=by unfold iG;rw[yQ]
theorem Ij(l e):∀n,wL (s.emk k) p l e n=wL s p l e n
 |0=>rfl
 |n+1=>by
  show(if lW (s.emk k) p l e n=ε then iG (s.emk k) p n else wL (s.emk k) p l e n)=(if lW s p l e n=ε then iG s p n else wL s p l e n);have:lW (s.emk k) p l e n=lW s p l e n:=by unfold lW;rw[zB];rfl
  rw[this,zG,Ij l e n]
def zI(l e):jy (s.emk k) p l e=jy s p l e:=Ij l e _
def yj(i)(h:i<s.srcs.length):(s.emk k).srcs.getD i η=(s.srcs.getD i η).emk k:=by
 simp[StD.emk,σ,z8,ν h]
theorem yE(h:jG s){i}(hi:i<s.bays.length):gG (s.emk k) p i=(gG s p i).map (BrD.emk k):=by
 unfold gG;simp only[zB,zG,yQ,show(s.emk k).bays=s.bays from rfl];by_cases l:jZ s p i=ε
 .rw[ι l,ι l];by_cases j:(s.bays.getD i η).kind=2
  .rw[ι j,ι j];have:=Ob (h.obj i hi) j;rw[yj _ aa];rfl
  .rw[θ j,θ j];by_cases B:(s.bays.getD i η).kind=3/\(sides s p i).1≠(sides s p i).2
   .simp only[ι B];simp[BrD.emk]
   .simp only[θ B];rfl
 .rw[θ l,θ l];rfl
theorem CY(l e):half (s.emk k) p f l e=(half s p f l e).emk k:=by
 unfold half;simp only[zI,show(s.emk k).lines=s.lines from rfl];split<;>simp[BrD.emk]
def BU(h:jG s):∀n,n<=s.bays.length->fV (s.emk k) p n=(fV s p n).map (BrD.emk k)
 |0,_=>rfl
 |n+1,hn=>by
  show fV (s.emk k) p n++(gG (s.emk k) p n).toList=(fV s p n++(gG s p n).toList).map (BrD.emk k);rw[BU h n aa,yE h aa,aad];cases gG s p n<;>rfl
theorem zH:∀n,fG (s.emk k) p f n=(fG s p f n).map (BrD.emk k)
 |0=>rfl
 |n+1=>by
  show fG (s.emk k) p f n++kZ (s.emk k) p f n=(fG s p f n++kZ s p f n).map (BrD.emk k);rw[zH n,aad];congr 1;unfold kZ;rw[CY,CY];split<;>rfl
theorem sZ(h:jG s):dD (s.emk k) p f=(dD s p f).map (BrD.emk k):=by
 unfold dD;rw[show(s.emk k).bays=s.bays from rfl,show(s.emk k).lines=s.lines from rfl,BU h _ (κ _),zH,aad]
theorem vF:eZ (s.emk k) p f=eZ s p f:=by unfold eZ;rw[CJ]
theorem Ui(h:jG s){i}(hi:i<s.bays.length):way (s.emk k) p f i=(way s p f i).map (BrD.emk k):=by
 unfold way;rw[show(s.emk k).bays=s.bays from rfl,CY,yE h hi];split<;>rfl
def JoinD.emk{n}(h:JoinD bs n):JoinD (bs.map (BrD.emk k)) n:=by
 induction h with
 |neutral b h hn=>exact JoinD.neutral (BrD.emk k b) (aaB h) hn
 |fro b h hn _ ih=>exact JoinD.fro (BrD.emk k b) (aaB h) hn ih
 |fwd b h hn _ ih=>exact JoinD.fwd (BrD.emk k b) (aaB h) hn ih
def JoinD.Wj{n}(h:JoinD (bs.map (BrD.emk k)) n):JoinD bs n:=by
 induction h with
 |neutral b h hn=>obtain⟨c,hc,rfl⟩:=Nq.1 h;exact JoinD.neutral c hc hn
 |fro b h hn _ ih=>obtain⟨c,hc,rfl⟩:=Nq.1 h;exact JoinD.fro c hc hn ih
 |fwd b h hn _ ih=>obtain⟨c,hc,rfl⟩:=Nq.1 h;exact JoinD.fwd c hc hn ih
def Bw:lv (bs.map (BrD.emk k))=lv bs:=by
 funext n;cases h:lv bs n with
 |true=>exact lQ.2 (lQ.1 h).emk
 |false=>
  cases j:lv (bs.map (BrD.emk k)) n with
  |false=>rfl
  |true=>rw[lQ.2 (lQ.1 j).Wj] at h;cases h
def Nb.emk (k:Int) (b:Nb):Nb:={b with e:=GQ.i k 0*b.e}
theorem Gi(L sq):∀bs:List BrD,usd L sq (bs.map (BrD.emk k))=(usd L sq bs).map (Nb.emk k)
 |[]=>rfl
 |b::bs=>by
  have B:=Gi L sq bs;unfold usd at B⊢;rw[abR,ade,ade];have j:used L (BrD.emk k b)=used L b:=rfl;rw[j];cases used L b
  .simpa using B
  .simp only[aag,abR,B];congr 1;unfold BrD.nb Nb.emk BrD.emk;simp only[Nb.mk.injEq,true_and];refine⟨rfl,?_⟩;ext<;>simp only[GQ.bL,GQ.bK,GQ.dM,GQ.dJ,aac]<;>grind
def Xe(rw_)(us:List Nb):(us.map (Nb.emk k)).map (Nb.br rw_)=us.map (Nb.br rw_):=by
 rw[aei];rfl
theorem R9(rw_ i):∀us:List Nb,feed rw_ (us.map (Nb.emk k)) i=GQ.i k 0*feed rw_ us i:=fun us=>by
 unfold feed;rw[qA,<-Db];refine nE us fun b hb=> ?_;show(if b.b=17/\i=rw_ b.a then b.y*(GQ.i k 0*b.e) else GQ.i 0 0)=_;split
 .ext<;>simp only[GQ.bL,GQ.bK]<;>grind
 .rw[GQ.bQ]
theorem Hr{L rw_ n}(us v j):oM L rw_ n (us.map (Nb.emk k)) v j=oM L rw_ n us v j:=by
 unfold oM;rw[Xe]
theorem GI(sq j):drp (bs.map (BrD.emk k)) fN sq j=drp bs fN sq j:=by
 unfold drp;rw[Bw,Gi,Hr]
theorem NC(hb:∀b∈bs,gV b)(j):bef (bs.map (BrD.emk k)) j=GQ.i k 0*bef bs j:=by
 unfold bef;rw[Bw,Gi,Hr];exact(wH hb 1).scale (GQ.i k 0) (fun i _=>R9 _ i _) j
def EG(c x y:GQ):c*x/y=c*(x/y):=by
 ext<;>simp only[GQ.yN,GQ.uB,GQ.bL,GQ.bK]<;>grind
theorem Lt(kind c v z1 z0 r n):ng kind (c*v) z1 z0 r n=c*ng kind v z1 z0 r n:=by
 have j:c*GQ.i 0 0=GQ.i 0 0:=GQ.bQ c;have hs (x:GQ):GQ.i 0 0-c*x=c*(GQ.i 0 0-x):=by ext<;>simp only[GQ.dU,GQ.dV,GQ.bL,GQ.bK,GQ.dM,GQ.dJ]<;>grind
 unfold ng;simp only[EG,GQ.dB,hs];split
 .rfl
 .split
  .split
   .exact j.symm
   .split<;>rfl
  .split
   .split
    .rfl
    .split<;>rfl
   .split
    .rfl
    .exact j.symm
theorem MG(hb:∀b∈bs,gV b)(kind r n):fcu (bs.map (BrD.emk k)) fN kind r n=GQ.i k 0*fcu bs fN kind r n:=by
 unfold fcu;rw[NC hb,GI,GI,Lt]
theorem Nt(hb:∀b∈bs,gV b)(n j):vbe (bs.map (BrD.emk k)) n j=GQ.i k 0*vbe bs n j:=by
 unfold vbe;rw[NC hb];split
 .rfl
 .exact(GQ.bQ _).symm
theorem xh(hb:∀b∈bs,gV b)(n j):kH (bs.map (BrD.emk k)) fN f n j=GQ.i k 0*kH bs fN f n j:=by
 unfold kH;rw[Bw];split
 .unfold vlt;rw[Nt hb,MG hb,GI,GQ.dB,GQ.jT]
 .exact Nt hb n j
theorem SX(hb:∀b∈bs,gV b)(n):sI (bs.map (BrD.emk k)) fN f n=GQ.i k 0*sI bs fN f n:=by
 unfold sI;rw[Bw];split
 .exact MG hb _ _ n
 .exact(GQ.bQ _).symm
def Su(hb:∀b∈bs,gV b)(way:Option BrD)(n):Uc (bs.map (BrD.emk k)) fN f (way.map (BrD.emk k)) n=GQ.i k 0*Uc bs fN f way n:=by
 cases way with
 |none=>exact(GQ.bQ _).symm
 |some b=>
  show(if 13<=b.a/\lv (bs.map (BrD.emk k)) b.a=ε then (kH (bs.map (BrD.emk k)) fN f n b.a-kH (bs.map (BrD.emk k)) fN f n b.b-(if n=1 then GQ.i (k*b.emf) 0 else GQ.i 0 0))/b.zs (min n 1) else GQ.i 0 0)=GQ.i k 0*(if 13<=b.a/\lv bs b.a=ε then (kH bs fN f n b.a-kH bs fN f n b.b-(if n=1 then GQ.i b.emf 0 else GQ.i 0 0))/b.zs (min n 1) else GQ.i 0 0);rw[Bw,xh hb,xh hb];have e:(if n=1 then GQ.i (k*b.emf) 0 else GQ.i 0 0)=GQ.i k 0*(if n=1 then GQ.i b.emf 0 else GQ.i 0 0):=by
   split
   .ext<;>simp only[GQ.bL,GQ.bK,GQ.dM,GQ.dJ,aac]<;>grind
   .rw[GQ.bQ]
  rw[e];split
  .rw[<-EG,GQ.jT,GQ.jT]
  .rw[GQ.bQ]
theorem RD(h:jG s)(j:oh s.buses.length s.lines.length f){i}(hi:i<s.bays.length)(n):uD (s.emk k) p f i n=GQ.i k 0*uD s p f i n:=by
 unfold uD;rw[sZ h,vF,Ui h hi,Su (rW h j).2]
theorem QK(h:jG s)(j:oh s.buses.length s.lines.length f){i}(hi:i<s.bays.length)(n):nN (s.emk k) p f i n=GQ.i k 0*nN s p f i n:=by
 have hb:=(rW (p:=p) h j).2;unfold nN;rw[sZ h,vF,show(s.emk k).bays=s.bays from rfl,yE h hi];simp only[zI,xh hb];split
 .rfl
 .split
  .rename_i l
   have:=Ob (h.obj i hi) l;cases gG s p i with
   |none=>
    show(if n=1 then GQ.i ((s.emk k).srcs.getD _ η).emf 0 else GQ.i 0 0)=GQ.i k 0*(if n=1 then GQ.i (s.srcs.getD _ η).emf 0 else GQ.i 0 0);rw[yj _ aa];split
    .ext<;>simp only[qG.emk,GQ.bL,GQ.bK,GQ.dM,GQ.dJ,aac]<;>grind
    .rw[GQ.bQ]
   |some b=>rfl
  .rw[GQ.bQ]
end
def shf (kind:Int):Nat:=if kind=2\/kind=6\/kind=9 then 1 else if kind=3\/kind=4\/kind=7 then 2 else 0
theorem V3(kind):shf kind<3:=by
 unfold shf;split
 .omega
 .split<;>omega
section
variable {x y d c:Nat->GQ} {z0 z1 k:GQ} {sh:Nat}
theorem vE(h:∀n,n<3->d n=k*c n)(m):phv d sh m=(phv c sh m).sc k:=by
 unfold phv;rw[N7 h,agF]
end
structure Gr0 (w0 w:World) (gx gf:Nat) (C:Nat->Value) (nb:Nat) (Bv:Nat->BrV) (brs:List BrD):Prop where
 g:fP w gx 105 393 (fO C fun _=>zEn)
 c:dh w gf
 m:Mod (fun k=>k=gx) w0 w
 own:oF w w0.heap.size (C 0) nb Bv
 len:brs.length=nb
 br:∀i,i<nb->sK w (Bv i) (brs.getD i η)
 n32:∀i,i<33->nY (C i)=ε
 lx:gx<w0.heap.size
 lf:gf<w0.heap.size
section
variable {w0 w w' w2:World} {gx gf nb:Nat} {C:Nat->Value} {Bv:Nat->BrV} {brs:List BrD}
def Gr0.ne(h:Gr0 w0 w gx gf C nb Bv brs):gf≠gx:=Blk.eY h.c h.g aj
def Gr0.far(h:Gr0 w0 w gx gf C nb Bv brs):iq (fun k=>k=gx) w:=afl h.g (fun k _=>qh h.n32 k) (fun k j=>j)
def Gr0.ext(h:Gr0 w0 w gx gf C nb Bv brs)(x:Ext w w'):Gr0 w0 w' gx gf C nb Bv brs:=⟨h.g.ext x,h.c.ext x,h.m.trans (ae1 x),h.own.ext x,h.len,fun i hi=>(h.br i hi).ext x,h.n32,h.lx,h.lf⟩
def Gr0.mod{S}(h:Gr0 w0 w gx gf C nb Bv brs)(m:Mod S w w')(hs:∀k,S k->w0.heap.size<=k)(l:iq S w)(B:∀g,(C 0).ownBlock=γ g->¬S g):Gr0 w0 w' gx gf C nb Bv brs:=by
 have lx:=h.lx;have lf:=h.lf;refine⟨h.g.mod m (fun e=>by have:=hs _ e;omega),Blk.mod h.c m (fun e=>by have:=hs _ e;omega),?_,h.own.mod m B,h.len,fun i hi=>(h.br i hi).fM m l,h.n32,h.lx,h.lf⟩;exact⟨m.os.trans h.m.os,m.tape.trans h.m.tape,m.output.trans h.m.output,Ξ h.m.size m.size,fun k j hn=>(m.block k (ο j h.m.size) (fun e=>by have:=hs _ e;omega)).trans (h.m.block k j hn)⟩
theorem EW{C E i}(v)(hi:i<33)(k):upd (fO C E) i v k=fO (upd C i v) E k:=by
 by_cases h:k=i
 .subst h;rw[upd_same,dR hi,upd_same]
 .rw[upd_ne h];unfold fO;by_cases j:k<33
  .rw[ι j,ι j,upd_ne h]
  .rw[θ j,θ j]
def Gr0.set(h:Gr0 w0 w gx gf C nb Bv brs){i}(v)(hi:i<33)(D:i≠0)(hv:nY v=ε):Gr0 w0 (w.setCell ⟨gx,i,δ⟩ v) gx gf (upd C i v) nb Bv brs/\Mod (fun k=>k=gx) w (w.setCell ⟨gx,i,δ⟩ v):=by
 have l:Mod (fun k=>k=gx) w (w.setCell ⟨gx,i,δ⟩ v):=Mod.set _ _ _ _ rfl;have J:∀g,(C 0).ownBlock=γ g->g≠gx:=fun g F=>by have:=(h.own.low F).1;have:=h.lx;omega
 refine⟨⟨(h.g.set v aa).congr (fun k _=>EW v hi k),Blk.mod h.c l h.ne,h.m.trans l,?_,h.len,fun j B=>(h.br j B).fM l h.far,fun j B=> ?_,h.lx,h.lf⟩,l⟩
 .rw[upd_ne (abu D)];exact h.own.mod l J
 .by_cases e:j=i
  .subst e;rw[upd_same];exact hv
  .rw[upd_ne e];exact h.n32 j B
def Ov{l:List BrD}{b i}:(l++[b]).getD i η=if i<l.length then l.getD i η else if i=l.length then b else η:=by
 rw[σ,σ];by_cases h:i<l.length
 .rw[ι h,Λ h]
 .rw[θ h,kC aa];by_cases j:i=l.length
  .rw[ι j,j,aaW];rfl
  .rw[θ j,qa ae];rfl
def Qb{w B0 v k B}(h:oF w B0 v k B):nY v=ε:=by
 rcases h with ⟨rfl,_⟩|⟨g',G,B',rfl,_⟩<;>rfl
def Gr0.push(h:Gr0 w0 w gx gf C nb Bv brs){r b L}(O:sK w r b)(M:oF w' w0.heap.size L (nb+1) (upd Bv nb r))(G:Mod (fun g=>(C 0).ownBlock=γ g) w w')(N:w2=w'.setCell ⟨gx,0,δ⟩ L):
  Gr0 w0 w2 gx gf (upd C 0 L) (nb+1) (upd Bv nb r) (brs++[b])/\Mod (fun g=>g=gx\/(C 0).ownBlock=γ g) w w2/\iq (fun g=>g=gx\/(C 0).ownBlock=γ g) w:=by
 subst N;have B:∀g,(C 0).ownBlock=γ g->w0.heap.size<=g:=fun g D=>(h.own.low D).1;have lx:=h.lx;have lf:=h.lf;have J:∀g,(C 0).ownBlock=γ g->g≠gx:=fun g D=>by have:=B g D;omega
 have g1:fP w' gx 105 393 (fO C fun _=>zEn):=h.g.mod G (fun e=>J _ e rfl);have c1:dh w' gf:=Blk.mod h.c G (fun e=>by have:=B _ e;omega);have l:Mod (fun k=>k=gx) w' (w'.setCell ⟨gx,0,δ⟩ L):=Mod.set _ _ _ _ rfl;have Q:iq (fun k=>k=gx) w':=afl g1 (fun k _=>qh h.n32 k) (fun k H=>H);have I:∀g,L.ownBlock=γ g->¬g=gx:=fun g D=>by have:=(M.low D).1;omega
 have F:Mod (fun g=>g=gx\/(C 0).ownBlock=γ g) w (w'.setCell ⟨gx,0,δ⟩ L):=
  ⟨l.os.trans G.os,l.tape.trans G.tape,l.output.trans G.output,Ξ G.size l.size,fun k H hn=>(l.block k (ο H G.size) (fun e=>hn (Or.inl e))).trans (G.block k H (fun e=>hn (Or.inr e)))⟩
 have hF:iq (fun g=>g=gx\/(C 0).ownBlock=γ g) w:=fun g D Z=>by
  rcases D with D|D
  .exact h.far g D Z
  .exact h.own.far g D Z
 refine⟨⟨(g1.set L aa).congr (fun k _=>EW L aa k),Blk.mod c1 l h.ne,?_,?_,by rw[nH,h.len];rfl,fun i hi=> ?_,fun j P=> ?_,h.lx,h.lf⟩,F,hF⟩
 .exact⟨F.os.trans h.m.os,F.tape.trans h.m.tape,F.output.trans h.m.output,Ξ h.m.size F.size,fun k H hn=>(F.block k (ο H h.m.size) (fun e=>by
   rcases e with e|e
   .exact hn e
   .have:=B _ e;omega)).trans (h.m.block k H hn)⟩
 .rw[upd_same];exact M.mod l I
 .rw[Ov,h.len];by_cases K:i<nb
  .rw[ι K,upd_ne aa];exact(h.br i K).fM F hF
  .rw[θ K,ι aa,show i=nb by omega,upd_same];exact O.fM F hF
 .by_cases e:j=0
  .subst e;rw[upd_same];exact Qb M
  .rw[upd_ne e];exact h.n32 j P
end
def EZ (B:Nat) (PA PB:Option Addr) (V:Nat) (K:Nat->Hd):Prop:=
 (∀b o,PA=γ ⟨b,o,δ⟩->B<=b)/\(∀b o,PB=γ ⟨b,o,δ⟩->B<=b)/\∀i,i<V->∀b o,(K i).A=γ ⟨b,o,δ⟩->B<=b
def iN.mod{S w w' B PA j PB V K p}(h:iN w PA j PB V K p)(hn:EZ B PA PB V K)(m:Mod S w w')(hS:∀g,S g->g<B):iN w' PA j PB V K p:=
 ⟨h.lc,h.closed.mod m (fun b o e hs=>by have:=hn.1 b o e;have:=hS b hs;omega),h.ll,h.rows.mod m (fun b o e hs=>by have:=hn.2.1 b o e;have:=hS b hs;omega),h.lens,fun i hi=>(h.ints i hi).mod m (fun b o e hs=>by have:=hn.2.2 i hi b o e;have:=hS b hs;omega),h.mx⟩
structure Kp3 (w:World) (a b c:Nat) where
 val:World
 ha:val.heap[a]? =w.heap[a]?
 hb:val.heap[b]? =w.heap[b]?
 hc:val.heap[c]? =w.heap[c]?
instance (w:World) (a b c:Nat):Nonempty (Kp3 w a b c):=⟨⟨w,rfl,rfl,rfl⟩⟩
theorem BC{w w':World}{g i v}(h:w'.heap[g]? =w.heap[g]?)(hv:w.cell? (aM g i)=γ v):w'.cell? (aM g i)=γ v:=by
 unfold World.cell? at hv⊢;simp only[h] at hv⊢;exact hv
def Kp3.a{w a b c i v}(h:w.cell? (aM a i)=γ v)(x:Kp3 w a b c):x.val.cell? (aM a i)=γ v:=BC x.ha h
def Kp3.b{w a b c i v}(h:w.cell? (aM b i)=γ v)(x:Kp3 w a b c):x.val.cell? (aM b i)=γ v:=BC x.hb h
def Kp3.of{S w w' a b c}(m:Mod S w w')(la:a<w.heap.size)(lb:b<w.heap.size)(lc:c<w.heap.size)(ha:¬S a)(hb:¬S b)(hc:¬S c):∃x:Kp3 w a b c,w'=x.val:=
 ⟨⟨w',m.block a la ha,m.block b lb hb,m.block c lc hc⟩,rfl⟩
def nR{w ops rest o a Q}(D:o.guard=δ)(s x:Operand)(I:o.op=.call {callee:=.builtin .append,args:= #[s,x],argTypes:= #[96,96]}){B0 k j c v B r}(hs:a.eval s=v)(J:a.eval x=.slice (γ (aM j 0)) 1 c)(H:oF w B0 v k B)(C:k<=1000)(M:B0<=w.heap.size)(hb:Blk w j 167 r.cs.toArray)(h:∀L w',oF w' B0 L (k+1) (upd B k r)->Mod (fun g=>v.ownBlock=γ g) w w'->(∀g,L.ownBlock=γ g->v.ownBlock=γ g\/g=w.heap.size)->wpList prog ops Q rest (a.put o.dst L) w'):
  wpList prog ops Q (o::rest) a w:=by
 obtain⟨L,w',G,l,K,F⟩:=Kb H C M hb c o.type;exact LM D s x _ I hs J G (h L w' l K F)
theorem DR{PA pn pc PB V qc K p}(w)(hp:iN w PA pn PB V K p)(hb:pn<=1000)(hq:V<=1000)(hk:∀i,i<V->(K i).n<=1000):
  Calls prog 82 #[lG PA pn pc PB V qc,ζ] w fun e w'=>∃T YD Yv YL R,e=.returned (lG T pn YD Yv V YL)/\iN w' T pn Yv V R (resolve 0 p)/\(∀i,i<V->(R i).n=(K i).n)/\EZ w.heap.size T Yv V R/\Ext w w':=by
 have D:Hid (Ext w (aL (aL w #[aO PA pn pc,aO PB V qc] 31) #[(),()] 31)):=aW ((Ext.new _ _).trans (Ext.new _ _));have HP:=aW (hp.ext D.o);clear hp;have YM:=aW hk;clear hk;obtain⟨-,Yr,U⟩:=ah2 w 31 #[aO PA pn pc,aO PB V qc] 31 #[(),()];unfold lG;go_enter func82,ntmps82;go_wp2_with fail;refine(KD PA pn pc p.closed _ HP.closed HP.lc aa).mono ?_;rintro e w1 ⟨v1,rfl,ho,J⟩;have Zj:=aW (D.trans J);have YB:=aW (HP.ext J);have YC:=aW (Yr.ext J);have ad:=aW (U.ext J);obtain⟨A1,c1,rfl,_,_,_⟩:=jD ho;have HO:=aW (ho.less (base':=w.heap.size) ae);have YY:w.heap.size+1<w1.heap.size:=(U.ext J).lt;have YQ:w.heap.size<w1.heap.size:=aa;have C:=YC.cell;clear J ho HP Yr U;obtain⟨-,Yy⟩:=an1 w1 31 #[aO A1 pn c1,()];have YW:=aW Yy;clear Yy;have Zl:Hid (Ext w1 (aL w1 #[aO A1 pn c1,()] 31)):=aW (Ext.new _ _);go_wp2_with fail;generalize ZL:w1.alloc (.cells #[aO A1 pn c1,()] 31)=w6 at YW Zl⊢;clear ZL;generalize Zr:w1.heap.size=g6 at YW YQ YY⊢;have ZE:=aW Zr;clear Zr;clear C;go_loopw [19] (fun i wr=>∃(k:Nat) (v:Value) (R:Nat->Hd),k<=V/\i=.int .i64 (k:Int)/\Blk wr g6 31 #[aO A1 pn c1,v]/\wr.ownsRow (g6+1) 92 1 v k (yS R k)/\wR wr (g6+1) k R (fun i=>(p.links.getD i []).map (mv 0))/\(∀i,i<k->(R i).n=(K i).n)/\Ext w1 wr) (aT V)
 case atStart=>exact⟨0,_,K,aa,rfl,YW.o,PI _ _ _ _,fun i hi=>absurd hi aa,fun i hi=>absurd hi aa,Zl.o⟩
 case round=>
  clear YW Zl;obtain⟨k,v,R,G,rfl,Yy,F,S,O,J⟩:=hrel;obtain⟨wv,YV⟩:∃wv,wv=wr:=⟨_,rfl⟩;subst YV;obtain⟨Av,cv,rfl,_,_,_⟩:=jD F;have YW:=aW Yy;have B:=aW F;have N:=aW S;have YR:=aW O;have HX:=aW J;have Zp:g6<wv.heap.size:=Yy.lt;clear Yy F S O J;by_cases Yp:k<V
  .have hd:decide (k<V)=ε:=ae;have Zo:=YM.o k Yp;obtain⟨pb,YT,M,YO,f0⟩:=(YB.ext HX.o).rows.one Yp;have YK:Hid ((p.links.getD k []).length=(K k).n):=aW (YB.lens k Yp);have Yu:=aW ((YB.ext HX.o).ints k Yp);unfold Hd.v at f0;generalize YX:K k=kh at f0 YK Yu Zo;have YI:Hid ((K k).n=kh.n):=aW (by rw[YX]);clear YX;subst M;generalize Z:p.links.getD k []=l at YK Yu;have HL:=aW Z;clear Z;have Y:w.heap.size<wv.heap.size:=aa;have YH:w.heap.size+1<wv.heap.size:=aa;go_wp2_with fail;refine(KJ kh.A kh.n kh.c l _ Yu.o YK.o aa).mono ?_;rintro e w2 ⟨v3,rfl,Yt,P⟩;obtain⟨A3,c3,rfl,_,_,_⟩:=jD Yt;have YU:=aW Yt;have W:=aW P;have ZC:=P.size;clear Yt P f0;go_wp2_with fail
   go_loopw [27] (fun i wq=>∃t:Nat,t<=kh.n/\i=.int .i64 (t:Int)/\wq.ownsRow wv.heap.size 3 1 (.slice A3 kh.n c3) kh.n ((vX (mv 0) l t).map (.int .i64))/\Mod (fun g=>(Value.slice A3 kh.n c3).ownBlock=γ g) w2 wq) (aT kh.n)
   case atStart=>exact⟨0,aa,rfl,by rw[SI];exact YU.o,Mod.refl _ _⟩
   case round=>
    obtain⟨t,ht,rfl,ZB,Zg⟩:=hrel;have Zf:=aW ZB;have Zm:=aW Zg;clear ZB Zg;by_cases I:t<kh.n
    .have af:decide (t<kh.n)=ε:=ae;have Yz:t<l.length:=by have:=YK.o;omega
     obtain⟨g3,Zd,YF,Za,Zc⟩:=Zf.form aa;injection YF with ac _ Zz;subst ac Zz;obtain⟨q1,q2⟩:=FD Zf.o I (FP Yz);have Yw:=Ma Zf.o t (.int .i64 0);have Zk:=CU (f:=mv 0) Yz;have YG:=Et (f:=mv 0) Yz;generalize l.getD t 0=x at q1 Zk YG;have Yw:=aW Yw;have Zk:=aW Zk;have YG:=aW YG;by_cases P:x=2
     .have dx:((x:Int)==2)=ε:=ae;subst P;go_wp2_with fail
      go_roundw
      case rel=>
       refine⟨t+1,aa,au,?_,?_⟩
       .have h1:=Yw.o.1;rw[<-adW (f:=Value.int .i64) (a:=(0:Int))] at h1;rw[<-Zk.o];exact h1
       .exact Zm.trans (Yw.o.2.mono fun k hk=>by rw[hk];rfl)
      case measure=>exact aV
     .have dx:((x:Int)==2)=ζ:=ae;have YJ:=aW P;clear P;go_wp2_with fail
      go_roundw
      case rel=>exact⟨t+1,aa,au,by rw[YG.o (by unfold mv;rw[θ YJ.o])];exact Zf.o,Zm.o⟩
      case measure=>exact aV
    .obtain rfl:t=kh.n:=aa;clear I ht;have Yq:Ext wv wr:=W.mod Zm.o (fun g hg=>(Zf.lt g hg).1);have ZI:=aW Yq;have Q:=YW.ext Yq;have k6:=Q.cell;have ai:=Q.lt;have YN:=Yq.size;have j:=aW (eH B.o Yq);clear Yq Q;(go_wp2_with (at_builtin;refine eX DV rfl (.tmp 40) (.tmp 42) rfl (g6+1) _ k (yS R k) rf (j.alloc _) wr.heap.size 1 1 [.slice A3 kh.n c3] rf (Blk.new _ _ _) rfl AaB aa aa aa ae ?_));intro gA H w7 Zi Zn ZN Zy;have YS:=gN Zn ((YW.ext ZI.o).alloc (.cells #[aO A3 kh.n c3] 92)) (kG j.o aa);have Zh:Mod (fun g=>g=g6\/(Value.slice Av k cv).ownBlock=γ g) wr (w7.setCell ⟨g6,1,δ⟩ (.slice (γ (aM gA 0)) (k+1) H)):=((ae1 (Ext.new _ _)).trans (Mod.grown Zn (fun g h=> .inr h))).trans (Mod.only (Only.set w7 g6 1 _) (.inl rfl));have k7:=YS.cell;have f7:=YS.frozen;have YP:Blk (w7.setCell ⟨g6,1,δ⟩ (.slice (γ (aM gA 0)) (k+1) H)) g6 31 #[aO A1 pn c1,aO (γ (aM gA 0)) (k+1) H]:=by simpa using YS.mM 1 (.slice (γ (aM gA 0)) (k+1) H)
     have ZA:=rT Zi (Only.set w7 g6 1 (.slice (γ (aM gA 0)) (k+1) H)) (kG Zi aa);have YA:=aW YP;have ZP:=aW ZA;have YZ:=aW Zh;clear YS Zh YP ZA Zi Zn ZN;go_wp2_with fail
     go_roundw
     case rel=>
      refine⟨k+1,_,upd R k ⟨A3,kh.n,c3⟩,aa,au,YA.o,?_,fun i hi=> ?_,fun i hi=> ?_,(HX.trans ZI.o).mod YZ.o (fun g hg=> ?_)⟩
      .rw[Ez,upd_same,Cf (fun i hi=>upd_ne (show i≠k by omega))];exact ZP.o
      .by_cases e:i=k
       .subst e;simp only[upd_same,HL.o];rw[<-Jm YK.o];refine(mJ (Zf.less aa) YZ.o fun g hg hS=> ?_);have:=(Zf.lt g hg).1;rcases hS with hS|hS
        .omega
        .have:=(B.lt g hS).2;omega
       .rw[upd_ne e];have h1:=eH (N.o i aa) ZI.o;refine mJ h1 YZ.o fun g hg hS=> ?_;rcases hS with hS|hS
        .have:=(h1.lt g hg).1;omega
        .rcases uF h1 j.o aj with h2|h2
         .rw[h2] at hg;cases hg
         .exact h2 (hg.trans hS.symm)
      .by_cases e:i=k
       .subst e;rw[upd_same];exact YI.symm
       .rw[upd_ne e];exact YR.o i aa
      .have:=ZE.o;rcases hg with hg|hg
       .omega
       .have:=(B.lt g hg).1;omega
     case measure=>exact aV
  .obtain rfl:k=V:=aa;clear Yp G;have YE:=(ad.ext HX.o);have k6:=YW.cell;have kr:=YE.cell;have fr:=YE.frozen;have Ze:=YE.lt;go_wp2_with fail;have ZO:=gP wv (w.heap.size+1) 0 [.slice A1 pn c1,.slice Av k cv];have r1:=rT (eH HO.o HX.o) ZO (fE (eH HO.o HX.o) YE aj);have r2:=rT (B.less (base':=w.heap.size) aa) ZO (fE B.o YE aj);have r3:wR (puts wv (w.heap.size+1) 0 [.slice A1 pn c1,.slice Av k cv]) w.heap.size k R (fun i=>(resolve 0 p).links.getD i []):=fun i hi=>by
    have h:=N.o i hi;have:=rT (h.less (base':=w.heap.size) aa) ZO (fE h YE aj);simp only[vT];exact this
   have ZJ:=YB.ll;obtain⟨T,YD,Yv,YL,e1,e2,L⟩:=iN.made r1 r2 (p:=resolve 0 p) (by rw[<-ZJ];simp[resolve]) r3 aa aa (fun i hi=>by rw[YR.o i hi];have:=YM.o i hi;omega);have Yx:EZ w.heap.size T Yv k R:=by
    refine⟨fun b o e=> ?_,fun b o e=> ?_,fun i hi b o e=> ?_⟩
    .rw[e] at e1;exact(r1.lt b (by rw[e1];rfl)).1
    .rw[e] at e2;exact(r2.lt b (by rw[e2];rfl)).1
    .exact((r3 i hi).lt b (by unfold Hd.v;rw[e];rfl)).1
   refine mG rfl rfl rfl (dm 0 [.slice A1 pn c1,.slice Av k cv] YE) acZ rfl ah ⟨T,YD,Yv,YL,R,?_,L,YR.o,Yx,fK (g:=w.heap.size+1) (show w.heap.size<=w.heap.size+1 by omega) 0 [.slice A1 pn c1,.slice Av k cv] (Zj.trans HX.o)⟩;rw[<-e1,<-e2];rfl
def j3 (C:Nat->Value) (L:Nat->Bool) (i:Nat):Value:=if 15<=i/\i<33 then .bool (L (i-15)) else C i
theorem oo{C L k}(j:k<18):j3 C L (15+k)=.bool (L k):=by
 unfold j3;rw[ι aa,show 15+k-15=k by omega]
theorem mo{C L i}(h:i<15):j3 C L i=C i:=by unfold j3;rw[θ aa]
theorem J3{C L}(h:∀i,i<33->nY (C i)=ε)(i)(hi:i<33):nY (j3 C L i)=ε:=by
 unfold j3;split
 .rfl
 .exact h i hi
theorem OT{C E L k}(B:k<18)(i):upd (fO (j3 C L) E) (15+k) (.bool ε) i=fO (j3 C (upd L k ε)) E i:=by
 by_cases h:i=15+k
 .subst h;rw[upd_same,dR aa,oo B,upd_same]
 .rw[upd_ne h];unfold fO;by_cases l:i<33
  .rw[ι l,ι l];unfold j3;by_cases j:15<=i/\i<33
   .rw[ι j,ι j,upd_ne aa]
   .rw[θ j,θ j]
  .rw[θ l,θ l]
def Ak{L n}(l:L n=ζ):∀k,cnt (upd L n ε) k=cnt L k+(if n<k then 1 else 0)
 |0=>rfl
 |k+1=>by
  show cnt (upd L n ε) k+(if upd L n ε k=ε then 1 else 0)=cnt L k+(if L k=ε then 1 else 0)+_;rw[Ak l k];by_cases h:k=n
  .subst h;rw[upd_same,l,ι rfl,θ aa,θ aj,ι aa]
  .rw[upd_ne h];by_cases j:n<k
   .rw[ι j,ι (show n<k+1 by omega)];omega
   .rw[θ j,θ (show ¬n<k+1 by omega)];omega
def uM (lb:Bool) (n:Nat) (L:Nat->Bool):Nat->Bool:=if lb=ε/\n≠17/\L n=ζ then upd L n ε else L
def oz (L:Nat->Bool) (b:BrD):Bool:=decide (b.b=17)||(L b.a||L b.b)
def stp (b:BrD) (L:Nat->Bool) (j:Nat):Nat->Bool:=if j=0 then L else if j=1 then uM (oz L b) b.a L else uM (oz L b) b.b (uM (oz L b) b.a L)
theorem CG(lb n L k):uM lb n L k=(L k||(lb&&decide (k≠17)&&decide (k=n))):=by
 unfold uM;by_cases h:lb=ε/\n≠17/\L n=ζ
 .rw[ι h];by_cases e:k=n
  .subst e;rw[upd_same,h.1];simp[h.2.1]
  .rw[upd_ne e];simp[e]
 .rw[θ h];by_cases e:k=n
  .subst e;cases Z:lb
   .simp
   .by_cases B:k=17
    .simp[B]
    .have:L k=ε:=by
      cases j:L k with
      |true=>rfl
      |false=>exact absurd ⟨Z,B,j⟩ h
     simp[this]
  .simp[e]
theorem T9(b L k):stp b L 2 k=rH L b k:=by
 unfold stp rH;rw[θ aa,θ aa,CG,CG];unfold oz;cases L k<;>cases decide (b.b=17)<;>cases L b.a<;>cases L b.b<;>cases decide (k≠17)<;>cases decide (k=b.a)<;>cases decide (k=b.b)<;>rfl
def xX(b L){j}(B:j<2):stp b L (j+1)=uM (oz L b) (if j=0 then b.a else b.b) (stp b L j):=by
 have l:j=0\/j=1:=aa;rcases l with rfl|rfl<;>rfl
def Cy{lb n L}(h:L 17=ζ):uM lb n L 17=ζ:=by rw[CG,h];simp
theorem FM{b L}(h:L 17=ζ)(j):stp b L j 17=ζ:=by
 unfold stp;split
 .exact h
 .split
  .exact Cy h
  .exact Cy (Cy h)
theorem qB{lb n L}(h:lb=ζ\/n=17\/L n=ε):uM lb n L=L:=by
 unfold uM;refine θ fun hc=> ?_;rcases h with h|h|h
 .rw[h] at hc;cases hc.1
 .exact hc.2.1 h
 .rw[h] at hc;cases hc.2.2
theorem kQ{lb n L}(h:lb=ε)(l:n≠17)(j:L n=ζ):uM lb n L=upd L n ε:=by
 unfold uM;exact ι ⟨h,l,j⟩
def Wv(L):cnt L 18<=18:=LB 18
structure Rv (w wr:World) (gx:Nat) (C:Nat->Value) (E:Nat->En) (bs:List BrD) (L:Nat->Bool):Prop where
 g:fP wr gx 105 393 (fO (j3 C L) E)
 m:Mod (fun k=>k=gx) w wr
 sub:∀k,L k=ε->JoinD bs k
section
variable {w wr wr':World} {gx:Nat} {C:Nat->Value} {E:Nat->En} {bs:List BrD} {L:Nat->Bool}
def Rv.ext(h:Rv w wr gx C E bs L)(x:Ext wr wr'):Rv w wr' gx C E bs L:=⟨h.g.ext x,h.m.trans (ae1 x),h.sub⟩
def Rv.set(h:Rv w wr gx C E bs L){n}(hn:n<18)(l:JoinD bs n):Rv w (wr.setCell ⟨gx,15+n,δ⟩ (.bool ε)) gx C E bs (upd L n ε):=by
 refine⟨(h.g.set (.bool ε) aa).congr (fun k _=>OT hn k),h.m.trans (Mod.set _ _ _ _ rfl),fun k j=> ?_⟩;by_cases e:k=n
 .subst e;exact l
 .rw[upd_ne e] at j;exact h.sub k j
theorem KU{b}(hb:b∈bs)(hs:∀k,L k=ε->JoinD bs k)(B:L 17=ζ)(h:oz L b=ε):JoinD bs b.a:=by
 unfold oz at h;simp only[acm,Θ] at h;rcases h with h|h|h
 .exact .neutral b hb h
 .exact hs _ h
 .exact .fro b hb (fun e=>by rw[e,B] at h;cases h) (hs _ h)
theorem LG{b}(hb:b∈bs)(hs:∀k,L k=ε->JoinD bs k)(B:L 17=ζ)(h:oz L b=ε)(hn:b.b≠17):JoinD bs b.b:=by
 unfold oz at h;simp only[acm,Θ] at h;rcases h with h|h|h
 .exact absurd h hn
 .exact .fwd b hb hn (hs _ h)
 .exact hs _ h
end
structure Rnd (bs:List BrD) (Lr L:Nat->Bool) (ch:Bool) (i:Nat):Prop where
 no:ch=ζ->L=Lr/\∀j,j<i->∀n,rH Lr (bs.getD j η) n=Lr n
 yes:ch=ε->cnt Lr 18<cnt L 18
def Rnd.le{bs l L j i}(h:Rnd bs l L j i):cnt l 18<=cnt L 18:=by
 cases hc:j with
 |false=>rw[(h.no hc).1];exact κ _
 |true=>exact aaj (h.yes hc)
def Rnd.next{bs l L C D i b}(h:Rnd bs l L C i)(hb:bs.getD i η=b)(Z:cnt l 18<=cnt (stp b L 2) 18)(hn:D=ζ->C=ζ/\stp b L 2=L)(R:D=ε->cnt l 18<cnt (stp b L 2) 18):Rnd bs l (stp b L 2) D (i+1):=by
 refine⟨fun hc=> ?_,R⟩;obtain⟨H,B⟩:=hn hc;obtain⟨F,G⟩:=h.no H;refine⟨B.trans F,fun j I n=> ?_⟩;by_cases e:j=i
 .subst e;rw[hb,<-F,<-T9,B]
 .exact G j aa n
def Us{a b:Nat}{j:Nat}(B:j<2)(w):Sem.run prog (Instr.index 64 (.agg #[(a:Int),(b:Int)]) (.int .i64 (j:Int))) w=.ok (.int .i64 ((if j=0 then a else b:Nat):Int)) w:=by
 have l:j=0\/j=1:=aa;rcases l with rfl|rfl<;>simp[Instr.index,abg underlying64,asIntOf,go_sem,isAgg3,sizeOf3,part]
theorem QT(gx nb cb C E A Bv bs w)(hg:fP w gx 105 393 (fO C E))(hn:tO w C A nb cb Bv bs (fun _=>ζ))(YA:∀i,i<33->nY (C i)=ε)(hA:∀b o,A=γ ⟨b,o,δ⟩->b≠gx):
  Calls prog 83 #[aN gx 0] w fun e w'=>e=.returned (.tuple #[])/\fP w' gx 105 393 (fO (j3 C (lv bs)) E)/\Mod (fun k=>k=gx) w w':=by
 have HG:=aW hg;have HN:=aW hn;have Zz:=aW YA;have HA:=aW hA;have ZZ:Hid (Rv w w gx C E bs (fun _=>ζ)):=aW ⟨hg.congr (fun k _=>by
  unfold fO;by_cases h:k<33
  .rw[ι h,ι h];unfold j3;by_cases h2:15<=k/\k<33
   .rw[ι h2,<-hn.live (k-15) aa,show 15+(k-15)=k by omega]
   .rw[θ h2]
  .rw[θ h,θ h]),ae1 (Ext.refl _),fun k hk=>by cases hk⟩
 clear hg hn YA hA;go_enter func83,ntmps83;go_wp2_with fail
 go_loopg [2] 40 (fun gk cv wr=>∃(L:Nat->Bool) (ch:Bool),cv=.bool ch/\Rv w wr gx C E bs L/\L 17=ζ/\(ch=ε->37<=gk+2*cnt L 18)/\(ch=ζ->36<=gk+2*cnt L 18/\∀j,j<nb->∀n,rH L (bs.getD j η) n=L n))
 case atStart=>exact⟨_,ε,rfl,ZZ.o,rfl,fun _=>aa,fun h=>by cases h⟩
 case round=>
  clear ZZ;obtain⟨L,ch,rfl,hR,B,Zp,YJ⟩:=hrel;have HR:=aW hR;have Zo:=aW B;have Ze:=aW Zp;have YX:=aW YJ;clear hR B Zp YJ;cases ch with
  |false=>
   have YS:=aW (YX.o rfl);clear YX Ze;go_wp2_with fail;have hL:L=lv bs:=XP HN.ok (agu Zo.o (fun b hb n=>by
    obtain⟨j,hj,e⟩:=acD hb;have:=YS.o.2 j (by have:=HN.len;omega) n;rw[σ,ν hj] at this;simpa[e] using this)) HR.sub
   refine aaY (aat rfl _ _ _) rfl ⟨rfl,by rw[<-hL];exact HR.g,HR.m⟩
  |true=>
   have Zn:=aW (Ze.o rfl);clear YX Ze;have Zg:=HR.g.cell_ (k:=0) aa ((dR aa).trans ((mo aa).trans HN.br));go_wp2_with fail;clear Zg;go_loopw [2,14] (fun cv iv wz=>∃(i:Nat) (G:Nat->Bool) (ch:Bool),i<=nb/\iv=.int .i64 i/\cv=.bool ch/\Rv w wz gx C E bs G/\G 17=ζ/\Rnd bs L G ch i) (fun _ iv _=>nb-(intOf iv).toNat)
   case atStart=>exact⟨0,L,ζ,aa,rfl,rfl,HR.o,Zo.o,fun _=>⟨rfl,fun j hj=>aa⟩,fun h=>by cases h⟩
   case round=>
    rename World=>wz;obtain⟨i,G,ch,hi,rfl,rfl,ZI,Zc,Zr⟩:=hrel;have Yv:=aW ZI;have I:=aW Zc;have R:=aW Zr;clear ZI Zc Zr;by_cases Yp:i<nb
    .have hd:decide ((i:Int)<nb)=ε:=ae;obtain⟨bA,oA,hA,Zm,Zj⟩:=HN.arr aa;subst hA;have Zl:bA≠gx:=HA.o _ _ rfl;have ZO:=aW (show wz.rangeAt bA (oA+i*20) (Bv i).cs from fun j v hv=>by
      have h1:=Zj i Yp j v hv;unfold World.cell? at h1⊢;simp only[Yv.o.m.block bA Zm Zl] at h1⊢;exact h1)
     clear Zj Zm Zl;(iterate 21 (try (first|go_values|go_skip|go_guarded|go_step|go_upon|go_in|go_back|go_simp)));refine υ rfl 167 _ rfl bA (oA+i*20) rf (Bv i).cs _ ZO.o aaT rfl xJ ?_;refine gu rfl 167 rfl _ MH ?_;intro wd YN;refine bF rfl 167 (.tmp 4) (.tmp 17) rfl wz.heap.size 0 (Bv i).cs rf rf AcG xJ (yJ _) ?_;intro we YZ;refine Qp ?_;have YE:Blk wd wz.heap.size 167 zBr:=by rw[YN];exact Blk.new _ _ _
     have H:Ext wz wd:=by rw[YN];exact Ext.new _ _
     have P:Ext wz we:=by rw[YZ];exact fK (κ _:Own wz wz.heap.size) 0 _ H
     have YF:Blk we wz.heap.size 167 (Bv i).cs.toArray:=by rw[YZ];exact Rt YE
     have U:=aW YF;replace Yv:=Yv.aA P;clear YN YZ YE H P YF;generalize wz.heap.size=YR at U⊢;have Zd:wrap64 ((i:Int)+1)=(i:Int)+1:=Aa _ (by have:=HN.len;have:=HN.l23;omega);have O:=aW Zd;clear Zd;have hm:bs.getD i η∈bs:=CO (by have:=HN.len;omega);have YC:=HN.ok _ hm;have Yt:=HN.ab i Yp;obtain⟨b,Zf⟩:∃b,bs.getD i η=b:=⟨_,rfl⟩;rw[Zf] at hm YC Yt;have Za:=aW Zf;have HM:=aW hm;have YH:=aW YC;have YI:=aW Yt;clear YC Yt hm Zf;have Zv:b.a<17:=YH.a;have af:b.b<=17:=YH.b;have YK:we.cell? (aM YR 0)=γ (.int .i64 (b.a:Int)):=(U.cell 0).trans (by rw[<-YI.o.1];rfl);have Yy:we.cell? (aM YR 1)=γ (.int .i64 (b.b:Int)):=(U.cell 1).trans (by rw[<-YI.o.2];rfl);have YM:=Yv.g.cell_ (k:=15+b.a) aa ((dR aa).trans (oo aa));have YQ:=Yv.g.cell_ (k:=15+b.b) aa ((dR aa).trans (oo aa));have p1:(0:Int)<=b.a:=aa;have p2:(b.a:Int)<18:=aa;have p3:(0:Int)<=b.b:=aa;have p4:(b.b:Int)<18:=aa;by_cases hb:b.b=17
     .have hq:((b.b:Int)==17)=ε:=by rw[hb];rfl
      have YU:=aW hb;clear hb;have Zy:=aW Yv.o;have YV:Hid (oz G b=ε):=aW (by unfold oz;simp[YU.o]);exact Aab
     .have hq:((b.b:Int)==17)=ζ:=ae;have YU:=aW hb;clear hb;cases ad:G b.a with
      |true=>
       rw[ad] at YM;have Zy:=aW Yv.o;have YV:Hid (oz G b=ε):=aW (by unfold oz;simp[ad]);exact Aab
      |false=>
       rw[ad] at YM;cases Zi:G b.b with
       |true=>
        rw[Zi] at YQ;have Zy:=aW Yv.o;have YV:Hid (oz G b=ε):=aW (by unfold oz;simp[Zi]);exact Aab
       |false=>
        rw[Zi] at YQ;have Zy:=aW Yv.o;have YV:Hid (oz G b=ζ):=aW (by unfold oz;simp[ad,Zi,YU.o]);go_wp2_with fail;go_quiet (fail);generalize J:we.drewN nq=wq;have Yq:Ext we wq:=by rw[<-J];exact(Ext.refl _).drewN _
        replace Yv:=Yv.aA Yq;replace U:=U.aA Yq;clear Yq J YK Yy YM YQ;have YK:wq.cell? (aM YR 0)=γ (.int .i64 (b.a:Int)):=(U.cell 0).trans (by rw[<-YI.o.1];rfl);have Yy:wq.cell? (aM YR 1)=γ (.int .i64 (b.b:Int)):=(U.cell 1).trans (by rw[<-YI.o.2];rfl);clear hq U;go_wp2_with fail;clear YK Yy;go_loopw [2,44] (fun cv jv wx=>∃(j:Nat) (D:Bool),j<=2/\jv=.int .i64 j/\cv=.bool D/\Rv w wx gx C E bs (stp b G j)/\cnt L 18<=cnt (stp b G j) 18/\(D=ζ->ch=ζ/\stp b G j=G)/\(D=ε->cnt L 18<cnt (stp b G j) 18)) (fun _ jv _=>2-(intOf jv).toNat)
        case atStart=>exact⟨0,ch,aa,rfl,rfl,Yv.o,R.le,fun h=>⟨h,rfl⟩,R.yes⟩
        case round=>
         rename World=>wx;obtain⟨j,D,hj,rfl,rfl,Y,YO,W,Yu⟩:=hrel;have K:=aW Y;have YD:=aW YO;have S:=aW W;have Yr:=aW Yu;clear Y YO W Yu Yv;by_cases T:j<2
         .have YL:decide ((j:Int)<2)=ε:=ae;have ac:=Us (a:=b.a) (b:=b.b) T wx;obtain⟨n,hn⟩:∃n,(if j=0 then b.a else b.b)=n:=⟨_,rfl⟩;rw[hn] at ac;have YT:n<=17:=by rw[<-hn];split<;>omega
          have F:=xX b G T;rw[hn,YV.o] at F;have l:=aW F;have YP:=aW hn;clear F hn;have Q:=aW (qB (lb:=ζ) (n:=n) (L:=stp b G j) (Or.inl rfl));go_wp2_with fail
          go_roundw
          case rel=>exact⟨j+1,D,aa,au,rfl,by rw[l.o,Q.o];exact K.o,by rw[l.o,Q.o];exact YD.o,fun h=>by rw[l.o,Q.o];exact S.o h,fun h=>by rw[l.o,Q.o];exact Yr.o h⟩
          case measure=>exact aV
         .obtain rfl:j=2:=aa;have YL:decide ((2:Int)<2)=ζ:=aj
          go_wp2_with fail
          go_roundw
          case rel=>exact⟨i+1,stp b G 2,D,aa,by rw[O.o];rfl,rfl,K.o,FM I.o 2,R.next Za.o YD.o (S.o) (Yr.o)⟩
          case measure=>rw[O.o];simp[aT,intOf];omega
    .obtain rfl:i=nb:=aa;have hd:decide ((i:Int)<i)=ζ:=ag
     go_wp2_with fail
     go_roundg (gk-1)
     case measure=>have:=Zn.o;have:=Wv L;omega
     case rel=>exact⟨G,ch,rfl,Yv.o,I.o,fun hc=>by have:=R.yes hc;have:=Zn.o;omega,fun hc=>⟨by have h1:=(R.no hc).1;rw[h1];have:=Zn.o;omega,fun j hj n=>by have h1:=(R.no hc).1;rw[h1];exact(R.no hc).2 j hj n⟩⟩
def ny (W:World) (B0:Nat) (v0:Value) (gB gH:Nat) (v:Value) (o:Option BrD):Prop:=
 match o with
 |none=>v=.pointer δ
 |some b=>∃(g k:Nat) (bv:BrV),v=.pointer (γ (aM g k))/\B0<=g/\v0.ownBlock≠γ g/\g≠gB/\g≠gH/\g<W.heap.size/\(∀t u,bv.cs[t]? =γ u->W.cell? (aM g (k+t))=γ u)/\sK W bv b
section
variable {W W':World} {B0:Nat} {v0 v1:Value} {gB gH:Nat} {v:Value} {o:Option BrD}
def ny.ext(h:ny W B0 v0 gB gH v o)(x:Ext W W'):ny W' B0 v0 gB gH v o:=by
 cases o with
 |none=>exact h
 |some b=>
  obtain⟨g,k,bv,D,B,I,C,G,j,F,l⟩:=h;exact⟨g,k,bv,D,B,I,C,G,ο j x.size,fun t u H=>x.cell_ (F t u H),l.ext x⟩
def xC{S}(m:Mod S W W'){g i u}(Z:g<W.heap.size)(hS:¬S g)(h:W.cell? (aM g i)=γ u):W'.cell? (aM g i)=γ u:=BC (m.block g Z hS) h
def ny.mod{S}(h:ny W B0 v0 gB gH v o)(m:Mod S W W')(H:iq S W)(hS:∀g,S g->g<B0\/v0.ownBlock=γ g\/g=gB\/g=gH):ny W' B0 v0 gB gH v o:=by
 cases o with
 |none=>exact h
 |some b=>
  obtain⟨g,k,bv,F,D,B,j,l,C,G,I⟩:=h;have hn:¬S g:=fun e=>by
   rcases hS g e with e|e|e|e
   .omega
   .exact B e
   .exact j e
   .exact l e
  exact⟨g,k,bv,F,D,B,j,l,ο C m.size,fun t u J=>xC m C hn (G t u J),I.fM m H⟩
def ny.own(h:ny W B0 v0 gB gH v o)(hv:∀g,v1.ownBlock=γ g->v0.ownBlock=γ g\/W.heap.size<=g):ny W B0 v1 gB gH v o:=by
 cases o with
 |none=>exact h
 |some b=>
  obtain⟨g,k,bv,D,l,H,B,G,j,F,C⟩:=h;refine⟨g,k,bv,D,l,fun e=> ?_,B,G,j,F,C⟩;rcases hv g e with e|e
  .exact H e
  .omega
def ny.Yo(h:ny W B0 v0 gB gB v o)(x:Ext W W'){g}(J:W.heap.size<=g):ny W' B0 v0 gB g v o:=by
 cases o with
 |none=>exact h
 |some b=>
  obtain⟨g',k,bv,D,B,H,C,I,j,F,l⟩:=h;exact⟨g',k,bv,D,B,H,C,aa,ο j x.size,fun t u G=>x.cell_ (F t u G),l.ext x⟩
def ny.is(h:ny W B0 v0 gB gH v o){X}(L:X<B0):oQ W X v o:=by
 cases o with
 |none=>exact h
 |some b=>
  obtain⟨g,k,bv,B,D,H,F,G,l,C,j⟩:=h;exact⟨g,k,bv,B,aa,l,C,j.pa,j.pb,j.z0,j.z1,j.e⟩
def ny.low(h:ny W B0 v0 gB gH v o){g k}(e:v=.pointer (γ (aM g k))):B0<=g:=by
 cases o with
 |none=>have h:v=.pointer δ:=h;rw[h] at e;injection e with e;cases e
 |some b=>
  obtain⟨g',B,bv,j,l,_⟩:=h;rw[j] at e;injection e with e;injection e with e;injection e with e _ _;omega
def af4{g bv b}(hb:Blk W g 167 bv.cs.toArray)(hi:sK W bv b)(C:B0<=g)(l:v0.ownBlock≠γ g)(j:g≠gB)(D:g≠gH):ny W B0 v0 gB gH (.pointer (γ (aM g 0))) (γ b):=
 ⟨g,0,bv,rfl,C,l,j,D,hb.lt,fun t u B=>by rw[aan,hb.cell,Γ];exact B,hi⟩
end
structure Gs (w W:World) (gx gf gB gH:Nat) (C:Nat->Value) (Bv:Nat->BrV) (brs:List BrD) (n:Nat) (wv:Nat->Value) (wd:Nat->Option BrD):Prop where
 r:Gr0 w W gx gf C brs.length Bv brs
 c13:C 13=.slice (γ (aM gB 0)) n n
 bB:fP W gB 165 n wv
 lB:w.heap.size<=gB
 wy:∀j,j<n->ny W w.heap.size (C 0) gB gH (wv j) (wd j)
section
variable {w W W':World} {gx gf gB gH n:Nat} {C:Nat->Value} {Bv:Nat->BrV} {brs:List BrD} {wv:Nat->Value} {wd:Nat->Option BrD}
def Gs.ext(h:Gs w W gx gf gB gH C Bv brs n wv wd)(x:Ext W W'):Gs w W' gx gf gB gH C Bv brs n wv wd:=
 ⟨h.r.ext x,h.c13,h.bB.ext x,h.lB,fun j l=>(h.wy j l).ext x⟩
def oF.ne{v k B0}(h:oF W B0 v k Bv){g t cs}(hb:Blk W g t cs)(l:t≠167):v.ownBlock≠γ g:=fun e=>by
 rcases h with ⟨rfl,_⟩|⟨g',G,B',rfl,_,_,j,_⟩
 .cases e
 .have:g'=g:=by simpa[Value.ownBlock] using e
  subst this;exact Blk.eY hb j l rfl
def Gs.set(h:Gs w W gx gf gB gH C Bv brs n wv wd){i v}(hi:i<33)(D:i≠0)(l:i≠13)(hv:nY v=ε)(G:W'=W.setCell ⟨gx,i,δ⟩ v):Gs w W' gx gf gB gH (upd C i v) Bv brs n wv wd/\Mod (fun k=>k=gx) W W':=by
 subst G;obtain⟨H,B⟩:=h.r.set v hi D hv;have lx:=h.r.lx;have lB:=h.lB;refine⟨⟨H,by rw[upd_ne (abu l)];exact h.c13,h.bB.mod B aa,lB,fun j I=> ?_⟩,B⟩;rw[upd_ne (abu D)];exact(h.wy j I).mod B h.r.far (fun g F=> .inl (by have F:g=gx:=F;omega))
def Gs.XR(h:Gs w W gx gf gB gH C Bv brs n wv wd)(hn:∀j,j<n->nY (wv j)=ε):iq (fun k=>k=gB) W:=afl h.bB (fun k l=>hn k l) (fun k l=>l)
def ny.nY{B0:Nat}{v0:Value}{v:Value}{o:Option BrD}(h:ny W B0 v0 gB gH v o):nY v=ε:=by
 cases o with
 |none=>have h:v=.pointer δ:=h;rw[h];rfl
 |some b=>obtain⟨g,k,bv,j,_⟩:=h;rw[j];rfl
def Gs.ptr(h:Gs w W gx gf gB gH C Bv brs n wv wd){i v}{o:Option BrD}(hi:i<n)(hv:ny W w.heap.size (C 0) gB gH v o)(H:W'=W.setCell ⟨gB,i,δ⟩ v):Gs w W' gx gf gB gH C Bv brs n (upd wv i v) (upd wd i o)/\Mod (fun k=>k=gB) W W'/\iq (fun k=>k=gB) W:=by
 subst H;have B:Mod (fun k=>k=gB) W (W.setCell ⟨gB,i,δ⟩ v):=Mod.set _ _ _ _ rfl;have D:=h.XR (fun j F=>(h.wy j F).nY);have lB:=h.lB;refine⟨⟨h.r.mod B (fun k G=>by have G:k=gB:=G;omega) D (fun g l e=> ?_),h.c13,h.bB.set v hi,lB,fun j F=> ?_⟩,B,D⟩
 .have e:g=gB:=e;subst e;exact h.r.own.ne h.bB aj l
 .by_cases e:j=i
  .subst e;rw[upd_same,upd_same];exact hv.mod B D (fun g l=> .inr (.inr (.inl l)))
  .rw[upd_ne e,upd_ne e];exact(h.wy j F).mod B D (fun g l=> .inr (.inr (.inl l)))
def Gs.push{W2}(h:Gs w W gx gf gB gH C Bv brs n wv wd){r b L}(U:sK W r b)(T:oF W' w.heap.size L (brs.length+1) (upd Bv brs.length r))(hm:Mod (fun g=>(C 0).ownBlock=γ g) W W')(hv:∀g,L.ownBlock=γ g->(C 0).ownBlock=γ g\/g=W.heap.size)(S:W2=W'.setCell ⟨gx,0,δ⟩ L):
  Gs w W2 gx gf gB gH (upd C 0 L) (upd Bv brs.length r) (brs++[b]) n wv wd/\Mod (fun g=>g=gx\/(C 0).ownBlock=γ g) W W2/\iq (fun g=>g=gx\/(C 0).ownBlock=γ g) W:=by
 obtain⟨P,B,J⟩:=h.r.push U T hm S;have lx:=h.r.lx;have lB:=h.lB;have Z:(brs++[b]).length=brs.length+1:=ag;refine⟨⟨by rw[Z];exact P,by rw[upd_ne aj];exact h.c13,h.bB.mod B (fun e=> ?_),lB,fun j G=> ?_⟩,B,J⟩
 .rcases e with e|e
  .omega
  .exact h.r.own.ne h.bB aj e
 .rw[upd_same];have I:=((h.wy j G).own (v1:=L) (fun g O=>(hv g O).imp id (fun e=>aa)));cases D:wd j with
  |none=>have F:=h.wy j G;rw[D] at F;exact F
  |some d=>
   have F:=h.wy j G;rw[D] at I F;obtain⟨g,k,bv,K,R,e3,e4,M,H,N,V⟩:=I;obtain⟨g',k',l,q1,q2,Q,_⟩:=F;rw[K] at q1;injection q1 with q1;injection q1 with q1;injection q1 with q1 _ _;subst q1;have hn:¬(g=gx\/(C 0).ownBlock=γ g):=fun e=>by
    rcases e with e|e
    .omega
    .exact Q e
   exact⟨g,k,bv,K,R,e3,e4,M,ο H B.size,fun t u Y=>xC B H hn (N t u Y),V.fM B J⟩
def Gs.older(h:Gs w W gx gf gB gH C Bv brs n wv wd){wa}(x:Ext wa w)(Z:wa.heap.size<=gx):Ext wa W:=fQ x h.r.m (fun k j=>by have j:k=gx:=j;omega)
end
theorem SB{s p}(h:jq s p=0):jq s (resolve 0 p)=0:=by
 have Z:∀i,((resolve 0 p).links.getD i [])=(p.links.getD i []).map (mv 0):=fun i=>vT 0 p i;have j:(resolve 0 p).links.length=p.links.length:=by simp[resolve]
 have l:(resolve 0 p).closed=p.closed:=rfl;unfold jq at h⊢;rw[j,l];split at h
 .rename_i G
  rw[ι G];split at h
  .rename_i B
   rw[ι (by
    rw[qb] at B⊢;intro i hi;have:=B i hi;rw[Z,aar];exact this)]
   split at h
   .rename_i F
    rw[ι (by
     rw[qb] at F⊢;intro i hi;have C:=F i hi;rw[qb] at C⊢;rw[Z];intro x J;obtain⟨y,R,rfl⟩:=Nq.1 J;have D:=C y R;unfold mv;split
     .unfold lT at D⊢;simp_all
     .exact D)]
   .exact absurd h aj
  .exact absurd h aj
 .exact absurd h aj
def Jt{s p i b}(h:gG s p i=γ b):fV s p (i+1)=fV s p i++[b]:=by
 show fV s p i++(gG s p i).toList=_;rw[h];rfl
def zK{s p i}(h:gG s p i=δ):fV s p (i+1)=fV s p i:=by
 show fV s p i++(gG s p i).toList=_;rw[h];simp
theorem Cu{s p i}(h:jZ s p i=ζ):gG s p i=δ:=by
 unfold gG;simp only[];rw[θ (by rw[h];decide)]
theorem Dr{s p i l e}(h:jZ s p i=ζ):lW s p l e i=ζ:=by
 unfold lW;rw[h];rfl
theorem sS{s p i l e}(h:(s.bays.getD i η).kind≠1):lW s p l e i=ζ:=by
 unfold lW;rw[π h];simp
def wd0 (s:StD) (p:dH) (k j:Nat):Option BrD:=if j<k then gG s p j else δ
structure Bt (w W:World) (gx gf gB g7 g8 g9:Nat) (ST PO FL:Array Value) (C:Nat->Value) (Bv:Nat->BrV) (wv:Nat->Value) (s:StD) (p:dH) (i k:Nat):Prop where
 g:Gs w W gx gf gB gB C Bv (fV s p i) s.bays.length wv (wd0 s p k)
 b7:Blk W g7 27 ST
 b8:Blk W g8 31 PO
 b9:Blk W g9 33 FL
 ends:∀l e,l<6->e<2->C (1+2*l+e)=.int .i64 (wL s p l e i:Nat)
 c14:C 14=.int .i64 0
 liv:∀k,k<18->C (15+k)=.bool ζ
section
variable {w W W' W2:World} {gx gf gB g7 g8 g9:Nat} {ST PO FL:Array Value} {C:Nat->Value} {Bv:Nat->BrV} {wv:Nat->Value} {s:StD} {p:dH} {i k:Nat}
def Bt.ext(h:Bt w W gx gf gB g7 g8 g9 ST PO FL C Bv wv s p i k)(x:Ext W W'):Bt w W' gx gf gB g7 g8 g9 ST PO FL C Bv wv s p i k:=
 ⟨h.g.ext x,h.b7.ext x,h.b8.ext x,h.b9.ext x,h.ends,h.c14,h.liv⟩
def Gs.congr{n gH brs}{wd l:Nat->Option BrD}(h:Gs w W gx gf gB gH C Bv brs n wv wd)(e:∀j,j<n->wd j=l j):Gs w W gx gf gB gH C Bv brs n wv l:=
 ⟨h.r,h.c13,h.bB,h.lB,fun j B=>by rw[<-e j B];exact h.wy j B⟩
theorem Iq{j}(hb:gG s p k=δ):wd0 s p k j=wd0 s p (k+1) j:=by
 unfold wd0;by_cases l:j<k
 .rw[ι l,ι aa]
 .by_cases B:j=k
  .subst B;rw[θ l,ι aa,hb]
  .rw[θ l,θ aa]
theorem QU{j b}(hb:gG s p k=γ b):upd (wd0 s p k) k (γ b) j=wd0 s p (k+1) j:=by
 by_cases l:j=k
 .subst l;rw[upd_same];unfold wd0;rw[ι aa,hb]
 .rw[upd_ne l];unfold wd0;by_cases B:j<k
  .rw[ι B,ι aa]
  .rw[θ B,θ aa]
def yD{l e}(h:lW s p l e i=ζ):wL s p l e (i+1)=wL s p l e i:=by
 show(if lW s p l e i=ε then iG s p i else wL s p l e i)=_;rw[h,θ aj]
def Bt.skip(h:Bt w W gx gf gB g7 g8 g9 ST PO FL C Bv wv s p i i)(hb:gG s p i=δ)(O:∀l e,lW s p l e i=ζ):Bt w W gx gf gB g7 g8 g9 ST PO FL C Bv wv s p (i+1) (i+1):=
 ⟨by rw[zK hb];exact h.g.congr fun j _=>Iq hb,h.b7,h.b8,h.b9,fun l e Z B=>by rw[yD (O l e)];exact h.ends l e Z B,h.c14,h.liv⟩
theorem Bt.line(h:Bt w W gx gf gB g7 g8 g9 ST PO FL C Bv wv s p i i)(K:jZ s p i=ε){x:il}(J:s.bays.getD i η=x)(I:x.kind=1){l e:Nat}(P:x.obj=(l:Int))(L:x.en=(e:Int))(Z:l<6)(O:e<2){a:Nat}(ha:a=1+2*l+e)(N:W'=W.setCell ⟨gx,a,δ⟩ (.int .i64 (iG s p i:Nat))):Bt w W' gx gf gB g7 g8 g9 ST PO FL (upd C a (.int .i64 (iG s p i:Nat))) Bv wv s p (i+1) (i+1):=by
 subst ha;have hb:gG s p i=δ:=by
  unfold gG;simp only[];rw[J,ι K,θ aa,θ (fun e=>aa)]
 obtain⟨M,H⟩:=h.g.set (i:=1+2*l+e) (v:=.int .i64 (iG s p i:Nat)) aa aa aa rfl N;refine⟨by rw[zK hb];exact M.congr fun j _=>Iq hb,h.b7.mod H (Blk.eY h.b7 h.g.r.g aj),h.b8.mod H (Blk.eY h.b8 h.g.r.g aj),h.b9.mod H (Blk.eY h.b9 h.g.r.g aj),fun D G B F=> ?_,?_,fun k I=> ?_⟩
 .have hi:lW s p D G i=(decide (l=D)&&decide (e=G)):=by
   unfold lW;rw[K,J,I,P,L];simp only[acF,abv,Int.natCast_inj]
  by_cases Q:D=l/\G=e
  .obtain⟨rfl,rfl⟩:=Q;rw[upd_same];show _=Value.int .i64 ((if lW s p D G i=ε then iG s p i else wL s p D G i:Nat):Int);rw[hi,ι ag]
  .rw[upd_ne aa,yD (by rw[hi];simp;omega)];exact h.ends D G B F
 .rw[upd_ne aa];exact h.c14
 .rw[upd_ne aa];exact h.liv k I
def Bt.ptr(h:Bt w W gx gf gB g7 g8 g9 ST PO FL C Bv wv s p i i)(hi:i<s.bays.length){b}(hb:gG s p i=γ b){v}(hv:ny W w.heap.size (C 0) gB gB v (γ b))(B:W'=W.setCell ⟨gB,i,δ⟩ v):Bt w W' gx gf gB g7 g8 g9 ST PO FL C Bv (upd wv i v) s p i (i+1)/\Mod (fun k=>k=gB) W W'/\iq (fun k=>k=gB) W:=by
 obtain⟨D,l,F⟩:=h.g.ptr hi hv B;exact⟨⟨D.congr fun j _=>QU hb,h.b7.mod l (Blk.eY h.b7 h.g.bB aj),h.b8.mod l (Blk.eY h.b8 h.g.bB aj),h.b9.mod l (Blk.eY h.b9 h.g.bB aj),h.ends,h.c14,h.liv⟩,l,F⟩
def Bt.push(h:Bt w W gx gf gB g7 g8 g9 ST PO FL C Bv wv s p i (i+1)){b}(hb:gG s p i=γ b)(O:∀l e,lW s p l e i=ζ){r L}(H:sK W r b)(G:oF W' w.heap.size L ((fV s p i).length+1) (upd Bv (fV s p i).length r))(I:Mod (fun g=>(C 0).ownBlock=γ g) W W')(hv:∀g,L.ownBlock=γ g->(C 0).ownBlock=γ g\/g=W.heap.size)(F:W2=W'.setCell ⟨gx,0,δ⟩ L):
  Bt w W2 gx gf gB g7 g8 g9 ST PO FL (upd C 0 L) (upd Bv (fV s p i).length r) wv s p (i+1) (i+1):=by
 obtain⟨D,j,J⟩:=h.g.push H G I hv F;refine⟨by rw[Jt hb];exact D,h.b7.mod j ?_,h.b8.mod j ?_,h.b9.mod j ?_,fun l e Z j=> ?_,?_,fun k B=> ?_⟩
 .exact AbB
 .rintro(e|e)
  .exact Blk.eY h.b8 h.g.r.g aj e
  .exact h.g.r.own.ne h.b8 aj e
 .rintro(e|e)
  .exact Blk.eY h.b9 h.g.r.g aj e
  .exact h.g.r.own.ne h.b9 aj e
 .rw[upd_ne aa,yD (O l e)];exact h.ends l e Z j
 .rw[upd_ne aa];exact h.c14
 .rw[upd_ne aa];exact h.liv k B
end
structure Du (w W:World) (gx gf:Nat) (C:Nat->Value) (Bv:Nat->BrV) (s:StD) (p:dH) (f:dY):Prop where
 r:Gr0 w W gx gf C (dD s p f).length Bv (dD s p f)
 ends:∀l e,l<6->e<2->C (1+2*l+e)=.int .i64 (jy s p l e:Nat)
 c14:C 14=.int .i64 (eZ s p f:Nat)
 liv:∀k,k<18->C (15+k)=.bool ζ
 bays:∃(gB:Nat) (wv:Nat->Value),C 13=.slice (γ (aM gB 0)) s.bays.length s.bays.length/\w.heap.size<=gB/\fP W gB 165 s.bays.length wv/\∀i,i<s.bays.length->oQ W gx (wv i) (way s p f i)/\∀g k,wv i=.pointer (γ (aM g k))->w.heap.size<=g
def Q6:(prog.info? 165).map (fun i=>(i.zero,i.size,i.bytes))=γ (γ (.pointer δ),1,8):=ah
theorem OP(n:Nat)(hn:n<=1000)(W:World):(Instr.makeSlice 98 (.int .i64 n) (.int .i64 n)).run prog W=.ok (.slice (γ (aM W.heap.size 0)) n n) (W.alloc (.cells (ofC n fun _=> .pointer δ) 165)):=by
 obtain⟨i0,M,j,l,O⟩:=abL Q6;have h:=ac8 (P:=prog) W 98 165 i0 (.pointer δ) underlying98 M j .i64 .i64 n n aa aa Abf aa;rw[h,l];have e:=qU [Value.pointer δ] aj n;have B:(oJ n [Value.pointer δ]).toArray=ofC n fun _=>Value.pointer δ:=by
  apply Array.ext';unfold oJ ofC;simp[List.flatMap,List.map_const']
 rw[B] at e;simp only[Ex];rw[show(Value.pointer δ).cells=[Value.pointer δ].toArray from rfl];exact congrArg (fun c=>Result.ok (Value.slice (γ (aM W.heap.size 0)) n n) (W.alloc (.cells c 165))) e
def qo:Op->Bool
 | .nilCheck _=>ε
 |o=>iZ o
def Ao{P w w'}{n:Next}(h:Sem.run P (runtimePanic (α:=Next) .nilDeref) w=.ok n w'):False:=by
 simp[runtimePanic,aaD] at h
theorem Xx{P}{ev:Operand->Value}{o}{x:Operand}{w w'}{n:Next}(j:o.op=.nilCheck x)(h:(execOp ev o).run P w=.ok n w'):∃v,n=.value v:=by
 unfold execOp at h;simp only[j] at h;split at h
 .exact(Ao h).elim
 .exact(Ao h).elim
 .exact(Ao h).elim
 .split at h
  .exact(Ao h).elim
  .simp only[aaD] at h;generalize Sem.run P program w=r1 at h;cases r1 with
   |halt x w=>simp[Result.andThen] at h
   |ok p w1=>
    simp only[aax] at h;generalize Sem.run P (nilAhead _ _ _ _) w1=r2 at h;cases r2 with
    |halt x w=>simp[Result.andThen] at h
    |ok b w2=>
     simp only[aax] at h;split at h
     .simp[unsupported,Result.andThen] at h
     .simp at h;exact⟨_,h.1.symm⟩
  .simp at h;exact⟨_,h.1.symm⟩
 .simp at h;exact⟨_,h.1.symm⟩
def BV{P}{ev:Operand->Value}{o w w'}(hp:qo o.op=ε)(h:(execOp ev o).run P w=.ok .skip w'):False:=by
 by_cases hn:∃x,o.op=.nilCheck x
 .obtain⟨x,J⟩:=hn;obtain⟨v,hv⟩:=Xx J h;cases hv
 .refine vL (o:=o) ?_ h;exact Abx
def zZ{P}{ev:Operand->Value}{o w w' f args}(hp:qo o.op=ε)(h:(execOp ev o).run P w=.ok (.enter f args) w'):False:=by
 by_cases hn:∃x,o.op=.nilCheck x
 .obtain⟨x,J⟩:=hn;obtain⟨v,hv⟩:=Xx J h;cases hv
 .refine mK (o:=o) ?_ h;exact Abx
section
variable {P:Program} {ops:Array Oper} {Q Q':Exit->Act->World->Prop} {S:World->Prop}
theorem DF{o a v}(hp:qo o.op=ε)(B:Region.wanted o (yielded ops a.tmps)=ε)(h:∀w,S w->o.quietAt P a S w v):YieldsIf P ops S o v a:=by
 refine .inl ⟨B,fun w hS=> ?_⟩;have j:=h w hS;unfold Oper.quietAt at j;generalize l:(execOp a.eval o).run P w=C at*
 cases C with
 |ok nx w'=>
  cases nx<;>simp only[Oper.quietUpon] at j
  case value u=>obtain⟨rfl,rfl⟩:=j;rfl
  case skip=>exact(BV hp l).elim
  case enter f args=>exact(zZ hp l).elim
 |halt x w'=>simp only[Oper.quietUpon] at j
def wV (ops:Array Oper) (n:Nat):List (Bool×Nat)->Array Bool->Bool
 |[],listed=>Region.seqB .any ops (ops.size-n) n listed
 |(ε,i)::rest,listed=>((ops[i]?).map fun o=>qo o.op).getD ζ&&Region.free .any ops listed i&&(Region.ready .any ops listed).contains i&&decide (i<n)&&wV ops n rest (listed.setIfInBounds i ε)
 |(ζ,i)::rest,listed=>decide (Region.ready .any ops listed=[i])&&decide (i<n)&&wV ops n rest (listed.setIfInBounds i ε)
theorem pE{n}{L:Act->World->Prop}(C:Region.noSelect ops=ε)(hs:Region.sinkB .any ops n=ε)(hc:Region.chainB .any ops n=ε)(hn:n<ops.size):
  ∀(ord:List (Bool×Nat)) (B:Array Bool) (a:Act) (w:World),HeadInv .any ops n B->wV ops n ord B=ε->S w->cK P ops S L ord a w->
  sV P ops S n (fun I a' w'=>Region.seqB .any ops (ops.size-n) n I=ε/\L a' w') ord.length B a w
 |[],B,a,w,_,hB,_,h=>⟨by simpa[wV] using hB,h⟩
 |(ε,i)::rest,B,a,w,inv,hB,hS,h=>by
  simp only[wV,ρ,Θ] at hB;obtain⟨⟨⟨⟨hp,O⟩,T⟩,D⟩,M⟩:=hB;have G:i∈Region.ready .any ops B:=by simpa using T
  unfold cK at h;cases l:ops[i]? with
  |none=>simp[l] at h
  |some o=>
   simp only[l] at h;have J:qo o.op=ε:=by simpa[l] using hp
   by_cases F:Region.wanted o (yielded ops a.tmps)=ε
   .rw[ι F] at h;obtain⟨v,R,Q⟩:=h;exact jU (v:=v) l (aaF C) hs hc hn D (fun _ _ _ H=>ab3 H.1) _ _ _ _ inv (aa4 l O) G (DF J F R) hS (pE C hs hc hn rest _ _ _ (inv.set G D) M hS Q)
   .rw[θ F] at h;exact jU (v:=undef) l (aaF C) hs hc hn D (fun _ _ _ H=>ab3 H.1) _ _ _ _ inv (aa4 l O) G (.inr ⟨by simpa using F,rfl⟩) hS (pE C hs hc hn rest _ _ _ (inv.set G D) M hS h)
 |(ζ,i)::rest,B,a,w,inv,hB,hS,h=>by
  simp only[wV,ρ,Θ] at hB;unfold cK at h;refine⟨by rw[hB.1.1];simp,fun j N=> ?_⟩;have K:=N;rw[hB.1.1] at N;obtain rfl:j=i:=by simpa using N
  exact⟨hB.1.2,acJ (fun a' w' h=>⟨h.1,pE C hs hc hn rest _ _ _ (inv.set K hB.1.2) hB.2 h.1 h.2⟩) h⟩
def jB{I a}{w:World}{l:List Oper}(n S)(ord:List (Bool×Nat))(O:P.follows .mixedOrders=ε)(M:(Region.noSelect l.toArray&&Region.sinkB .any l.toArray n&&Region.chainB .any l.toArray n&&decide (n<l.length)&&decide (ord.length=n)&&wV l.toArray n ord (Array.replicate l.length ζ))=ε)(hS:S w.drew)(h:cK P l.toArray S (fun a' w'=>wpList P l.toArray Q (l.drop n) a' w') ord a w.drew):(Code.region I l.toArray ε).wp P Q a w:=by
 simp only[ρ,Θ] at M;obtain⟨⟨⟨⟨⟨C,hs⟩,hc⟩,hn⟩,T⟩,F⟩:=M;have J:n<l.toArray.size:=by simpa using hn
 have D:HeadInv .any l.toArray n (Array.replicate l.length ζ):=
  ⟨ag,fun j U _ Z=>AaX,fun t _ N=>aen (by simpa using N) (aaU _ _)⟩
 have H:=pE (P:=P) C hs hc J ord _ a w.drew D F hS h;have G:(l.drop n).length=l.toArray.size-n:=ag;have K:=nU (P:=P) (Q:=Q) (n:=n) (g:=l.toArray.size-n) (fun B a' w' L=>by
  have:=aco (P:=P) (ops:=l.toArray) (md:=.any) (Q':=Q) (l.drop n) n B a' w' (fun j=>ag) (by rw[G];exact L.1) L.2;rwa[G] at this) _ _ _ _ H
 exact Ab5
end
def hfs (s:StD) (p:dH) (f:dY) (k:Nat):BrD:=half s p f (k/2) (k%2)
structure Li (w W:World) (gx gf gB gH g6 g7:Nat) (ST FL:Array Value) (C:Nat->Value) (Bv:Nat->BrV) (wv:Nat->Value) (H:Nat->BrV) (s:StD) (p:dH) (f:dY) (n1:Nat) (brs:List BrD) (fv m:Nat):Prop where
 g:Gs w W gx gf gB gH C Bv brs s.bays.length wv (wd0 s p s.bays.length)
 bH:Blk W gH 221 (brc (n1*2) H).toArray
 lH:w.heap.size<=gH
 b6:Blk W g6 27 ST
 b7:Blk W g7 33 FL
 hv:∀k,k<m->sK W (H k) (hfs s p f k)
 ends:∀l e,l<6->e<2->C (1+2*l+e)=.int .i64 (jy s p l e:Nat)
 c14:C 14=.int .i64 (fv:Int)
 liv:∀k,k<18->C (15+k)=.bool ζ
section
variable {w W W' W2:World} {gx gf gB gH g6 g7 n1 fv m:Nat} {ST FL:Array Value} {C:Nat->Value} {Bv:Nat->BrV} {wv:Nat->Value} {H:Nat->BrV} {s:StD} {p:dH} {f:dY} {brs:List BrD}
def Li.ext(h:Li w W gx gf gB gH g6 g7 ST FL C Bv wv H s p f n1 brs fv m)(x:Ext W W'):Li w W' gx gf gB gH g6 g7 ST FL C Bv wv H s p f n1 brs fv m:=
 ⟨h.g.ext x,h.bH.ext x,h.lH,h.b6.ext x,h.b7.ext x,fun k j=>(h.hv k j).ext x,h.ends,h.c14,h.liv⟩
def Li.set(h:Li w W gx gf gB gH g6 g7 ST FL C Bv wv H s p f n1 brs fv m)(j:Nat)(F:W'=W.setCell ⟨gx,14,δ⟩ (.int .i64 (j:Int))):Li w W' gx gf gB gH g6 g7 ST FL (upd C 14 (.int .i64 (j:Int))) Bv wv H s p f n1 brs j m:=by
 obtain⟨G,B⟩:=h.g.set (i:=14) (v:=.int .i64 (j:Int)) aa aa aa rfl F;exact⟨G,h.bH.mod B (Blk.eY h.bH h.g.r.g aj),h.lH,h.b6.mod B (Blk.eY h.b6 h.g.r.g aj),h.b7.mod B (Blk.eY h.b7 h.g.r.g aj),fun k D=>(h.hv k D).fM B h.g.r.far,fun l e Z O=>by rw[upd_ne aa];exact h.ends l e Z O,upd_same ..,fun k D=>by rw[upd_ne aa];exact h.liv k D⟩
def Li.Xu(h:Li w W gx gf gB gH g6 g7 ST FL C Bv wv H s p f n1 brs fv m):iq (fun k=>k=gH) W:=fun k l _=>by
 have l:k=gH:=l;rw[l];exact⟨_,_,h.bH,fun j v hv=>G9 j v (by rwa[Γ] at hv)⟩
def Li.half(h:Li w W gx gf gB gH g6 g7 ST FL C Bv wv H s p f n1 brs fv m){r}(L:sK W r (hfs s p f m))(O:m<n1*2)(K:W'=puts W gH (m*20) r.cs):Li w W' gx gf gB gH g6 g7 ST FL C Bv wv (upd H m r) s p f n1 brs fv (m+1):=by
 have D:Mod (fun k=>k=gH) W W':=by rw[K];exact Mod.puts _ _ _ _ rfl
 have F:=h.Xu;have lH:=h.lH;have lx:=h.g.r.lx;have lB:=h.g.lB;have N:∀g,(C 0).ownBlock=γ g->¬g=gH:=fun g I e=>by
  subst e;exact h.g.r.own.ne h.bH aj I
 refine⟨⟨h.g.r.mod D (fun k J=>by have J:k=gH:=J;omega) F N,h.g.c13,h.g.bB.mod D (Blk.eY h.g.bB h.bH aj),lB,fun j P=>(h.g.wy j P).mod D F (fun g I=> .inr (.inr (.inr I)))⟩,?_,lH,h.b6.mod D (Blk.eY h.b6 h.bH aj),h.b7.mod D (Blk.eY h.b7 h.bH aj),fun k J=> ?_,h.ends,h.c14,h.liv⟩
 .have G:=dm (m*20) r.cs h.bH;rw[jL,iO,χ (l:=r.cs) (by rw[iO,jK];omega)] at G;rw[K];have M:=NL (B:=H) (k:=m) (n:=n1*2) r O;rw[M] at G;exact G
 .by_cases e:k=m
  .subst e;rw[upd_same];exact L.fM D F
  .rw[upd_ne e];exact(h.hv k aa).fM D F
def Li.push(h:Li w W gx gf gB gH g6 g7 ST FL C Bv wv H s p f n1 brs fv m){b r L}(I:sK W r b)(G:oF W' w.heap.size L (brs.length+1) (upd Bv brs.length r))(F:Mod (fun g=>(C 0).ownBlock=γ g) W W')(hv:∀g,L.ownBlock=γ g->(C 0).ownBlock=γ g\/g=W.heap.size)(D:W2=W'.setCell ⟨gx,0,δ⟩ L):
  Li w W2 gx gf gB gH g6 g7 ST FL (upd C 0 L) (upd Bv brs.length r) wv H s p f n1 (brs++[b]) fv m:=by
 obtain⟨J,j,K⟩:=h.g.push I G F hv D;refine⟨J,h.bH.mod j ?_,h.lH,h.b6.mod j ?_,h.b7.mod j ?_,fun k B=>(h.hv k B).fM j K,fun l e Z j=> ?_,?_,fun k B=> ?_⟩
 .rintro(e|e)
  .exact Blk.eY h.bH h.g.r.g aj e
  .exact h.g.r.own.ne h.bH aj e
 .rintro(e|e)
  .exact Blk.eY h.b6 h.g.r.g aj e
  .exact h.g.r.own.ne h.b6 aj e
 .exact AbB
 .rw[upd_ne aa];exact h.ends l e Z j
 .rw[upd_ne aa];exact h.c14
 .rw[upd_ne aa];exact h.liv k B
def afT(G:Gs w W gx gf gB gB C Bv brs s.bays.length wv (wd0 s p s.bays.length))(O:∀l e,l<6->e<2->C (1+2*l+e)=.int .i64 (jy s p l e:Nat))(F:C 14=.int .i64 (fv:Int))(Z:∀k,k<18->C (15+k)=.bool ζ)(x:Ext W W2)(b6:Blk W2 g6 27 ST)(b7:Blk W2 g7 33 FL):
  Li w (W2.alloc (.cells (brc (n1*2) fun _=>kY).toArray 221)) gx gf gB W2.heap.size g6 g7 ST FL C Bv wv (fun _=>kY) s p f n1 brs fv 0:=by
 have D:Ext W2 (W2.alloc (.cells (brc (n1*2) fun _=>kY).toArray 221)):=Ext.new _ _;have B:=(G.ext x).ext D;have hs:=(G.ext x).r.m.size;exact⟨⟨B.r,B.c13,B.bB,B.lB,fun j I=>((G.wy j I).ext x).Yo D (κ _)⟩,Blk.new _ _ _,hs,b6.ext D,b7.ext D,fun k H=>absurd H aa,O,F,Z⟩
end
def Pn:(prog.info? 221).map (fun i=>(i.zero,i.size,i.bytes))=γ (γ (.agg (brc 2 fun _=>kY).toArray),40,608):=ah
def zy:∀n:Nat,oJ n (brc 2 fun _=>kY)=brc (n*2) fun _=>kY
 |0=>rfl
 |n+1=>by
  rw[qM,zy n,Ai,show(n+1)*2=n*2+2 by omega];simp only[adw]
def JI(n:Nat)(hn:n<=1000)(W:World):(Instr.makeSlice 220 (.int .i64 n) (.int .i64 n)).run prog W=.ok (.slice (γ (aM W.heap.size 0)) n n) (W.alloc (.cells (brc (n*2) fun _=>kY).toArray 221)):=by
 obtain⟨i0,M,j,l,O⟩:=abL Pn;have h:=ac8 (P:=prog) W 220 221 i0 (.agg (brc 2 fun _=>kY).toArray) underlying220 M j .i64 .i64 n n aa aa Abf aa;rw[h,l];have e:=qU (brc 2 fun _=>kY) (by rw[jK];omega) n;rw[jK,zy] at e;simp only[Ex];rw[show(Value.agg (brc 2 fun _=>kY).toArray).cells=(brc 2 fun _=>kY).toArray from rfl,e]
def Ae{w wd j:World}{t}{z cs:List Value}(Z:z.length=cs.length)(hd:wd=w.alloc (.cells z.toArray t))(O:j=puts wd w.heap.size 0 cs):Blk j w.heap.size t cs.toArray/\Ext w j:=by
 have l:Blk wd w.heap.size t z.toArray:=by rw[hd];exact Blk.new _ _ _
 have H:Ext w wd:=by rw[hd];exact Ext.new _ _
 refine⟨?_,by rw[O];exact fK (κ _:Own w w.heap.size) 0 _ H⟩;have B:Blk (puts wd w.heap.size 0 cs) w.heap.size t (gI z.toArray 0 cs):=dm 0 cs l;rw[iA z cs Z] at B;rw[O];exact B
def twC (a b:Int):List Value:=[.int .i64 a,.int .i64 b]
def Gd(a b):(prog.info? 64).map (·.size)=γ (twC a b).length:=ah
theorem Rl(a b):∀v∈twC a b,v.oneCell'=ε:=by
 intro v hv;unfold twC at hv;simp only[lh,I6,aaM] at hv;rcases hv with rfl|rfl<;>rfl
def oF.form{w B0 k v B}(h:oF w B0 v k B)(j:0<k):∃g c,v=.slice (γ (aM g 0)) k c:=by
 rcases h with ⟨_,h⟩|⟨g,G,_,h,_⟩
 .omega
 .exact⟨g,G,h⟩
def sH(s p):∀i,(fV s p i).length<=i
 |0=>κ _
 |i+1=>by
  show(fV s p i++(gG s p i).toList).length<=i+1;have:=sH s p i;cases gG s p i<;>simp<;>omega
def Tz:(prog.info? 42).map (·.zero)=γ (γ (.agg zEn.cells.toArray)):=ah
def UF(a:En):(prog.info? 42).map (·.size)=γ a.cells.length:=ah
def Wx{w W W':World}{g}{a:En}(hb:Blk W g 42 zEn.cells.toArray)(J:Ext w W)(Z:w.heap.size<=g)(B:W'=puts W g 0 a.cells):Blk W' g 42 a.cells.toArray/\Ext w W'/\∀(v:Value) (q:GQ) (n:Nat),GV W v q n->GV W' v q n:=by
 have C:Mod (fun k=>k=g) W W':=by rw[B];exact Mod.puts _ _ _ _ rfl
 have D:Far (fun k=>k=g) W:=fun k j _=>by
  have j:k=g:=j;rw[j];exact⟨_,_,hb,dI 1 (fun _=>zEn)⟩
 refine⟨?_,fQ J C (fun k j=>by have j:k=g:=j;omega),fun v q n h=>h.mod C D⟩;have l:=dm 0 a.cells hb;rw[iA _ _ rf] at l;rw[B];exact l
def Fx(a b:En):(prog.info? 103).map (·.size)=γ (a.cells++b.cells).length:=ah
def F7(a b:En):∀v∈a.cells++b.cells,v.oneCell'=ε:=by
 intro v hv;rcases aaH.1 hv with h|h
 .exact eO a v h
 .exact eO b v h
def uj(b:BrV):(prog.info? 167).map (·.size)=γ b.cs.length:=by rw[iO];kernel_rfl
def Kj{w W W':World}{g}{a b:En}(hb:Blk W g 103 (bD 2 fun _=>zEn).toArray)(J:Ext w W)(Z:w.heap.size<=g)(B:W'=puts W g 0 (a.cells++b.cells)):Blk W' g 103 (a.cells++b.cells).toArray/\Ext w W'/\∀(v:Value) (q:GQ) (n:Nat),GV W v q n->GV W' v q n:=by
 have C:Mod (fun k=>k=g) W W':=by rw[B];exact Mod.puts _ _ _ _ rfl
 have D:Far (fun k=>k=g) W:=fun k j _=>by
  have j:k=g:=j;rw[j];exact⟨_,_,hb,dI 2 _⟩
 refine⟨?_,fQ J C (fun k j=>by have j:k=g:=j;omega),fun v q n h=>h.mod C D⟩;have l:=dm 0 (a.cells++b.cells) hb;rw[iA _ _ rf] at l;rw[B];exact l
def Gg:List Value:=[.string ByteArray.empty,.int .i64 0,.int .i64 0,.int .i64 0,.int .i64 0]
def Oo:(prog.info? 63).map (·.zero)=γ (γ (.agg Gg.toArray)):=ah
def EQ(g):(prog.info? 63).map (·.size)=γ (ry g).length:=ah
theorem Qj(b):∀v∈ry b,v.oneCell'=ε:=by
 intro v hv;unfold ry at hv;simp only[lh,I6,aaM] at hv;rcases hv with rfl|rfl|rfl|rfl|rfl<;>rfl
theorem zS(s p f):∀l,(fG s p f l).length<=2*l
 |0=>κ _
 |l+1=>by
  show(fG s p f l++kZ s p f l).length<=2*(l+1);have:=zS s p f l;unfold kZ;split<;>simp<;>omega
def IL:∀(a b:List Value) (w:World) (g k:Nat),puts w g k (a++b)=puts (puts w g k a) g (k+a.length) b
 |[],b,w,g,k=>rfl
 |x::a,b,w,g,k=>by
  show puts (w.setCell ⟨g,k,δ⟩ x) g (k+1) (a++b)=puts (puts (w.setCell ⟨g,k,δ⟩ x) g (k+1) a) g (k+(a.length+1)) b;rw[IL a b,show k+(a.length+1)=k+1+a.length by omega]
def Li.rng{w W gx gf gB gH g6 g7 n1 fv m ST FL C Bv wv H s p f brs}(h:Li w W gx gf gB gH g6 g7 ST FL C Bv wv H s p f n1 brs fv m){k o}(l:k<n1*2)(B:o=k*20):W.rangeAt gH o (H k).cs:=fun t v hv=>by
 have j:t<20:=by have:=(μ.1 hv).1;rwa[iO] at this
 subst B;rw[h.bH.cell,Γ,vW j l];exact hv
def Pq(a b:BrV):(prog.info? 221).map (·.size)=γ (a.cs++b.cs).length:=by rw[nH,iO,iO];kernel_rfl
def PL(a b:BrV):∀v∈a.cs++b.cs,v.oneCell'=ε:=by
 intro v hv;rcases aaH.1 hv with h|h
 .exact yJ a v h
 .exact yJ b v h
theorem Li.fin{w W W' gx gf gB gH g6 g7 ST FL C Bv wv K H s p f fv}(h:Li w W gx gf gB gH g6 g7 ST FL C Bv wv H s p f s.lines.length (dD s p f) fv (2*s.lines.length))(P:fv=eZ s p f)(L:jG s)(M:Mod (fun k=>k=gB) W W')(hb:fP W' gB 165 s.bays.length K)(S:∀j,j<s.bays.length->K j=if (s.bays.getD j η).kind=1 then .pointer (γ (aM gH ((s.bays.getD j η).obj.toNat*40+(s.bays.getD j η).en.toNat*20))) else wv j):Du w W' gx gf C Bv s p f:=by
 have R:=h.g.XR (fun j J=>(h.g.wy j J).nY);have lB:=h.g.lB;have lx:=h.g.r.lx;have lH:=h.lH;have D:gH≠gB:=Blk.eY h.bH h.g.bB aj;refine⟨h.g.r.mod M (fun k G=>by have G:k=gB:=G;omega) R (fun g N e=> ?_),h.ends,by rw[<-P];exact h.c14,h.liv,gB,K,h.g.c13,lB,hb,fun j J=> ?_⟩
 .have e:g=gB:=e;subst e;exact h.g.r.own.ne h.g.bB aj N
 .rw[S j J];by_cases G:(s.bays.getD j η).kind=1
  .rw[ι G];have ho:=RO (L.obj j J) G;have O:=QM (L.rng j J);obtain⟨l,Z⟩:∃l:Nat,(s.bays.getD j η).obj.toNat=l:=⟨_,rfl⟩;obtain⟨e,B⟩:∃e:Nat,(s.bays.getD j η).en.toNat=e:=⟨_,rfl⟩;have T:l<s.lines.length:=aa;have U:e<2:=aa;have V:way s p f j=γ (hfs s p f (2*l+e)):=by
    unfold way hfs;rw[ι G,Z,B,show(2*l+e)/2=l by omega,show(2*l+e)%2=e by omega]
   rw[V,Z,B];have F:=(h.hv (2*l+e) aa).fM M R;have Q:=h.rng (k:=2*l+e) (o:=l*40+e*20) aa aa;exact⟨⟨gH,l*40+e*20,H (2*l+e),rfl,aa,ο h.bH.lt M.size,fun t u Y=>xC M h.bH.lt D (Q t u Y),F.pa,F.pb,F.z0,F.z1,F.e⟩,fun g k I=>by injection I with I;injection I with I;injection I with I _ _;omega⟩
  .rw[θ G];have V:way s p f j=wd0 s p s.bays.length j:=by unfold way wd0;rw[θ G,ι J]
   rw[V];exact⟨((h.g.wy j J).mod M R (fun g N=> .inr (.inr (.inl N)))).is lx,fun g k I=>(h.g.wy j J).low I⟩
def ix0(a b V):Sem.run prog (Instr.index 64 (.agg #[.int .i64 a,.int .i64 b]) (.int .i64 0)) V=.ok (.int .i64 a) V:=ah
def ix1(a b V):Sem.run prog (Instr.index 64 (.agg #[.int .i64 a,.int .i64 b]) (.int .i64 1)) V=.ok (.int .i64 b) V:=ah
def Uv:(prog.info? 64).map (·.zero)=γ (γ (.agg (twC 0 0).toArray)):=ah
theorem Fq{A0 n0 c0 A1 n1 c1 A2 n2 c2 A3 n3 c3 LH s p C Bv wv}(f gx gf gB wa w W)(ZQ:Ext wa w)(cp:wa.heap.size<=gx)(hs:j5 wa A0 n0 c0 A1 n1 c1 A2 n2 c2 A3 n3 c3 LH s)(YC:jG s)(Zp:oh s.buses.length s.lines.length f)(hG:Gs w W gx gf gB gB C Bv (fV s p s.bays.length) s.bays.length wv (wd0 s p s.bays.length))(O:∀l e,l<6->e<2->C (1+2*l+e)=.int .i64 (jy s p l e:Nat))(ZP:C 14=.int .i64 ((if f.kind≠0/\f.line=ζ then 13+((groups s p).getD f.obj.toNat 0).toNat else 17:Nat):Int))(Z:∀k,k<18->C (15+k)=.bool ζ):
  Calls prog 122 #[aN gx 0,aN gf 0,stV s.name A0 n0 c0 A1 n1 c1 A2 n2 c2 A3 n3 c3,nX f] W fun r W'=>r=.returned (.tuple #[])/\∃C' cT,Du w W' gx gf C' cT s p f:=by
 obtain rfl:=hs.l1;obtain rfl:=hs.l3;obtain⟨f0,bw⟩:∃n:Nat,(if f.kind≠0/\f.line=ζ then 13+((groups s p).getD f.obj.toNat 0).toNat else 17)=n:=⟨_,rfl⟩;rw[bw] at ZP;have cF:=aW bw;have Zw:=aW ZQ;have Zo:=aW cp;have Yw:=aW hs;have YH:=aW YC;have ZR:=aW Zp;obtain⟨P,Q,YS⟩:=an2 W 27 #[s.name,aO A0 n0 c0,aO A1 s.lines.length c1,aO A2 n2 c2,aO A3 s.bays.length c3] 33 #[f.kind,f.line,f.obj,f.num,f.den,f.r];have Ze:=aW (afT (f:=f) (n1:=s.lines.length) (W2:=(aL (aL W #[s.name,aO A0 n0 c0,aO A1 s.lines.length c1,aO A2 n2 c2,aO A3 s.bays.length c3] 27) #[f.kind,f.line,f.obj,f.num,f.den,f.r] 33)) hG O ZP Z P Q YS);have k6:=Q.cell;have cM:=Ze.b6.cell;have Zc:=fun V=>JI s.lines.length (by have:=YH.nl;omega) V;clear ZQ cp hs YC Zp hG O ZP Z bw P;unfold stV nX;go_enter func122,ntmps122;go_wp2_with fail;clear k6 cM Zc Q YS;(try simp only[fZ] at Ze⊢);generalize aU _ _=W0 at Ze⊢;generalize W.heap.size+1+1=gH at Ze⊢;generalize W.heap.size+1=g7 at Ze⊢;generalize W.heap.size=g6 at Ze⊢;go_loopw [25] (fun iv wr=>∃l:Nat,l<=s.lines.length/\iv=.int .i64 l/\∃C Bv H,Li w wr gx gf gB gH g6 g7 #[s.name,aO A0 n0 c0,aO A1 s.lines.length c1,aO A2 n2 c2,aO A3 s.bays.length c3] #[f.kind,f.line,f.obj,f.num,f.den,f.r] C Bv wv H s p f s.lines.length (fV s p s.bays.length++fG s p f l) (if f.line=ε/\f.obj<(l:Int) then 12 else f0) (2*l)) (aT s.lines.length)
 case atStart=>
  refine⟨0,aa,rfl,C,Bv,fun _=>kY,?_⟩;have e1:(if f.line=ε/\f.obj<((0:Nat):Int) then 12 else f0)=f0:=θ (fun e=>by have:=(ZR.line e.1).1.1;omega);rw[e1,show fG s p f 0=[] from rfl,Z6];exact Ze.o
 case round=>
  clear Ze;obtain⟨l,Z,rfl,C,Bv,H,hR⟩:=hrel;have HR:=aW hR;clear hR;rename World=>wr;by_cases Yp:l<s.lines.length
  .have hd:decide ((l:Int)<s.lines.length)=ε:=ae;have q1:(0:Int)<=l:=aa;have q2:(l:Int)<s.lines.length:=aa;have cl:l<6:=by have:=YH.nl;omega
   have q3:(l:Int)<6:=aa;have Zv:wrap64 ((l:Int)+1)=(l:Int)+1:=Aa _ aa;have Zg:=aW Zv;clear Zv;have Zm:=sH s p s.bays.length;have ZJ:=zS s p f l;have cn:=YH.nq;obtain⟨bb,YB⟩:∃x,fV s p s.bays.length++fG s p f l=x:=⟨_,rfl⟩;have ZH:Hid (bb.length<=28):=aW (by rw[<-YB,nH];omega);rw[YB] at HR;have YU:=aW YB;clear YB;clear Zm ZJ cn;have cx:=Yw.ext (HR.g.older Zw.o Zo.o);obtain⟨b,YY⟩:∃b,s.lines.getD l η=b:=⟨_,rfl⟩;obtain⟨gl,ol,cR,Zx,ZL⟩:=cx.lines.at_ Yp;rw[YY] at ZL;subst cR;have bi:=YH.line l Yp;rw[YY] at bi;have YA:=vJ.1 bi.1;have YJ:=vJ.1 bi.2;have YP:=aW YA;have YM:=aW YJ;have YT:=aW YY;clear YY bi YA YJ cx;have Yr:=aW (show wr.rangeAt gl (ol+l*5) (ry b) from ZL);clear ZL Zx;(go_wp2_with (refine υ rfl 63 _ rfl gl (ol+l*5) rf (ry b) _ Yr.o underlying63 rfl (EQ _) (Hid.o ?_)));refine Qz ?_;(go_wp2_with (refine bJ rfl 63 rfl _ Oo (fun cb G=>Hid.o ?_)));refine Qz ?_;replace G:=Hid.o G;have ZN:=aW G;clear G;have N:Hid (cb.there wr.heap.size 0 (ry b).length):=aW (by rw[ZN.o];exact(Blk.new wr 63 Gg.toArray).there (show 0+(ry b).length<=Gg.toArray.size from κ 5));(go_wp2_with (refine bf rfl 63 (.tmp 10) (.tmp 29) rfl wr.heap.size (0) (ry b) rf rf N.o (EQ _) (Qj _) (fun Zz G=>Hid.o ?_)));refine Qz ?_;replace G:=Hid.o G;have HO:=Ae (z:=Gg) (cs:=ry b) rfl ZN.o G;have B:Hid (Blk Zz wr.heap.size 63 #[b.name,b.z1.r,b.z1.x,b.z0.r,b.z0.x]):=aW HO.1;replace HR:=HR.aA HO.2;clear HO ZN G N Yr;generalize wr.heap.size=g10 at B⊢;obtain⟨ea,cw⟩:∃n:Nat,jy s p l 0=n:=⟨_,rfl⟩;obtain⟨eb,ck⟩:∃n:Nat,jy s p l 1=n:=⟨_,rfl⟩;have bk:=aW cw;have bn:=aW ck;clear cw ck;have Yr:Hid (Zz.rangeAt gx (1+l*2) (twC (ea:Int) (eb:Int))):=aW (HR.g.r.g.rangeAt (by show 1+l*2+2<=393;omega) (fun j v hv=>by
    have hj:j<2:=(μ.1 hv).1;have h2:j=0\/j=1:=aa;rcases h2 with rfl|rfl
    .have h3:=HR.ends l 0 cl aa;rw[bk.o] at h3;rw[dR aa,show 1+l*2+0=1+2*l+0 by omega,h3];simpa[twC] using hv
    .have h3:=HR.ends l 1 cl aa;rw[bn.o] at h3;rw[dR aa,show 1+l*2+1=1+2*l+1 by omega,h3];simpa[twC] using hv))
   (go_wp2_with (refine υ rfl 64 _ rfl gx (1+l*2) rf (twC (ea:Int) (eb:Int)) _ Yr.o underlying64 rfl (Gd _ _) (Hid.o ?_)));refine Qz ?_;(go_wp2_with (refine bJ rfl 64 rfl _ Uv (fun cG G=>Hid.o ?_)));refine Qz ?_;replace G:=Hid.o G;have bV:=aW G;clear G;have N:Hid (cG.there Zz.heap.size 0 (twC (ea:Int) (eb:Int)).length):=aW (by rw[bV.o];exact(Blk.new Zz 64 (twC 0 0).toArray).there (show 0+(twC (ea:Int) (eb:Int)).length<=(twC 0 0).toArray.size from κ 2));(go_wp2_with (refine bf rfl 64 (.tmp 11) (.tmp 35) rfl Zz.heap.size (0) (twC (ea:Int) (eb:Int)) rf rf N.o (Gd _ _) (Rl _ _) (fun ZB G=>Hid.o ?_)));refine Qz ?_;replace G:=Hid.o G;have HO:=Ae (z:=twC 0 0) (cs:=twC (ea:Int) (eb:Int)) rfl bV.o G;have Yz:Hid (Blk ZB Zz.heap.size 64 #[ea,eb]):=aW HO.1;replace HR:=HR.aA HO.2;replace B:=B.aA HO.2;clear HO bV G N Yr;generalize Zz.heap.size=ZI at Yz⊢;by_cases YW:f.line=ε/\f.obj=(l:Int)
   .obtain⟨ZV,ax⟩:=YW;have bm:=aW ZV;have a4:=aW ax;have Zt:=ZR.line ZV;have YK:=aW Zt;have ZM:nu f l=ε:=by unfold nu;rw[ZV,ax];simp
    have Za:=aW ZM;clear ZM ZV ax;have Yt:hfs s p f (2*l+0)=⟨ea,12,b.z0,b.z1,f.num,f.den,0⟩:=by unfold hfs;rw[show(2*l+0)/2=l by omega,show(2*l+0)%2=0 by omega];unfold half;simp only[];rw[Za.o,ι rfl,bk.o,YT.o]<;>simp
    have aI:hfs s p f (2*l+1)=⟨eb,12,b.z0,b.z1,f.den-f.num,f.den,0⟩:=by unfold hfs;rw[show(2*l+1)/2=l by omega,show(2*l+1)%2=1 by omega];unfold half;simp only[];rw[Za.o,ι rfl,bn.o,YT.o]<;>simp
    have Zi:fG s p f (l+1)=fG s p f l++([⟨ea,12,b.z0,b.z1,f.num,f.den,0⟩]++[⟨eb,12,b.z0,b.z1,f.den-f.num,f.den,0⟩]):=by show fG s p f l++kZ s p f l=_;rw[<-Yt,<-aI];unfold kZ hfs;rw[Za.o,ι rfl,show(2*l+0)/2=l by omega,show(2*l+0)%2=0 by omega,show(2*l+1)/2=l by omega,show(2*l+1)%2=1 by omega];rfl
    have a2:(12:Nat)=(if f.line=ε/\f.obj<((l+1:Nat):Int) then 12 else f0):=by rw[ι ⟨bm.o,by have:=a4.o;omega⟩]
    have bo:=aW Yt;have bA:=aW aI;have YV:=aW Zi;have bt:=aW a2;clear Yt aI Zi a2;have YS:=HR.b7;rw[bm.o,a4.o] at YS;have k7:=YS.cell;clear YS;have kx:=HR.g.r.g.cell (k:=14) aa;have fx:=HR.g.r.g.frozen 14;have HQ:=aW (HR.set (W':=(ZB.setCell ⟨gx,14,δ⟩ (.int .i64 12))) 12 rfl);have ca:Mod (fun k=>k=gx) ZB (ZB.setCell ⟨gx,14,δ⟩ (.int .i64 12)):=Mod.set _ _ _ _ rfl;have af:=B.mod ca (Blk.eY B.o HR.g.r.g aj);have ai:=Yz.mod ca (Blk.eY Yz.o HR.g.r.g aj);replace B:=aW af;replace Yz:=aW ai;clear ca af ai;have cX:=HQ.b7.cell;have a7:wrap64 (f.den-f.num)=f.den-f.num:=Aa _ aa;have de:=aW a7;go_wp2_with fail;clear k7 cX kx fx a7 Zt HR;generalize (ZB.setCell ⟨gx,14,δ⟩ (.int .i64 12))=dk at HQ B Yz⊢;go_loopw [55] (fun iv wq=>∃e:Nat,e<=2/\iv=.int .i64 e/\Blk wq g10 63 #[b.name,b.z1.r,b.z1.x,b.z0.r,b.z0.x]/\Blk wq ZI 64 #[ea,eb]/\∃C Bv H bc,bc=bb++(if e=0 then [] else if e=1 then [⟨ea,12,b.z0,b.z1,f.num,f.den,0⟩] else [⟨ea,12,b.z0,b.z1,f.num,f.den,0⟩]++[⟨eb,12,b.z0,b.z1,f.den-f.num,f.den,0⟩])/\Li w wq gx gf gB gH g6 g7 #[s.name,aO A0 n0 c0,aO (γ (aM gl ol)) s.lines.length c1,aO A2 n2 c2,aO A3 s.bays.length c3] #[f.kind,f.line,f.obj,f.num,f.den,f.r] C Bv wv H s p f s.lines.length bc 12 (2*l+e)) (aT 2)
    case atStart=>exact⟨0,aa,rfl,B.o,Yz.o,_,_,_,_,(by rw[ι rfl,Z6]),HQ.o⟩
    case round=>
     clear HQ B Yz;obtain⟨e,O,rfl,ZW,ZK,C,Bv,H,bc,Zl,hR⟩:=hrel;have HR:=aW hR;have B:=aW ZW;have Yz:=aW ZK;clear hR ZW ZK;have h3:e=0\/e=1\/e=2:=aa;clear O;rcases h3 with rfl|rfl|rfl
     case' inr.inr=>
      rw[θ aj,θ aj] at Zl;have bp:=aW Zl;clear Zl;go_wp2_with fail
      go_roundw
      case rel=>exact⟨l+1,aa,rf,_,_,_,by rw[YV.o,<-HV,YU.o,<-bp.o,<-bt.o,show 2*(l+1)=2*l+2 by omega];exact HR.o⟩
      case measure=>exact aV
     case' inl=>
      rw[ι rfl,Z6] at Zl;subst Zl;have cr:=fun a b V=>ix0 a b V;obtain⟨ee,rfl⟩:∃x,x=ea:=⟨_,rfl⟩;obtain⟨k2,YI⟩:∃x,x=2*l+0:=⟨_,rfl⟩;obtain⟨mm,Zf⟩:∃x,f.num=x:=⟨_,rfl⟩;have HH:Hid (hfs s p f k2=⟨ee,12,b.z0,b.z1,mm,f.den,0⟩):=aW (by rw[YI,<-Zf];exact bo.o)
     case' inr.inl=>
      rw[θ aj,ι rfl] at Zl;have bp:=aW Zl;clear Zl;have ba:=ZH;clear ZH;have ZH:Hid (bc.length<=29):=aW (by rw[bp.o,nH];have:=ba.o;simp;omega);have cr:=fun a b V=>ix1 a b V;obtain⟨ee,rfl⟩:∃x,x=eb:=⟨_,rfl⟩;obtain⟨k2,YI⟩:∃x,x=2*l+1:=⟨_,rfl⟩;obtain⟨mm,Zf⟩:∃x,f.den-f.num=x:=⟨_,rfl⟩;have HH:Hid (hfs s p f k2=⟨ee,12,b.z0,b.z1,mm,f.den,0⟩):=aW (by rw[YI,<-Zf];exact bA.o)
     all_goals
      have a1:=aW YI;have be:=aW Zf;rw[<-YI] at HR;clear YI Zf;have ay:=aX.blk B.o;have cQ:=aX.blk HR.b7;go_wp2_with fail;clear cr;refine tR 16 [(6,.gv (zq b.z0 mm f.den) (64)),(13,.gv (zq b.z1 mm f.den) (64)),(15,.box 103 (bD 2 fun _=>zEn).toArray)] ?_;refine Qs ?_;refine eF rf rf rf ?_ ?_
      .intro R I;have hW:=I.1;clear I;go_simp;exact⟨rfl,(CS gf b.z0 _ f.den _ (dh.ext HR.g.r.c hW) AcJ AcJ Adm Adm).mono fun e w' ⟨v,O,hv,J⟩=>⟨v,O,J,yo (by rw[<-be.o];exact hv)⟩⟩
      intro v_ cd ci YG;obtain⟨R,Yy⟩:=YG;obtain⟨e0,rfl,-⟩:NR.holds (.gv (zq b.z0 mm f.den) (64)) cd ci v_ R:=Yy.get;clear Yy R;refine Qp ?_;refine Qs ?_;refine eF rf rf rf ?_ ?_
      .intro R I;have hW:=I.1;clear I;go_simp;exact⟨rfl,(CS gf b.z1 _ f.den _ (dh.ext HR.g.r.c hW) Ac4 Ac4 Adm Adm).mono fun e w' ⟨v,O,hv,J⟩=>⟨v,O,J,yo (by rw[<-be.o];exact hv)⟩⟩
      intro v_ a8 a9 YG;obtain⟨R,Yy⟩:=YG;obtain⟨e1,rfl,-⟩:NR.holds (.gv (zq b.z1 mm f.den) (64)) a8 a9 v_ R:=Yy.get;clear Yy R;refine Qp ?_;simp only[En.v,gv];refine Qs ?_;refine Eb ?_;intro Zh cB aE;refine bP ?_;intro wE I;have F:=I.ext;have ZU:=I.hR 6;have ZT:=I.hR 13;have ZC:=I.hB 15;have ZX:=aW (I.low 15 _ rf);clear aE;have Yx:=aW F;clear I F;have N:=aW (ZC.there (o:=0) (n:=(e0.cells++e1.cells).length) Ab9);refine bf rfl 103 (.tmp 14) (.tmp 73) rfl Zh (0) (e0.cells++e1.cells) rf rf N.o (Fx _ _) (F7 _ _) (fun bq G=> ?_);refine Qp ?_;replace G:=Hid.o G;obtain⟨ZO,ZY,aw⟩:=Kj ZC.o Yx.o ZX.o G;have a5:Hid (Blk bq Zh 103 #[e0.s1,aO e0.A1 e0.n1 e0.c1,e0.s2,aO e0.A2 e0.n2 e0.c2,e0.s3,aO e0.A3 e0.n3 e0.c3,e1.s1,aO e1.A1 e1.n1 e1.c1,e1.s2,aO e1.A2 e1.n2 e1.c2,e1.s3,aO e1.A3 e1.n3 e1.c3]):=aW ZO;have D:=aW (aw _ _ _ ZU.o);have Zj:=aW (aw _ _ _ ZT.o);replace HR:=HR.aA ZY;replace Yz:=Yz.aA ZY;replace B:=B.aA ZY;clear ZO ZY aw G N Yx ZU ZT ZC ZX ay cQ;have az:=aX.blk Yz.o;have cg:=aX.blk a5.o;go_wp2_with fail;refine tR 12 [(8,.gv (GQ.i 0 0) (64))] ?_;refine Qs ?_;refine Ee (fun R I=>dO gf 0 _ (dh.ext HR.g.r.c I.1) aa aa) ?_;intro e2 ce cf;simp only[En.v,gv];refine Qs ?_;refine bP ?_;intro wE I;have F:=I.ext;have ac:=I.hR 8;have Yx:=aW F;clear I F;have a3:sK wE (⟨ee,12,e0,e1,e2⟩:BrV) (hfs s p f k2):=by rw[HH.o];exact⟨rfl,rfl,D.ext Yx.o,Zj.ext Yx.o,ac.o⟩
      have ZZ:=aW a3;clear a3;replace HR:=HR.aA Yx.o;replace Yz:=Yz.aA Yx.o;replace B:=B.aA Yx.o;have HT:=aW (fun(o:Nat) (h:o+20<=s.lines.length*40)=>HR.bH.there (o:=o) (n:=(⟨ee,12,e0,e1,e2⟩:BrV).cs.length) (by rw[Ad,jK,iO];omega));refine bf rfl 167 (.tmp 85) (.tmp 83) rfl gH (_) ((⟨ee,12,e0,e1,e2⟩:BrV).cs) rf rf (HT.o _ aa) (uj _) (yJ _) (fun YE G=> ?_);refine Qp ?_;replace G:=Hid.o G;have hW:YE=puts wE gH (k2*20) (⟨ee,12,e0,e1,e2⟩:BrV).cs:=by rw[G];exact congrArg (fun o=>puts wE gH o _) Adv
      have YF:=HR.half ZZ.o Adv hW;have bx:Mod (fun k=>k=gH) wE YE:=by rw[hW];exact Mod.puts _ _ _ _ rfl
      have af:=B.mod bx (Blk.eY B.o HR.bH aj);have ai:=Yz.mod bx (Blk.eY Yz.o HR.bH aj);replace B:=aW af;replace Yz:=aW ai;clear bx af ai;obtain⟨H2,ar⟩:∃h,upd H k2 (⟨ee,12,e0,e1,e2⟩:BrV)=h:=⟨_,rfl⟩;rw[ar] at YF;have av:H2 k2=(⟨ee,12,e0,e1,e2⟩:BrV):=by rw[<-ar,upd_same]
      have YX:∀o,o=k2*20->YE.rangeAt gH o (⟨ee,12,e0,e1,e2⟩:BrV).cs:=fun o ho=>by have h:=YF.rng (k:=k2) (o:=o) Adv aa;rwa[av] at h
      have YZ:=YF.hv k2 aa;rw[av,HH.o] at YZ;have L:=aW YF;have Yr:=aW YX;have Zd:=aW YZ;clear hW YF ar av YX YZ G HT HR ZZ Yx a5 D Zj ac az cg;go_wp2_with fail;have b0:=fun x=>Kp3.a (b:=gx) (c:=gx) (L.g.r.g.cell_ (k:=0) aa (dR aa)) x;refine jB 13 (fun w'=>∃x:Kp3 YE gx gx gx,w'=x.val) [(ε,0),(ε,1),(ε,2),(ε,3),(ε,4),(ε,5),(ε,6),(ε,7),(ε,8),(ε,9),(ζ,10),(ζ,11),(ζ,12)] ah ah ⟨⟨YE.drew,rfl,rfl,rfl⟩,rfl⟩ ?_;refine bC [0,1,2,3,4,5,6,7,8,9] [(ζ,10),(ζ,11),(ζ,12)] _ ah ?_;refine Gq ?_;clear b0;refine bz 10 [(ζ,11),(ζ,12)] ah ?_;intro K I;simp only[bG];(go_wp2_with (refine υ rfl 167 _ rfl gH (_) rf ((⟨ee,12,e0,e1,e2⟩:BrV).cs) _ (Yr.o _ Adv) aaT rfl (uj _) (Hid.o ?_)));refine Qz ?_;go_wp2_with fail;refine I _ _ ⟨⟨YE.drew,rfl,rfl,rfl⟩,rfl⟩ ?_;clear I K Yr;simp only[BrV.cs];refine bz 11 [(ζ,12)] ah ?_;intro K I;simp only[bG];go_wp2_with fail;have aP:Hid (Blk (YE.drew.alloc (.cells (⟨ee,12,e0,e1,e2⟩:BrV).cs.toArray 167)) YE.heap.size 167 (⟨ee,12,e0,e1,e2⟩:BrV).cs.toArray):=aW (Blk.new YE.drew _ _);have Zk:Hid (Ext YE (YE.drew.alloc (.cells (⟨ee,12,e0,e1,e2⟩:BrV).cs.toArray 167))):=aW ((Ext.refl YE).drew.trans (Ext.new _ _));refine I _ _ (Kp3.of (S:=fun _=>False) (ae1 Zk.o) L.g.r.g.lt L.g.r.g.lt L.g.r.g.lt id id id) ?_;clear I K;have T:=aW (L.ext Zk.o);have YN:=L.g.r.m.size;refine bz 12 [] ah ?_;intro K I;simp only[bG];(go_wp2_with (at_builtin;refine nR rfl (.tmp 90) (.tmp 97) rfl rf rf T.g.r.own (by have:=ZH.o;omega) (Ξ YN Zk.size) aP.o (fun v2 w2 YQ ZA M=> ?_)));obtain⟨bl,ap,ZE⟩:=YQ.form aa;subst ZE;refine Qp ?_;go_wp2;refine I _ _ (Kp3.of ((ae1 Zk.o).trans ZA) L.g.r.g.lt L.g.r.g.lt L.g.r.g.lt (T.g.r.own.ne T.g.r.g aj) (T.g.r.own.ne T.g.r.g aj) (T.g.r.own.ne T.g.r.g aj)) ?_;clear I K;simp only[cK,ξ,τ];have Zq:=T.g.r.g.mod ZA (T.g.r.own.ne T.g.r.g aj);have kx:=Zq.cell (k:=0) aa;have fx:=Zq.frozen 0;have Zy:=aW (T.push (W2:=w2.setCell ⟨gx,0,δ⟩ (.slice (γ (aM bl 0)) (bc.length+1) ap)) (Zd.ext Zk.o) YQ ZA M rfl);have aB:=(T.g.push (W2:=w2.setCell ⟨gx,0,δ⟩ (.slice (γ (aM bl 0)) (bc.length+1) ap)) (Zd.ext Zk.o) YQ ZA M rfl).2.1;have ao:=B.ext Zk.o;replace B:=aW (ao.mod aB Abl);clear ao;have ao:=Yz.ext Zk.o;replace Yz:=aW (ao.mod aB Abl);clear ao;clear aB;clear T L Zd aP Zk Zq YQ ZA M YN;go_wp2_with fail
      go_roundw
      case rel=>
       have YL:=Zy.o;rw[a1.o] at YL
       first
       |exact⟨1,aa,rfl,B.o,Yz.o,_,_,_,_,(by rw[θ aj,ι rfl,be.o]),YL⟩
       |exact⟨2,aa,rfl,B.o,Yz.o,_,_,_,_,(by rw[θ aj,θ aj,bp.o,HV,be.o]),YL⟩
      case measure=>simp[aT,intOf]
   .have bh:=aW YW;clear YW;have ZM:nu f l=ζ:=by unfold nu;cases hq:f.line<;>simp;exact fun e=>bh.o ⟨hq,e⟩
    have Za:=aW ZM;clear ZM;have Yt:hfs s p f (2*l)=⟨ea,eb,b.z0,b.z1,1,1,0⟩:=by unfold hfs;rw[show 2*l/2=l by omega,show 2*l%2=0 by omega];unfold half;simp only[];rw[Za.o,θ aj,bk.o,show(1-0:Nat)=1 from rfl,bn.o,YT.o]
    have aI:hfs s p f (2*l+1)=⟨eb,ea,b.z0,b.z1,1,1,0⟩:=by unfold hfs;rw[show(2*l+1)/2=l by omega,show(2*l+1)%2=1 by omega];unfold half;simp only[];rw[Za.o,θ aj,bn.o,show(1-1:Nat)=0 from rfl,bk.o,YT.o]
    have Zi:fG s p f (l+1)=fG s p f l++[⟨ea,eb,b.z0,b.z1,1,1,0⟩]:=by show fG s p f l++kZ s p f l=_;rw[<-Yt];unfold kZ hfs;rw[Za.o,θ aj,show 2*l/2=l by omega,show 2*l%2=0 by omega]
    have a2:(if f.line=ε/\f.obj<(l:Int) then 12 else f0)=(if f.line=ε/\f.obj<((l+1:Nat):Int) then 12 else f0):=by
     by_cases h1:f.line=ε
     .have h2:f.obj≠(l:Int):=fun e=>bh.o ⟨h1,e⟩;by_cases h3:f.obj<(l:Int)
      .rw[ι ⟨h1,h3⟩,ι ⟨h1,aa⟩]
      .rw[θ (fun e=>h3 e.2),θ (fun e=>by have:=e.2;omega)]
     .rw[θ (fun e=>h1 e.1),θ (fun e=>h1 e.1)]
    have bo:=aW Yt;have bA:=aW aI;have YV:=aW Zi;have bt:=aW a2;clear Yt aI Zi a2;by_cases bg:f.line=ε
    case' neg=>
     have ZV:f.line=ζ:=by simpa using bg
     clear bg
    case' pos=>
     have ZV:=bg;clear bg;have bj:(f.obj==(l:Int))=ζ:=by have:f.obj≠(l:Int):=fun e=>bh.o ⟨ZV,e⟩;simpa using this
     have da:¬f.obj=(l:Int):=fun e=>bh.o ⟨ZV,e⟩
    all_goals
     have bm:=aW ZV;clear ZV;have YS:=HR.b7;rw[bm.o] at YS;have k7:=YS.cell;clear YS;have ay:=aX.blk B.o;go_wp2_with fail;clear k7;refine tR 10 [(3,.gv (zq b.z0 1 1) (64)),(7,.gv (zq b.z1 1 1) (64)),(9,.box 103 (bD 2 fun _=>zEn).toArray)] ?_;refine Qs ?_;refine Ee (fun R I=>lD gf b.z0 _ (dh.ext HR.g.r.c I.1) AcJ AcJ) ?_;intro e0 c7 c6;refine Qs ?_;refine Ee (fun R I=>lD gf b.z1 _ (dh.ext HR.g.r.c I.1) Ac4 Ac4) ?_;intro e1 c8 df;simp only[En.v,gv];refine Qs ?_;refine Eb ?_;intro Z7 db aG;refine bP ?_;intro wE I;have F:=I.ext;have ZU:=I.hR 3;have ZT:=I.hR 7;have ad:=I.hB 9;have am:=aW (I.low 9 _ rf);clear aG;have Yx:=aW F;clear I F;have N:=aW (ad.there (o:=0) (n:=(e0.cells++e1.cells).length) Ab9);refine bf rfl 103 (.tmp 15) (.tmp 110) rfl Z7 (0) (e0.cells++e1.cells) rf rf N.o (Fx _ _) (F7 _ _) (fun bq G=> ?_);refine Qp ?_;replace G:=Hid.o G;obtain⟨ZO,ZY,aw⟩:=Kj ad.o Yx.o am.o G;have a6:Hid (Blk bq Z7 103 #[e0.s1,aO e0.A1 e0.n1 e0.c1,e0.s2,aO e0.A2 e0.n2 e0.c2,e0.s3,aO e0.A3 e0.n3 e0.c3,e1.s1,aO e1.A1 e1.n1 e1.c1,e1.s2,aO e1.A2 e1.n2 e1.c2,e1.s3,aO e1.A3 e1.n3 e1.c3]):=aW ZO;have D:=aW (aw _ _ _ ZU.o);have Zj:=aW (aw _ _ _ ZT.o);replace HR:=HR.aA ZY;replace Yz:=Yz.aA ZY;clear ZO ZY aw G N Yx ZU ZT ad am ay;have az:=aX.blk Yz.o;have ch:=aX.blk a6.o;go_wp2_with fail;refine tR 20 [(8,.gv (GQ.i 0 0) (64)),(16,.gv (GQ.i 0 0) (64))] ?_;refine Qs ?_;refine Ee (fun R I=>dO gf 0 _ (dh.ext HR.g.r.c I.1) aa aa) ?_;intro e2 ce cf;simp only[En.v,gv];refine Qs ?_;refine Ee (fun R I=>dO gf 0 _ (dh.ext HR.g.r.c I.1) aa aa) ?_;intro e3 cC cD;simp only[En.v,gv];refine Qs ?_;refine bP ?_;intro wE I;have F:=I.ext;have ac:=I.hR 8;have aq:=I.hR 16;have Yx:=aW F;clear I F;have a3:sK wE (⟨ea,eb,e0,e1,e2⟩:BrV) (hfs s p f (2*l)):=by rw[bo.o];exact⟨rfl,rfl,D.ext Yx.o,Zj.ext Yx.o,ac.o⟩
     have cA:sK wE (⟨eb,ea,e0,e1,e3⟩:BrV) (hfs s p f (2*l+1)):=by rw[bA.o];exact⟨rfl,rfl,D.ext Yx.o,Zj.ext Yx.o,aq.o⟩
     have ZZ:=aW a3;have cv:=aW cA;clear a3 cA;replace HR:=HR.aA Yx.o;have N:Hid (wE.there gH (l*40) ((⟨ea,eb,e0,e1,e2⟩:BrV).cs++(⟨eb,ea,e0,e1,e3⟩:BrV).cs).length):=aW (HR.bH.there (by rw[Ad,jK,nH,iO,iO];omega));refine bf rfl 221 (.tmp 130) (.tmp 129) rfl gH (l*40) ((⟨ea,eb,e0,e1,e2⟩:BrV).cs++(⟨eb,ea,e0,e1,e3⟩:BrV).cs) rf rf N.o (Pq _ _) (PL _ _) (fun YE G=> ?_);refine Qp ?_;replace G:=Hid.o G;have hW:YE=puts (puts wE gH (2*l*20) (⟨ea,eb,e0,e1,e2⟩:BrV).cs) gH ((2*l+1)*20) (⟨eb,ea,e0,e1,e3⟩:BrV).cs:=by rw[G,IL,iO,show l*40=2*l*20 by omega,show 2*l*20+20=(2*l+1)*20 by omega]
     have cj:=HR.half ZZ.o aa rfl;have YF:=cj.half (cv.fM (S:=fun k=>k=gH) (Mod.puts wE gH (2*l*20) (⟨ea,eb,e0,e1,e2⟩:BrV).cs rfl) HR.Xu) aa hW;obtain⟨H2,ar⟩:∃h,upd (upd H (2*l) (⟨ea,eb,e0,e1,e2⟩:BrV)) (2*l+1) (⟨eb,ea,e0,e1,e3⟩:BrV)=h:=⟨_,rfl⟩;rw[ar] at YF;have av:H2 (2*l)=(⟨ea,eb,e0,e1,e2⟩:BrV):=by rw[<-ar,upd_ne aa,upd_same]
     have YX:=YF.rng (k:=2*l) (o:=l*40) aa aa;rw[av] at YX;have YZ:=YF.hv (2*l) aa;rw[av,bo.o] at YZ;have L:=aW YF;have Yr:=aW YX;have Zd:=aW YZ;clear hW cj YF ar av YX YZ G N HR ZZ cv Yx a6 B Yz D Zj ac aq az ch;go_wp2_with fail;have b0:=fun x=>Kp3.a (b:=gx) (c:=gx) (L.g.r.g.cell_ (k:=0) aa (dR aa)) x;refine jB 12 (fun w'=>∃x:Kp3 YE gx gx gx,w'=x.val) [(ε,0),(ε,1),(ε,2),(ε,3),(ε,4),(ε,5),(ε,6),(ε,7),(ε,8),(ζ,9),(ζ,10),(ζ,11)] ah ah ⟨⟨YE.drew,rfl,rfl,rfl⟩,rfl⟩ ?_;refine bC [0,1,2,3,4,5,6,7,8] [(ζ,9),(ζ,10),(ζ,11)] _ ah ?_;refine Gq ?_;clear b0;refine bz 9 [(ζ,10),(ζ,11)] ah ?_;intro K I;simp only[bG];(go_wp2_with (refine υ rfl 167 _ rfl gH (l*40) rf ((⟨ea,eb,e0,e1,e2⟩:BrV).cs) _ Yr.o aaT rfl (uj _) (Hid.o ?_)));refine Qz ?_;go_wp2_with fail;refine I _ _ ⟨⟨YE.drew,rfl,rfl,rfl⟩,rfl⟩ ?_;clear I K Yr;simp only[BrV.cs];refine bz 10 [(ζ,11)] ah ?_;intro K I;simp only[bG];go_wp2_with fail;have aP:Hid (Blk (YE.drew.alloc (.cells (⟨ea,eb,e0,e1,e2⟩:BrV).cs.toArray 167)) YE.heap.size 167 (⟨ea,eb,e0,e1,e2⟩:BrV).cs.toArray):=aW (Blk.new YE.drew _ _);have Zk:Hid (Ext YE (YE.drew.alloc (.cells (⟨ea,eb,e0,e1,e2⟩:BrV).cs.toArray 167))):=aW ((Ext.refl YE).drew.trans (Ext.new _ _));refine I _ _ (Kp3.of (S:=fun _=>False) (ae1 Zk.o) L.g.r.g.lt L.g.r.g.lt L.g.r.g.lt id id id) ?_;clear I K;have T:=aW (L.ext Zk.o);have YN:=L.g.r.m.size;refine bz 11 [] ah ?_;intro K I;simp only[bG];(go_wp2_with (at_builtin;refine nR rfl (.tmp 135) (.tmp 141) rfl rf rf T.g.r.own (by have:=ZH.o;omega) (Ξ YN Zk.size) aP.o (fun v2 w2 YQ ZA M=> ?_)));obtain⟨bl,ap,ZE⟩:=YQ.form aa;subst ZE;refine Qp ?_;go_wp2;refine I _ _ (Kp3.of ((ae1 Zk.o).trans ZA) L.g.r.g.lt L.g.r.g.lt L.g.r.g.lt (T.g.r.own.ne T.g.r.g aj) (T.g.r.own.ne T.g.r.g aj) (T.g.r.own.ne T.g.r.g aj)) ?_;clear I K;simp only[cK,ξ,τ];have Zq:=T.g.r.g.mod ZA (T.g.r.own.ne T.g.r.g aj);have kx:=Zq.cell (k:=0) aa;have fx:=Zq.frozen 0;have Zy:=aW (T.push (W2:=w2.setCell ⟨gx,0,δ⟩ (.slice (γ (aM bl 0)) (bb.length+1) ap)) (Zd.ext Zk.o) YQ ZA M rfl);clear T L Zd aP Zk Zq YQ ZA M YN;have Yv:=Zy;go_wp2_with fail
     go_roundw
     case rel=>exact⟨l+1,aa,rf,_,_,_,by rw[YV.o,<-HV,YU.o,<-bt.o,show 2*(l+1)=2*l+1+1 by omega];exact Yv.o⟩
     case measure=>exact aV
  .obtain rfl:l=s.lines.length:=aa;have hd:decide ((s.lines.length:Int)<(s.lines.length:Int))=ζ:=ag;have ZG:(if f.line=ε/\f.obj<((s.lines.length:Nat):Int) then 12 else f0)=eZ s p f:=by
    unfold eZ;cases hq:f.line with
    |true=>rw[ι ⟨rfl,(ZR.o.line hq).1.2⟩,ι rfl]
    |false=>
     rw[θ (fun e=>by cases e.1),θ aj,<-cF.o];by_cases h0:f.kind=0
     .rw[θ (fun e=>e.1 h0),ι h0]
     .rw[ι ⟨h0,hq⟩,θ h0]
   have Zn:=aW ZG;clear ZG Yp Z;have k6:=HR.b6.cell;have cL:=aW YH.nq;have cU:w.heap.size<=gB:=HR.g.lB;have cH:=Zw.size;have cI:Hid (wa.heap.size<=gB):=aW aa;clear cU cH;go_wp2_with fail;clear k6;go_loopw [149] (fun iv wq=>∃i:Nat,i<=s.bays.length/\iv=.int .i64 i/\∃a0,fP wq gB 165 s.bays.length a0/\(∀j,j<s.bays.length->a0 j=if j<i/\(s.bays.getD j η).kind=1 then .pointer (γ (aM gH ((s.bays.getD j η).obj.toNat*40+(s.bays.getD j η).en.toNat*20))) else wv j)/\Mod (fun k=>k=gB) wr wq) (aT s.bays.length)
   case atStart=>exact⟨0,aa,rfl,wv,HR.g.bB,fun j hj=>by rw[θ aa],Mod.refl _ _⟩
   case round=>
    rename World=>wq;obtain⟨i,hi,rfl,a0,hb,hw,hm⟩:=hrel;have HB:=aW hb;have HW:=aW hw;have HM:=aW hm;clear hb hw hm;by_cases Yp:i<s.bays.length
    .have Z9:decide ((i:Int)<s.bays.length)=ε:=ae;have q1:(0:Int)<=i:=aa;have q2:(i:Int)<s.bays.length:=aa;have cn:=cL.o;have cy:Ext wa wq:=fQ (HR.g.older Zw.o Zo.o) HM.o (fun k hk=>by have hk:k=gB:=hk;have:=cI.o;omega);obtain⟨b,YY⟩:∃b,s.bays.getD i η=b:=⟨_,rfl⟩;have bj:=YH.obj i Yp;have YX:=YH.rng i Yp;rw[YY] at bj YX;obtain⟨gb,ob,cS,Zm,Zl⟩:=(Yw.ext cy).bays.at_ Yp;rw[YY] at Zl;have YT:=aW YY;have cE:=aW bj;have cc:=aW YX;clear YY bj YX cy;subst cS;have Yr:=aW (show wq.rangeAt gb (ob+i*12) (j6 b (LH i)) from Zl);clear Zl Zm;(go_wp2_with (refine υ rfl 57 _ rfl gb (ob+i*12) rf (j6 b (LH i)) _ Yr.o ab9 rfl rX (Hid.o ?_)));refine Qz ?_;(go_wp2_with (refine bJ rfl 57 rfl _ Cm (fun cb G=>Hid.o ?_)));refine Qz ?_;replace G:=Hid.o G;have ZN:=aW G;clear G;have N:Hid (cb.there wq.heap.size 0 (j6 b (LH i)).length):=aW (by rw[ZN.o];exact(Blk.new wq 57 tQ.toArray).there (show 0+(j6 b (LH i)).length<=tQ.toArray.size from κ 12));(go_wp2_with (refine bf rfl 57 (.tmp 17) (.tmp 153) rfl wq.heap.size (0) (j6 b (LH i)) rf rf N.o rX (Fy _ _) (fun Zz G=>Hid.o ?_)));refine Qz ?_;replace G:=Hid.o G;have HO:=Fs ZN.o G;have U:=aW HO.1;replace HM:=HM.aC (ae1 HO.2);replace HB:=HB.aA HO.2;clear HO ZN G Yr N;generalize wq.heap.size=YR at U⊢;have kk:Zz.cell? (aM YR 1)=γ (.int .i64 b.kind):=(U.cell 1).trans rfl;by_cases h1:b.kind=1
     .have Zr:(b.kind==1)=ε:=by rw[h1];rfl
      have H1:=aW h1;clear h1;have ho:=RO cE.o H1.o;have O:=QM cc.o;have h6:=YH.nl;obtain⟨l,Z⟩:∃l:Nat,b.obj=(l:Int):=⟨b.obj.toNat,aa⟩;obtain⟨e,YO⟩:∃e:Nat,b.en=(e:Int):=⟨b.en.toNat,aa⟩;have ko:Zz.cell? (aM YR 2)=γ (.int .i64 (l:Int)):=(U.cell 2).trans (by rw[<-Z];rfl);have ke:Zz.cell? (aM YR 3)=γ (.int .i64 (e:Int)):=(U.cell 3).trans (by rw[<-YO];rfl);have Zt:l<s.lines.length:=aa;have di:e<2:=aa;have YD:=aW (And.intro Z YO);clear Z YO ho O h6;have cJ:=aX.cell ko;have cW:=aX.cell ke;have cP:=HR.g.r.lx;have cN:=HR.g.lB;have cV:=aX.cell ((HR.g.r.g.mod HM.o (show ¬gx=gB by omega)).cell_ (k:=13) aa ((dR aa).trans HR.g.c13));have p1:(0:Int)<=l:=aa;have p2:(l:Int)<s.lines.length:=aa;have p3:(0:Int)<=e:=aa;have p4:(e:Int)<2:=aa;clear cP cN ko ke;go_wp2_with fail;refine tR 13 [(1,.eq (.pointer (γ (aM gx 0))))] ?_;refine Qs ?_;refine En_ ?_;intro dc cY;refine Qs ?_;refine bP ?_;intro wE I;have F:=I.ext;have Yx:=aW F;clear I F;replace HM:=HM.aC (ae1 Yx.o);replace HB:=HB.aA Yx.o;have kx:=HB.cell Yp;have fx:=HB.frozen i;have ZF:Mod (fun k=>k=gB) wE (wE.setCell ⟨gB,i,δ⟩ (.pointer (γ (aM gH (l*40+e*20))))):=Mod.set _ _ _ _ rfl;have Z8:=aW (HM.trans ZF);have Yu:=aW (HB.set (.pointer (γ (aM gH (l*40+e*20)))) Yp);clear ZF;clear cJ cW cV kk;go_wp2_with fail
      go_roundw
      case rel=>
       refine⟨i+1,aa,rf,upd a0 i (.pointer (γ (aM gH (l*40+e*20)))),Yu.o,fun j hj=> ?_,Z8.o⟩;by_cases e1:j=i
       .subst e1;rw[upd_same,ι ⟨aa,by rw[YT.o];exact H1.o⟩,YT.o,YD.o.1,YD.o.2,Ex,Ex]
       .rw[upd_ne e1,HW.o j hj];by_cases h2:j<i
        .by_cases h3:(s.bays.getD j η).kind=1
         .rw[ι ⟨h2,h3⟩,ι ⟨aa,h3⟩]
         .rw[θ (fun e=>h3 e.2),θ (fun e=>h3 e.2)]
        .rw[θ (fun e=>h2 e.1),θ (fun e=>by have:=e.1;omega)]
      case measure=>exact aV
     .have Zr:(b.kind==1)=ζ:=by simpa using h1
      have H1:=aW h1;clear h1;go_wp2_with fail
      go_roundw
      case rel=>
       refine⟨i+1,aa,rf,a0,HB.o,fun j hj=> ?_,HM.o⟩;rw[HW.o j hj];by_cases h3:(s.bays.getD j η).kind=1
       .have h4:j≠i:=fun e=>H1.o (by rw[<-YT.o,<-e];exact h3);by_cases h2:j<i
        .rw[ι ⟨h2,h3⟩,ι ⟨aa,h3⟩]
        .rw[θ (fun e=>h2 e.1),θ (fun e=>by have:=e.1;omega)]
       .rw[θ (fun e=>h3 e.2),θ (fun e=>h3 e.2)]
      case measure=>exact aV
    .obtain rfl:i=s.bays.length:=aa;have Z9:decide ((s.bays.length:Int)<(s.bays.length:Int))=ζ:=ag;have Y:=HR.fin Zn.o YH.o HM.o HB.o (fun j hj=>by rw[HW.o j hj];by_cases hk:(s.bays.getD j η).kind=1;rw[ι ⟨hj,hk⟩,ι hk];rw[θ (fun e=>hk e.2),θ hk]);have Yq:=aW Y;clear Y;go_wp2_with fail;refine aaY (aat rfl _ _ _) rfl ⟨rfl,_,_,Yq.o⟩
def zNd:List Value:=[.int .i64 0,.int .i64 0,.int .i64 0,.int .i64 0]
def Vr:(prog.info? 187).map (·.zero)=γ (γ (.agg zNd.toArray)):=ah
def ndC (a b c d:Int):List Value:=[.int .i64 a,.int .i64 b,.int .i64 c,.int .i64 d]
def UZ(a b c d):(prog.info? 187).map (·.size)=γ (ndC a b c d).length:=ah
theorem Xf(a b c d):∀v∈ndC a b c d,v.oneCell'=ε:=by
 intro v hv;unfold ndC at hv;simp only[lh,I6,aaM] at hv;rcases hv with rfl|rfl|rfl|rfl<;>rfl
def NH:List Value:=[.string ByteArray.empty,.int .i64 0,.int .i64 0,.int .i64 0,.int .i64 0,.int .i64 0]
def PY:(prog.info? 83).map (·.zero)=γ (γ (.agg NH.toArray)):=ah
def Jo(g):(prog.info? 83).map (·.size)=γ (oN g).length:=ah
theorem Tv(b):∀v∈oN b,v.oneCell'=ε:=by
 intro v hv;unfold oN at hv;simp only[lh,I6,aaM] at hv;rcases hv with rfl|rfl|rfl|rfl|rfl|rfl<;>rfl
structure Bz (w W:World) (gx gf gB g7 g8 g9:Nat) (ST PO FL:Array Value) (C:Nat->Value) (Bv:Nat->BrV) (wv:Nat->Value) (s:StD) (p:dH) (fn:Nat):Prop where
 g:Gs w W gx gf gB gB C Bv (fV s p s.bays.length) s.bays.length wv (wd0 s p s.bays.length)
 b7:Blk W g7 27 ST
 b8:Blk W g8 31 PO
 b9:Blk W g9 33 FL
 ends:∀l e,l<6->e<2->C (1+2*l+e)=.int .i64 (jy s p l e:Nat)
 c14:C 14=.int .i64 (fn:Int)
 liv:∀k,k<18->C (15+k)=.bool ζ
section
variable {w W W' W2:World} {gx gf gB g7 g8 g9 fn:Nat} {ST PO FL:Array Value} {C:Nat->Value} {Bv:Nat->BrV} {wv:Nat->Value} {s:StD} {p:dH}
def agx(h:Bt w W gx gf gB g7 g8 g9 ST PO FL C Bv wv s p s.bays.length s.bays.length):Bz w W gx gf gB g7 g8 g9 ST PO FL C Bv wv s p 0:=⟨h.g,h.b7,h.b8,h.b9,h.ends,h.c14,h.liv⟩
def Bz.ext(h:Bz w W gx gf gB g7 g8 g9 ST PO FL C Bv wv s p fn)(x:Ext W W'):Bz w W' gx gf gB g7 g8 g9 ST PO FL C Bv wv s p fn:=⟨h.g.ext x,h.b7.ext x,h.b8.ext x,h.b9.ext x,h.ends,h.c14,h.liv⟩
def Bz.set(h:Bz w W gx gf gB g7 g8 g9 ST PO FL C Bv wv s p fn)(j:Nat)(D:W'=W.setCell ⟨gx,14,δ⟩ (.int .i64 (j:Int))):Bz w W' gx gf gB g7 g8 g9 ST PO FL (upd C 14 (.int .i64 (j:Int))) Bv wv s p j:=by
 obtain⟨G,B⟩:=h.g.set (i:=14) (v:=.int .i64 (j:Int)) aa aa aa rfl D;exact⟨G,h.b7.mod B (Blk.eY h.b7 h.g.r.g aj),h.b8.mod B (Blk.eY h.b8 h.g.r.g aj),h.b9.mod B (Blk.eY h.b9 h.g.r.g aj),fun l e Z O=>by rw[upd_ne aa];exact h.ends l e Z O,upd_same ..,fun k F=>by rw[upd_ne aa];exact h.liv k F⟩
end
structure Bl (w W:World) (gx gf g7 g8 g9:Nat) (ST PO FL:Array Value) (C:Nat->Value) (l:Nat):Prop where
 g:Gr0 w W gx gf C 0 (fun _=>kY) []
 b7:Blk W g7 27 ST
 b8:Blk W g8 31 PO
 b9:Blk W g9 33 FL
 ends:∀j e,j<l->e<2->C (1+2*j+e)=.int .i64 (2*j+e:Nat)
 hi:∀k,13<=k->C k=zC k
section
variable {w W W':World} {gx gf g7 g8 g9 l:Nat} {ST PO FL:Array Value} {C:Nat->Value}
def Bl.put(h:Bl w W gx gf g7 g8 g9 ST PO FL C l)(Z:l<6)(D:W'=puts W gx (1+l*2) (twC ((2*l:Nat):Int) ((2*l+1:Nat):Int))):∃C',Bl w W' gx gf g7 g8 g9 ST PO FL C' (l+1):=by
 obtain⟨H,m1⟩:=h.g.set (i:=1+l*2) (.int .i64 ((2*l:Nat):Int)) aa aa rfl;obtain⟨G,m2⟩:=H.set (i:=1+l*2+1) (.int .i64 ((2*l+1:Nat):Int)) aa aa rfl;have B:Mod (fun k=>k=gx) W W':=by rw[D];exact m1.trans m2
 refine⟨_,by rw[D];exact G,h.b7.mod B (Blk.eY h.b7 h.g.g aj),h.b8.mod B (Blk.eY h.b8 h.g.g aj),h.b9.mod B (Blk.eY h.b9 h.g.g aj),fun j e K O=> ?_,fun k F=> ?_⟩
 .by_cases J:j=l
  .subst J;have I:e=0\/e=1:=aa;rcases I with rfl|rfl
   .rw[show 1+2*j+0=1+j*2 by omega,upd_ne aa,upd_same,I4]
   .rw[show 1+2*j+1=1+j*2+1 by omega,upd_same]
  .rw[upd_ne aa,upd_ne aa];exact h.ends j e aa O
 .rw[upd_ne aa,upd_ne aa];exact h.hi k F
theorem Bl.made{s p}(h:Bl w W gx gf g7 g8 g9 ST PO FL C 6)(H:W'=(W.alloc (.cells (ofC s.bays.length fun _=> .pointer δ) 165)).setCell ⟨gx,13,δ⟩ (.slice (γ (aM W.heap.size 0)) s.bays.length s.bays.length))(F:w.heap.size<=W.heap.size):
  Bt w W' gx gf W.heap.size g7 g8 g9 ST PO FL (upd C 13 (.slice (γ (aM W.heap.size 0)) s.bays.length s.bays.length)) (fun _=>kY) (fun _=> .pointer δ) s p 0 0:=by
 have J:Ext W (W.alloc (.cells (ofC s.bays.length fun _=> .pointer δ) 165)):=Ext.new _ _;obtain⟨G,D⟩:=(h.g.ext J).set (i:=13) (.slice (γ (aM W.heap.size 0)) s.bays.length s.bays.length) aa aa rfl;subst H;have B:fP (W.alloc (.cells (ofC s.bays.length fun _=> .pointer δ) 165)) W.heap.size 165 s.bays.length (fun _=> .pointer δ):=Blk.new _ _ _;have lx:=h.g.lx;refine⟨⟨G,by rw[upd_same],B.mod D aa,F,fun j K=>rfl⟩,(h.b7.ext J).mod D (Blk.eY h.b7 h.g.g aj),(h.b8.ext J).mod D (Blk.eY h.b8 h.g.g aj),(h.b9.ext J).mod D (Blk.eY h.b9 h.g.g aj),fun l e Z O=> ?_,?_,fun k I=> ?_⟩
 .rw[upd_ne aa];exact h.ends l e Z O
 .rw[upd_ne aa,h.hi 14 aa];rfl
 .rw[upd_ne aa,h.hi (15+k) aa];unfold zC;rw[θ aa,θ aa,θ aa,θ aa]
end
theorem TV{s p}(h:jG s){i}(hi:i<s.bays.length)(j:(sides s p i).1.1=1):0<=(sides s p i).1.2/\(sides s p i).1.2<4:=by
 have C:=Mm h p hi j;have G:=h.link hi;have D:0<=(sides s p i).1.2:=by
  unfold sides at j⊢;by_cases l:(s.bays.getD i η).kind=3
  .rw[ι l];exact(lC h p (h.bus hi (k:=0) aa).2).1
  .rw[θ l] at j⊢;simp only[] at j⊢;unfold oW at j⊢;split
   .exact(lC h p (h.bus hi (k:=0) aa).2).1
   .split
    .rename_i B
     exact(lC h p (h.bus hi (k:=1) B.1).2).1
    .decide
 omega
theorem Rj{s p}(h:jG s){i}(hi:i<s.bays.length)(j:(s.bays.getD i η).kind=3):0<=(sides s p i).2.2/\(sides s p i).2.2<4/\(sides s p i).1.1=1/\(sides s p i).2.1=1:=by
 have G:=h.link hi;unfold sides;rw[ι j];have B:=G.2.1 j;have l:=lC h p (h.bus hi (k:=1) aa).2;exact⟨l.1,by show(groups s p).getD (gY s i 1) 0<4;omega,rfl,rfl⟩
theorem UX{A0 n0 c0 A1 n1 c1 A2 n2 c2 A3 n3 c3 LH s PA pn pc PB V qc K p}(f gx gf B wa w)(ZQ:Ext wa w)(dc:wa.heap.size<=gx)(hs:j5 wa A0 n0 c0 A1 n1 c1 A2 n2 c2 A3 n3 c3 LH s)(hp:iN w PA pn PB V K p)(dk:EZ B PA PB V K)(hB:gx<B)(hc:chk s=0)(ZF:jq s p=0)(hf:fu s.buses.length s.lines.length f=0)(hg:Blk w gx 105 (gl zC fun _=>zEn).toArray)(bh:dh w gf):
  Calls prog 81 #[aN gx 0,aN gf 0,stV s.name A0 n0 c0 A1 n1 c1 A2 n2 c2 A3 n3 c3,lG PA pn pc PB V qc,nX f] w fun r W'=>r=.returned (.tuple #[])/\∃C' a9,Du w W' gx gf C' a9 s p f:=by
 obtain rfl:=hs.l3;have YC:=uf hc;have Zp:=afw hf;have cW:=YC.nq;have Zw:=aW ZQ;have Zo:=aW dc;have Yw:=aW hs;have ZM:=aW hp;have db:=aW dk;have YU:=aW hB;have Yz:=aW hc;have Z9:=aW ZF;have YH:=aW YC;have ZR:=aW Zp;have cj:=aW cW;have df:=hg.lt;have c6:=bh.lt;have H:Hid (Ext w (aL (aL (aL w #[s.name,aO A0 n0 c0,aO A1 n1 c1,aO A2 n2 c2,aO A3 s.bays.length c3] 27) #[aO PA pn pc,aO PB V qc] 31) #[f.kind,f.line,f.obj,f.num,f.den,f.r] 33)):=aW (((Ext.new _ _).alloc _).alloc _);have HR:Hid (Bl w (aL (aL (aL w #[s.name,aO A0 n0 c0,aO A1 n1 c1,aO A2 n2 c2,aO A3 s.bays.length c3] 27) #[aO PA pn pc,aO PB V qc] 31) #[f.kind,f.line,f.obj,f.num,f.den,f.r] 33) gx gf w.heap.size (w.heap.size+1) (w.heap.size+2) #[s.name,aO A0 n0 c0,aO A1 n1 c1,aO A2 n2 c2,aO A3 s.bays.length c3] #[aO PA pn pc,aO PB V qc] #[f.kind,f.line,f.obj,f.num,f.den,f.r] zC 0):=aW ⟨⟨(Q9 hg).ext H.o,dh.ext bh H.o,ae1 H.o,.inl ⟨rfl,rfl⟩,rfl,fun i hi=>absurd hi aa,fun i hi=>by unfold zC;split<;>(try split)<;>(try split)<;>(try split)<;>rfl,df,c6⟩,((Blk.new _ _ _).alloc _).alloc _,(aeW _ _ (fZ _ _)).alloc _,aeW _ _ ag,fun j e hj=>absurd hj aa,fun k hk=>rfl⟩;clear ZQ dc hs hp dk hB hc ZF hf hg bh YC Zp cW df c6;unfold stV lG nX;go_enter func81,ntmps81;go_wp2_with fail;generalize aU _ _=w0 at H HR⊢;generalize w.heap.size+2=g9 at HR⊢;generalize w.heap.size+1=g8 at HR⊢;obtain⟨g7,Zn⟩:∃g,w.heap.size=g:=⟨_,rfl⟩;rw[Zn] at HR⊢;have ep:=aW Zn;clear Zn;go_loopw [18] (fun iv wr=>∃l:Nat,l<=6/\iv=.int .i64 l/\∃C,Bl w wr gx gf g7 g8 g9 #[s.name,aO A0 n0 c0,aO A1 n1 c1,aO A2 n2 c2,aO A3 s.bays.length c3] #[aO PA pn pc,aO PB V qc] #[f.kind,f.line,f.obj,f.num,f.den,f.r] C l) (aT 6)
 case atStart=>exact⟨0,aa,rfl,_,HR.o⟩
 case round=>
  clear HR;obtain⟨l,Z,rfl,C,hR⟩:=hrel;have HR:=aW hR;clear hR;obtain⟨ao,cP⟩:∃ao,ao=wr:=⟨_,rfl⟩;subst cP;by_cases Yp:l<6
  .have hd:decide ((l:Int)<6)=ε:=ae;have ZH:wrap64 (2*(l:Int))=((2*l:Nat):Int):=by rw[Aa _ aa];omega
   have ey:wrap64 (((2*l:Nat):Int)+1)=((2*l+1:Nat):Int):=by rw[Aa _ aa];omega
   have Zv:wrap64 ((l:Int)+1)=(l:Int)+1:=Aa _ aa;have Zg:=aW Zv;have q1:(0:Int)<=l:=aa;have q2:(l:Int)<6:=aa;have N:Hid (ao.there gx (1+l*2) 2):=aW (fP.there HR.g.g aa);(go_wp2_with (refine bf rfl 64 (.tmp 31) (.tmp 28) rfl gx (1+l*2) (twC ((2*l:Nat):Int) ((2*l+1:Nat):Int)) rf rf N.o (Gd _ _) (Rl _ _) (fun w1 G=>Hid.o ?_)));refine Qz ?_;replace G:=Hid.o G;obtain⟨C2,ZI⟩:=HR.put Yp G;have Yv:=aW ZI;clear ZI G N HR;go_wp2_with fail
   go_roundw
   case rel=>exact⟨l+1,aa,rf,C2,Yv.o⟩
   case measure=>exact aV
  .obtain rfl:l=6:=aa;have hd:decide (((6:Nat):Int)<6)=ζ:=aj;clear Yp Z;have YL:fP (ao.alloc (.cells (ofC s.bays.length fun _=> .pointer δ) 165)) gx 105 393 (fO C fun _=>zEn):=HR.g.g.ext (Ext.new _ _);have kx:=YL.cell_ (k:=13) aa rfl;have fx:=YL.frozen 13;have k7:=HR.b7.cell;have eb:=(HR.b7.ext (Ext.new ao (.cells (ofC s.bays.length fun _=> .pointer δ) 165))).cell;have Zc:=fun W=>OP s.bays.length Adw W;have bw:Hid (w.heap.size<=ao.heap.size):=aW HR.g.m.size;have HT:=aW (HR.made (s:=s) (p:=p) (W':=((ao.alloc (.cells (ofC s.bays.length fun _=> .pointer δ) 165)).setCell ⟨gx,13,δ⟩ (.slice (γ (aM ao.heap.size 0)) s.bays.length s.bays.length))) rfl bw.o);clear YL;have d1:=HT.b7.cell;go_wp2_with fail;clear kx fx k7 eb Zc d1 HR;generalize ((ao.alloc (.cells (ofC s.bays.length fun _=> .pointer δ) 165)).setCell ⟨gx,13,δ⟩ (.slice (γ (aM ao.heap.size 0)) s.bays.length s.bays.length))=wb at HT⊢;have dx:=bw;generalize ao.heap.size=gB at HT dx⊢;clear bw;go_loopw [43] (fun iv wr=>∃i:Nat,i<=s.bays.length/\iv=.int .i64 i/\∃C Bv wv,Bt w wr gx gf gB g7 g8 g9 #[s.name,aO A0 n0 c0,aO A1 n1 c1,aO A2 n2 c2,aO A3 s.bays.length c3] #[aO PA pn pc,aO PB V qc] #[f.kind,f.line,f.obj,f.num,f.den,f.r] C Bv wv s p i i) (aT s.bays.length)
   case atStart=>exact⟨0,aa,rfl,_,_,_,HT.o⟩
   case round=>
    clear HT;rename World=>wr;obtain⟨i,hi,rfl,C,Bv,wv,hR⟩:=hrel;have HR:=aW hR;clear hR;by_cases Yp:i<s.bays.length
    .have hd:decide ((i:Int)<s.bays.length)=ε:=ae;have q1:(0:Int)<=i:=aa;have q2:(i:Int)<s.bays.length:=aa;have Zv:wrap64 ((i:Int)+1)=(i:Int)+1:=Aa _ Adw;have Zg:=aW Zv;clear Zv;have ZW:=aW (Yw.ext (HR.g.older Zw.o Zo.o));have J:=aW (ZM.mod db.o HR.g.r.m (fun g hg=>by have hg:g=gx:=hg;have:=YU.o;omega));obtain⟨b,YY⟩:∃b,s.bays.getD i η=b:=⟨_,rfl⟩;have bq:=YH.obj i Yp;have YX:=YH.rng i Yp;rw[YY] at bq YX;have cU:=aW bq;have b0:=aW YX;clear bq YX;obtain⟨gb,ob,d5,Zm,Zl⟩:=ZW.bays.at_ Yp;rw[YY] at Zl;have YT:=aW YY;clear YY;subst d5;have Yr:=aW (show wr.rangeAt gb (ob+i*12) (j6 b (LH i)) from Zl);clear Zl Zm;have Za:=aW J.lc;(go_wp2_with (refine υ rfl 57 _ rfl gb (ob+i*12) rf (j6 b (LH i)) _ Yr.o ab9 rfl rX (Hid.o ?_)));refine Qz ?_;(go_wp2_with (refine bJ rfl 57 rfl _ Cm (fun ea G=>Hid.o ?_)));refine Qz ?_;replace G:=Hid.o G;have ZN:=aW G;clear G;have N:Hid (ea.there wr.heap.size 0 (j6 b (LH i)).length):=aW (by rw[ZN.o];exact(Blk.new wr 57 tQ.toArray).there (show 0+(j6 b (LH i)).length<=tQ.toArray.size from κ 12));(go_wp2_with (refine bf rfl 57 (.tmp 12) (.tmp 47) rfl wr.heap.size (0) (j6 b (LH i)) rf rf N.o rX (Fy _ _) (fun Zz G=>Hid.o ?_)));refine Qz ?_;replace G:=Hid.o G;clear N;have HO:=Fs ZN.o G;have HX:=aW HO.2;have YZ:=aW HO.1;replace HR:=HR.aA HO.2;replace ZW:=ZW.aA HO.2;replace J:=J.aA HO.2;clear HO ZN G Yr;generalize wr.heap.size=g12 at YZ⊢;have k7:=HR.b7.cell;have k8:=HR.b8.cell;go_wp2_with fail;refine(IG i _ ZW.o J.o Yz.o Z9.o Yp).mono ?_;rintro _ w1 ⟨rfl,F⟩;obtain⟨na,ma,nb,mb,cv⟩:∃na ma nb mb,sides s p i=((na,ma),(nb,mb)):=⟨_,_,_,_,rfl⟩;have Zy:=aW cv;rw[cv];clear cv k7 k8;replace HX:=HX.aC F;replace YZ:=YZ.aA F;replace HR:=HR.aA F;replace ZW:=ZW.aA F;replace J:=J.aA F;clear F;simp only[vZ];(go_wp2_with (refine bJ rfl 187 rfl _ Vr (fun et G=>Hid.o ?_)));refine Qz ?_;replace G:=Hid.o G;have cD:=aW G;clear G;refine bf rfl 187 (.tmp 13) (.tmp 51) rfl w1.heap.size 0 (ndC na ma nb mb) rf rf (by rw[cD.o];exact(Blk.new w1 187 zNd.toArray).there (show 0+(ndC na ma nb mb).length<=zNd.toArray.size from κ 4)) (UZ _ _ _ _) (Xf _ _ _ _) (fun ZB G=> ?_);refine Qp ?_;replace G:=Hid.o G;have HO:=Ae (z:=zNd) (cs:=ndC na ma nb mb) rfl cD.o G;have YB:=aW HO.1;replace HX:=HX.aC HO.2;replace YZ:=YZ.aA HO.2;replace HR:=HR.aA HO.2;replace ZW:=ZW.aA HO.2;replace J:=J.aA HO.2;clear HO cD G;generalize w1.heap.size=ZL at YB⊢;have k8:=HR.b8.cell;have cV:ZB.cell? (aM ZL 0)=γ (.int .i64 na):=(YB.cell 0).trans rfl;have cX:i<pn:=by have h1:=J.lc;have h2:=Z9.o;unfold jq at h2;split at h2;(rename_i h3;omega);exact absurd h2 aj
     obtain⟨gp,op,dw,YV,kp⟩:=J.closed.one cX;subst dw;have q3:(i:Int)<pn:=aa;obtain⟨cb,cw⟩:∃c,p.closed.getD i ζ=c:=⟨_,rfl⟩;rw[cw] at kp;have dr:=aW cw;clear cw YV cX;have HJ:Hid (jZ s p i=(cb&&decide (na=1))):=aW (by unfold jZ;rw[dr.o,Zy.o]);cases cb with
     |false=>
      have Yv:=aW (HR.skip (Cu (by rw[HJ.o];simp)) (fun l e=>Dr (by rw[HJ.o];simp)));clear HR;go_wp2_with fail
      exact Aau
     |true=>
      by_cases ZZ:na=1
      .obtain rfl:na=1:=ZZ;have bo:Hid (jZ s p i=ε):=aW (by rw[HJ.o];rfl);have ch:=TV YH.o Yp (by rw[Zy.o]);rw[Zy.o] at ch;obtain⟨bn,ck⟩:∃n,iG s p i=n:=⟨_,rfl⟩;have cY:(13:Int)+ma=(bn:Int):=by have h1:13+ma.toNat=bn:=(by rw[<-ck];unfold iG;rw[Zy.o]);have h2:0<=ma:=ch.1;omega
       have bg:=wm YH.o p Yp bo.o;rw[ck] at bg;have eh:wrap64 (13+ma)=(bn:Int):=by rw[cY];exact Aa _ aa
       have a2:=aW ck;have es:=aW ch;have U:=aW bg;clear ck ch bg cY;have cT:ZB.cell? (aM ZL 1)=γ (.int .i64 ma):=(YB.cell 1).trans rfl;have kk:ZB.cell? (aM g12 1)=γ (.int .i64 b.kind):=(YZ.cell 1).trans rfl;have ko:ZB.cell? (aM g12 2)=γ (.int .i64 b.obj):=(YZ.cell 2).trans rfl;have ke:ZB.cell? (aM g12 3)=γ (.int .i64 b.en):=(YZ.cell 3).trans rfl;by_cases h1:b.kind=1
       .have Zr:(b.kind==1)=ε:=by rw[h1];rfl
        have H1:=aW h1;clear h1;have ho:=RO cU.o H1.o;have O:=QM b0.o;have h6:=YH.nl;obtain⟨l,Z⟩:∃l:Nat,b.obj=(l:Int):=⟨b.obj.toNat,aa⟩;obtain⟨e,YO⟩:∃e:Nat,b.en=(e:Int):=⟨b.en.toNat,aa⟩;rw[Z] at ko;rw[YO] at ke;have dt:l<6:=aa;have d0:e<2:=aa;have YD:=aW (And.intro Z YO);clear Z YO ho O h6;have ev:=aX.cell ko;have ez:=aX.cell ke;have p1:(0:Int)<=l:=aa;have p2:(l:Int)<6:=aa;have p3:(0:Int)<=e:=aa;have p4:(e:Int)<2:=aa;go_wp2_with fail;refine tR 10 [(6,.eq (.pointer (γ (aM gx 0))))] ?_;refine Qs ?_;refine En_ ?_;intro eg ej;refine Qs ?_;refine bP ?_;intro wE I;have F:=I.ext;have Yx:=aW F;clear I F;replace HR:=HR.aA Yx.o;have kx:=HR.g.r.g.cell (k:=1+l*2+e) aa;have fx:=HR.g.r.g.frozen (1+l*2+e);have Yv:=aW (HR.line (a:=1+l*2+e) (W':=wE.setCell ⟨gx,1+l*2+e,δ⟩ (.int .i64 (bn:Int))) bo.o YT.o H1.o YD.o.1 YD.o.2 dt d0 aa (by rw[a2.o]));clear HR;go_wp2_with fail
        exact Aau
       .have Zr:(b.kind==1)=ζ:=by simpa using h1
        have H1:=aW h1;clear h1;by_cases h2:b.kind=2
        .have YI:(b.kind==2)=ε:=by rw[h2];rfl
         have H2:=aW h2;clear h2;have ho:=Ob cU.o H2.o;obtain⟨l,Z⟩:∃l:Nat,b.obj=(l:Int):=⟨b.obj.toNat,aa⟩;rw[Z] at ko;have ZJ:l<s.srcs.length:=aa;have Zt:l<n2:=by have:=Yw.l2;omega
         obtain⟨gs,os,ZX,d8,cx⟩:=ZW.srcs.at_ Zt;subst ZX;obtain⟨sr,Z8⟩:∃m,s.srcs.getD l η=m:=⟨_,rfl⟩;rw[Z8] at cx;have ZG:=YH.src l ZJ;rw[Z8] at ZG;unfold jr at ZG;simp only[ρ] at ZG;have dl:=fw.1 ZG.1.1;have YJ:=vJ.1 ZG.2;have YA:=vJ.1 ZG.1.2;have bp:Hid (gG s p i=γ ⟨bn,17,sr.z0,sr.z1,1,1,sr.emf⟩):=aW (by unfold gG;simp only[];rw[YT.o,ι bo.o,ι H2.o,Z,Ex,Z8,a2.o]);have c8:=aW dl;have YM:=aW YJ;have YP:=aW YA;have ew:=aW (And.intro Z Z8);clear Z Z8 ho ZG dl YJ YA;have Yr:=aW (show ZB.rangeAt gs (os+l*6) (oN sr) from cx);clear cx d8;have p1:(0:Int)<=l:=aa;have p2:(l:Int)<n2:=aa;have k7:=HR.b7.cell;(go_wp2_with (refine υ rfl 83 _ rfl gs (os+l*6) rf (oN sr) _ Yr.o underlying83 rfl (Jo _) (Hid.o ?_)));refine Qz ?_;(go_wp2_with (refine bJ rfl 83 rfl _ PY (fun bx G=>Hid.o ?_)));refine Qz ?_;replace G:=Hid.o G;have cI:=aW G;clear G;have N:Hid (bx.there ZB.heap.size 0 (oN sr).length):=aW (by rw[cI.o];exact(Blk.new ZB 83 NH.toArray).there (show 0+(oN sr).length<=NH.toArray.size from κ 6));(go_wp2_with (refine bf rfl 83 (.tmp 15) (.tmp 89) rfl ZB.heap.size (0) (oN sr) rf rf N.o (Jo _) (Tv _) (fun ci G=>Hid.o ?_)));refine Qz ?_;replace G:=Hid.o G;have HO:=Ae (z:=NH) (cs:=oN sr) rfl cI.o G;have aq:=aW HO.1;replace HX:=HX.aC HO.2;replace HR:=HR.aA HO.2;clear HO cI G N Yr k7 k8 cV cT kk ko ke kp YZ YB ZW J;generalize ZB.heap.size=Z7 at aq⊢;have bi:=aX.blk (show Blk ci Z7 83 #[sr.name,sr.emf,sr.z1.r,sr.z1.x,sr.z0.r,sr.z0.x] from aq.o);go_wp2_with fail;refine tR 10 [(3,.gv (zq sr.z0 1 1) (64)),(7,.gv (zq sr.z1 1 1) (64)),(9,.box 103 (bD 2 fun _=>zEn).toArray)] ?_;refine Qs ?_;refine Ee (fun R I=>lD gf sr.z0 _ (dh.ext HR.g.r.c I.1) AcJ AcJ) ?_;intro e0 ee ed;refine Qs ?_;refine Ee (fun R I=>lD gf sr.z1 _ (dh.ext HR.g.r.c I.1) Ac4 Ac4) ?_;intro e1 ef eo;simp only[En.v,gv];refine Qs ?_;refine Eb ?_;intro dp ei bj;refine bP ?_;intro wE I;have F:=I.ext;have ZU:=I.hR 3;have ZT:=I.hR 7;have am:=I.hB 9;have aI:=aW (I.low 9 _ rf);clear bj;have Yx:=aW F;clear I F;have N:=aW (am.there (o:=0) (n:=(e0.cells++e1.cells).length) Ab9);refine bf rfl 103 (.tmp 16) (.tmp 98) rfl dp (0) (e0.cells++e1.cells) rf rf N.o (Fx _ _) (F7 _ _) (fun a7 G=> ?_);refine Qp ?_;replace G:=Hid.o G;obtain⟨ZO,ZY,bm⟩:=Kj am.o Yx.o aI.o G;have cL:Hid (Blk a7 dp 103 #[e0.s1,aO e0.A1 e0.n1 e0.c1,e0.s2,aO e0.A2 e0.n2 e0.c2,e0.s3,aO e0.A3 e0.n3 e0.c3,e1.s1,aO e1.A1 e1.n1 e1.c1,e1.s2,aO e1.A2 e1.n2 e1.c2,e1.s3,aO e1.A3 e1.n3 e1.c3]):=aW ZO;have D:=aW (bm _ _ _ ZU.o);have Zj:=aW (bm _ _ _ ZT.o);replace HR:=HR.aA ZY;replace aq:=aq.aA ZY;clear ZO ZY bm G N Yx ZU ZT am aI bi;have bi:=aX.blk (show Blk a7 Z7 83 #[sr.name,sr.emf,sr.z1.r,sr.z1.x,sr.z0.r,sr.z0.x] from aq.o);have cR:=aX.blk cL.o;have cG:=aX.cell (HR.g.r.g.cell_ (k:=13) aa ((dR aa).trans HR.g.c13));go_wp2_with fail;refine tR 14 [(1,.eq (.pointer (γ (aM gx 0)))),(10,.gv (GQ.i sr.emf 0) (64)),(12,.br ⟨bn,17,sr.z0,sr.z1,1,1,sr.emf⟩)] ?_;refine Qs ?_;refine En_ ?_;intro cS cJ;refine Qs ?_;refine Ee (fun R I=>dO gf sr.emf _ (dh.ext HR.g.r.c I.1) (by have:=c8.o;omega) (by have:=c8.o;omega)) ?_;intro e2 cc cf;simp only[En.v,gv];refine Qs ?_;refine eF rf rf rf ?_ ?_
         .intro R I;have hW:=I.1;have cB:GV R e2.v (GQ.i sr.emf 0) 64:=afG (I.2 10 (e2.v,cc,cf) rf ah);clear I;go_simp;exact⟨Ext.new _ _,rfl,ag,⟨bn,17,e0,e1,e2⟩,Blk.new _ _ _,⟨rfl,rfl,(D.ext hW).ext (Ext.new _ _),(Zj.ext hW).ext (Ext.new _ _),cB.ext (Ext.new _ _)⟩⟩
         intro v_ YR ar YG;obtain⟨R,Yy⟩:=YG;obtain⟨rfl,bl,-⟩:NR.holds (.br ⟨bn,17,sr.z0,sr.z1,1,1,sr.emf⟩) YR ar v_ R:=Yy.get;clear Yy R;refine Qp ?_;refine Qs ?_;refine bP ?_;intro wE I;have F:=I.ext;have cd:=I.hR 10;have cn:NR.holds (.br ⟨bn,17,sr.z0,sr.z1,1,1,sr.emf⟩) YR ar (.pointer (γ (aM YR 0))) wE:=I.at_ 12 (e:=(.pointer (γ (aM YR 0)),YR,ar)) rf;obtain⟨-,-,ad,aE,ax⟩:=cn;have aP:=aW aE;have aB:=aW ax;clear aE ax;have az:=aW (I.low 12 _ rf);clear bl;have Yx:=aW F;clear I F;have U:=aP;have ai:=aB;have ap:=az;clear aP aB az;have ba:a7.heap.size<=YR:=ap.o;have YN:=HR.g.r.m.size;have cr:=HR.g.bB.lt;have bt:Hid (ny wE w.heap.size (C 0) gB gB (.pointer (γ (aM YR 0))) (γ _)):=aW (af4 U.o ai.o aa (fun e=>by have:=(HR.g.r.own.low e).2;omega) aa aa);clear ba YN cr;replace HR:=HR.aA Yx.o;have kx:=HR.g.bB.cell Yp;have fx:=HR.g.bB.frozen i;obtain⟨bA,a8,bV⟩:=HR.ptr (W':=(wE.setCell ⟨gB,i,δ⟩ (.pointer (γ (aM YR 0))))) Yp bp.o bt.o rfl;have L:=aW bA;have ac:Hid (Blk (wE.setCell ⟨gB,i,δ⟩ (.pointer (γ (aM YR 0)))) YR 167 ad.cs.toArray):=aW (U.mod a8 (Blk.eY U.o HR.g.bB aj));have Zd:=aW (ai.fM a8 bV);clear bA a8 bV U ai ap bt HR Yx;clear bi cR cG;go_wp2_with fail;clear kx fx;generalize (wE.setCell ⟨gB,i,δ⟩ (.pointer (γ (aM YR 0))))=wA at L ac Zd⊢;have k0:=L.g.r.g.cell (k:=0) aa;have cE:=fun x=>Kp3.a (b:=gB) (c:=gB) (L.g.r.g.cell_ (k:=0) aa (dR aa)) x;have bb:=fun x=>Kp3.a (b:=gB) (c:=gB) (L.g.r.g.cell_ (k:=13) aa ((dR aa).trans L.g.c13)) x;have cC:=fun x=>Kp3.b (a:=gx) (c:=gB) (L.g.bB.cell_ Yp (upd_same ..)) x;clear k0;refine jB 16 (fun w'=>∃x:Kp3 wA gx gB gB,w'=x.val) [(ε,0),(ε,1),(ε,2),(ε,3),(ε,4),(ε,5),(ε,6),(ε,7),(ε,8),(ε,9),(ε,10),(ε,11),(ε,12),(ζ,13),(ζ,14),(ζ,15)] ah ah ⟨⟨wA.drew,rfl,rfl,rfl⟩,rfl⟩ ?_;refine bC [0,1,2,3,4,5,6,7,8,9,10,11,12] [(ζ,13),(ζ,14),(ζ,15)] _ ah ?_;refine Gq ?_;clear cE bb cC;have Yr:=aW (ac.ext (Ext.refl wA).drew).rng;refine bz 13 [(ζ,14),(ζ,15)] ah ?_;intro K I;simp only[bG];(go_wp2_with (refine υ rfl 167 _ rfl YR (0) rf (ad.cs) _ Yr.o aaT rfl (uj _) (Hid.o ?_)));refine Qz ?_;go_wp2_with fail;refine I _ _ ⟨⟨wA.drew,rfl,rfl,rfl⟩,rfl⟩ ?_;clear I K Yr;unfold BrV.cs;refine bz 14 [(ζ,15)] ah ?_;intro K I;simp only[bG];go_wp2_with fail;have a2:Hid (Blk (wA.drew.alloc (.cells ad.cs.toArray 167)) wA.heap.size 167 ad.cs.toArray):=aW (Blk.new wA.drew _ _);have Zk:Hid (Ext wA (wA.drew.alloc (.cells ad.cs.toArray 167))):=aW ((Ext.refl wA).drew.trans (Ext.new _ _));refine I _ _ (Kp3.of (S:=fun _=>False) (ae1 Zk.o) L.g.r.g.lt L.g.bB.lt L.g.bB.lt id id id) ?_;clear I K;have T:=aW (L.ext Zk.o);have YN:=L.g.r.m.size;have Zm:=sH s p i;refine bz 15 [] ah ?_;intro K I;simp only[bG];(go_wp2_with (at_builtin;refine nR rfl (.tmp 117) (.tmp 127) rfl rf rf T.g.r.own Adw (Ξ YN Zk.size) a2.o (fun v2 w2 YQ ZA M=> ?_)));obtain⟨cy,be,ZE⟩:=YQ.form aa;subst ZE;refine Qp ?_;go_wp2;refine I _ _ (Kp3.of ((ae1 Zk.o).trans ZA) L.g.r.g.lt L.g.bB.lt L.g.bB.lt (T.g.r.own.ne T.g.r.g aj) (T.g.r.own.ne T.g.bB aj) (T.g.r.own.ne T.g.bB aj)) ?_;clear I K;simp only[cK,ξ,τ];have Zq:=T.g.r.g.mod ZA (T.g.r.own.ne T.g.r.g aj);have kx:=Zq.cell (k:=0) aa;have fx:=Zq.frozen 0;have Yv:=aW (T.push (W2:=w2.setCell ⟨gx,0,δ⟩ (.slice (γ (aM cy 0)) ((fV s p i).length+1) be)) bp.o (fun l e=>sS Adk) (Zd.ext Zk.o) YQ ZA M rfl);clear T L Zd ac a2 Zk Zq YQ ZA M YN Zm;go_wp2_with fail
         exact Aau
        .have YI:(b.kind==2)=ζ:=by simpa using h2
         have H2:=aW h2;clear h2;by_cases h3:b.kind=3
         .have YK:(b.kind==3)=ε:=by rw[h3];rfl
          have H3:=aW h3;clear h3;have ZC:=Rj YH.o Yp (p:=p) (by rw[YT.o];exact H3.o);rw[Zy.o] at ZC;obtain⟨a4,a5,-,Zf⟩:=ZC;have Zf:nb=1:=Zf;subst Zf;have a4:0<=mb:=a4;have a5:mb<4:=a5;obtain⟨m,rfl⟩:∃m:Nat,mb=(m:Int):=⟨mb.toNat,aa⟩;have ek:wrap64 (13+(m:Int))=((13+m:Nat):Int):=by rw[Aa _ aa];omega
          have dv:ZB.cell? (aM ZL 2)=γ (.int .i64 1):=(YB.cell 2).trans rfl;have d9:ZB.cell? (aM ZL 3)=γ (.int .i64 (m:Int)):=(YB.cell 3).trans rfl;have er:=aW (And.intro a4 a5);clear a4 a5;by_cases Yt:ma=(m:Int)
          .subst Yt;have Yv:=aW (HR.skip (by unfold gG;simp only[];rw[YT.o,ι bo.o,θ H2.o,θ (fun e=>e.2 (by rw[Zy.o]))]) (fun l e=>sS Adk));clear HR;go_wp2_with fail
           exact Aau
          .have Zi:(ma==(m:Int))=ζ:=by simpa using Yt
           have Zh:(ma !=(m:Int))=ε:=by simpa using Yt
           have YS:=aW Yt;clear Yt;have bp:Hid (gG s p i=γ ⟨bn,13+m,b.z,b.z,1,1,0⟩):=aW (by unfold gG;simp only[];rw[YT.o,ι bo.o,θ H2.o,ι ⟨H3.o,by rw[Zy.o];simp;exact YS.o⟩,a2.o,Zy.o];rfl);have du:ZB.cell? (aM g12 4)=γ (.int .i64 b.z.r):=(YZ.cell 4).trans rfl;have d2:ZB.cell? (aM g12 5)=γ (.int .i64 b.z.x):=(YZ.cell 5).trans rfl;have c7:=vJ.1 (QC b0.o H3.o);have di:=aW c7;clear c7;go_wp2_with fail;clear du d2 cV cT dv d9 kk ko ke kp k8;refine(lD gf b.z _ HR.g.r.c (by have:=di.o;omega) (by have:=di.o;omega)).mono ?_;rintro _ bx ⟨_,rfl,M,F⟩;obtain⟨e0,rfl⟩:=M.en;have D:=aW M;replace HR:=HR.aA F;replace YB:=YB.aA F;clear M F YZ ZW J;simp only[En.v,gv];(go_wp2_with (refine bJ rfl 42 rfl _ Tz (fun ci G=>Hid.o ?_)));refine Qz ?_;replace G:=Hid.o G;have F:Ext bx ci:=by rw[G];exact Ext.new _ _
           have Yu:Blk ci bx.heap.size 42 zEn.cells.toArray:=by rw[G];exact Blk.new _ _ _
           clear G;generalize cQ:bx.heap.size=YR at Yu⊢;have N:=aW (Yu.there (o:=0) (n:=e0.cells.length) (κ 6));(go_wp2_with (refine bf rfl 42 (.tmp 17) (.tmp 141) rfl YR (0) (e0.cells) rf rf N.o (UF _) (eO _) (fun a7 G=>Hid.o ?_)));refine Qz ?_;replace G:=Hid.o G;obtain⟨ZO,ZY,bm⟩:=Wx Yu F aa G;have ce:Hid (Blk a7 YR 42 #[e0.s1,aO e0.A1 e0.n1 e0.c1,e0.s2,aO e0.A2 e0.n2 e0.c2,e0.s3,aO e0.A3 e0.n3 e0.c3]):=aW ZO;replace D:=aW (bm _ _ _ (D.ext F));replace HR:=HR.aA ZY;replace YB:=YB.aA ZY;clear ZO ZY bm G N Yu F cQ;have cN:=aX.blk ce.o;have d6:=aX.cell (show a7.cell? (aM ZL 3)=γ (.int .i64 (m:Int)) from (YB.cell 3).trans rfl);have cG:=aX.cell (HR.g.r.g.cell_ (k:=13) aa ((dR aa).trans HR.g.c13));go_wp2_with fail;refine tR 18 [(1,.eq (.pointer (γ (aM gx 0)))),(14,.gv (GQ.i 0 0) (64)),(16,.br ⟨bn,13+m,b.z,b.z,1,1,0⟩)] ?_;refine Qs ?_;refine En_ ?_;intro cS cJ;refine Qs ?_;refine Ee (fun R I=>dO gf 0 _ (dh.ext HR.g.r.c I.1) aa aa) ?_;intro e2 ca cg;simp only[En.v,gv];refine Qs ?_;refine eF rf rf rf ?_ ?_
           .intro R I;have hW:=I.1;have cB:GV R e2.v (GQ.i 0 0) 64:=afG (I.2 14 (e2.v,ca,cg) rf ah);clear I;go_simp;exact⟨Ext.new _ _,rfl,ag,⟨bn,13+m,e0,e0,e2⟩,Blk.new _ _ _,⟨rfl,rfl,(D.ext hW).ext (Ext.new _ _),(D.ext hW).ext (Ext.new _ _),cB.ext (Ext.new _ _)⟩⟩
           intro v_ ZK av YG;obtain⟨R,Yy⟩:=YG;obtain⟨rfl,bk,-⟩:NR.holds (.br ⟨bn,13+m,b.z,b.z,1,1,0⟩) ZK av v_ R:=Yy.get;clear Yy R;refine Qp ?_;refine Qs ?_;refine bP ?_;intro wE I;have F:=I.ext;have cd:=I.hR 14;have cn:NR.holds (.br ⟨bn,13+m,b.z,b.z,1,1,0⟩) ZK av (.pointer (γ (aM ZK 0))) wE:=I.at_ 16 (e:=(.pointer (γ (aM ZK 0)),ZK,av)) rf;obtain⟨-,-,af,aw,a0⟩:=cn;have aG:=aW aw;have ay:=aW a0;clear aw a0;have a1:=aW (I.low 16 _ rf);clear bk;have Yx:=aW F;clear I F;have U:=aG;have ai:=ay;have ap:=a1;clear aG ay a1;have ba:a7.heap.size<=ZK:=ap.o;have YN:=HR.g.r.m.size;have cr:=HR.g.bB.lt;have bt:Hid (ny wE w.heap.size (C 0) gB gB (.pointer (γ (aM ZK 0))) (γ _)):=aW (af4 U.o ai.o aa (fun e=>by have:=(HR.g.r.own.low e).2;omega) aa aa);clear ba YN cr;replace HR:=HR.aA Yx.o;have kx:=HR.g.bB.cell Yp;have fx:=HR.g.bB.frozen i;obtain⟨bA,a8,bV⟩:=HR.ptr (W':=(wE.setCell ⟨gB,i,δ⟩ (.pointer (γ (aM ZK 0))))) Yp bp.o bt.o rfl;have L:=aW bA;have ac:Hid (Blk (wE.setCell ⟨gB,i,δ⟩ (.pointer (γ (aM ZK 0)))) ZK 167 af.cs.toArray):=aW (U.mod a8 (Blk.eY U.o HR.g.bB aj));have Zd:=aW (ai.fM a8 bV);clear bA a8 bV U ai ap bt HR Yx;clear cN d6 cG;go_wp2_with fail;clear kx fx;generalize (wE.setCell ⟨gB,i,δ⟩ (.pointer (γ (aM ZK 0))))=wA at L ac Zd⊢;have k0:=L.g.r.g.cell (k:=0) aa;have cE:=fun x=>Kp3.a (b:=gB) (c:=gB) (L.g.r.g.cell_ (k:=0) aa (dR aa)) x;have bb:=fun x=>Kp3.a (b:=gB) (c:=gB) (L.g.r.g.cell_ (k:=13) aa ((dR aa).trans L.g.c13)) x;have cC:=fun x=>Kp3.b (a:=gx) (c:=gB) (L.g.bB.cell_ Yp (upd_same ..)) x;clear k0;refine jB 16 (fun w'=>∃x:Kp3 wA gx gB gB,w'=x.val) [(ε,0),(ε,1),(ε,2),(ε,3),(ε,4),(ε,5),(ε,6),(ε,7),(ε,8),(ε,9),(ε,10),(ε,11),(ε,12),(ζ,13),(ζ,14),(ζ,15)] ah ah ⟨⟨wA.drew,rfl,rfl,rfl⟩,rfl⟩ ?_;refine bC [0,1,2,3,4,5,6,7,8,9,10,11,12] [(ζ,13),(ζ,14),(ζ,15)] _ ah ?_;refine Gq ?_;clear cE bb cC;have Yr:=aW (ac.ext (Ext.refl wA).drew).rng;refine bz 13 [(ζ,14),(ζ,15)] ah ?_;intro K I;simp only[bG];(go_wp2_with (refine υ rfl 167 _ rfl ZK (0) rf (af.cs) _ Yr.o aaT rfl (uj _) (Hid.o ?_)));refine Qz ?_;go_wp2_with fail;refine I _ _ ⟨⟨wA.drew,rfl,rfl,rfl⟩,rfl⟩ ?_;clear I K Yr;unfold BrV.cs;refine bz 14 [(ζ,15)] ah ?_;intro K I;simp only[bG];go_wp2_with fail;have a2:Hid (Blk (wA.drew.alloc (.cells af.cs.toArray 167)) wA.heap.size 167 af.cs.toArray):=aW (Blk.new wA.drew _ _);have Zk:Hid (Ext wA (wA.drew.alloc (.cells af.cs.toArray 167))):=aW ((Ext.refl wA).drew.trans (Ext.new _ _));refine I _ _ (Kp3.of (S:=fun _=>False) (ae1 Zk.o) L.g.r.g.lt L.g.bB.lt L.g.bB.lt id id id) ?_;clear I K;have T:=aW (L.ext Zk.o);have YN:=L.g.r.m.size;have Zm:=sH s p i;refine bz 15 [] ah ?_;intro K I;simp only[bG];(go_wp2_with (at_builtin;refine nR rfl (.tmp 164) (.tmp 174) rfl rf rf T.g.r.own Adw (Ξ YN Zk.size) a2.o (fun v2 w2 YQ ZA M=> ?_)));obtain⟨cy,be,ZE⟩:=YQ.form aa;subst ZE;refine Qp ?_;go_wp2;refine I _ _ (Kp3.of ((ae1 Zk.o).trans ZA) L.g.r.g.lt L.g.bB.lt L.g.bB.lt (T.g.r.own.ne T.g.r.g aj) (T.g.r.own.ne T.g.bB aj) (T.g.r.own.ne T.g.bB aj)) ?_;clear I K;simp only[cK,ξ,τ];have Zq:=T.g.r.g.mod ZA (T.g.r.own.ne T.g.r.g aj);have kx:=Zq.cell (k:=0) aa;have fx:=Zq.frozen 0;have Yv:=aW (T.push (W2:=w2.setCell ⟨gx,0,δ⟩ (.slice (γ (aM cy 0)) ((fV s p i).length+1) be)) bp.o (fun l e=>sS Adk) (Zd.ext Zk.o) YQ ZA M rfl);clear T L Zd ac a2 Zk Zq YQ ZA M YN Zm;go_wp2_with fail
           exact Aau
         .have YK:(b.kind==3)=ζ:=by simpa using h3
          have H3:=aW h3;clear h3;have Yv:=aW (HR.skip (by unfold gG;simp only[];rw[YT.o,ι bo.o,θ H2.o,θ (fun e=>H3.o e.1)]) (fun l e=>sS Adk));clear HR;go_wp2_with fail
          exact Aau
      .have YE:(na !=1)=ε:=by simpa using ZZ
       have da:=aW ZZ;clear ZZ;have Yv:=aW (HR.skip (Cu (by rw[HJ.o,π da.o];rfl)) (fun l e=>Dr (by rw[HJ.o,π da.o];rfl)));clear HR;go_wp2_with fail
       exact Aau
    .obtain rfl:i=s.bays.length:=aa;have hd:decide ((s.bays.length:Int)<(s.bays.length:Int))=ζ:=ag;have YM:=aW (agx HR.o);clear HR hi Yp;have kx:=YM.g.r.g.cell (k:=14) aa;have fx:=YM.g.r.g.frozen 14;have HZ:=aW (YM.set (W':=(wr.setCell ⟨gx,14,δ⟩ (.int .i64 17))) 17 rfl);clear YM;have k9:=HZ.b9.cell;have k7:=HZ.b7.cell;by_cases Ze:f.kind=0
     .have Zr:(f.kind !=0)=ζ:=by rw[Ze];rfl
      have cl:=aW Ze;clear Ze;go_wp2_with fail;have ZP:upd C 14 (.int .i64 ((17:Nat):Int)) 14=.int .i64 ((if f.kind≠0/\f.line=ζ then 13+((groups s p).getD f.obj.toNat 0).toNat else 17:Nat):Int):=by rw[θ (fun e=>e.1 cl.o)];exact HZ.c14
      have hh:=Fq f gx gf gB wa w _ Zw.o Zo.o Yw.o YH.o ZR.o HZ.g HZ.ends ZP HZ.liv;clear ZP kx fx k9 k7 HZ;refine hh.mono ?_;clear hh;rintro _ w4 ⟨rfl,C',a9,Y⟩;have Yq:=aW Y;clear Y;go_wp2_with fail;refine aaY (aat rfl _ _ _) rfl ⟨rfl,C',a9,Yq.o⟩
     .have Zr:(f.kind !=0)=ε:=by simpa using Ze
      have cl:=aW Ze;clear Ze;cases ZV:f.line with
      |true=>
       rw[ZV] at k9;have a6:=aW ZV;clear ZV;go_wp2_with fail;have ZP:upd C 14 (.int .i64 ((17:Nat):Int)) 14=.int .i64 ((if f.kind≠0/\f.line=ζ then 13+((groups s p).getD f.obj.toNat 0).toNat else 17:Nat):Int):=by rw[θ (fun e=>by have:=e.2;rw[a6.o] at this;exact absurd this aj)];exact HZ.c14
       have hh:=Fq f gx gf gB wa w _ Zw.o Zo.o Yw.o YH.o ZR.o HZ.g HZ.ends ZP HZ.liv;unfold nX at hh;rw[a6.o] at hh;clear ZP kx fx k9 k7 HZ;refine hh.mono ?_;clear hh;rintro _ w4 ⟨rfl,C',a9,Y⟩;have Yq:=aW Y;clear Y;go_wp2_with fail;refine aaY (aat rfl _ _ _) rfl ⟨rfl,C',a9,Yq.o⟩
      |false=>
       rw[ZV] at k9;have a6:=aW ZV;clear ZV;have bq:=ZR.bus a6.o (by have:=cl.o;have:=ZR.kind.1;omega);obtain⟨o,Zp⟩:∃o:Nat,f.obj=(o:Int):=⟨f.obj.toNat,aa⟩;have YW:o<s.buses.length:=aa;rw[Zp] at k9;have a3:=aW Zp;clear Zp bq;have Zm:=(Yw.ext (HZ.g.older Zw.o Zo.o)).buses.len;have cM:o<n0:=aa;have dy:=aW (lC YH.o p YW);have q1:(0:Int)<=o:=aa;have q2:(o:Int)<n0:=aa;have k8:=HZ.b8.cell;go_wp2_with fail;clear kx fx k7 k8 k9 Zm;generalize (wr.setCell ⟨gx,14,δ⟩ (.int .i64 17))=wz at HZ⊢;have bw:=aW (Yw.ext (HZ.g.older Zw.o Zo.o));have ds:=aW (ZM.mod db.o HZ.g.r.m (fun g hg=>by have hg:g=gx:=hg;have:=YU.o;omega));have cp:=HZ.b9;rw[a6.o,a3.o] at cp;have d4:=aX.blk HZ.b7;have d7:=aX.blk HZ.b8;have dT:=aX.blk cp;clear cp;refine jB 9 (fun w'=>∃x:aX wz,w'=x.val) [(ε,0),(ε,1),(ε,2),(ε,4),(ε,5),(ζ,3),(ζ,6),(ζ,7),(ζ,8)] ah ah ⟨⟨_,(Ext.refl wz).drew⟩,rfl⟩ ?_;refine bC [0,1,2,4,5] [(ζ,3),(ζ,6),(ζ,7),(ζ,8)] _ ah ?_;refine Gq ?_;clear d4 d7 dT;have P:Ext wz wz.drew:=(Ext.refl _).drew;refine bz 3 [(ζ,6),(ζ,7),(ζ,8)] ah ?_;intro K I;simp only[bG];go_wp2_with fail;refine(Gr _ (bw.ext P) (ds.ext P) Yz.o Z9.o).mono ?_;rintro _ w2 ⟨GA,Q,rfl,cF,F⟩;replace P:=P.trans F;clear F;have YF:=cF.2;obtain⟨gg,og,dq,Zx,de⟩:=cF.2.at_ cM;subst dq;obtain⟨gr,cH⟩:∃g,(groups s p).getD o 0=g:=⟨_,rfl⟩;have kg:w2.cell? (aM gg (og+o))=γ (.int .i64 gr):=by have h1:=de 0 _ rfl;rw[cH] at h1;simpa using h1
       have dn:=aW cH;clear cH cF YF Zx de;have Zx:=dy.o;rw[dn.o] at Zx;obtain⟨gn,rfl⟩:∃g:Nat,gr=(g:Int):=⟨gr.toNat,aa⟩;have ec:wrap64 (13+(gn:Int))=((13+gn:Nat):Int):=by rw[Aa _ aa];omega
       clear Zx;go_wp2;refine I _ _ ⟨⟨_,P⟩,rfl⟩ ?_;clear I K;refine bz 6 [(ζ,7),(ζ,8)] ah ?_;intro K I;simp only[bG];go_wp2_with fail;refine I _ _ ⟨⟨_,P⟩,rfl⟩ ?_;clear I K;refine bz 7 [(ζ,8)] ah ?_;intro K I;simp only[bG];go_wp2_with fail;refine I _ _ ⟨⟨_,P⟩,rfl⟩ ?_;clear I K;refine bz 8 [] ah ?_;intro K I;simp only[bG];go_wp2_with fail;refine I _ _ ⟨⟨_,P⟩,rfl⟩ ?_;clear I K;simp only[cK,ξ,τ];replace HZ:=HZ.aA P;have kx:=HZ.g.r.g.cell (k:=14) aa;have fx:=HZ.g.r.g.frozen 14;replace HZ:=aW (HZ.set (W':=w2.setCell ⟨gx,14,δ⟩ (.int .i64 (13+(gn:Int)))) (13+gn) (by rw[show((13+gn:Nat):Int)=13+(gn:Int) by omega]));have cA:=HZ.b9;rw[a6.o,a3.o] at cA;have k9:=cA.cell;clear cA;have k7:=HZ.b7.cell;go_wp2_with fail;have ZP:upd (upd C 14 (.int .i64 ((17:Nat):Int))) 14 (.int .i64 ((13+gn:Nat):Int)) 14=.int .i64 ((if f.kind≠0/\f.line=ζ then 13+((groups s p).getD f.obj.toNat 0).toNat else 17:Nat):Int):=by rw[ι ⟨cl.o,a6.o⟩,a3.o,Ex,dn.o,Ex];exact HZ.c14
       have hh:=Fq f gx gf gB wa w _ Zw.o Zo.o Yw.o YH.o ZR.o HZ.g HZ.ends ZP HZ.liv;unfold nX at hh;rw[a6.o,a3.o] at hh;clear ZP kx fx k9 k7 HZ;refine hh.mono ?_;clear hh;rintro _ w4 ⟨rfl,C',a9,Y⟩;have Yq:=aW Y;clear Y;go_wp2_with fail;refine aaY (aat rfl _ _ _) rfl ⟨rfl,C',a9,Yq.o⟩
theorem EH(gx gf sq nb cb:Nat)(un C A Bv brs)(fN:Nat)(w)(hc:dh w gf)(hg:fP w gx 105 393 C)(hn:tO w C A nb cb Bv brs (lv brs))(hf:C 14=.int .i64 (fN:Int))(ZG:fN<=17)(hu:un=ε->lv brs fN=ε)(Zt:sq<=1):
  Calls prog 125 #[aN gx 0,aN gf 0,(sq:Int),.bool un] w fun e w'=>∃f:Nat->En,e=.returned (.agg (bD 18 f).toArray)/\
   (∀k,k<18->GV w' (f k).v (oM (lv brs) (rwx (lv brs)) (cnt (lv brs) 18) (usd (lv brs) sq brs) (if un=ε then unit (rwx (lv brs) fN) else feed (rwx (lv brs)) (usd (lv brs) sq brs)) k) 841)/\Ext w w':=by
 have HN:=aW hn;have HU:=aW hu;have am:=aW hf;have Zn:=aW ZG;have ZN:=aW Zt;have HC:=aW hc;have HG:=aW hg;clear hn hu hf ZG Zt hc hg;go_enter func125,ntmps125;(iterate 3 (try (first|go_values|go_skip|go_guarded|go_step|go_upon|go_in|go_back|go_simp)));refine gu rfl 100 rfl _ Dw ?_;intro w1 l;refine Qp ?_;have YA:Hid (Blk w1 w.heap.size 100 (bD 18 fun _=>zEn).toArray):=aW Adn;have HX:Hid (Ext w w1):=aW (by rw[l];exact Ext.new _ _);clear l;generalize Zi:w.heap.size=g8 at YA⊢;have YW:Hid (w.heap.size<=g8):=aW aa;clear Zi;(iterate 5 (try (first|go_values|go_skip|go_guarded|go_step|go_upon|go_in|go_back|go_simp)));refine gu rfl 100 rfl _ Dw ?_;intro w2 l;refine Qp ?_;have F:Ext w1 w2:=by rw[l];exact Ext.new _ _
 have D:Hid (Blk w2 w1.heap.size 100 (bD 18 fun _=>zEn).toArray):=aW Adn;have Zy:Hid (w.heap.size<=w1.heap.size/\g8<w1.heap.size):=aW ⟨HX.size,YA.lt⟩;replace YA:=YA.aA F;replace HX:=HX.aC F;clear F l;generalize w1.heap.size=g9 at D Zy⊢;(iterate 5 (try (first|go_values|go_skip|go_guarded|go_step|go_upon|go_in|go_back|go_simp)));refine gu rfl 222 rfl _ KC ?_;intro w3 l;refine Qp ?_;have F:Ext w2 w3:=by rw[l];exact Ext.new _ _
 have B:Hid (fP w3 w2.heap.size 222 18 fun _=> .int .i64 0):=aW Adn;have Zh:Hid (w.heap.size<=w2.heap.size/\g9<w2.heap.size):=aW ⟨HX.size,D.lt⟩;replace YA:=YA.aA F;replace D:=D.aA F;replace HX:=HX.aC F;clear F l;generalize w2.heap.size=g10 at B Zh⊢;have YX:w3.rangeAt gx 15 (jI (lv brs)):=(HG.ext HX.o).rangeAt (by simp[jI]) (fun j v hv=>uW HN.o hv);have Yr:=aW YX;clear YX;(go_wp2_with (refine υ rfl 99 _ rfl gx 15 rf (jI (lv brs)) _ Yr.o abE rfl vH ?_));clear Yr;go_loopw [11,26] (fun nv iv wr=>∃i:Nat,i<=18/\iv=.int .i64 i/\nv=.int .i64 (cnt (lv brs) i:Nat)/\Lp1 w wr g8 g9 g10 (lv brs) i i) (fun _ iv _=>18-(intOf iv).toNat)
 case atStart=>exact⟨0,aa,rfl,rfl,YA.o,⟨_,D.o,by intros;omega⟩,B.congr (fun k hk=>by rw[θ aa]),HX.o,YW.o,Zy.o,Zh.o⟩
 case round=>
  clear YA D B HX YW Zy Zh;obtain⟨i,hi,rfl,rfl,hR⟩:=hrel;have HR:=aW hR;clear hR;by_cases Yp:i<18
  .have hd:decide ((i:Int)<18)=ε:=ae;have Yz:=RF (L:=lv brs) Yp wr;have q1:(0:Int)<=i:=aa;have q2:(i:Int)<18:=aa;go_wp2_with fail;refine(dO gf 0 _ (HC.ext HR.x) aa aa).mono ?_;rintro _ wa ⟨_,rfl,M,F⟩;obtain⟨eN,rfl⟩:=M.en;have Q:=aW M;replace HR:=HR.aA F;clear M F Yz;(iterate 5 (try (first|go_values|go_skip|go_guarded|go_step|go_upon|go_in|go_back|go_simp)));have N:=aW (HR.there Yp);refine bF rfl 42 (.tmp 33) (.tmp 32) rfl g9 (i*6) eN.cells rf rf N.o cu (eO eN) ?_;intro wb l;refine Qp ?_;have Yv:=aW (HR.put Yp Q.o l);clear HR Q N l;have Zw:cnt (lv brs) i<=18:=Ξ (LB i) hi;cases hL:lv brs i with
   |false=>
    have HL:=aW hL;have ZR:=aW (Tg hL);go_wp2_with fail
    go_roundw
    case rel=>exact⟨i+1,aa,au,by rw[ZR.o],Yv.skip HL.o⟩
    case measure=>exact aV
   |true=>
    have HL:=aW hL;have ZR:=aW (W9 hL);have Zp:=Yv.b10.cell (k:=i) aa;have ar:=Yv.b10.frozen;go_wp2_with fail
    go_roundw
    case rel=>exact⟨i+1,aa,au,by rw[ZR.o],Yv.row Yp HL.o⟩
    case measure=>exact aV
  .obtain rfl:i=18:=aa;have Zw:cnt (lv brs) 18<=17:=GH (Dq HN.ok).none;have V:∃n,cnt (lv brs) 18=n:=⟨_,rfl⟩;obtain⟨n,V⟩:=V;have Zq:=aW V;rw[V] at Zw⊢;clear V;have hd:decide ((18:Int)<18)=ζ:=aj;go_wp2_with fail;refine(E8 gf n n _ (HC.ext HR.x) aa aa).mono ?_;rintro _ wB ⟨Ga,Ra,rfl,Z7⟩;have ZQ:=aW Z7;clear Z7;go_wp2_with fail;refine(E8 gf n 1 _ ((HC.ext HR.x).ext ZQ.ext) aa aa).mono ?_;rintro _ wC ⟨Gb,Rb,rfl,ZF⟩;have Yv:=aW (agn HR.o ZQ.o ZF);clear HR ZQ ZF;have k0:=HG.ext Yv.p1.x;have Zg:=k0.cell_ (k:=0) aa HN.br;have ai:=aW k0;clear k0;go_wp2_with fail;clear Zg;have Z9:=aW Zw;go_loopw [53] (fun iv wz=>∃i:Nat,i<=nb/\iv=.int .i64 i/\Lp2 w wz g8 g9 g10 Ga Gb (lv brs) n Ra Rb (eqA (lv brs) sq brs i) (eqB (lv brs) sq brs i)) (aT nb)
   case atStart=>exact⟨0,aa,rfl,Yv.o⟩
   case round=>
    clear Yv ai hd;rename World=>wz;obtain⟨i,hi,rfl,hR⟩:=hrel;have HR:=aW hR;clear hR;by_cases Yp:i<nb
    .have hd:decide ((i:Int)<nb)=ε:=ae;obtain⟨bA,oA,hA,Zm,Zj⟩:=HN.arr aa;subst hA;have ZO:=aW (show wz.rangeAt bA (oA+i*20) (Bv i).cs from fun j v hv=>HR.p1.x.cell_ (Zj i Yp j v hv));clear Zj;(iterate 21 (try (first|go_values|go_skip|go_guarded|go_step|go_upon|go_in|go_back|go_simp)));refine υ rfl 167 _ rfl bA (oA+i*20) rf (Bv i).cs _ ZO.o aaT rfl xJ ?_;refine gu rfl 167 rfl _ MH ?_;intro wd YN;refine bF rfl 167 (.tmp 17) (.tmp 56) rfl wz.heap.size 0 (Bv i).cs rf rf AcG xJ (yJ _) ?_;intro we YZ;refine Qp ?_;have YE:Blk wd wz.heap.size 167 zBr:=by rw[YN];exact Blk.new _ _ _
     have H:Ext wz wd:=by rw[YN];exact Ext.new _ _
     have P:Ext wz we:=by rw[YZ];exact fK (κ _:Own wz wz.heap.size) 0 _ H
     have YF:Blk we wz.heap.size 167 (Bv i).cs.toArray:=by rw[YZ];exact Rt YE
     have U:=aW YF;have W:=aW P;replace HR:=HR.aA P;clear YN YZ YE H P YF;generalize wz.heap.size=YR at U⊢;have Zd:wrap64 ((i:Int)+1)=(i:Int)+1:=Aa _ (by have:=HN.len;have:=HN.l23;omega);have O:=aW Zd;clear Zd;have hm:brs.getD i η∈brs:=CO (by have:=HN.len;omega);have YC:=HN.ok _ hm;have Yt:=HN.ab i Yp;have T:=HN.len;have YH:=aW YC;have YI:=aW Yt;have ZH:=aW T;clear YC Yt T hm;have Zv:(Bv i).a<17:=by rw[YI.o.1];exact YH.a
     have YK:we.cell? (aM YR 0)=γ (.int .i64 ((Bv i).a:Int)):=(U.cell 0).trans rfl;have Yy:we.cell? (aM YR 1)=γ (.int .i64 ((Bv i).b:Int)):=(U.cell 1).trans rfl;have kc:we.cell? (aM gf 0)=γ (.int .i64 0):=((Blk.ext HC.o HR.p1.x).cell 0).trans rfl;have kl:=(HG.ext HR.p1.x).cell_ (k:=15+(Bv i).a) aa (HN.live (Bv i).a aa);cases hL:lv brs (Bv i).a with
     |false=>
      rw[hL] at kl;have Yw:used (lv brs) (brs.getD i η)=ζ:=by unfold used;rw[<-YI.o.1,hL];rfl
      have Zl:=aW Yw;clear Yw;go_wp2_with fail;go_quiet (fail);go_wp2_with fail
      exact AbR
     |true=>
      rw[hL] at kl;by_cases YV:(Bv i).a=(Bv i).b
      .have Yw:used (lv brs) (brs.getD i η)=ζ:=by unfold used;rw[<-YI.o.1,<-YI.o.2,hL,YV];simp
       have Zl:=aW Yw;clear Yw;have ZJ:(((Bv i).a:Int) !=((Bv i).b:Int))=ζ:=by rw[YV];simp
       clear YV;go_wp2_with fail;go_quiet (fail);go_wp2_with fail
       exact AbR
      .have Yw:used (lv brs) (brs.getD i η)=ε:=by unfold used;rw[<-YI.o.1,<-YI.o.2,hL];simp[YV]
       have Zl:=aW Yw;clear Yw;have ZJ:(((Bv i).a:Int) !=((Bv i).b:Int))=ε:=ae;have aq:=aW YV;have HL:=aW hL;clear YV;go_wp2_with fail;go_quiet (fail);generalize J:we.drewN nq=wq;have Yq:Ext we wq:=by rw[<-J];exact(Ext.refl _).drewN _
       have ZI:=aW Yq;replace HR:=HR.aA Yq;replace U:=U.aA Yq;clear Yq J YK Yy kc kl ZJ;have ZC:wq.rangeAt g10 0 ((List.range 18).map fun k=>Value.int .i64 (rwx (lv brs) k:Nat)):=HR.p1.rng;have ZK:wq.rangeAt YR 0 (Bv i).cs:=fun j v hv=>(U.cell (0+j)).trans (by rw[aan,Γ];exact hv);have ZE:=aW ZC;have ZM:=aW ZK;clear ZC ZK;(go_wp2_with (first|refine υ rfl 222 _ rfl g10 0 rf _ _ ZE.o underlying222 rfl Ld ?_|refine υ rfl 167 _ rfl YR 0 rf _ _ ZM.o aaT rfl xJ ?_));clear ZE ZM;refine(PM HN.o (dh.ext HC.o HR.p1.x) HR.o Zq.o (by have:=ZH.o;omega) Zl.o ZN.o (HC.lt)).mono ?_;rintro _ wf ⟨rfl,Y⟩;have K:=aW Y;clear Y;go_wp2_with fail
       go_roundw
       case rel=>exact⟨i+1,aa,by rw[O.o];rfl,K.o⟩
       case measure=>rw[O.o];simp[aT,intOf];omega
    .obtain rfl:i=nb:=aa;have hd:decide ((i:Int)<i)=ζ:=ag;have ZB:brs.length=i:=HN.len;have ZP:=HR.a;rw[<-ZB,U2] at ZP;have HA:=aW ZP;have YB:=aW HR.p1;clear ZP;cases un
     case' false=>
      have Yu:=HR.b;rw[<-ZB,Vp] at Yu;have ac:=aW Yu;clear Yu HR ZB;have ZA:Hid (DU (rwx (lv brs)) (usd (lv brs) sq brs) (feed (rwx (lv brs)) (usd (lv brs) sq brs))):=aW (Or.inl rfl);have kc:wz.cell? (aM gf 0)=γ (.int .i64 0):=((Blk.ext HC.o YB.x).cell 0).trans rfl;go_wp2_with fail;clear kc;refine(EL HN.ok HN.l23 ZA.o Zq.o HA.o ac.o).mono ?_;rintro _ wS ⟨G,RX,rfl,YQ,F⟩;have HO:=aW YQ;replace YB:=YB.aA F;clear YQ F HA ac;go_wp2_with fail;refine(Er gf _ _ _ _ (dh.ext HC.o YB.x)).mono ?_;rintro _ wK ⟨rfl,F⟩;replace HO:=HO.aA F;replace YB:=YB.aA F;clear F;have kc:wK.cell? (aM gf 0)=γ (.int .i64 0):=((Blk.ext HC.o YB.x).cell 0).trans rfl;have YX:wK.rangeAt gx 15 (jI (lv brs)):=(HG.ext YB.x).rangeAt (by simp[jI]) (fun j v hv=>uW HN.o hv);have Yr:=aW YX;clear YX;(go_wp2_with (refine υ rfl 99 _ rfl gx 15 rf (jI (lv brs)) _ Yr.o abE rfl vH ?_));clear Yr kc;have Z:=aW (afL YB.o HO.o);clear YB HO;go_loopw [129] (fun iv wr=>∃i:Nat,i<=18/\iv=.int .i64 i/\Lp3 w wr g8 g9 g10 G (lv brs) n RX (sol n (fq zmx ((usd (lv brs) sq brs).map (Nb.br (rwx (lv brs))))) (col (feed (rwx (lv brs)) (usd (lv brs) sq brs)))) i) (aT 18)
     case' true=>
      clear ZB;have YD:∃r,rwx (lv brs) fN=r:=⟨_,rfl⟩;obtain⟨r,YD⟩:=YD;have ad:lv brs fN=ε:=HU.o rfl;have Zr:r<n:=by rw[<-YD,<-Zq.o];exact(afe (fun k hk=>vM HN.ok hk)).lt _ ad
      have ZT:=aW ad;clear ad;have Zw:n<=17:=Z9.o;go_wp2_with fail;refine(E8 gf n 1 _ (dh.ext HC.o YB.x) aa aa).mono ?_;rintro _ wD ⟨Gc,Rc,rfl,ZV⟩;have Zk:=aW ZV;clear ZV;go_wp2_with fail;have Z8:=aW (HG.ext (YB.x.trans Zk.ext));have Zx:=aX.cell (Z8.cell_ (k:=14) aa am.o);have ap:=aX.cell ((YB.ext Zk.ext).b10.cell_ (k:=fN) (v:=.int .i64 (r:Int)) Ac7 (by simp only[ι (show fN<18 by have:=Zn.o;omega),YD]));have ao:=aX.cell ((Zk.mx (Ext.refl _)).hd Zr aa);have ZG:=Zn.o;have q1:(0:Int)<=fN:=aa;have q2:(fN:Int)<18:=aa;have q3:(0:Int)<=r:=aa;have q4:(r:Int)<n:=aa;have YO:=aW YD;clear YD;refine tN 12 [(2,.eq (.pointer (γ (aM gx 0)))),(10,.gv (GQ.i 1 0) 64)] ?_;refine Qs ?_;refine En_ ?_;intro lo YP;refine Qs ?_;refine Ee (fun R I=>dO gf 1 _ (dh.ext HC.o ((YB.x.trans Zk.ext).trans I.1)) aa aa) ?_;intro e1 YS YJ;refine Qs ?_;refine bP ?_;intro wE I;have F:=I.ext;have YG:GV wE e1.v (GQ.i 1 0) 64:=ae6 (I.at_ 10 (e:=(e1.v,YS,YJ)) rf);have S:=aW YG;have Yx:=aW F;clear I F YG Zx ap ao;have N:=aW (Lj Zk.o Yx.o Zr);refine bF rfl 42 (.tmp 102) (.tmp 101) rfl (Rc r).b 0 e1.cells rf rf N.o cu (eO e1) ?_;intro wF l;refine Qp ?_;have Zf:=Sy YB.o HA.o Zk.o Yx.o Zr S.o l;clear N l S Yx Zk Z8 HR;replace YB:=aW Zf.1;replace HA:=aW Zf.2.1;have ac:=aW Zf.2.2;clear Zf;have ZA:Hid (DU (rwx (lv brs)) (usd (lv brs) sq brs) (unit r)):=aW (Or.inr ⟨_,rfl⟩);have YD:=YO.o;subst YD;have kc:wF.cell? (aM gf 0)=γ (.int .i64 0):=((Blk.ext HC.o YB.x).cell 0).trans rfl;go_wp2_with fail;clear kc;refine(EL HN.ok HN.l23 ZA.o Zq.o HA.o ac.o).mono ?_;rintro _ wS ⟨G,RX,rfl,YQ,F⟩;have HO:=aW YQ;replace YB:=YB.aA F;clear YQ F HA ac;go_wp2_with fail;refine(Er gf _ _ _ _ (dh.ext HC.o YB.x)).mono ?_;rintro _ wK ⟨rfl,F⟩;replace HO:=HO.aA F;replace YB:=YB.aA F;clear F;have kc:wK.cell? (aM gf 0)=γ (.int .i64 0):=((Blk.ext HC.o YB.x).cell 0).trans rfl;have YX:wK.rangeAt gx 15 (jI (lv brs)):=(HG.ext YB.x).rangeAt (by simp[jI]) (fun j v hv=>uW HN.o hv);have Yr:=aW YX;clear YX;(go_wp2_with (refine υ rfl 99 _ rfl gx 15 rf (jI (lv brs)) _ Yr.o abE rfl vH ?_));clear Yr kc;have Z:=aW (afL YB.o HO.o);clear YB HO;go_loopw [129] (fun iv wr=>∃i:Nat,i<=18/\iv=.int .i64 i/\Lp3 w wr g8 g9 g10 G (lv brs) n RX (sol n (fq zmx ((usd (lv brs) sq brs).map (Nb.br (rwx (lv brs))))) (col (unit (rwx (lv brs) fN)))) i) (aT 18)
     all_goals
      first
      |exact⟨0,aa,rfl,Z.o⟩
      |
       skip;clear Z;rename World=>wr;obtain⟨i3,YM,rfl,hR⟩:=hrel;have HR:=aW hR;clear hR;by_cases Zc:i3<18
       .have Zo:decide ((i3:Int)<18)=ε:=ae;have Yz:=RF (L:=lv brs) Zc wr;have q1:(0:Int)<=i3:=aa;have q2:(i3:Int)<18:=aa;cases hL:lv brs i3 with
        |false=>
         rw[hL] at Yz;have HL:=aW hL;go_wp2_with fail
         go_roundw
         case rel=>exact⟨i3+1,aa,au,HR.skip HL.o⟩
         case measure=>exact aV
        |true=>
         rw[hL] at Yz;have HL:=aW hL;have YD:∃r,rwx (lv brs) i3=r:=⟨_,rfl⟩;obtain⟨r3,Za⟩:=YD;have ZL:r3<n:=by rw[<-Za,<-Zq.o];exact(afe (fun k hk=>vM HN.ok hk)).lt _ HL.o
         have Zp:wr.cell? (aM g10 i3)=γ (.int .i64 (r3:Int)):=HR.b10.cell_ (k:=i3) aa (by simp only[ι Zc,Za]);have K:=aW Za;clear Za;have kh:=HR.hd ZL;obtain⟨e3,ZX,Zz⟩:=HR.en ZL;have ZU:wr.rangeAt (RX r3).b 0 e3.cells:=fun t v hv=>(by rw[aan];exact Zz t v hv);have YY:=aW ZX;have YL:=aW ZU;clear ZX Zz ZU;have N:=aW (HR.there Zc);have q3:(0:Int)<=r3:=aa;have q4:(r3:Int)<n:=aa;(go_wp2_with (refine υ rfl 42 _ rfl (RX r3).b 0 rf e3.cells _ YL.o abF rfl cu (Hid.o ?_)));refine Qz ?_;(go_wp2_with (refine bF rfl 42 (.tmp 143) (.tmp 142) rfl g9 (i3*6) e3.cells rf rf N.o cu (eO e3) (fun wb l=>Hid.o ?_)));refine Qz ?_;have Yv:=aW (HR.put Zc HL.o (by rw[K.o];exact YY.o) (wr':=puts wr g9 (i3*6) e3.cells) rfl);clear HR YY YL N Zp kh Yz;go_wp2_with fail
         go_roundw
         case rel=>exact⟨i3+1,aa,au,Yv.o⟩
         case measure=>exact aV
       .obtain rfl:i3=18:=aa;have Zo:decide ((18:Int)<18)=ζ:=aj;obtain⟨f9,af,YT⟩:=HR.b9;have ZZ:wr.rangeAt g9 0 (bD 18 f9):=fun t v hv=>(by rw[aan];exact(af.cell t).trans (by rw[Γ];exact hv));have ZY:wr.there g8 0 (bD 18 f9).length:=HR.b8.there AaG;have D:=aW af;have Ze:=aW YT;have ZW:=aW ZZ;have N:=aW ZY;clear af YT ZZ ZY;(go_wp2_with (refine υ rfl 100 _ rfl g9 0 rf (bD 18 f9) _ ZW.o underlying100 rfl (ul f9) (Hid.o ?_)));refine Qz ?_;refine bF rfl 100 (.tmp 8) (.tmp 145) rfl g8 0 (bD 18 f9) rf rf N.o (ul f9) (dX 18 f9) ?_;intro wb l;refine Qp ?_;have YU:=aW (HR.fin D.o Ze.o l);clear HR D Ze ZW N l;go_wp2_with fail;refine jM rfl rfl rf YU.o.1 underlying100 rfl (NY f9) ⟨f9,rfl,fun k hk=> ?_,YU.o.2.1⟩;have h1:=YU.o.2.2 k hk;unfold oM;rw[Zq.o];(try simp only[RS,ab0,aag]);exact h1.to (TL HN.ok HN.l23 ZA.o Zq.o (k:=k) hk)
def uq(g):∀(xs j:List Value) (k:Nat) (w:World),puts w g k (xs++j)=puts (puts w g k xs) g (k+xs.length) j
 |[],_,_,_=>rfl
 |x::xs,j,k,w=>by
  show puts (w.setCell ⟨g,k,δ⟩ x) g (k+1) (xs++j)=puts (puts (w.setCell ⟨g,k,δ⟩ x) g (k+1) xs) g (k+(xs.length+1)) j;rw[uq g xs j (k+1),show k+(xs.length+1)=k+1+xs.length by omega]
structure Sv (w0 w:World) (gx gf g5 g7:Nat) (C:Nat->Value) (E:Nat->En) (D:Nat->Prop) (Q:Nat->GQ) (f:dY) (f7:Nat->En) (bs:List BrD):Prop where
 g:GrS w0 w gx gf C E D Q 4400
 b5:Blk w g5 33 #[f.kind,f.line,f.obj,f.num,f.den,f.r]
 b7:Blk w g7 100 (bD 18 f7).toArray
 v7:∀k,k<18->GV w (f7 k).v (bef bs k) 841
 l5:w0.heap.size<=g5
 l7:w0.heap.size<=g7
 lx:gx<w0.heap.size
section
variable {w0 w w':World} {gx gf g5 g7:Nat} {C:Nat->Value} {E:Nat->En} {D D':Nat->Prop} {Q Q':Nat->GQ} {f:dY} {f7:Nat->En} {bs:List BrD}
def Sv.ext(h:Sv w0 w gx gf g5 g7 C E D Q f f7 bs)(x:Ext w w'):Sv w0 w' gx gf g5 g7 C E D Q f f7 bs:=⟨h.g.ext x,h.b5.ext x,h.b7.ext x,fun k j=>(h.v7 k j).ext x,h.l5,h.l7,h.lx⟩
def Sv.to(h:Sv w0 w gx gf g5 g7 C E D Q f f7 bs)(hd:∀e,e<60->D' e->D e/\Q e=Q' e):Sv w0 w gx gf g5 g7 C E D' Q' f f7 bs:=⟨h.g.to hd,h.b5,h.b7,h.v7,h.l5,h.l7,h.lx⟩
def Sv.put(h:Sv w0 w gx gf g5 g7 C E D Q f f7 bs){e a x q n}(O:e<60)(hn:n<=4400)(J:GV w x.v q n)(ha:a=33+e*6)(l:w'=puts w gx a x.cells):
  Sv w0 w' gx gf g5 g7 C (upd E e x) (fun k=>k=e\/D k) (upd Q e q) f f7 bs:=by
 subst ha;obtain⟨F,j⟩:=h.g.put O (J.up hn) l;have l5:=h.l5;have l7:=h.l7;have lx:=h.lx;exact⟨F,h.b5.mod j (by show ¬g5=gx;omega),h.b7.mod j (by show ¬g7=gx;omega),fun k B=>h.g.Jg j (h.v7 k B),h.l5,h.l7,h.lx⟩
def Sv.net{A nb j Bv}(h:Sv w0 w gx gf g5 g7 C E D Q f f7 bs)(hn:tO w0 C A nb j Bv bs (lv bs))(l:iq (fun k=>k=gx) w0)(B:∀b o,A=γ ⟨b,o,δ⟩->b≠gx):tO w (fO C E) A nb j Bv bs (lv bs):=
 hn.mod h.g.m l B (fun i hi=>dR hi)
end
noncomputable def yC (bs:List BrD) (fN:Nat) (f:dY) (e:Nat):GQ:=
 if f.kind≠0/\lv bs fN=ε then
  if e<54 then vlt bs fN f.kind f.r (e/18) (e%18) else if e<57 then fcu bs fN f.kind f.r (e-54) else if e=57 then bef bs fN else drp bs fN (e-58) fN
 else if e<54 then vbe bs (e/18) (e%18) else GQ.i 0 0
def afU{w wq w2 F B:World}{gx gf g5 C W}{f:dY}{f7 bs}(hc:dh w gf)(K:fP w gx 105 393 (fO C W))(G:∀i,i<33->nY (C i)=ε)(J:Ext w w2)(b5:Blk w2 g5 33 #[f.kind,f.line,f.obj,f.num,f.den,f.r])(hv:∀k,k<18->GV w2 (f7 k).v (bef bs k) 841)(l5:w.heap.size<=g5)(lx:gx<w.heap.size)(I:F=w2.alloc (.cells (bD 18 fun _=>zEn).toArray 100))(H:B=puts F w2.heap.size 0 (bD 18 f7))(D Q)(L:∀e,¬D e):
  Sv w B gx gf g5 w2.heap.size C W D Q f f7 bs:=by
 have l:Ext w2 F:=by rw[I];exact Ext.new _ _
 have b7:Blk F w2.heap.size 100 (bD 18 fun _=>zEn).toArray:=by rw[I];exact Blk.new _ _ _
 have j:Ext w2 B:=by rw[H];exact fK (κ _:Own w2 w2.heap.size) 0 _ l
 have b8:Blk B w2.heap.size 100 (bD 18 f7).toArray:=by
  have:=dm 0 (bD 18 f7) b7;rw[iA _ _ (by rw[bN,bN])] at this;rw[H];exact this
 exact⟨⟨(K.ext J).ext j,fun e _ hd=>absurd hd (L e),ae1 (J.trans j),(dh.ext hc J).ext j,G⟩,b5.ext j,b8,fun k M=>(hv k M).ext j,l5,J.size,lx⟩
def O5:(prog.info? 194).map (·.zero)=γ (γ (.agg (bD 36 fun _=>zEn).toArray)):=ah
structure Sw (w0 w:World) (gx gf g5 g7 g9:Nat) (C:Nat->Value) (E:Nat->En) (D:Nat->Prop) (Q:Nat->GQ) (f:dY) (f7:Nat->En) (bs:List BrD) (fN:Nat) (f9:Nat->En) (i:Nat):Prop where
 s:Sv w0 w gx gf g5 g7 C E D Q f f7 bs
 b9:Blk w g9 194 (bD 36 f9).toArray
 v9:∀e,e<i*18->GV w (f9 e).v (drp bs fN (e/18) (e%18)) 841
 l9:w0.heap.size<=g9
section
variable {w0 w w':World} {gx gf g5 g7 g9 fN i:Nat} {C:Nat->Value} {E:Nat->En} {D D':Nat->Prop} {Q Q':Nat->GQ} {f:dY} {f7 f9:Nat->En} {bs:List BrD}
def afR(h:Sv w0 w gx gf g5 g7 C E D Q f f7 bs)(j:w'=w.alloc (.cells (bD 36 fun _=>zEn).toArray 194)):Sw w0 w' gx gf g5 g7 w.heap.size C E D Q f f7 bs fN (fun _=>zEn) 0:=by
 subst j;exact⟨h.ext (Ext.new _ _),Blk.new _ _ _,fun e O=>aa,h.g.m.size⟩
def Sw.ext(h:Sw w0 w gx gf g5 g7 g9 C E D Q f f7 bs fN f9 i)(x:Ext w w'):Sw w0 w' gx gf g5 g7 g9 C E D Q f f7 bs fN f9 i:=⟨h.s.ext x,h.b9.ext x,fun e O=>(h.v9 e O).ext x,h.l9⟩
def Sw.to(h:Sw w0 w gx gf g5 g7 g9 C E D Q f f7 bs fN f9 i)(hd:∀e,e<60->D' e->D e/\Q e=Q' e):Sw w0 w gx gf g5 g7 g9 C E D' Q' f f7 bs fN f9 i:=⟨h.s.to hd,h.b9,h.v9,h.l9⟩
def Sw.put(h:Sw w0 w gx gf g5 g7 g9 C E D Q f f7 bs fN f9 i){e a x q n}(O:e<60)(hn:n<=4400)(J:GV w x.v q n)(ha:a=33+e*6)(j:w'=puts w gx a x.cells):
  Sw w0 w' gx gf g5 g7 g9 C (upd E e x) (fun k=>k=e\/D k) (upd Q e q) f f7 bs fN f9 i:=by
 have l:Mod (fun k=>k=gx) w w':=by rw[j];exact Mod.puts _ _ _ _ rfl
 have lx:=h.s.lx;have l9:=h.l9;exact⟨h.s.put O hn J ha j,h.b9.mod l (by show ¬g9=gx;omega),fun k B=>h.s.g.Jg l (h.v9 k B),h.l9⟩
def KI{i}(hi:i<2)(f x):gI (bD 36 f).toArray (i*108) (bD 18 x)=(bD 36 fun e=>if e/18=i then x (e%18) else f e).toArray:=by
 rw[jL];congr 1;have D:(bD 36 f).length=216:=bN _ _;have C:(bD 18 x).length=108:=bN _ _;rw[D,C,χ (l:=bD 18 x) aa];apply aam;intro p;by_cases hp:p<216
 .obtain⟨j,t,rfl,F⟩:∃j t,p=j*6+t/\t<6:=⟨p/6,p%6,aa,aa⟩;have G:j<36:=aa;rw[dP (f:=fun e=>if e/18=i then x (e%18) else f e) F G];have B:((bD 36 f).take (i*108)).length=i*108:=by rw[Be,D];omega
  by_cases H:j/18=i
  .simp only[ι H];rw[Λ AaU,kC (by rw[B];omega),B,show j*6+t-i*108=j%18*6+t by omega,dP F aa]
  .simp only[θ H];by_cases I:j/18<i
   .rw[Λ AaU,Λ (by rw[B];omega),NK aa,dP F G]
   .rw[kC AaU,nH,B,C,Zb,show i*108+108+(j*6+t-(i*108+108))=j*6+t by omega,dP F G]
 .rw[qa AcL,qa Ab4]
def Sw.drops(h:Sw w0 w gx gf g5 g7 g9 C E D Q f f7 bs fN f9 i)(hi:i<2){x}(J:∀k,k<18->GV w (x k).v (drp bs fN i k) 841)(G:w'=puts w g9 (i*108) (bD 18 x)):
  Sw w0 w' gx gf g5 g7 g9 C E D Q f f7 bs fN (fun e=>if e/18=i then x (e%18) else f9 e) (i+1):=by
 have l:Mod (fun k=>k=g9) w w':=by rw[G];exact Mod.puts _ _ _ _ rfl
 have hS:Far (fun k=>k=g9) w:=fun k B _=>by
  obtain rfl:k=g9:=B;exact⟨_,_,h.b9,dI _ _⟩
 have n5:¬g5=g9:=h.s.b5.eY h.b9 aj;have H:¬g7=g9:=h.s.b7.eY h.b9 aj;have nf:¬gf=g9:=Blk.eY h.s.g.f h.b9 aj;have j:¬gx=g9:=Blk.eY h.s.g.b h.b9 aj;have l9:=h.l9;have m:=h.s.g.m;refine⟨⟨⟨h.s.g.b.mod l j,fun e O hd=>(h.s.g.v e O hd).mod l hS,⟨l.os.trans m.os,l.tape.trans m.tape,l.output.trans m.output,Ξ m.size l.size,fun k B hn=>(l.block k (ο B m.size) (fun e=>by have e:k=g9:=e;omega)).trans (m.block k B hn)⟩,Blk.mod h.s.g.f l nf,h.s.g.n⟩,h.s.b5.mod l n5,h.s.b7.mod l H,fun k B=>(h.s.v7 k B).mod l hS,h.s.l5,h.s.l7,h.s.lx⟩,?_,fun e O=> ?_,h.l9⟩
 .have:=dm (i*108) (bD 18 x) h.b9;rw[KI hi] at this;rw[G];exact this
 .by_cases F:e/18=i
  .simp only[ι F];rw[F];exact(J _ (pz _ aa)).mod l hS
  .simp only[θ F];exact(h.v9 e aa).mod l hS
def Sw.WL(h:Sw w0 w gx gf g5 g7 g9 C E D Q f f7 bs fN f9 i)(hi:i<2)(x):w.there g9 (i*108) (bD 18 x).length:=h.b9.there AaG
def Sw.c9(h:Sw w0 w gx gf g5 g7 g9 C E D Q f f7 bs fN f9 i){j k t u x}(G:j<2)(F:k<18)(J:f9 (j*18+k)=x)(l:x.cells[t]? =γ u):w.cell? (aM g9 (j*108+k*6+t))=γ u:=by
 have B:t<6:=(μ.1 l).1;subst J;rw[h.b9.cell,Γ,show j*108+k*6+t=(j*18+k)*6+t by omega,dP B aa];exact l
def Sw.gx_(h:Sw w0 w gx gf g5 g7 g9 C E D Q f f7 bs fN f9 i){e a t x u}(O:e<60)(ha:a=33+e*6)(J:E e=x)(j:x.cells[t]? =γ u):w.cell? (aM gx (a+t))=γ u:=by
 have l:t<6:=(μ.1 j).1;subst J;subst ha;exact h.s.g.b.cell_ aa (ru j)
def Sw.at9(h:Sw w0 w gx gf g5 g7 g9 C E D Q f f7 bs fN f9 i){j k x}(B:j*18+k<i*18)(F:k<18)(J:f9 (j*18+k)=x):GV w x.v (drp bs fN j k) 841:=by
 have l:=h.v9 _ B;rw[J,show(j*18+k)/18=j by omega,show(j*18+k)%18=k by omega] at l;exact l
noncomputable def qZ (bs:List BrD) (fN:Nat) (e:Nat):GQ:=if e<54 then vbe bs (e/18) (e%18) else if e<57 then GQ.i 0 0 else if e=57 then bef bs fN else drp bs fN (e-58) fN
theorem N8{bs fN e}(O:e<57\/58<=e/\e<58+0):(e=56\/e=55\/e=54\/e<54)/\upd (upd (upd (fun e=>vbe bs (e/18) (e%18)) 54 (GQ.i 0 0)) 55 (GQ.i 0 0)) 56 (GQ.i 0 0) e=qZ bs fN e:=by
 refine⟨aa,?_⟩;unfold qZ;by_cases j:e<54
 .rw[ι j,upd_ne aa,upd_ne aa,upd_ne aa]
 .rw[θ j,ι aa];have l:e=54\/e=55\/e=56:=aa;rcases l with rfl|rfl|rfl<;>rfl
theorem mid_step{bs fN e i}(hi:i<2)(O:e<57\/58<=e/\e<58+(i+1)):(e=58+i\/(e<57\/58<=e/\e<58+i))/\upd (qZ bs fN) (58+i) (drp bs fN i fN) e=qZ bs fN e:=by
 refine⟨aa,?_⟩;by_cases j:e=58+i
 .subst j;rw[upd_same];unfold qZ;rw[θ aa,θ aa,θ aa,show 58+i-58=i by omega]
 .rw[upd_ne j]
end
theorem Ub{bs fN e}(O:e<60):(e=57\/(e<57\/58<=e/\e<58+2))/\upd (qZ bs fN) 57 (bef bs fN) e=qZ bs fN e:=by
 refine⟨aa,?_⟩;by_cases j:e=57
 .subst j;rw[upd_same];unfold qZ;rw[θ aa,θ aa,ι rfl]
 .rw[upd_ne j]
theorem Sw.short{w0 w gx gf g5 g7 g9 fN i C E f f7 f9 bs}(h:Sw w0 w gx gf g5 g7 g9 C E (fun e=>e<60) (qZ bs fN) f f7 bs fN f9 i)(hb:∀b∈bs,gV b)(Z:bs.length<=23)(K:lv bs fN=ε)(I:0<=f.r/\f.r<=1000):
  Calls prog 126 #[aN gx 0,aN gf 0,nX f] w fun e w'=>∃a:Nat->En,e=.returned (.agg (bD 3 a).toArray)/\(∀k,k<3->GV w' (a k).v (fcu bs fN f.kind f.r k) 2600)/\Ext w w':=by
 obtain⟨M0,M1,hS,_⟩:=FI hb Z K;have D:qZ bs fN 57=bef bs fN:=by unfold qZ;rw[θ aa,θ aa,ι rfl]
 have G:qZ bs fN 58=drp bs fN 0 fN:=by unfold qZ;rw[θ aa,θ aa,θ aa]
 have F:qZ bs fN 59=drp bs fN 1 fN:=by unfold qZ;rw[θ aa,θ aa,θ aa]
 have j:=h.s.g.v 57 aa aa;have l:=h.s.g.v 58 aa aa;have B:=h.s.g.v 59 aa aa;rw[D] at j;rw[G] at l;rw[F] at B;refine(Vj gx gf (fO C E) f (E 57) (E 59) (E 58) (bef bs fN) (drp bs fN 1 fN) (drp bs fN 0 fN) M0 M1 w h.s.g.f h.s.g.b (fun t u H=>ru (e:=57) H) (fun t u H=>ru (e:=58) H) (fun t u H=>ru (e:=59) H)
  (j.to (PR hb Z fN)) (B.to (QO hb Z 1 fN)) (l.to (QO hb Z 0 fN)) hS I).mono ?_
 rintro e w' ⟨a,O,hv,J⟩;exact⟨a,O,fun k L=>(hv k L).to (RJ hb Z K f.kind I.1 I.2 k),J⟩
noncomputable def J4 (bs:List BrD) (fN:Nat) (f:dY) (e:Nat):GQ:=if e<54 then vbe bs (e/18) (e%18) else if e<57 then fcu bs fN f.kind f.r (e-54) else qZ bs fN e
theorem Sw.faults{w0 w w' gx gf g5 g7 g9 fN i C E f f7 f9 bs}(h:Sw w0 w gx gf g5 g7 g9 C E (fun e=>e<60) (qZ bs fN) f f7 bs fN f9 i){a}(ha:∀k,k<3->GV w (a k).v (fcu bs fN f.kind f.r k) 2600)(l:w'=puts w gx 357 (bD 3 a)):Sw w0 w' gx gf g5 g7 g9 C (upd (upd (upd E 54 (a 0)) 55 (a 1)) 56 (a 2)) (fun e=>e<60) (J4 bs fN f) f f7 bs fN f9 i:=by
 rw[jg,jg,jg] at l;replace l:w'=puts w gx 357 ((([]++(a 0).cells)++(a 1).cells)++(a 2).cells):=l;rw[aaX,uq,uq] at l;have m1:Mod (fun k=>k=gx) w (puts w gx 357 (a 0).cells):=Mod.puts _ _ _ _ rfl;have j:=h.put (e:=54) (a:=357) aa aa (ha 0 aa) aa rfl;have m2:Mod (fun k=>k=gx) (puts w gx 357 (a 0).cells) (puts (puts w gx 357 (a 0).cells) gx 363 (a 1).cells):=Mod.puts _ _ _ _ rfl;have B:=j.put (e:=55) (a:=363) aa aa (h.s.g.Jg m1 (ha 1 aa)) aa rfl;have F:=B.put (e:=56) (a:=369) aa aa (j.s.g.Jg m2 (h.s.g.Jg m1 (ha 2 aa))) aa l;refine F.to (fun e _ O=>⟨aa,?_⟩);unfold J4;by_cases j:e<54
 .rw[ι j,upd_ne aa,upd_ne aa,upd_ne aa];unfold qZ;rw[ι j]
 .rw[θ j];by_cases B:e<57
  .rw[ι B];have D:e=54\/e=55\/e=56:=aa;rcases D with rfl|rfl|rfl<;>rfl
  .rw[θ B,upd_ne aa,upd_ne aa,upd_ne aa]
noncomputable def qE (bs:List BrD) (fN:Nat) (f:dY) (i j e:Nat):GQ:=
 if e<54 then (if e%18<i\/e%18=i/\e/18<j then vlt bs fN f.kind f.r (e/18) (e%18) else vbe bs (e/18) (e%18)) else J4 bs fN f e
theorem XH{bs fN e f}:J4 bs fN f e=qE bs fN f 0 0 e:=by
 unfold qE;by_cases h:e<54
 .rw[ι h,θ aa];unfold J4;rw[ι h]
 .rw[θ h]
theorem TC{bs fN e f}(l:f.kind≠0/\lv bs fN=ε)(O:e<60):qE bs fN f 18 0 e=yC bs fN f e:=by
 unfold qE yC;rw[ι l];by_cases h:e<54
 .rw[ι h,ι h,ι (Or.inl (pz _ aa))]
 .rw[θ h,θ h];unfold J4;rw[θ h];by_cases j:e<57
  .rw[ι j,ι j]
  .rw[θ j,θ j];unfold qZ;rw[θ h,θ j]
theorem Un{bs fN n k kd r}(h:lv bs k=ζ):vlt bs fN kd r n k=vbe bs n k:=by
 unfold vlt;have:drp bs fN (min n 1) k=GQ.i 0 0:=by unfold drp;exact mH h
 rw[this,GQ.bQ];ext<;>simp only[GQ.dU,GQ.dV,GQ.dM,GQ.dJ]<;>grind
theorem UT{bs fN e i j f}(h:lv bs i=ζ)(O:e<60):qE bs fN f i j e=qE bs fN f i (j+1) e:=by
 unfold qE;by_cases l:e<54
 .rw[ι l,ι l];by_cases C:e%18=i
  .rw[C,Un h,adw,adw]
  .by_cases B:e%18<i
   .rw[ι (Or.inl B),ι (Or.inl B)]
   .rw[θ aa,θ aa]
 .rw[θ l,θ l]
theorem Ik{bs fN e i f}(O:e<60):qE bs fN f i 3 e=qE bs fN f (i+1) 0 e:=by
 unfold qE;by_cases j:e<54
 .rw[ι j,ι j];by_cases l:e%18<i+1
  .rw[ι aa,ι (Or.inl l)]
  .rw[θ aa,θ aa]
 .rw[θ j,θ j]
theorem Wl{bs}(hb:∀b∈bs,gV b)(Z:bs.length<=23)(n k):Bd (vbe bs n k) 841:=by
 unfold vbe;split
 .exact PR hb Z k
 .exact Aa5
theorem Uj{bs fN e i j m f}(D:min j 1=m)(F:j<3)(hi:i<18)(O:e<60):(e=j*18+i\/e<60)/\upd (qE bs fN f i j) (j*18+i) (vbe bs j i-fcu bs fN f.kind f.r j*drp bs fN m i) e=qE bs fN f i (j+1) e:=by
 refine⟨Or.inr O,?_⟩;by_cases B:e=j*18+i
 .subst B;rw[upd_same];unfold qE;rw[ι aa,ι (Or.inr ⟨aa,aa⟩),show(j*18+i)/18=j by omega,show(j*18+i)%18=i by omega,<-D];rfl
 .rw[upd_ne B];unfold qE;by_cases l:e<54
  .rw[ι l,ι l];by_cases C:e%18<i\/e%18=i/\e/18<j
   .rw[ι C,ι aa]
   .rw[θ C,θ aa]
  .rw[θ l,θ l]
theorem PZ{bs fN e f}(h:¬(f.kind≠0/\lv bs fN=ε))(O:e<60)(hd:e<57\/f.kind≠0/\lv bs fN=ε):
  (e=56\/e=55\/e=54\/e<54)/\upd (upd (upd (fun e=>vbe bs (e/18) (e%18)) 54 (GQ.i 0 0)) 55 (GQ.i 0 0)) 56 (GQ.i 0 0) e=yC bs fN f e:=by
 have j:e<57:=hd.resolve_right h;refine⟨aa,?_⟩;unfold yC;rw[θ h];by_cases l:e<54
 .rw[ι l,upd_ne aa,upd_ne aa,upd_ne aa]
 .rw[θ l];have B:e=54\/e=55\/e=56:=aa;rcases B with rfl|rfl|rfl<;>rfl
def Sv.Yk{w0 w w' gx gf g5 g7 N C E D Q f f7 bs}(h:Sv w0 w gx gf g5 g7 C E D Q f f7 bs){a b c l j qc}(ha:GV w a.v l N)(hb:GV w b.v j N)(hc:GV w c.v qc N)(G:N<=4400)(I:w'=puts w gx 357 (a.cells++(b.cells++c.cells))):Sv w0 w' gx gf g5 g7 C (upd (upd (upd E 54 a) 55 b) 56 c) (fun k=>k=56\/k=55\/k=54\/D k) (upd (upd (upd Q 54 l) 55 j) 56 qc) f f7 bs:=by
 rw[uq,uq] at I;have m1:Mod (fun k=>k=gx) w (puts w gx 357 a.cells):=Mod.puts _ _ _ _ rfl;have H:=h.put (e:=54) (a:=357) aa G ha aa rfl;have F:=h.g.Jg m1 hb;have O:=h.g.Jg m1 hc;have m2:Mod (fun k=>k=gx) (puts w gx 357 a.cells) (puts (puts w gx 357 a.cells) gx 363 b.cells):=Mod.puts _ _ _ _ rfl;have J:=H.put (e:=55) (a:=363) aa G F aa rfl;have B:=H.g.Jg m2 O;exact J.put (e:=56) (a:=369) aa G B aa I
theorem Oq{bs i e}(hi:i<18)(O:e<60)(hd:e<54/\e%18<i+1):
  (e=i\/e=36+i\/e=18+i\/e<54/\e%18<i)/\upd (upd (upd (fun e=>vbe bs (e/18) (e%18)) (18+i) (bef bs i)) (36+i) (GQ.i 0 0)) i (GQ.i 0 0) e=vbe bs (e/18) (e%18):=by
 refine⟨aa,?_⟩;by_cases l:e=i
 .subst l;rw[upd_same];unfold vbe;rw[θ aa]
 .rw[upd_ne l];by_cases j:e=36+i
  .subst j;rw[upd_same];unfold vbe;rw[θ aa]
  .rw[upd_ne j];by_cases B:e=18+i
   .subst B;rw[upd_same];unfold vbe;rw[ι aa,show(18+i)%18=i by omega]
   .rw[upd_ne B]
def Bf{w0 w gx gf g5 g7 i t C E D Q f f7 bs x u}(h:Sv w0 w gx gf g5 g7 C E D Q f f7 bs)(J:f7 i=x)(hi:i<18)(j:x.cells[t]? =γ u):w.cell? (aM g7 (i*6+t))=γ u:=by
 have l:t<6:=(μ.1 j).1;subst J;rw[h.b7.cell,Γ,dP l hi];exact j
theorem Vm(gx gf nb cb:Nat)(C W A Bv bs)(fN:Nat)(f:dY)(w)(hc:dh w gf)(hg:fP w gx 105 393 (fO C W))(hn:tO w C A nb cb Bv bs (lv bs))(hf:C 14=.int .i64 (fN:Int))(ZG:fN<=17)(YA:∀i,i<33->nY (C i)=ε)(hA:∀b o,A=γ ⟨b,o,δ⟩->b≠gx)(hr:0<=f.r/\f.r<=1000):
  Calls prog 84 #[aN gx 0,aN gf 0,nX f] w fun e w'=>e=.returned (.tuple #[])/\∃E,GrS w w' gx gf C E (fun e=>e<57\/f.kind≠0/\lv bs fN=ε) (yC bs fN f) 4400:=by
 have U:=aW hn;have Zf:=aW hf;have Zn:=aW ZG;have HC:=aW hc;have HG:=aW hg;have Zz:=aW YA;have Z:=aW hA;have YO:=aW hr;have YU:Hid (iq (fun k=>k=gx) w):=aW (afl hg (fun k _=>qh YA k) (fun k hk=>hk));have ZE:Hid (gx<w.heap.size):=aW hg.lt;clear hn hf ZG hc hg YA hA hr;obtain⟨x1,b5⟩:=an1 w 33 #[f.kind,f.line,f.obj,f.num,f.den,f.r];have HX:=aW x1;have Yt:=aW b5;clear x1 b5;have YY:fO C W 14=.int .i64 (fN:Int):=(dR aa).trans Zf.o;have Zg:fO C W (15+fN)=.bool (lv bs fN):=(dR Ac7).trans (U.live fN Ac7);have YF:=aW YY;have Zp:=aW Zg;clear YY Zg;unfold nX;go_enter func84,ntmps84;go_wp2_with fail;generalize aU _ _=w1 at HX Yt⊢;generalize V:w.heap.size=g5 at Yt⊢;have ZF:Hid (w.heap.size<=g5):=aW aa;clear V;by_cases hk:f.kind=0
 case' pos=>
  have hd:(f.kind !=0)=ζ:=by simp[hk]
  have kf:=Blk.cell Yt.o;have T:Hid (¬(f.kind≠0/\lv bs fN=ε)):=aW (fun h=>h.1 hk);clear hk;go_quiet (fail)
 case' neg=>
  have hd:(f.kind !=0)=ε:=by simp[hk]
  cases hL:lv bs fN
  case' false=>
   have kf:=Blk.cell Yt.o;have T:Hid (¬(f.kind≠0/\lv bs fN=ε)):=aW (fun h=>by rw[hL] at h;exact absurd h.2 aj);have ZY:=(HG.ext HX.o).cell_ (k:=14) aa YF.o;have Zq:=(HG.ext HX.o).cell_ (k:=15+fN) Ac7 Zp.o;rw[hL] at Zq;have q1:(0:Int)<=fN:=aa;have q2:(fN:Int)<18:=by have:=Zn.o;omega
   go_quiet (fail)
  case' true=>
   have kf:=Blk.cell Yt.o;have T:Hid (f.kind≠0/\lv bs fN=ε):=aW ⟨hk,hL⟩;have ZY:=(HG.ext HX.o).cell_ (k:=14) aa YF.o;have Zq:=(HG.ext HX.o).cell_ (k:=15+fN) Ac7 Zp.o;rw[hL] at Zq;have q1:(0:Int)<=fN:=aa;have q2:(fN:Int)<18:=by have:=Zn.o;omega
   go_quiet (fail)
 all_goals
  generalize J:w1.drewN nq=wq;have Yq:Ext w1 wq:=by rw[<-J];exact(Ext.refl _).drewN _
  replace Yt:=Yt.aA Yq;replace HX:=HX.aC Yq;clear Yq J kf;go_wp2_with fail;have Zi:=U.mod (ae1 HX.o) YU.o Z.o (C':=fO C W) (fun i hi=>dR hi);refine(EH gx gf 1 nb cb ζ (fO C W) A Bv bs fN wq (dh.ext HC.o HX.o) (HG.ext HX.o) Zi YF.o Zn.o (fun h=>absurd h aj) aa).mono ?_;rintro _ w2 ⟨f7,rfl,M,F⟩;clear Zi;have S:∀k,k<18->GV w2 (f7 k).v (bef bs k) 841:=M;have YH:=aW S;replace Yt:=Yt.aA F;replace HX:=HX.aC F;clear M F S;(iterate 2 (try (first|go_values|go_skip|go_guarded|go_step|go_upon|go_in|go_back|go_simp)));refine gu rfl 100 rfl _ Dw ?_;intro w3 l;refine bF rfl 100 (.tmp 7) (.tmp 31) rfl w2.heap.size 0 (bD 18 f7) rf rf (by rw[l];exact(Blk.new w2 100 _).there AaG) (ul f7) (dX 18 f7) ?_;intro w4 YZ;refine Qp ?_;have Zv:=afU (wq:=wq) HC.o HG.o Zz.o HX.o Yt.o YH.o ZF.o ZE.o l YZ (fun e=>e<54/\e%18<0) (fun e=>vbe bs (e/18) (e%18)) (fun e=>aa);have HS:=aW Zv;clear Zv l YZ Yt YH HX;generalize w2.heap.size=g7 at HS⊢;go_wp2_with fail
  go_loopw [32] (fun iv wr=>∃i:Nat,i<=18/\iv=.int .i64 i/\∃E,Sv w wr gx gf g5 g7 C E (fun e=>e<54/\e%18<i) (fun e=>vbe bs (e/18) (e%18)) f f7 bs) (aT 18)
  case atStart=>exact⟨0,aa,rfl,W,HS.o⟩
  case round=>
   clear HS;rename World=>wr;obtain⟨i,hi,rfl,E,hR⟩:=hrel;have HR:=aW hR;clear hR;by_cases Yp:i<18
   .have hd:decide ((i:Int)<18)=ε:=ae;have q1:(0:Int)<=i:=aa;have q2:(i:Int)<18:=aa;obtain⟨e7,YJ⟩:∃e,f7 i=e:=⟨_,rfl⟩;have YQ:=aW YJ;clear YJ;go_wp2_with fail;have Zr:=six (w:=wr) (g:=g7) (a:=i*6) (e:=e7) (fun t u hu=>Bf HR.o YQ.o Yp (t:=t) (u:=u) hu);refine tN 9 [(5,.eq (.pointer (γ (aM gx 0))))] ?_;refine Qs ?_;refine En_ ?_;intro Zk Zo;refine Qs ?_;refine bP ?_;intro wE I;have F:=I.ext;have Yx:=aW F;clear I F;have S:=HR.v7 i Yp;rw[YQ.o] at S;have YH:=aW (S.ext Yx.o);clear S Zr;have N:Hid (wE.there gx (141+i*6) 6):=aW (by have h:=(HR.ext Yx.o).g.there (e:=18+i) aa;rw[show 33+(18+i)*6=141+i*6 by omega] at h;exact h);refine bF rfl 42 (.tmp 43) (.tmp 39) rfl gx (141+i*6) e7.cells rf rf N.o cu (eO e7) ?_;intro ZM l;refine Qp ?_;replace HR:=aW ((HR.ext Yx.o).put (e:=18+i) (q:=bef bs i) (n:=841) aa aa YH.o aa l);clear l N Yx YH;go_wp2_with fail;refine tN 8 [(3,.gv (GQ.i 0 0) (64)),(4,.eq (.pointer (γ (aM gx 0))))] ?_;refine Qs ?_;refine Ee (fun R I=>dO gf 0 _ (dh.ext HR.g.f I.1) aa aa) ?_;intro ea ad ac;refine En_ ?_;intro Zj Zc;refine Qs ?_;refine bP ?_;intro wE I;have F:=I.ext;have YE:GV wE ea.v (GQ.i 0 0) (64):=ae6 (I.at_ 3 (e:=(ea.v,ad,ac)) rf);have YL:=aW YE;clear YE;have Yx:=aW F;clear I F;have N:Hid (wE.there gx (249+i*6) 6):=aW (by have h:=(HR.ext Yx.o).g.there (e:=36+i) aa;rw[show 33+(36+i)*6=249+i*6 by omega] at h;exact h);refine bF rfl 42 (.tmp 51) (.tmp 47) rfl gx (249+i*6) ea.cells rf rf N.o cu (eO ea) ?_;intro ZP l;refine Qp ?_;replace HR:=aW ((HR.ext Yx.o).put (e:=36+i) (q:=GQ.i 0 0) (n:=64) aa aa YL.o aa l);clear l N Yx YL;go_wp2_with fail;refine tN 8 [(3,.gv (GQ.i 0 0) (64)),(4,.eq (.pointer (γ (aM gx 0))))] ?_;refine Qs ?_;refine Ee (fun R I=>dO gf 0 _ (dh.ext HR.g.f I.1) aa aa) ?_;intro eb ad ac;refine En_ ?_;intro Zj Zc;refine Qs ?_;refine bP ?_;intro wE I;have F:=I.ext;have YS:GV wE eb.v (GQ.i 0 0) (64):=ae6 (I.at_ 3 (e:=(eb.v,ad,ac)) rf);have YV:=aW YS;clear YS;have Yx:=aW F;clear I F;have N:Hid (wE.there gx (33+i*6) 6):=aW (by have h:=(HR.ext Yx.o).g.there (e:=i) aa;rw[show 33+(i)*6=33+i*6 by omega] at h;exact h);refine bF rfl 42 (.tmp 59) (.tmp 55) rfl gx (33+i*6) eb.cells rf rf N.o cu (eO eb) ?_;intro ZN l;refine Qp ?_;replace HR:=aW ((HR.ext Yx.o).put (e:=i) (q:=GQ.i 0 0) (n:=64) aa aa YV.o aa l);clear l N Yx YV;go_wp2_with fail
    go_roundw
    case rel=>exact⟨i+1,aa,au,_,HR.to (fun e O hd=>Oq Yp O hd)⟩
    case measure=>exact aV
   .obtain rfl:i=18:=aa;have hd:decide ((18:Int)<18)=ζ:=aj;replace HR:=aW (HR.to (D':=fun e=>e<54) (Q':=fun e=>vbe bs (e/18) (e%18)) (fun e _ O=>⟨⟨O,pz _ aa⟩,rfl⟩));go_wp2_with fail;refine(dO gf 0 _ (HR.g.f) aa aa).mono ?_;rintro _ wa ⟨_,rfl,M,F⟩;obtain⟨P,rfl⟩:=M.en;replace HR:=HR.aA F;have H:=aW M;clear M F;go_wp2_with fail;refine(dO gf 0 _ (HR.g.f) aa aa).mono ?_;rintro _ wb ⟨_,rfl,M,F⟩;obtain⟨fb,rfl⟩:=M.en;replace HR:=HR.aA F;replace H:=H.aA F;have YK:=aW M;clear M F;go_wp2_with fail;refine(dO gf 0 _ (HR.g.f) aa aa).mono ?_;rintro _ wc ⟨_,rfl,M,F⟩;obtain⟨fc,rfl⟩:=M.en;replace HR:=HR.aA F;replace H:=H.aA F;replace YK:=YK.aA F;have YR:=aW M;clear M F;(iterate 2 (try (first|go_values|go_skip|go_guarded|go_step|go_upon|go_in|go_back|go_simp)));simp only[En.v,gv];(iterate 9 (try (first|go_values|go_skip|go_guarded|go_step|go_upon|go_in|go_back|go_simp)));have N:Hid (wc.there gx 357 18):=aW (HR.g.b.there aa);refine bF rfl 102 (.tmp 70) (.tmp 68) rfl gx 357 (P.cells++(fb.cells++fc.cells)) rf rf N.o pJ (sU _ _ _) ?_;intro wd l;refine Qp ?_;replace HR:=aW (HR.Yk H.o YK.o YR.o aa l);clear l N H YK YR
    first
     |
      have YP:¬(f.kind≠0/\lv bs fN=ε):=T.o;go_wp2_with fail;refine aak (v:=.tuple #[]) (aat rfl _ _ _) rfl ⟨rfl,_,HR.g.to (fun e O hd=>PZ T.o O hd)⟩
     |
      have kc:wd.cell? (aM gf 0)=γ (.int .i64 0):=(HR.g.f.cell 0).trans rfl;(iterate 42 (try (first|go_values|go_skip|go_guarded|go_step|go_upon|go_in|go_back|go_simp)));refine gu rfl 194 rfl _ O5 ?_;intro we l;refine Qp ?_;have hz:=(afR (fN:=fN) HR.o l).to (fun e _ O=>N8 (bs:=bs) (fN:=fN) O);have HZ:=aW hz;clear kc l HR hz;generalize wd.heap.size=g9 at HZ⊢;go_wp2_with fail
      go_loopw [80] (fun iv wr=>∃i:Nat,i<=2/\iv=.int .i64 i/\∃E f9,Sw w wr gx gf g5 g7 g9 C E (fun e=>e<57\/58<=e/\e<58+i) (qZ bs fN) f f7 bs fN f9 i) (aT 2)
      case atStart=>exact⟨0,aa,rfl,_,_,HZ.o⟩
      case round=>
       clear HZ;rename World=>wr;obtain⟨i,hi,rfl,E,f9,hR⟩:=hrel;have HR:=aW hR;clear hR;by_cases Yp:i<2
       .have hd:decide ((i:Int)<2)=ε:=ae;have q1:(0:Int)<=i:=aa;have q2:(i:Int)<2:=aa;go_wp2_with fail;refine(EH gx gf i nb cb ε (fO C E) A Bv bs fN wr HR.s.g.f HR.s.g.b (HR.s.net U.o YU.o Z.o) ((dR aa).trans Zf.o) Zn.o (fun _=>T.o.2) aa).mono ?_;rintro _ w9 ⟨D,rfl,M,F⟩;have YT:∀k,k<18->GV w9 (D k).v (drp bs fN i k) 841:=M;replace HR:=HR.aA F;have Ze:=aW YT;clear M YT F;(iterate 5 (try (first|go_values|go_skip|go_guarded|go_step|go_upon|go_in|go_back|go_simp)));have N:=aW (HR.WL Yp D);refine bF rfl 100 (.tmp 88) (.tmp 87) rfl g9 (i*108) (bD 18 D) rf rf N.o (ul D) (dX 18 D) ?_;intro wz l;refine Qp ?_;replace HR:=aW (HR.drops Yp Ze.o l);clear l N Ze;go_wp2_with fail;obtain⟨e9,Zy⟩:∃e,D fN=e:=⟨_,rfl⟩;have Y:(fun e=>if e/18=i then D (e%18) else f9 e) (i*18+fN)=e9:=by have:=Zn.o;show(if (i*18+fN)/18=i then D ((i*18+fN)%18) else f9 _)=e9;rw[ι aa,show(i*18+fN)%18=fN by omega,Zy]
        have YI:=aW Y;have ZG:=Zn.o;clear Y Zy;have q3:(0:Int)<=fN:=aa;have q4:(fN:Int)<18:=aa;have Zx:=aX.cell (HR.s.g.b.cell_ (k:=14) aa ((dR aa).trans Zf.o));have Zr:=six (w:=wz) (g:=g9) (a:=i*108+fN*6) (e:=e9) (fun t u hu=>HR.c9 (j:=i) (k:=fN) Yp aa YI.o (t:=t) (u:=u) hu);refine tN 13 [(4,.eq (.pointer (γ (aM gx 0)))),(10,.eq (.pointer (γ (aM gx 0))))] ?_;refine Qs ?_;refine En_ ?_;intro Zj Zc;refine Qs ?_;refine En_ ?_;intro ax az;refine Qs ?_;refine bP ?_;intro wE I;have F:=I.ext;have Yx:=aW F;clear I F;have YT:=HR.at9 (j:=i) (k:=fN) aa aa YI.o;have Ze:=aW (YT.ext Yx.o);clear YT Zr Zx;have N:Hid (wE.there gx (381+i*6) 6):=aW (by have h:=(HR.ext Yx.o).s.g.there (e:=58+i) aa;rw[show 33+(58+i)*6=381+i*6 by omega] at h;exact h);refine bF rfl 42 (.tmp 101) (.tmp 98) rfl gx (381+i*6) e9.cells rf rf N.o cu (eO e9) ?_;intro ZJ l;refine Qp ?_;replace HR:=aW ((HR.ext Yx.o).put (e:=58+i) (q:=drp bs fN i fN) (n:=841) aa aa Ze.o aa l);clear l N Yx Ze;go_wp2_with fail
        go_roundw
        case rel=>exact⟨i+1,aa,au,_,_,HR.to (fun e _ hd=>mid_step Yp hd)⟩
        case measure=>exact aV
       .obtain rfl:i=2:=aa;have hd:decide ((2:Int)<2)=ζ:=aj;obtain⟨e7,YJ⟩:∃e,f7 fN=e:=⟨_,rfl⟩;have YQ:=aW YJ;clear YJ;have ZG:=Zn.o;have q3:(0:Int)<=fN:=aa;have q4:(fN:Int)<18:=aa;have ZY:=HR.s.g.b.cell_ (k:=14) aa ((dR aa).trans Zf.o);have ZH:wr.cell? (aM g7 (fN*6))=γ (.bool e7.s1):=Bf (i:=fN) HR.s YQ.o aa (t:=0) rfl;have YC:wr.cell? (aM g7 (fN*6+1))=γ (aO e7.A1 e7.n1 e7.c1):=Bf (i:=fN) HR.s YQ.o aa (t:=1) rfl;have YB:wr.cell? (aM g7 (fN*6+2))=γ (.bool e7.s2):=Bf (i:=fN) HR.s YQ.o aa (t:=2) rfl;have YM:wr.cell? (aM g7 (fN*6+3))=γ (aO e7.A2 e7.n2 e7.c2):=Bf (i:=fN) HR.s YQ.o aa (t:=3) rfl;have YN:wr.cell? (aM g7 (fN*6+4))=γ (.bool e7.s3):=Bf (i:=fN) HR.s YQ.o aa (t:=4) rfl;have Za:wr.cell? (aM g7 (fN*6+5))=γ (aO e7.A3 e7.n3 e7.c3):=Bf (i:=fN) HR.s YQ.o aa (t:=5) rfl;have N:Hid (wr.there gx 375 6):=aW (HR.s.g.b.there aa);(iterate 45 (try (first|go_values|go_skip|go_guarded|go_step|go_upon|go_in|go_back|go_simp)));refine bF rfl 42 (.tmp 111) (.tmp 109) rfl gx 375 e7.cells rf rf N.o cu (eO e7) ?_;intro ws l;refine Qp ?_;have S:=HR.s.v7 fN aa;rw[YQ.o] at S;replace HR:=aW (HR.put (e:=57) (q:=bef bs fN) (n:=841) aa aa S aa l);clear l N S ZH YC YB YM YN Za ZY;have kc:ws.cell? (aM gf 0)=γ (.int .i64 0):=(HR.s.g.f.cell 0).trans rfl;replace HR:=aW (HR.to (D':=fun e=>e<60) (Q':=qZ bs fN) (fun e O _=>Ub O));have kf:=Blk.cell HR.s.b5;go_wp2_with fail;clear kf kc;refine(HR.short U.ok U.l23 T.o.2 YO.o).mono ?_;rintro _ wt ⟨P,rfl,M,F⟩;replace HR:=HR.aA F;have Q:=aW M;clear M F;(iterate 8 (try (first|go_values|go_skip|go_guarded|go_step|go_upon|go_in|go_back|go_simp)));have N:Hid (wt.there gx 357 18):=aW (HR.s.g.b.there aa);refine bF rfl 102 (.tmp 123) (.tmp 121) rfl gx 357 (bD 3 P) rf rf N.o pJ (dX 3 P) ?_;intro wu l;refine Qp ?_;replace HR:=aW (HR.faults Q.o l);clear l N Q;have YX:wu.rangeAt gx 15 (jI (lv bs)):=HR.s.g.b.rangeAt (by simp[jI]) (fun j v hv=>uW (HR.s.net U.o YU.o Z.o) hv);have Yr:=aW YX;clear YX;(go_wp2_with (refine υ rfl 99 _ rfl gx 15 rf (jI (lv bs)) _ Yr.o abE rfl vH ?_));clear Yr;replace HR:=aW (HR.to (D':=fun e=>e<60) (Q':=qE bs fN f 0 0) (fun e _ O=>⟨O,XH⟩));go_loopw [128] (fun iv wr=>∃i:Nat,i<=18/\iv=.int .i64 i/\∃E,Sw w wr gx gf g5 g7 g9 C E (fun e=>e<60) (qE bs fN f i 0) f f7 bs fN f9 2) (aT 18)
        case atStart=>exact⟨0,aa,rfl,_,HR.o⟩
        case round=>
         clear HR;rename World=>wr;obtain⟨i,hi,rfl,E,hR⟩:=hrel;have HR:=aW hR;clear hR;by_cases Yp:i<18
         .have hd:decide ((i:Int)<18)=ε:=ae;have Yz:=RF (L:=lv bs) Yp wr;have q1:(0:Int)<=i:=aa;have q2:(i:Int)<18:=aa;cases hL:lv bs i with
          |false=>
           rw[hL] at Yz;have HL:=aW hL;go_wp2_with fail
           go_loopw [132] (fun iv wq=>∃j:Nat,j<=3/\iv=.int .i64 j/\∃E,Sw w wq gx gf g5 g7 g9 C E (fun e=>e<60) (qE bs fN f i j) f f7 bs fN f9 2) (aT 3)
           case atStart=>exact⟨0,aa,rfl,_,HR.o⟩
           case round=>
            clear HR Yz;rename World=>wq;obtain⟨j,hj,rfl,E2,hR⟩:=hrel;have HR:=aW hR;clear hR;by_cases Yw:j<3
            .have hd:decide ((j:Int)<3)=ε:=ae;have p1:(0:Int)<=j:=aa;have p2:(j:Int)<3:=aa
             go_wp2_with fail
             go_roundw
             case rel=>exact⟨j+1,aa,au,_,HR.to (fun e O _=>⟨O,UT HL.o O⟩)⟩
             case measure=>exact aV
            .obtain rfl:j=3:=aa;have hd:decide ((3:Int)<3)=ζ:=aj
             go_wp2_with fail
             go_roundw
             case rel=>exact⟨i+1,aa,au,_,HR.to (fun e O _=>⟨O,Ik O⟩)⟩
             case measure=>exact aV
          |true=>
           rw[hL] at Yz;have HL:=aW hL;go_wp2_with fail
           go_loopw [132] (fun iv wq=>∃j:Nat,j<=3/\iv=.int .i64 j/\∃E,Sw w wq gx gf g5 g7 g9 C E (fun e=>e<60) (qE bs fN f i j) f f7 bs fN f9 2) (aT 3)
           case atStart=>exact⟨0,aa,rfl,_,HR.o⟩
           case round=>
            clear HR Yz;rename World=>wq;obtain⟨j,hj,rfl,E2,hR⟩:=hrel;have HR:=aW hR;clear hR;by_cases Yw:j<3
            .have hd:decide ((j:Int)<3)=ε:=ae;have p1:(0:Int)<=j:=aa;have p2:(j:Int)<3:=aa;go_wp2_with fail;obtain⟨m,Zm⟩:∃m:Nat,min j 1=m:=⟨_,rfl⟩;have Zw:(min (j:Int) 1)=(m:Int):=aa;have YD:m<2:=aa;have p3:(0:Int)<=m:=aa;have p4:(m:Int)<2:=aa;obtain⟨ea,aw⟩:∃e,E2 (54+j)=e:=⟨_,rfl⟩;obtain⟨eb,av⟩:∃e,f9 (m*18+i)=e:=⟨_,rfl⟩;have aq:=aW aw;have ar:=aW av;have ZK:=aW Zm;clear aw av Zm;have ZL:=six (w:=wq) (g:=gx) (a:=357+j*6) (e:=ea) (fun t u hu=>HR.gx_ (e:=54+j) (a:=357+j*6) aa aa aq.o (t:=t) (u:=u) hu);have ZO:=six (w:=wq) (g:=g9) (a:=m*108+i*6) (e:=eb) (fun t u hu=>HR.c9 (j:=m) (k:=i) YD aa ar.o (t:=t) (u:=u) hu);have ZI:Hid (GV wq ea.v (fcu bs fN f.kind f.r j) 2600):=aW (by have h:=HR.s.g.v (54+j) aa aa;rw[aq.o] at h;have e1:qE bs fN f i j (54+j)=fcu bs fN f.kind f.r j:=(by unfold qE J4;rw[θ aa,θ aa,ι aa,show 54+j-54=j by omega]);rw[e1] at h;exact h.to (RJ U.ok U.l23 T.o.2 f.kind YO.o.1 YO.o.2 j));have ZA:=aW (HR.at9 (j:=m) (k:=i) aa aa ar.o);refine tN 15 [(3,.eq (.pointer (γ (aM gx 0)))),(8,.eq (.int .i64 (m:Int))),(13,.gv (fcu bs fN f.kind f.r j*drp bs fN m i) (3442)),(14,.box 42 aQ3)] ?_;refine Qs ?_;refine En_ ?_;intro ad ac;refine Qs ?_;refine eF rf rf rf ?_ ?_
             .exact AcH
             intro v_ aE aG YG;obtain⟨R,Yy⟩:=YG;obtain rfl:v_=_:=Yy.get;clear Yy R;refine Qp ?_;refine Qs ?_;refine Ee (fun R I=>(uX gf ea.v eb.v (fcu bs fN f.kind f.r j) (drp bs fN m i) 2600 841 _ (dh.ext HR.s.g.f I.1) (ZI.ext I.1) (ZA.ext I.1) aa)) ?_;intro em am ao;refine Eb ?_;intro Zh ap af;refine bP ?_;intro wE I;have F:=I.ext;have YW:=I.hV 13;have ZC:=I.hB 14;have ZX:=aW (I.low 14 _ rf);clear af;have Yx:=aW F;clear I F;have HM:=aW YW.o;have N:=aW (ZC.there (o:=0) (n:=6) ag);refine bF rfl 42 (.tmp 14) (.tmp 149) rfl Zh 0 em.cells rf rf N.o cu (eO em) ?_;intro wf l;refine Qp ?_;obtain⟨F,Yu,M,-⟩:=oK em Yx.o ZX.o ZC.o l;have ai:=aW Yu;replace HM:=aW (M _ _ _ HM.o);have Yv:=aW (HR.ext F);clear l N F Yu M Yx ZC ZX YW ZI ZA aq ar ZL ZO;obtain⟨eg,ZB⟩:∃e,E2 (j*18+i)=e:=⟨_,rfl⟩;have Zt:=aW ZB;clear ZB;go_wp2_with fail;have aB:=six (w:=wf) (g:=gx) (a:=33+j*108+i*6) (e:=eg) (fun t u hu=>Yv.gx_ (e:=j*18+i) (a:=33+j*108+i*6) aa aa Zt.o (t:=t) (u:=u) hu);have Zl:=aX.blk ai.o;have B:Hid (GV wf eg.v (vbe bs j i) 841):=aW (by have h:=Yv.s.g.v (j*18+i) aa aa;rw[Zt.o] at h;have e1:qE bs fN f i j (j*18+i)=vbe bs j i:=(by unfold qE;rw[ι aa,θ aa,show(j*18+i)/18=j by omega,show(j*18+i)%18=i by omega]);rw[e1] at h;exact h.to (Wl U.ok U.l23 j i));refine tN 18 [(7,.eq (.pointer (γ (aM gx 0)))),(13,.gv (vbe bs j i-fcu bs fN f.kind f.r j*drp bs fN m i) (4348)),(14,.eq (.pointer (γ (aM gx 0))))] ?_;refine Qs ?_;refine En_ ?_;intro aP aI;refine Qs ?_;refine Ee (fun R I=>(uR gf eg.v em.v (vbe bs j i) (fcu bs fN f.kind f.r j*drp bs fN m i) 841 3442 _ (dh.ext Yv.s.g.f I.1) (B.ext I.1) (HM.ext I.1) aa)) ?_;intro G am ao;refine En_ ?_;intro ay ap;refine Qs ?_;refine bP ?_;intro wE I;have F:=I.ext;have Zd:=I.hV 13;have Yx:=aW F;clear I F;have N:Hid (wE.there gx (33+j*108+i*6) 6):=aW (by have h:=(Yv.ext Yx.o).s.g.there (e:=j*18+i) aa;rw[show 33+(j*18+i)*6=33+j*108+i*6 by omega] at h;exact h);refine bF rfl 42 (.tmp 167) (.tmp 163) rfl gx (33+j*108+i*6) G.cells rf rf N.o cu (eO G) ?_;intro wh l;refine Qp ?_;have K:=aW ((Yv.ext Yx.o).put (e:=j*18+i) (q:=vbe bs j i-fcu bs fN f.kind f.r j*drp bs fN m i) (n:=4348) aa aa Zd.o aa l);clear l N Yx Zd B HM Zt Zl ai HR Yv aB;go_wp2_with fail
             go_roundw
             case rel=>exact⟨j+1,aa,au,_,K.to (fun e O _=>Uj (m:=m) ZK.o Yw Yp O)⟩
             case measure=>exact aV
            .obtain rfl:j=3:=aa;have hd:decide ((3:Int)<3)=ζ:=aj
             go_wp2_with fail
             go_roundw
             case rel=>exact⟨i+1,aa,au,_,HR.to (fun e O _=>⟨O,Ik O⟩)⟩
             case measure=>exact aV
         .obtain rfl:i=18:=aa;have hd:decide ((18:Int)<18)=ζ:=aj;go_wp2_with fail;refine aaY (aat rfl _ _ _) rfl ⟨rfl,_,HR.s.g.to (fun e O _=>⟨O,TC T.o O⟩)⟩
section
variable {w W W1 W2:World} {gx gf:Nat} {C:Nat->Value} {Bv:Nat->BrV} {s:StD} {p:dH} {f:dY}
def Du.net(h:Du w W gx gf C Bv s p f)(B:jG s)(l:oh s.buses.length s.lines.length f):∃A H,tO W C A (dD s p f).length H Bv (dD s p f) (fun _=>ζ)/\∀b o,A=γ ⟨b,o,δ⟩->b≠gx:=by
 obtain⟨A,c,G,D,I⟩:=h.r.own.arr;have j:=rW (p:=p) B l;have lx:=h.r.lx;refine⟨A,c,⟨G,D,rfl,fun i hi=>⟨(h.r.br i hi).pa,(h.r.br i hi).pb⟩,fun i hi=>(h.r.br i hi).z0,fun i hi=>(h.r.br i hi).z1,fun i hi=>(h.r.br i hi).e,fun k F=>h.liv k F,j.2,j.1⟩,fun b o e=> ?_⟩;have:=I b o e;omega
theorem Xk(n k)(hn:n<3)(j:k<18):yC (dD s p f) (eZ s p f) f (n*18+k)=kH (dD s p f) (eZ s p f) f n k:=by
 unfold yC kH;rw[ι (by omega:n*18+k<54),ι (by omega:n*18+k<54),show(n*18+k)/18=n by omega,show(n*18+k)%18=k by omega]
theorem Xy(n)(hn:n<3):yC (dD s p f) (eZ s p f) f (54+n)=sI (dD s p f) (eZ s p f) f n:=by
 unfold yC sI;rw[θ (by omega:¬54+n<54),ι (by omega:54+n<57),θ (by omega:¬54+n<54),show 54+n-54=n by omega]
def oQ.old{W W' X Y v}{o:Option BrD}(h:oQ W X v o)(m:Mod (fun k=>k=Y) W W')(j:iq (fun k=>k=Y) W)(Z:∀g k,v=.pointer (γ (aM g k))->Y<g):oQ W' X v o:=by
 cases o with
 |none=>exact h
 |some b=>
  obtain⟨g,k,bv,l,C,B,D,G,J,F,H,K⟩:=h;have:=Z g k l;exact⟨g,k,bv,l,C,ο B m.size,fun t u I=>xC m B aa (D t u I),G,J,F.fM m j,H.fM m j,K.fM m j⟩
def oU.old{W W'}{X Y B:Nat}{C E}{s:StD}{p f}(h:oU W X C E s p f)(m:Mod (fun k=>k=Y) W W')(l:iq (fun k=>k=Y) W)(Z:∀(gB:Nat) (wv:Nat->Value),C 13=.slice (γ (aM gB 0)) s.bays.length s.bays.length->Arr W (γ ⟨gB,0,δ⟩) s.bays.length 1 (fun i=>[wv i])->Y<gB/\∀i,i<s.bays.length->∀g k,wv i=.pointer (γ (aM g k))->Y<g)(G:∃gB,C 13=.slice (γ (aM gB 0)) s.bays.length s.bays.length):oU W' X C E s p f:=by
 refine⟨fun n k hn H=>(h.v n k hn H).fM m l,fun n hn=>(h.i n hn).fM m l,fun F D=> ?_,h.live,h.ends,h.faulty,h.c0,?_⟩
 .obtain⟨a,b,c⟩:=h.seen F D;exact⟨a.fM m l,b.fM m l,c.fM m l⟩
 .obtain⟨K,bc,wv,F,D,I⟩:=h.bays;obtain⟨gB,j⟩:=G;have e:=F.symm.trans j;injection e with J L M;subst J;obtain⟨q1,q2⟩:=Z gB wv j D;exact⟨_,bc,wv,F,D.mod m (fun b o e hb=>by injection e with e;injection e with e _ _;have hb:b=Y:=hb;omega),fun i hi=>(I i hi).old m l (q2 i hi)⟩
def Du.L6(h:Du w W gx gf C Bv s p f)(M:jG s)(F:Mod (fun k=>k=gx) W W1){E}(hs:GrS W1 W2 gx gf (j3 C (lv (dD s p f))) E (fun e=>e<57\/f.kind≠0/\lv (dD s p f) (eZ s p f)=ε) (yC (dD s p f) (eZ s p f) f) 4400):oU W2 gx (j3 C (lv (dD s p f))) E s p f:=by
 have H:Mod (fun k=>k=gx) W W2:=F.trans hs.m;have K:=h.r.far;refine⟨fun n k hn D=> ?_,fun n hn=> ?_,fun j B=>⟨?_,?_,?_⟩,fun k D=>oo D,fun l e Z O=> ?_,?_,?_,?_⟩
 .have:=hs.v (n*18+k) aa (.inl aa);rwa[Xk n k hn D] at this
 .have:=hs.v (54+n) aa (.inl aa);rwa[Xy n hn] at this
 .have:=hs.v 57 aa (.inr ⟨j,B⟩);exact Abb
 .have:=hs.v 58 aa (.inr ⟨j,B⟩);exact Abb
 .have:=hs.v 59 aa (.inr ⟨j,B⟩);exact Abb
 .rw[mo aa];exact h.ends l e Z O
 .rw[mo aa];exact h.c14
 .obtain⟨A,c,j,_⟩:=h.r.own.arr;exact⟨A,_,c,by rw[mo aa];exact j⟩
 .obtain⟨gB,wv,j,B,L,J⟩:=h.bays;have lx:=h.r.lx;have hb:fP W2 gB 165 s.bays.length wv:=L.mod H aa;refine⟨γ ⟨gB,0,δ⟩,s.bays.length,wv,by rw[mo aa];exact j,fun hn=>⟨gB,0,rfl,hb.lt,fun i hi t u G=> ?_⟩,fun i hi=>(J i hi).1.mod H K⟩;have I:t=0:=by have:=(μ.1 G).1;simp at this;omega
  subst I;have N:wv i=u:=by simpa using G
  rw[show 0+i*1+0=i by omega];exact hb.cell_ hi N
end
theorem Lg{s p}(h:jq s p=0):p.closed.length=s.bays.length/\p.links.length=s.bays.length/\∀i,i<s.bays.length->(p.links.getD i []).length=(s.bays.getD i η).links.length:=by
 unfold jq at h;split at h
 .rename_i l
  split at h
  .rename_i j
   rw[qb] at j;exact⟨l.1,l.2,fun i hi=>by have:=j i (aav.2 hi);simpa using this⟩
  .exact absurd h aj
 .exact absurd h aj
theorem UM{s f}(h:chk s=0)(j:fu s.buses.length s.lines.length f=0):xu s f=0:=by
 unfold xu;rw[h,j];rfl
theorem Oi{A0 n0 c0 A1 n1 c1 A2 n2 c2 A3 n3 c3 LH s PA pn pc PB V qc K p}(f w)(hs:j5 w A0 n0 c0 A1 n1 c1 A2 n2 c2 A3 n3 c3 LH s)(hp:iN w PA pn PB V K p)(hc:chk s=0)(ZF:jq s p=0)(hf:fu s.buses.length s.lines.length f=0):
  Calls prog 42 #[stV s.name A0 n0 c0 A1 n1 c1 A2 n2 c2 A3 n3 c3,lG PA pn pc PB V qc,nX f] w fun r w'=>∃C E gx,r=.returned (.tuple #[.agg (gl C E).toArray,aJ])/\oU w' gx C E s (resolve 0 p) f/\Ext w w':=by
 have YC:=uf hc;have Zp:=afw hf;have YJ:=UM hc hf;have Yw:=aW hs;have ZM:=aW hp;have Yz:=aW hc;have Z9:=aW ZF;have YY:=aW hf;have YH:=aW YC;have ZR:=aW Zp;have YX:=aW YJ;clear hs hp hc ZF hf YC Zp YJ;unfold stV lG nX;go_enter func42,ntmps42;(go_wp2_with (refine bJ rfl 105 rfl _ yX (fun w_ G=>Hid.o ?_)));refine Qz ?_;replace G:=Hid.o G;have HX:Hid (Ext w w_):=aW AcU;have Yu:Hid (Blk w_ w.heap.size 27 #[s.name,aO A0 n0 c0,aO A1 n1 c1,aO A2 n2 c2,aO A3 n3 c3]):=aW Adc;have U:Hid (Blk w_ (w.heap.size+1) 31 #[aO PA pn pc,aO PB V qc]):=aW Ado;have Yt:Hid (Blk w_ (w.heap.size+2) 33 #[f.kind,f.line,f.obj,f.num,f.den,f.r]):=aW (by rw[G];exact(aeW _ _ ag).alloc _);have S:Hid (Blk w_ (w.heap.size+3) 105 (gl zC fun _=>zEn).toArray):=aW (by rw[G];exact aeW _ _ ag);clear G;(try simp only[fZ]);have YO:Hid (w.heap.size<=w.heap.size+3):=aW aa;generalize w.heap.size+3=g6 at S YO⊢;generalize w.heap.size+2=g5 at Yt⊢;generalize w.heap.size+1=g4 at U⊢;generalize L:w.heap.size=g3 at Yu⊢;clear L;(go_wp2_with (refine bJ rfl 105 rfl _ yX (fun W G=>Hid.o ?_)));refine Qz ?_;replace G:=Hid.o G;have F:Ext w_ W:=by rw[G];exact Ext.new _ _
 have YA:Hid (Blk W w_.heap.size 105 (gl zC fun _=>zEn).toArray):=aW (by rw[G];exact Blk.new _ _ _);clear G;have Zv:Hid (w_.heap.size<=w_.heap.size):=aW (κ _);have Zg:=aW (Yw.ext HX.o);generalize Zi:w_.heap.size=g8 at YA⊢;have Za:=aW Zi;clear Zi Zv;have Zw:=aW F;have j:=aW (HX.trans F);replace Yu:=Yu.aA F;replace U:=U.aA F;replace Yt:=Yt.aA F;have YQ:=S;replace S:=S.aA F;clear F;have k3:=Yu.cell;have k5:=Yt.cell;go_wp2_with fail;clear k3 k5;refine(Je _ (Yw.ext j.o) f).mono ?_;rintro _ w2 ⟨rfl,F⟩;rw[YX.o];replace Yu:=Yu.aA F;replace U:=U.aA F;replace Yt:=Yt.aA F;replace S:=S.aA F;replace YA:=YA.aA F;replace Zw:=Zw.aC F;replace j:=j.aC F;clear F;have k3:=Yu.cell;have k4:=U.cell;go_wp2_with fail;clear k3 k4;refine(zT _ _ (Yw.ext j.o) (ZM.ext j.o)).mono ?_;rintro _ w3 ⟨rfl,F⟩;rw[Z9.o];replace Yu:=Yu.aA F;replace U:=U.aA F;replace Yt:=Yt.aA F;replace S:=S.aA F;replace YA:=YA.aA F;replace Zw:=Zw.aC F;replace j:=j.aC F;clear F;go_wp2_with fail;have F:Ext w3 (aL w3 #[aJ] 109):=Ext.new _ _;have HC:Hid (dh (aL w3 #[aJ] 109) w3.heap.size):=aW (Blk.new _ _ _);replace Yu:=Yu.aA F;replace U:=U.aA F;replace Yt:=Yt.aA F;replace S:=S.aA F;replace YA:=YA.aA F;replace Zw:=Zw.aC F;replace j:=j.aC F;clear F;generalize aU _ _=w4 at HC Yu U Yt S YA Zw j⊢;generalize w3.heap.size=ZI at HC⊢;have Zt:=Lg Z9.o;have ai:pn<=16:=by have:=ZM.lc;have:=YH.nq;omega
 have Zj:V<=16:=by have:=ZM.ll;have:=YH.nq;omega
 have O:∀i,i<V->(K i).n<=1000:=fun i hi=>by have h1:=ZM.lens i hi;have h2:=Zt.2.2 i (by have:=ZM.ll;omega);have h3:=(YH.link (i:=i) (by have:=ZM.ll;omega)).1.2;omega
 have YR:=aW O;have ao:=aW ai;have YS:=aW Zj;clear Zt ai Zj O;have Zq:=aX.blk Yu.o;have Zr:=aX.blk U.o;have Zo:=aX.blk Yt.o;refine jB 4 (fun w'=>∃x:aX w4,w'=x.val) [(ε,0),(ε,1),(ε,3),(ζ,2)] ah ah ⟨⟨_,(Ext.refl w4).drew⟩,rfl⟩ ?_;refine bC [0,1,3] [(ζ,2)] _ ah ?_;refine Gq ?_;clear Zq Zr Zo;have P:Ext w4 w4.drew:=(Ext.refl _).drew;refine bz 2 [] ah ?_;intro K I;simp only[bG];go_wp2_with fail;refine(DR _ (ZM.ext (j.trans P)) (by have:=ao.o;omega) (by have:=YS.o;omega) YR.o).mono ?_;rintro _ w5 ⟨T,YD,Yv,YL,R,rfl,YB,Zc,Yx,F⟩;have Zk:=aW YB;have YN:w4.heap.size<=w4.drew.heap.size:=κ _;have Zf:=aW Yx;clear Yx YB Zc;replace P:=P.trans F;clear F;go_wp2;refine I _ _ ⟨⟨_,P⟩,rfl⟩ ?_;clear I;simp only[cK,ξ,τ];have YV:g8<w4.heap.size:=YA.lt;have YW:=aW YV;have ad:=YQ.lt;have YU:g6<g8:=by have:=Za.o;omega
 have l:=aW YU;clear YV ad YU;replace Yu:=Yu.aA P;replace U:=U.aA P;replace Yt:=Yt.aA P;replace S:=S.aA P;replace YA:=YA.aA P;replace Zw:=Zw.aC P;replace j:=j.aC P;replace HC:=aW (dh.ext HC.o P);clear P;go_wp2_with fail;have af:w_.heap.size<=g8:=by have:=Za.o;omega
 refine(UX f g8 ZI w4.drew.heap.size w_ w5 Zw.o af Zg.o Zk.o Zf.o YW.o Yz.o (SB Z9.o) YY.o YA.o HC.o).mono ?_;rintro _ w6 ⟨rfl,C1,Bv,hG⟩;have HG:=aW hG;clear hG af YN;go_wp2_with fail;have Yp:=Yt.mod HG.r.m (Blk.eY Yt.o YA.o aj);have Q:=S.mod HG.r.m (show ¬g6=g8 by have:=l.o;omega);have J:=aW Yp;have H:=aW Q;clear Yp Q Yu U Yt S YA HC;obtain⟨A,cb,Yq,hA⟩:=HG.net YH.o ZR.o;have Yy:=aW Yq;have Z:=aW hA;clear Yq hA;refine(QT g8 _ cb C1 (fun _=>zEn) A Bv (dD s (resolve 0 p) f) _ HG.r.g Yy.o HG.r.n32 Z.o).mono ?_;rintro _ w7 ⟨rfl,Zn,Zh⟩;have am:=aW Zn;have YZ:=aW Zh;have Yp:=J.mod Zh (Blk.eY J.o HG.r.g aj);have Q:=H.mod Zh (show ¬g6=g8 by have:=l.o;omega);have YT:dh w7 ZI:=Blk.mod HG.r.c Zh HG.r.ne;have M:=Yy.mod (C':=C1) Zh HG.r.far Z.o (fun i hi=>rfl);have Ze:tO w7 (j3 C1 (lv (dD s (resolve 0 p) f))) A _ cb Bv (dD s (resolve 0 p) f) (lv (dD s (resolve 0 p) f)):=⟨(mo aa).trans M.br,M.arr,M.len,M.ab,M.z0,M.z1,M.e,fun k hk=>oo hk,M.ok,M.l23⟩;have Yt:=aW Yp;have S:=aW Q;have Zl:=aW YT;have Zm:=aW Ze;clear Zn Zh Yp Q YT M Ze J H;have k5:=Yt.cell;go_wp2_with fail;clear k5;refine(Vm g8 ZI _ cb (j3 C1 (lv (dD s (resolve 0 p) f))) _ A Bv (dD s (resolve 0 p) f) (eZ s (resolve 0 p) f) f _ Zl.o am.o Zm.o ((mo aa).trans HG.c14) (Hg YH.o ZR.o (resolve 0 p)).1 (J3 HG.r.n32) Z.o ZR.r).mono ?_;rintro _ w8 ⟨rfl,E,Zd⟩;have HS:=aW Zd;clear Zd;have Q:=S.mod HS.m (show ¬g6=g8 by have:=l.o;omega);have H:=aW Q;clear Q;have YF:=aW (HG.L6 YH.o YZ.o HS.o);have kc:w8.cell? (aM ZI 0)=γ (.int .i64 0):=HS.f.cell 0;have Yr:Hid (w8.rangeAt g8 0 (gl (j3 C1 (lv (dD s (resolve 0 p) f))) E)):=aW (Blk.rng (show Blk w8 g8 105 (gl (j3 C1 (lv (dD s (resolve 0 p) f))) E).toArray from HS.b));(go_wp2_with (refine υ rfl 105 _ rfl g8 (0) rf (gl (j3 C1 (lv (dD s (resolve 0 p) f))) E) _ Yr.o underlying105 rfl (uP _ _) (Hid.o ?_)));refine Qz ?_;have N:=aW (Ju (C':=j3 C1 (lv (dD s (resolve 0 p) f))) (E':=E) H.o);(go_wp2_with (refine bf rfl 105 (.tmp 6) (.tmp 40) rfl g6 (0) (gl (j3 C1 (lv (dD s (resolve 0 p) f))) E) rf rf N.o (uP _ _) (Qh YF.one) (fun w9 G=>Hid.o ?_)));refine Qz ?_;replace G:=Hid.o G;have YE:Mod (fun k=>k=g6) w8 w9:=by rw[G];exact Mod.puts _ _ _ _ rfl
 have ac:Blk w9 g6 105 (gl (j3 C1 (lv (dD s (resolve 0 p) f))) E).toArray:=by have:=dm 0 (gl (j3 C1 (lv (dD s (resolve 0 p) f))) E) H.o;rw[iA _ _ (by rw[wP,wP])] at this;rw[G];exact this
 have YG:iq (fun k=>k=g6) w8:=afl (Q9 H.o) (fun k _=>qh (fun i hi=>by unfold zC;split<;>(try split)<;>(try split)<;>(try split)<;>rfl) k) (fun k hk=>hk);have YM:oU w9 g8 (j3 C1 (lv (dD s (resolve 0 p) f))) E s (resolve 0 p) f:=by
  obtain⟨gB,wv,h1,h2,h3,h4⟩:=HG.bays;have YN:g6<w5.heap.size:=by have:=l.o;have:=YW.o;have:=HG.r.lx;omega
  have Zx:=YZ.trans HS.m;have lx:=HG.r.lx;have YP:=h3.mod Zx (show ¬gB=g8 by omega);refine YF.old (B:=0) YE YG (fun Zy ap e1 e2=> ?_) ⟨gB,(mo aa).trans h1⟩;have e3:=((mo aa).trans h1).symm.trans e1;injection e3 with e3;injection e3 with e3;injection e3 with e3 _ _;subst e3;refine⟨aa,fun i hi g k e=> ?_⟩;obtain⟨b',o',q1,q2,q3⟩:=e2 aa;injection q1 with q1;injection q1 with q1 q4 _;subst q1;subst q4;have q5:=q3 i hi 0 _ rfl;have q6:=YP.cell hi;rw[show 0+i*1+0=i by omega,q6] at q5;injection q5 with q5;have:=(h4 i hi).2 g k (by rw[q5];exact e);omega
 have ad:=YO.o;have Y:Ext w w9:=fQ (fQ (fQ (fQ j.o HG.r.m (fun k hk=>by have hk:k=g8:=hk;have:=l.o;omega)) YZ.o (fun k hk=>by have hk:k=g8:=hk;have:=l.o;omega)) HS.m (fun k hk=>by have hk:k=g8:=hk;have:=l.o;omega)) YE (fun k hk=>by have hk:k=g6:=hk;omega);have YK:=aW YM;have YI:=aW Y;have D:=aW ac;clear YM Y ac YE YG G kc;go_wp2_with fail;exact GN rfl rfl rf D.o underlying105 rfl (uP _ _) ⟨_,_,g8,rfl,YK.o,YI.o⟩
end Go.Proofs.YtbfnfkppkmpieaaGreat
