import Derived.Test.YtbfnfkppkmpieaaGreatQpd
set_option linter.unusedVariables false
set_option linter.unusedSimpArgs false
set_option maxHeartbeats 25600000
set_option maxRecDepth 200000
set_option linter.defProp false
namespace Go.Proofs.YtbfnfkppkmpieaaGreat
open Go.RowKit
open Go.RowKit Go.ChangeShapes Go.WideShapes Go.ChangeAt Go.Joins Go.Deep
open Go.RowKit Go.Deep
open Go.Proofs.Tryz
open Option renaming some->γ,none->δ
open Bool renaming true->ε,false->ζ
open Inhabited renaming default->η
open Value renaming slice->aO
open World renaming alloc->aU
open Mc
def sQ:(prog.info? 45).map (·.zero)=γ (γ (.agg (bz 6 fun _=>zEn).toArray)):=ah
def tu:(prog.info? 44).map (·.zero)=γ (γ (.agg (bz 2 fun _=>zEn).toArray)):=ah
def iO(f):(prog.info? 45).map (·.size)=γ (bz 6 f).length:=by rw[bM];kernel_rfl
def ig(f):(prog.info? 44).map (·.size)=γ (bz 2 f).length:=by rw[bM];kernel_rfl
def Ph3 (w:World) (e:Nat->En) (P:Nat->PQ) (n:Nat):Prop:=∀m,m<3->GV w (e (2*m)).v (P m).u n/\GV w (e (2*m+1)).v (P m).v n
def Ph3.ext{w w' e P n}(h:Ph3 w e P n)(x:Ext w w'):Ph3 w' e P n:=fun m j=>⟨(h m j).1.ext x,(h m j).2.ext x⟩
def two (a b:En) (j:Nat):En:=if j=0 then a else b
def PV.row{w v p n}(h:PV w v p n):∃e:Nat->En,v=.agg (bz 2 e).toArray/\GV w (e 0).v p.u n/\GV w (e 1).v p.v n:=by
 obtain⟨a,b,d,x,y,z,H,I,S,J,T⟩:=h;obtain⟨s1,A1,n1,c1,s2,A2,n2,c2,s3,A3,n3,c3,s4,A4,n4,c4,s5,A5,n5,c5,s6,A6,n6,c6,rfl,C,j,F,B,D,G⟩:=H;exact⟨two ⟨s1,A1,n1,c1,s2,A2,n2,c2,s3,A3,n3,c3⟩ ⟨s4,A4,n4,c4,s5,A5,n5,c5,s6,A6,n6,c6⟩,rfl,⟨a,b,d,RG.mk C j F,I,S⟩,⟨x,y,z,RG.mk B D G,J,T⟩⟩
def afj{w e p n}(B:GV w (e 0).v p.u n)(C:GV w (e 1).v p.v n):PV w (.agg (bz 2 e).toArray) p n:=by
 obtain⟨a,b,d,j,I,S⟩:=B;obtain⟨x,y,z,G,J,T⟩:=C;refine⟨a,b,d,x,y,z,?_,I,S,J,T⟩;have r1:=j;have r2:=G;exact⟨_,_,_,_,_,_,_,_,_,_,_,_,_,_,_,_,_,_,_,_,_,_,_,_,rfl,j.at1,j.at2,j.at3,G.at1,G.at2,G.at3⟩
def AV.row{w v P p1 p2 n}(h:AV w v P p1 p2 n):∃e:Nat->En,v=.agg (bz 6 e).toArray/\(GV w (e 0).v P.u n/\GV w (e 1).v P.v n)/\(GV w (e 2).v p1.u n/\GV w (e 3).v p1.v n)/\(GV w (e 4).v p2.u n/\GV w (e 5).v p2.v n):=by
 obtain⟨z1,z2,z3,O,H,R,L,Q,z9,J,B,M,V,YI,K,G,I,Yx,⟨S,A,N,C,rfl,h1,h2,h3,h4,h5,h6,h7,h8,h9,Zv,Yy,ac,YL,ZP,Yv,ZZ,D,Yw⟩,I1,S1,I2,S2,F,S3,T,S4,W,U,Y,Z⟩:=h;refine⟨fun j=>⟨S (3*j+1),A (3*j+1),N (3*j+1),C (3*j+1),S (3*j+2),A (3*j+2),N (3*j+2),C (3*j+2),S (3*j+3),A (3*j+3),N (3*j+3),C (3*j+3)⟩,rfl,⟨⟨_,_,_,RG.mk h1 h2 h3,I1,S1⟩,⟨_,_,_,RG.mk h4 h5 h6,I2,S2⟩⟩,⟨⟨_,_,_,RG.mk h7 h8 h9,F,S3⟩,⟨_,_,_,RG.mk Zv Yy ac,T,S4⟩⟩,⟨⟨_,_,_,RG.mk YL ZP Yv,W,U⟩,⟨_,_,_,RG.mk ZZ D Yw,Y,Z⟩⟩⟩
def iw{w W W' g n t f f0}(J:Ext w W)(D:w.heap.size<=g)(hb:Blk W g t (bz n f0).toArray)(C:W'=puts W g 0 (bz n f)):Blk W' g t (bz n f).toArray/\Ext w W'/\∀v q m,GV W v q m->GV W' v q m:=by
 subst C;have B:Mod (fun k=>k=g) W (puts W g 0 (bz n f)):=Mod.puts _ _ _ _ rfl;refine⟨?_,fG J B (fun k j=>by have j:k=g:=j;omega),fun v q m hv=>hv.mod B (fun k j _=>by
  obtain rfl:k=g:=j;exact⟨_,_,hb,dD _ _⟩)⟩
 have:=dm 0 (bz n f) hb;exact Abw
def eX{w g n t f f0}(hb:Blk w g t (bz n f0).toArray):w.there g 0 (bz n f).length:=hb.there AbQ
def OI(g e w)(hc:dz w g):
  CE 86 #[aN g 0,.agg (bz 6 e).toArray,aJ] w (.agg (bz 6 e).toArray):=by
 have F:=aW hc;clear hc;go_enter func86,ntmps86;(go_wp2_with (refine bF rfl 45 rfl _ sQ (fun B G=>Hid.o ?_)));refine Qz ?_;replace G:=Hid.o G;have J:Ext w B:=by rw[G];exact(Ext.new _ _).alloc _
 have C:Blk B w.heap.size 45 (bz 6 e).toArray:=by rw[G];exact(Blk.new _ _ _).alloc _
 have j:Blk B (w.heap.size+1) 45 (bz 6 fun _=>zEn).toArray:=by rw[G];exact aeV _ _ (eU _ _)
 have Z:w.heap.size<=w.heap.size+1:=abj _;(try simp only[eU]);clear G;generalize w.heap.size+1=g6 at j Z⊢;generalize M:w.heap.size=g4 at C Z⊢;have O:=dz.ext F.o J;have k0:B.cell? (aM g 0)=γ (.int .i64 0):=Blk.cell O 0;have f0:=Blk.frozen O;have P:Ext B (B.setCell ⟨g,0,δ⟩ (.int .i64 0)):=(Ext.refl B).stay O rfl;have W:=aW (J.trans P);have D:=aW (C.ext P).rng;have S:=aW (j.ext P);have H:Hid (w.heap.size<=g6):=aW aa;clear J P C j Z M O;have N:=aW (eX (f:=e) S.o);(go_wp2_with (refine σ rfl 45 _ rfl g4 (0) rf (bz 6 e) _ D.o Be rfl (iO e) (Hid.o ?_)));refine Qz ?_;(go_wp2_with (refine aY rfl 45 (.tmp 6) (.tmp 23) rfl g6 (0) (bz 6 e) rf rf N.o (iO e) (dN 6 e) (fun R G=>Hid.o ?_)));refine Qz ?_;replace G:=Hid.o G;have hF:=iw W.o H.o S.o G;go_wp2_with fail;exact jo rfl rfl rf hF.1 Be rfl (by rw[xx];exact iO e) ⟨rfl,hF.2.1⟩
def Ox(g e w)(hc:dz w g):
  CE 171 #[aN g 0,.agg (bz 2 e).toArray,aJ] w (.agg (bz 2 e).toArray):=by
 have F:=aW hc;clear hc;go_enter func171,ntmps171;(go_wp2_with (refine bF rfl 44 rfl _ tu (fun B G=>Hid.o ?_)));refine Qz ?_;replace G:=Hid.o G;have J:Ext w B:=by rw[G];exact(Ext.new _ _).alloc _
 have C:Blk B w.heap.size 44 (bz 2 e).toArray:=by rw[G];exact(Blk.new _ _ _).alloc _
 have j:Blk B (w.heap.size+1) 44 (bz 2 fun _=>zEn).toArray:=by rw[G];exact aeV _ _ (eU _ _)
 have Z:w.heap.size<=w.heap.size+1:=abj _;(try simp only[eU]);clear G;generalize w.heap.size+1=g6 at j Z⊢;generalize M:w.heap.size=g4 at C Z⊢;have O:=dz.ext F.o J;have k0:B.cell? (aM g 0)=γ (.int .i64 0):=Blk.cell O 0;have f0:=Blk.frozen O;have P:Ext B (B.setCell ⟨g,0,δ⟩ (.int .i64 0)):=(Ext.refl B).stay O rfl;have W:=aW (J.trans P);have D:=aW (C.ext P).rng;have S:=aW (j.ext P);have H:Hid (w.heap.size<=g6):=aW aa;clear J P C j Z M O;have N:=aW (eX (f:=e) S.o);(go_wp2_with (refine σ rfl 44 _ rfl g4 (0) rf (bz 2 e) _ D.o A8 rfl (ig e) (Hid.o ?_)));refine Qz ?_;(go_wp2_with (refine aY rfl 44 (.tmp 6) (.tmp 23) rfl g6 (0) (bz 2 e) rf rf N.o (ig e) (dN 2 e) (fun R G=>Hid.o ?_)));refine Qz ?_;replace G:=Hid.o G;have hF:=iw W.o H.o S.o G;go_wp2_with fail;exact jo rfl rfl rf hF.1 A8 rfl (by rw[xx];exact ig e) ⟨rfl,hF.2.1⟩
def KX(g:Nat)(e0)(p:PQ)(n K:Nat)(m1:Int)(w)(hc:dz w g)(h0:GV w (e0 0).v p.u n)(h1:GV w (e0 1).v p.v n)(l1: -9223372036854775808<=m1)(u1:m1<=9223372036854775807)(V:m1%12=(K:Int))(hn:2*n+65<=12800):
  Calls prog 131 #[aN g 0,.agg (bz 2 e0).toArray,m1,.func (Fn.func 132) #[] #[]] w fun r w'=>∃e:Nat->En,r=.returned (.agg (bz 2 e).toArray)/\GV w' (e 0).v (p*PQ.zp K).u (n+n+65)/\GV w' (e 1).v (p*PQ.zp K).v (n+n+65)/\Ext w w':=by
 have HC:=aW hc;have HX:=aW (afj h0 h1);clear hc h0 h1;go_enter func131,ntmps131;(go_wp2_with (refine bF rfl 44 rfl _ tu (fun W G=>Hid.o ?_)));refine Qz ?_;replace G:=Hid.o G;have J:Ext w W:=by rw[G];exact(Ext.new _ _).alloc _
 have Q:Blk W w.heap.size 44 (bz 2 e0).toArray:=by rw[G];exact(Blk.new _ _ _).alloc _
 have P:Blk W (w.heap.size+1) 44 (bz 2 fun _=>zEn).toArray:=by rw[G];exact aeV _ _ (eU _ _)
 have Z:w.heap.size<=w.heap.size+1:=abj _;(try simp only[eU]);clear G;generalize w.heap.size+1=g8 at P Z⊢;generalize YZ:w.heap.size=g5 at Q Z⊢;have k0:W.cell? (aM g 0)=γ (.int .i64 0):=Blk.cell (dz.ext HC.o J) 0;have B:=aW J;have S:=aW Q.rng;have C:=aW P;have HL:Hid (w.heap.size<=g8):=aW aa;clear J Q P Z YZ;(go_wp2_with (refine σ rfl 44 _ rfl g5 (0) rf (bz 2 e0) _ S.o A8 rfl (ig e0) (Hid.o ?_)));refine Qz ?_;clear k0;go_wp2_with fail;refine(Tf _ p n m1 K _ (HX.ext B.o) l1 u1 V hn).mono ?_;rintro _ w2 ⟨_,rfl,⟨u,rfl,O⟩,F⟩;obtain⟨e1,rfl,L,I⟩:=O.row;have D:=aW (And.intro L I);clear L I;replace B:=B.aC F;replace C:=C.aA F;clear O F S;(go_wp2_with (refine bF rfl 44 rfl _ tu (fun T G=>Hid.o ?_)));refine Qz ?_;replace G:=Hid.o G;have J:Ext w2 T:=by rw[G];exact Ext.new _ _
 have hb:Blk T w2.heap.size 44 (bz 2 fun _=>zEn).toArray:=by rw[G];exact Blk.new _ _ _
 have N:=aW (eX (f:=e1) hb);have YW:=B.size;clear G;generalize j:w2.heap.size=g10 at hb N⊢;(go_wp2_with (refine aY rfl 44 (.tmp 10) (.tmp 23) rfl g10 (0) (bz 2 e1) rf rf N.o (ig e1) (dN 2 e1) (fun R G=>Hid.o ?_)));refine Qz ?_;replace G:=Hid.o G;obtain⟨U,H,Y⟩:=iw J aa hb G;replace B:=B.aC H;replace C:=C.aA H;replace D:=aW (And.intro (D.o.1.ext H) (D.o.2.ext H));have M:=aW U.rng;clear U H Y hb J N G YW j;(go_wp2_with (refine σ rfl 44 _ rfl g10 (0) rf (bz 2 e1) _ M.o A8 rfl (ig e1) (Hid.o ?_)));refine Qz ?_;go_wp2_with fail;refine(Ox g e1 _ (dz.ext HC.o B.o)).mono ?_;rintro _ w3 ⟨rfl,F⟩;replace B:=B.aC F;replace C:=C.aA F;replace D:=aW (And.intro (D.o.1.ext F) (D.o.2.ext F));clear F M;have N:=aW (eX (f:=e1) C.o);(go_wp2_with (refine aY rfl 44 (.tmp 8) (.tmp 28) rfl g8 (0) (bz 2 e1) rf rf N.o (ig e1) (dN 2 e1) (fun YD G=>Hid.o ?_)));refine Qz ?_;replace G:=Hid.o G;have hF:=iw B.o HL.o C.o G;go_wp2_with fail;exact jo rfl rfl rf hF.1 A8 rfl (by rw[xx];exact ig e1) ⟨e1,rfl,hF.2.2 _ _ _ D.o.1,hF.2.2 _ _ _ D.o.2,hF.2.1⟩
def Td(g:Nat)(e0)(p:PQ)(n K:Nat)(m1:Int)(w)(hc:dz w g)(O:GV w (e0 0).v p.u n)(P:GV w (e0 1).v p.v n)(l1: -9223372036854775808<=m1)(u1:m1<=9223372036854775807)(V:m1%12=(K:Int))(hn:2*n+65<=12800):
  Calls prog 87 #[aN g 0,.agg (bz 2 e0).toArray,m1] w fun r w'=>∃e:Nat->En,r=.returned (.agg (bz 2 e).toArray)/\GV w' (e 0).v (p*PQ.zp K).u (n+n+65)/\GV w' (e 1).v (p*PQ.zp K).v (n+n+65)/\Ext w w':=by
 have U:=aW hc;have T:=aW (And.intro O P);clear hc O P;go_enter func87,ntmps87;(go_wp2_with (refine bF rfl 44 rfl _ tu (fun H G=>Hid.o ?_)));refine Qz ?_;replace G:=Hid.o G;have J:Ext w H:=by rw[G];exact(Ext.new _ _).alloc _
 have C:Blk H w.heap.size 44 (bz 2 e0).toArray:=by rw[G];exact(Blk.new _ _ _).alloc _
 have B:Blk H (w.heap.size+1) 44 (bz 2 fun _=>zEn).toArray:=by rw[G];exact aeV _ _ (eU _ _)
 have Z:w.heap.size<=w.heap.size+1:=abj _;(try simp only[eU]);clear G;generalize w.heap.size+1=g6 at B Z⊢;generalize M:w.heap.size=g4 at C Z⊢;have j:=aW J;have D:=aW C.rng;have S:=aW B;have W:Hid (w.heap.size<=g6):=aW aa;clear J C B Z M;(go_wp2_with (refine σ rfl 44 _ rfl g4 (0) rf (bz 2 e0) _ D.o A8 rfl (ig e0) (Hid.o ?_)));refine Qz ?_;go_wp2_with fail;refine(KX g e0 p n K m1 _ (dz.ext U.o j.o) (T.o.1.ext j.o) (T.o.2.ext j.o) l1 u1 V hn).mono ?_;rintro _ w2 ⟨e1,rfl,L,I,F⟩;have Q:=aW (And.intro L I);clear L I;replace j:=j.aC F;replace S:=S.aA F;clear F D;have N:=aW (eX (f:=e1) S.o);(go_wp2_with (refine aY rfl 44 (.tmp 6) (.tmp 10) rfl g6 (0) (bz 2 e1) rf rf N.o (ig e1) (dN 2 e1) (fun R G=>Hid.o ?_)));refine Qz ?_;replace G:=Hid.o G;have hF:=iw j.o W.o S.o G;go_wp2_with fail;exact jo rfl rfl rf hF.1 A8 rfl (by rw[xx];exact ig e1) ⟨e1,rfl,hF.2.2 _ _ _ Q.o.1,hF.2.2 _ _ _ Q.o.2,hF.2.1⟩
def Dh:∀(xs j:List Value) (cs:Array Value) (k:Nat),gJ cs k (xs++j)=gJ (gJ cs k xs) (k+xs.length) j
 |[],_,_,_=>rfl
 |x::xs,j,cs,k=>by
  show gJ (cs.setIfInBounds k x) (k+1) (xs++j)=gJ (gJ (cs.setIfInBounds k x) (k+1) xs) (k+(xs.length+1)) j;rw[Dh xs j _ (k+1),show k+(xs.length+1)=k+1+xs.length by omega]
def zA{e x m}(C:m<3):gJ (bz 6 e).toArray (m*12) (bz 2 x)=(bz 6 (upd (upd e (2*m) (x 0)) (2*m+1) (x 1))).toArray:=by
 have B:bz 2 x=(x 0).cells++(x 1).cells:=by rw[jr,jr];rfl
 have j:gJ (bz 6 e).toArray (m*12) ((x 0).cells++(x 1).cells)=gJ (gJ (bz 6 e).toArray (m*12) (x 0).cells) (m*12+6) (x 1).cells:=Dh _ _ _ _;rw[B,j,show m*12=2*m*6 by omega,oo (x 0) aa,show 2*m*6+6=(2*m+1)*6 by omega,oo (x 1) aa]
def Blk.Wu{w g n j o t f}(h:Blk w g t (bz n f).toArray)(C:j<n)(B:o=j*6):w.rangeAt g o (f j).cells:=fun t v hv=>by
 subst B;have D:t<6:=by have:=(μ.1 hv).1;rwa[sS] at this
 rw[h.cell,Γ,dY D C];exact hv
structure PhS (w wr:World) (gf g6 g7:Nat) (e1 e:Nat->En) (q:Nat->GQ) (sh i:Nat):Prop where
 c:dz wr gf
 b6:Blk wr g6 45 (bz 6 fun _=>zEn).toArray
 b7:Blk wr g7 45 (bz 6 e).toArray
 v:∀m,m<i->GV wr (e (2*((m+sh)%3))).v (phv q sh ((m+sh)%3)).u 4600/\GV wr (e (2*((m+sh)%3)+1)).v (phv q sh ((m+sh)%3)).v 4600
 u:∀m,m<3->GV wr (e1 (2*m)).v (phq q m).u 4600/\GV wr (e1 (2*m+1)).v (phq q m).v 4600
 x:Ext w wr
 l6:w.heap.size<=g6
 l7:g6<g7
def PhS.ext{w wr wr' gf g6 g7 sh i e1 e q}(h:PhS w wr gf g6 g7 e1 e q sh i)(x:Ext wr wr'):PhS w wr' gf g6 g7 e1 e q sh i:=
 ⟨h.c.ext x,h.b6.ext x,h.b7.ext x,fun m j=>⟨(h.v m j).1.ext x,(h.v m j).2.ext x⟩,fun m j=>⟨(h.u m j).1.ext x,(h.u m j).2.ext x⟩,h.x.trans x,h.l6,h.l7⟩
def PhS.put{w wr wr' gf g6 g7 sh i e1 e x q}(h:PhS w wr gf g6 g7 e1 e q sh i)(hi:i<3)(I:GV wr (x 0).v (phv q sh ((i+sh)%3)).u 4600)(J:GV wr (x 1).v (phv q sh ((i+sh)%3)).v 4600)(j:gf<w.heap.size){a}(ha:a=(i+sh)%3*12)(G:wr'=puts wr g7 a (bz 2 x)):PhS w wr' gf g6 g7 e1 (upd (upd e (2*((i+sh)%3)) (x 0)) (2*((i+sh)%3)+1) (x 1)) q sh (i+1):=by
 subst ha;have F:(i+sh)%3<3:=pu _ aa;have B:Mod (fun k=>k=g7) wr wr':=by rw[G];exact Mod.puts _ _ _ _ rfl
 have hS:Far (fun k=>k=g7) wr:=fun k D _=>by
  obtain rfl:k=g7:=D;exact⟨_,_,h.b7,dD _ _⟩
 have l6:=h.l6;have l7:=h.l7;refine⟨Blk.mod h.c B (by show ¬gf=g7;omega),h.b6.mod B (by show ¬g6=g7;omega),?_,fun m K=> ?_,fun m C=>⟨(h.u m C).1.mod B hS,(h.u m C).2.mod B hS⟩,fG h.x B (fun k D=>by have D:k=g7:=D;omega),h.l6,h.l7⟩
 .have:=dm ((i+sh)%3*12) (bz 2 x) h.b7;rw[zA F] at this;rw[G];exact this
 .by_cases H:m=i
  .subst H;rw[upd_ne aa,upd_same,upd_same];exact⟨I.mod B hS,J.mod B hS⟩
  .have L:(m+sh)%3≠(i+sh)%3:=aa;rw[upd_ne aa,upd_ne aa,upd_ne aa,upd_ne aa];have:=h.v m aa;exact⟨this.1.mod B hS,this.2.mod B hS⟩
theorem WV{q sh m}(hs:sh<3)(j:m<3):phv q sh ((m+sh)%3)=phq q m*PQ.zp (8*sh%12):=by
 unfold phv;rw[show((m+sh)%3+3-sh)%3=m by omega]
def PhS.all{w wr gf g6 g7 sh e1 e q}(h:PhS w wr gf g6 g7 e1 e q sh 3)(hs:sh<3):Ph3 wr e (phv q sh) 4600:=fun m j=>by
 have:=h.v ((m+3-sh)%3) aa;rw[show((m+3-sh)%3+sh)%3=m by omega] at this;exact this
def QR{e}{k:Nat}(B:k<3)(w):Sem.run prog (Instr.index 45 (.agg (bz 6 e).toArray) (.int .i64 (k:Int))) w=.ok (.agg (bz 2 fun t=>e (2*k+t)).toArray) w:=by
 have j:k=0\/k=1\/k=2:=aa;rcases j with rfl|rfl|rfl
 all_goals
  simp[Instr.index,abl Be,asIntOf,go_sem,isAgg44,sizeOf44,part,bz,En.cells,abV]
theorem Lf(gf sh:Nat)(a q D w)(hc:dz w gf)(ha:∀k,k<3->GV w (a k).v (q k) 4600)(hq:oK q D)(hs:sh<3):
  Calls prog 44 #[aN gf 0,.agg (bz 3 a).toArray,(sh:Int)] w fun r w'=>∃e:Nat->En,r=.returned (.agg (bz 6 e).toArray)/\Ph3 w' e (phv q sh) 4600/\Ext w w':=by
 have HC:=aW hc;have HA:=aW ha;have HQ:=aW hq;have Zd:=aW hs;have ZH:Hid (gf<w.heap.size):=aW (Blk.lt hc);clear hc ha hq hs;go_enter func44,ntmps44;(go_wp2_with (refine bF rfl 45 rfl _ sQ (fun w_ G=>Hid.o ?_)));refine Qz ?_;replace G:=Hid.o G;have J:Ext w w_:=by rw[G];exact(Ext.new _ _).alloc _
 have YK:Blk w_ w.heap.size 102 (bz 3 a).toArray:=by rw[G];exact(Blk.new _ _ _).alloc _
 have YX:Blk w_ (w.heap.size+1) 45 (bz 6 fun _=>zEn).toArray:=by rw[G];exact aeV _ _ (eU _ _)
 have Z:w.heap.size<=w.heap.size+1:=abj _;(try simp only[eU]);clear G;generalize w.heap.size+1=g6 at YX Z⊢;generalize M:w.heap.size=g4 at YK Z⊢;have Zf:Hid (w.heap.size<=g6):=aW aa;clear Z M;(go_wp2_with (refine bF rfl 45 rfl _ sQ (fun YQ G=>Hid.o ?_)));refine Qz ?_;replace G:=Hid.o G;have H:Ext w_ YQ:=by rw[G];exact Ext.new _ _
 have Zg:Blk YQ w_.heap.size 45 (bz 6 fun _=>zEn).toArray:=by rw[G];exact Blk.new _ _ _
 have W:Hid (g6<w_.heap.size):=aW YX.lt;clear G;generalize w_.heap.size=g7 at Zg W⊢;have HX:=aW (J.trans H);have YI:=aW (YK.ext H);have S:=aW (YX.ext H);have YT:=aW Zg;clear J H YK YX Zg;have k0:YQ.cell? (aM gf 0)=γ (.int .i64 0):=Blk.cell (dz.ext HC.o HX.o) 0;have V:Hid (YQ.rangeAt g4 0 (a 0).cells):=aW (YI.Wu (j:=0) aa rfl);have U:Hid (YQ.rangeAt g4 6 (a 1).cells):=aW (YI.Wu (j:=1) aa rfl);have P:Hid (YQ.rangeAt g4 12 (a 2).cells):=aW (YI.Wu (j:=2) aa rfl);(go_wp2_with (refine σ rfl 42 _ rfl g4 (0) rf ((a 0).cells) _ V.o abH rfl cO (Hid.o ?_)));refine Qz ?_;(go_wp2_with (refine σ rfl 42 _ rfl g4 (6) rf ((a 1).cells) _ U.o abH rfl cO (Hid.o ?_)));refine Qz ?_;(go_wp2_with (refine σ rfl 42 _ rfl g4 (12) rf ((a 2).cells) _ P.o abH rfl cO (Hid.o ?_)));refine Qz ?_;clear k0 V U P;go_wp2_with fail;refine(Pp 4600 (a 0).v (q 0) (a 1).v (q 1) (a 2).v (q 2) _ ((HA.o 0 aa).ext HX.o) ((HA.o 1 aa).ext HX.o) ((HA.o 2 aa).ext HX.o) HQ.sum aa).mono ?_;rintro _ w2 ⟨_,rfl,⟨u,rfl,O⟩,F⟩;obtain⟨e1,rfl,Y,YL,Yx⟩:=O.row;have Yz:∀m,m<3->GV w2 (e1 (2*m)).v (phq q m).u 4600/\GV w2 (e1 (2*m+1)).v (phq q m).v 4600:=fun m hm=>by
  have hp:=HQ.phq m;have h3:m=0\/m=1\/m=2:=aa;rcases h3 with rfl|rfl|rfl
  .exact⟨GV.to (q:=(phq q 0).u) (by rw[Xc];unfold ph0;have e:q 0+(q 1+q 2)=aeW 1 (q 0) 1 (aeW 1 (q 1) 1 (q 2) 1) 1:=Abf;rw[e];exact Y.1) hp.1,GV.to (q:=(phq q 0).v) Y.2 hp.2⟩
  .exact⟨GV.to (q:=(phq q 1).u) (by rw[Xy];unfold ph1;have e:q 1+q 2=aeW 1 (q 1) 1 (q 2) 1:=Abf;rw[e];exact YL.1) hp.1,GV.to (q:=(phq q 1).v) YL.2 hp.2⟩
  .exact⟨GV.to (q:=(phq q 2).u) (by rw[XU];unfold ph2;have e:q 1+q 2=aeW 1 (q 1) 1 (q 2) 1:=Abf;rw[e];exact Yx.1) hp.1,GV.to (q:=(phq q 2).v) Yx.2 hp.2⟩
 have HU:=aW Yz;replace HX:=HX.aC F;replace S:=S.aA F;replace YT:=YT.aA F;clear Yz O Y YL Yx F YI;(go_wp2_with (refine bF rfl 45 rfl _ sQ (fun Yw G=>Hid.o ?_)));refine Qz ?_;replace G:=Hid.o G;have J:Ext w2 Yw:=by rw[G];exact Ext.new _ _
 have YH:Blk Yw w2.heap.size 45 (bz 6 fun _=>zEn).toArray:=by rw[G];exact Blk.new _ _ _
 have N:=aW (eX (f:=e1) YH);have YJ:w2.heap.size<=w2.heap.size:=κ _;clear G;generalize Zq:w2.heap.size=g8 at YH YJ N⊢;(go_wp2_with (refine aY rfl 45 (.tmp 8) (.tmp 26) rfl g8 (0) (bz 6 e1) rf rf N.o (iO e1) (dN 6 e1) (fun R G=>Hid.o ?_)));refine Qz ?_;replace G:=Hid.o G;obtain⟨af,T,YW⟩:=iw J aa YH G;clear G J YH N;have YE:=aW af.rng;(go_wp2_with (refine σ rfl 45 _ rfl g8 (0) rf (bz 6 e1) _ YE.o Be rfl (iO e1) (Hid.o ?_)));refine Qz ?_;go_wp2_with fail;refine(OI gf e1 _ (dz.ext HC.o (HX.trans T))).mono ?_;rintro _ w4 ⟨rfl,F⟩;have ad:=af.ext F;have N:=aW (eX (f:=e1) ad);(go_wp2_with (refine aY rfl 45 (.tmp 8) (.tmp 31) rfl g8 (0) (bz 6 e1) rf rf N.o (iO e1) (dN 6 e1) (fun YD G=>Hid.o ?_)));refine Qz ?_;replace G:=Hid.o G;obtain⟨ac,B,Yy⟩:=iw (T.trans F) aa ad G;clear G N ad YE;have YE:=aW ac.rng;replace HX:=HX.aC B;have HS:Hid (PhS w _ gf g6 g7 e1 (fun _=>zEn) q sh 0):=aW ⟨dz.ext HC.o HX.o,S.ext B,YT.ext B,fun m hm=>absurd hm aa,fun m hm=>⟨(HU.o m hm).1.ext B,(HU.o m hm).2.ext B⟩,HX.o,Zf.o,W.o⟩;clear HX S YT HU af T YW F ac B Yy YJ Zq Zf W;(go_wp2_with (refine σ rfl 45 _ rfl g8 (0) rf (bz 6 e1) _ YE.o Be rfl (iO e1) (Hid.o ?_)));refine Qz ?_;clear YE;go_wp2_with fail
 go_loopw [33] (fun iv wr=>∃i:Nat,i<=3/\iv=.int .i64 i/\∃e,PhS w wr gf g6 g7 e1 e q sh i) (aT 3)
 case atStart=>exact⟨0,aa,rfl,_,HS.o⟩
 case round=>
  clear HS;rename World=>wr;obtain⟨i,hi,rfl,e,hR⟩:=hrel;have Q:=aW hR;clear hR;by_cases Yu:i<3
  .have hd:decide ((i:Int)<3)=ε:=ae;have YV:=QR (e:=e1) Yu wr;have q1:(0:Int)<=i:=aa;have q2:(i:Int)<3:=aa;obtain⟨e2,ai⟩:∃f:Nat->En,(fun t=>e1 (2*i+t))=f:=⟨_,rfl⟩;rw[ai] at YV;have Zh:=aW ai;have ZI:(0:Int)<=(sh:Int)/\(sh:Int)<3:=by have:=Zd.o;omega
   obtain⟨s0,s1⟩:=ZI;clear ai;(go_wp2_with (refine bF rfl 44 rfl _ tu (fun am G=>Hid.o ?_)));refine Qz ?_;replace G:=Hid.o G;have Yv:Ext wr am:=by rw[G];exact Ext.new _ _
   have ac:Blk am wr.heap.size 44 (bz 2 fun _=>zEn).toArray:=by rw[G];exact Blk.new _ _ _
   have N:=aW (eX (f:=e2) ac);clear G YV;generalize YA:wr.heap.size=ZZ at ac N⊢;(go_wp2_with (refine aY rfl 44 (.tmp 11) (.tmp 36) rfl ZZ (0) (bz 2 e2) rf rf N.o (ig e2) (dN 2 e2) (fun YF G=>Hid.o ?_)));refine Qz ?_;replace G:=Hid.o G;obtain⟨Zi,C,YC⟩:=iw Yv aa ac G;have YE:=aW Zi.rng;have K:=aW C;clear G N Yv ac Zi C YC YA;(go_wp2_with (refine σ rfl 44 _ rfl ZZ (0) rf (bz 2 e2) _ YE.o A8 rfl (ig e2) (Hid.o ?_)));refine Qz ?_;clear YE;go_wp2_with fail;refine(Td gf e2 (phq q i) 4600 (8*sh%12) _ _ (dz.ext Q.c K.o) (by have:=(Q.u i Yu).1;rw[<-Zh.o];exact this.ext K.o) (by have:=(Q.u i Yu).2;rw[<-Zh.o];exact this.ext K.o) aa aa aa aa).mono ?_;rintro _ w5 ⟨e3,rfl,L,I,F⟩;have hp:=WV (q:=q) Zd.o Yu;rw[<-hp] at L I;have Ze:=(HQ.phv Zd.o ((i+sh)%3)).bd HQ.o.2.1 HQ.o.1 (n:=4600) aa aa;have Zo:=aW (GV.to L Ze.1);have YZ:=aW (GV.to I Ze.2);replace Q:=Q.aA (K.trans F);clear L I hp Ze F K Zh;obtain⟨m,hm⟩:∃m,(i+sh)%3=m:=⟨_,rfl⟩;have ZU:m<3:=aa;have Za:((i:Int)+(sh:Int))%3=(m:Int):=aa;have HM:=aW hm;clear hm;have p1:(0:Int)<=m:=aa;have p2:(m:Int)<3:=aa;have N:Hid (w5.there g7 (m*12) (bz 2 e3).length):=aW (Q.b7.there AbQ);(go_wp2_with (refine aY rfl 44 (.tmp 46) (.tmp 45) rfl g7 (m*12) (bz 2 e3) rf rf N.o (ig e3) (dN 2 e3) (fun YM G=>Hid.o ?_)));refine Qz ?_;replace G:=Hid.o G;have YB:=aW (Q.put Yu Zo.o YZ.o ZH.o (a:=m*12) (by rw[HM.o]) G);clear Q N G Zo YZ;go_wp2_with fail
   go_roundw
   case rel=>exact⟨i+1,aa,au,_,YB.o⟩
   case measure=>exact aV
  .obtain rfl:i=3:=aa;have hd:decide ((3:Int)<3)=ζ:=aj;have YE:=aW Q.b7.rng;have N:=aW (eX (f:=e) Q.b6);(go_wp2_with (refine σ rfl 45 _ rfl g7 (0) rf (bz 6 e) _ YE.o Be rfl (iO e) (Hid.o ?_)));refine Qz ?_;(go_wp2_with (refine aY rfl 45 (.tmp 6) (.tmp 48) rfl g6 (0) (bz 6 e) rf rf N.o (iO e) (dN 6 e) (fun YG G=>Hid.o ?_)));refine Qz ?_;replace G:=Hid.o G;have hF:=iw Q.x Q.l6 Q.b6 G;have ha:=Q.all Zd.o;go_wp2_with fail;exact jo rfl rfl rf hF.1 Be rfl (by rw[xx];exact iO e) ⟨e,rfl,fun m hm=>⟨hF.2.2 _ _ _ (ha m hm).1,hF.2.2 _ _ _ (ha m hm).2⟩,hF.2.1⟩
def X4(x):x-GQ.i 0 0=x:=by ext<;>simp only[GQ.dJ,GQ.dK,GQ.dH,GQ.dC]<;>grind
noncomputable def cq (V:Nat->Nat->GQ) (L:Nat->Bool) (o:Option BrD) (n:Nat):GQ:=
 match o with
 |none=>GQ.i 0 0
 |some b=>if 13<=b.a/\L b.a=ε then (V n b.a-V n b.b-(if n=1 then GQ.i b.emf 0 else GQ.i 0 0))/b.zs (min n 1) else GQ.i 0 0
structure CuS (w wr:World) (gf g6 g7:Nat) (a:Nat->En) (q:Nat->GQ) (i:Nat):Prop where
 c:dz wr gf
 s:AtS w wr 3 102 g6 g7 a
 v:∀k,k<3->GV wr (a k).v (if k<i then q k else GQ.i 0 0) 4600
section
variable {w wr wr':World} {gf g6 g7 i:Nat} {a:Nat->En} {q:Nat->GQ}
def CuS.ext(h:CuS w wr gf g6 g7 a q i)(x:Ext wr wr'):CuS w wr' gf g6 g7 a q i:=⟨h.c.ext x,h.s.ext x,fun k j=>(h.v k j).ext x⟩
def CuS.put(h:CuS w wr gf g6 g7 a q i)(j:gf<w.heap.size)(hi:i<3){e}(O:GV wr e.v (q i) 4600)(F:wr'=puts wr g7 (i*6) e.cells):CuS w wr' gf g6 g7 (upd a i e) q (i+1):=by
 obtain⟨H,C⟩:=h.s.put hi e rfl F;have l4:=h.s.l4;have l5:=h.s.l5;refine⟨Blk.mod h.c C (by show ¬gf=g7;omega),H,fun k G=> ?_⟩;by_cases B:k=i
 .subst B;rw[upd_same,ι aa];exact O.mod C h.s.far
 .rw[upd_ne B];have:=(h.v k G).mod C h.s.far;by_cases D:k<i
  .rw[ι D] at this;rw[ι aa];exact this
  .rw[θ D] at this;rw[θ aa];exact this
def CuS.skip(h:CuS w wr gf g6 g7 a q i)(hq:q i=GQ.i 0 0):CuS w wr gf g6 g7 a q (i+1):=⟨h.c,h.s,fun k B=>by
 have:=h.v k B;by_cases j:k<i
 .rw[ι j] at this;rw[ι aa];exact this
 .rw[θ j] at this;by_cases C:k=i
  .subst C;rw[ι aa,hq];exact this
  .rw[θ aa];exact this⟩
end
def OV(gx gf i nq bc:Nat)(C:Nat->Value)(E:Nat->En)(V:Nat->Nat->GQ)(Lv:Nat->Bool)(o:Option BrD)(BA:Option Addr)(wv:Nat->Value)(w:World)(hc:dz w gf)(hg:fU w gx 105 393 (fT C E))(hV:∀n k,n<3->k<18->GV w (E (n*18+k)).v (V n k) 4400)(hL:∀k,k<18->C (15+k)=.bool (Lv k))(YL:C 13=.slice BA nq bc)(hA:Arr w BA nq 1 (fun i=>[wv i]))(hi:i<nq)(hw:oN w gx (wv i) o)(YG:∀b,o=γ b->iD b)(YK:∀b,o=γ b->∀n,n<3->Bd (V n b.a-V n b.b) 4600)(Yz:∀b,o=γ b->Bd (V 1 b.a-V 1 b.b-GQ.i b.emf 0) 4600)(ZK:∀n,Bd (cq V Lv o n) 4600):
  Calls prog 45 #[aN gx 0,aN gf 0,(i:Int)] w fun r w'=>∃a:Nat->En,r=.returned (.agg (bz 3 a).toArray)/\ng w' 3 a (cq V Lv o) 4600/\Ext w w':=by
 have HC:=aW hc;have HG:=aW hg;have HV:=aW hV;have HL:=aW hL;have a3:=aW YL;have HW:=aW hw;have YM:=aW YG;have YU:=aW YK;have Zi:=aW Yz;have Zd:=aW ZK;obtain⟨gb,ob,rfl,Zo,Zh⟩:=hA.at_ hi;have ZN:w.cell? (aM gb (ob+i))=γ (wv i):=by have:=Zh 0 _ rfl;simpa using this
 have ar:=aW ZN;have ZH:Hid (gf<w.heap.size):=aW (Blk.lt hc);have Zl:Hid (gx<w.heap.size):=aW hg.lt;have ZO:=aW hi;clear hc hg hV hL YL hA hw YG YK Yz ZK Zo Zh ZN hi;go_enter func45,ntmps45;(go_wp2_with (refine bF rfl 102 rfl _ uY (fun w_ G=>Hid.o ?_)));refine Qz ?_;replace G:=Hid.o G;have HX:Hid (Ext w w_):=aW (by rw[G];exact Ext.new _ _);have S:Hid (Blk w_ w.heap.size 102 (bz 3 fun _=>zEn).toArray):=aW (by rw[G];exact Blk.new _ _ _);clear G;generalize Zy:w.heap.size=g6 at S⊢;have Zf:Hid (w.heap.size<=g6):=aW aa;clear Zy;go_wp2_with fail;refine(dR gf 0 _ (dz.ext HC.o HX.o) aa aa).mono ?_;rintro _ wa ⟨_,rfl,M,F⟩;obtain⟨P,rfl⟩:=M.en;replace HX:=HX.aC F;replace S:=S.aA F;have H:=aW M;clear M F;go_wp2_with fail;refine(dR gf 0 _ (dz.ext HC.o HX.o) aa aa).mono ?_;rintro _ wb ⟨_,rfl,M,F⟩;obtain⟨fb,rfl⟩:=M.en;replace HX:=HX.aC F;replace S:=S.aA F;replace H:=H.aA F;have W:=aW M;clear M F;go_wp2_with fail;refine(dR gf 0 _ (dz.ext HC.o HX.o) aa aa).mono ?_;rintro _ wc ⟨_,rfl,M,F⟩;obtain⟨fc,rfl⟩:=M.en;replace HX:=HX.aC F;replace S:=S.aA F;replace H:=H.aA F;replace W:=W.aA F;have YX:=aW M;clear M F;(iterate 2 (try (first|go_values|go_skip|go_guarded|go_step|go_upon|go_in|go_back|go_simp)));simp only[En.v,gv];(go_wp2_with (refine bF rfl 102 rfl _ uY (fun YQ G=>Hid.o ?_)));refine Qz ?_;replace G:=Hid.o G;have F:Ext wc YQ:=by rw[G];exact Ext.new _ _
 have Zg:Blk YQ wc.heap.size 102 (bz 3 fun _=>zEn).toArray:=by rw[G];exact Blk.new _ _ _
 have N:Hid (YQ.there wc.heap.size 0 18):=aW (Zg.there AbX);have YW:=S.lt;clear G;generalize ZA:wc.heap.size=g7 at Zg N YW⊢;(go_wp2_with (refine aY rfl 102 (.tmp 7) (.tmp 17) rfl g7 (0) (P.cells++(fb.cells++fc.cells)) rf rf N.o pJ (sV _ _ _) (fun Yw G=>Hid.o ?_)));refine Qz ?_;replace G:=Hid.o G;have YY:Yw=puts YQ g7 0 (bz 3 (pk3 P fb fc)):=by rw[xK];exact G
 have T:=iw (w:=wc) F aa Zg YY;have Q:Hid (CuS w Yw gf g6 g7 (pk3 P fb fc) (cq V Lv o) 0):=aW ⟨dz.ext HC.o (HX.trans T.2.1),⟨S.ext T.2.1,T.1,HX.trans T.2.1,Zf.o,YW⟩,fun k hk=>by
  have h3:k=0\/k=1\/k=2:=aa;rcases h3 with rfl|rfl|rfl
  .exact(T.2.2 _ _ _ (H.ext F)).up aa
  .exact(T.2.2 _ _ _ (W.ext F)).up aa
  .exact(T.2.2 _ _ _ (YX.ext F)).up aa⟩
 clear HX S Zf H W YX F Zg N YW ZA YY T G;have ZL:=(HG.ext Q.s.x).cell_ (k:=13) aa ((dU aa).trans a3.o);have kw:=Q.s.x.cell_ ar.o;have q1:(0:Int)<=i:=aa;have q2:(i:Int)<nq:=by have:=ZO.o;omega
 cases o with
 |none=>
  have Zk:wv i=.pointer δ:=HW.o;rw[Zk] at kw;go_wp2_with fail;go_quiet (fail);generalize J:Yw.drewN nq=wr;have YO:Ext Yw wr:=by rw[<-J];exact(Ext.refl _).drewN _
  replace Q:=Q.aA YO;clear YO J;have YE:=aW Q.s.b5.rng;obtain⟨fr,L⟩:∃f:Nat->En,pk3 P fb fc=f:=⟨_,rfl⟩;rw[L] at YE;have N:=aW (eX (f:=fr) Q.s.b4);have K:Hid (ng wr 3 fr (cq V Lv δ) 4600):=aW (fun k hk=>by rw[<-L];have h:=Q.v k hk;rw[θ aa] at h;rw[show cq V Lv δ k=GQ.i 0 0 from rfl];exact h);exact Aap
 |some b=>
  obtain⟨gw,ow,bv,Zk,Yx,Yu,YJ,YZ,YI,YP,Z9,av⟩:=HW.o;rw[Zk] at kw;have j:=aW YJ;have Zc:=aW (And.intro YP (And.intro Z9 av));have YN:=aW (And.intro YZ YI);have YG:=YM.o b rfl;have YS:=aW YG;have ZE:=YG.a;have a5:=YG.b;clear Zk Yx Yu YJ YZ YI YP Z9 av YG;have a0:=Q.s.x.cell_ (show w.cell? (aM gw ow)=γ (.int .i64 (b.a:Int)) from by have:=j.o 0 _ rfl;rw[YN.o.1] at this;exact this);have aP:=Q.s.x.cell_ (show w.cell? (aM gw (ow+1))=γ (.int .i64 (b.b:Int)) from by have:=j.o 1 _ rfl;rw[YN.o.2] at this;exact this);have kl:=(HG.ext Q.s.x).cell_ (k:=15+b.a) aa ((dU aa).trans (HL.o b.a aa));have p1:(0:Int)<=b.a:=aa;have p2:(b.a:Int)<18:=aa;have p3:(0:Int)<=b.b:=aa;have p4:(b.b:Int)<18:=aa;by_cases YL:13<=b.a
  .have hd:decide ((b.a:Int)<13)=ζ:=ae;cases hL:Lv b.a with
   |false=>
    rw[hL] at kl;have Z7:=aW hL;clear hL;go_wp2_with fail;go_quiet (fail);generalize J:Yw.drewN nq=wr;have YO:Ext Yw wr:=by rw[<-J];exact(Ext.refl _).drewN _
    replace Q:=Q.aA YO;clear YO J;have YE:=aW Q.s.b5.rng;obtain⟨fr,L⟩:∃f:Nat->En,pk3 P fb fc=f:=⟨_,rfl⟩;rw[L] at YE;have N:=aW (eX (f:=fr) Q.s.b4);have K:Hid (ng wr 3 fr (cq V Lv (γ b)) 4600):=aW (fun k hk=>by rw[<-L];have h:=Q.v k hk;rw[θ aa] at h;rw[show cq V Lv (γ b) k=GQ.i 0 0 from θ (fun h=>by rw[Z7.o] at h;cases h.2)];exact h);exact Aap
   |true=>
    rw[hL] at kl;have Zp:=aW hL;have ZM:=aW YL;clear hL;go_wp2_with fail;go_quiet (fail);generalize J:Yw.drewN nq=a1;have YO:Ext Yw a1:=by rw[<-J];exact(Ext.refl _).drewN _
    replace Q:=Q.aA YO;clear YO J ZL kw a0 aP kl;go_wp2_with fail
    go_loopw [47] (fun iv wr=>∃n:Nat,n<=3/\iv=.int .i64 n/\∃a,CuS w wr gf g6 g7 a (cq V Lv (γ b)) n) (aT 3)
    case atStart=>exact⟨0,aa,rfl,_,Q.o⟩
    case round=>
     clear Q;rename World=>wr;obtain⟨n,hn,rfl,a,hR⟩:=hrel;have Q:=aW hR;clear hR;by_cases Yu:n<3
     .have hd:decide ((n:Int)<3)=ε:=ae;have q3:(0:Int)<=n:=aa;have q4:(n:Int)<3:=aa;obtain⟨ea,ap⟩:∃e,E (n*18+b.a)=e:=⟨_,rfl⟩;obtain⟨eb,ao⟩:∃e,E (n*18+b.b)=e:=⟨_,rfl⟩;have Zm:Hid (GV wr ea.v (V n b.a) 4400):=aW (by rw[<-ap];exact(HV.o n b.a Yu aa).ext Q.s.x);have Zn:Hid (GV wr eb.v (V n b.b) 4400):=aW (by rw[<-ao];exact(HV.o n b.b Yu aa).ext Q.s.x);have am:=aW (HG.ext Q.s.x);have ZQ:=six (w:=wr) (g:=gx) (a:=33+n*108+b.a*6) (e:=ea) (fun t u hu=>am.en (e:=n*18+b.a) aa aa t u (by rw[ap];exact hu));have ZU:=six (w:=wr) (g:=gx) (a:=33+n*108+b.b*6) (e:=eb) (fun t u hu=>am.en (e:=n*18+b.b) aa aa t u (by rw[ao];exact hu));have ZF:=aX.cell (Q.s.x.cell_ (show w.cell? (aM gw ow)=γ (.int .i64 (b.a:Int)) from by have:=j.o 0 _ rfl;rw[YN.o.1] at this;exact this));have a2:=aX.cell (Q.s.x.cell_ (show w.cell? (aM gw (ow+1))=γ (.int .i64 (b.b:Int)) from by have:=j.o 1 _ rfl;rw[YN.o.2] at this;exact this));clear ap ao;go_wp2_with fail;refine tN 25 [(4,.eq (.pointer (γ (aM gw ow)))),(7,.eq (.pointer (γ (aM gx 0)))),(15,.eq (.pointer (γ (aM gw ow)))),(18,.eq (.pointer (γ (aM gx 0)))),(23,.gv (V n b.a-V n b.b) (8865)),(24,.box 42 aQ3)] ?_;refine Qs ?_;refine En_ ?_;intro Zt Zr;refine Qs ?_;refine En_ ?_;intro a8 a7;refine Qs ?_;refine En_ ?_;intro aG ax;refine Qs ?_;refine En_ ?_;intro ay aB;refine Qs ?_;refine Ee (fun R I=>uX gf ea.v eb.v (V n b.a) (V n b.b) 4400 4400 _ (dz.ext Q.c I.1) (Zm.ext I.1) (Zn.ext I.1) aa) ?_;intro ed az aI;refine Eb ?_;intro g10 aE ZI;refine bN ?_;intro wE I;have F:=I.ext;have ZC:=I.hV 23;have YH:=I.hB 24;have Z:=aW (I.low 24 _ rf);clear ZI;have YA:=aW F;clear I F;have HD:Hid (GV wE ed.v (V n b.a-V n b.b) 4600):=aW (GV.to ZC.o (YU.o b rfl n Yu));have N:=aW (YH.there (o:=0) (n:=6) ag);refine bG rfl 42 (.tmp 10) (.tmp 73) rfl g10 0 ed.cells rf rf N.o cO (eP ed) ?_;intro wf B;refine Qp ?_;obtain⟨F,Yy,M,-⟩:=ni ed YA.o Z.o YH.o B;have Yv:=aW Yy;replace HD:=aW (M _ _ _ HD.o);have D:=aW F;have Zj:=aW (show wr.heap.size<=g10 from Z.o);clear B N F Yy M YA YH Z ZC Zm Zn am ZF a2 ZQ ZU;obtain⟨m,hm⟩:∃m,min n 1=m:=⟨_,rfl⟩;have Za:(min (n:Int) 1)=(m:Int):=aa;have YT:m<2:=aa;obtain⟨ez,ZR⟩:∃e,bv.z m=e:=⟨_,rfl⟩;have aw:Hid (GV w ez.v (b.zs m) 64):=aW (by rw[<-ZR];have h2:m=0\/m=1:=aa;rcases h2 with rfl|rfl<;>first|exact Zc.o.1|exact Zc.o.2.1);have YR:Hid (∀t u,ez.cells[t]? =γ u->w.cell? (aM gw (ow+2+m*6+t))=γ u):=aW (fun t u hu=>by rw[show ow+2+m*6+t=ow+(2+m*6+t) by omega];exact j.o _ _ (bv.zat aa (by rw[ZR];exact hu)));have HM:=aW hm;clear hm ZR;have p5:(0:Int)<=m:=aa;have p6:(m:Int)<2:=aa;by_cases h1:n=1
      .have Zq:((n:Int)==1)=ε:=by rw[h1];rfl
       have ZJ:=aW h1;clear h1;have ZT:Hid (V n b.a-V n b.b-GQ.i b.emf 0=V n b.a-V n b.b-(if n=1 then GQ.i b.emf 0 else GQ.i 0 0)):=aW (by rw[ι ZJ.o]);go_wp2_with fail;have YF:=aX.blk Yv.o;have ZZ:=aX.cell (show wf.cell? (aM gw (ow+14))=_ from (Q.s.x.trans D.o).cell_ (j.o 14 (.bool bv.e.s1) rfl));have ZX:=aX.cell (show wf.cell? (aM gw (ow+14+1))=_ from (Q.s.x.trans D.o).cell_ (j.o 15 (.slice bv.e.A1 bv.e.n1 bv.e.c1) rfl));have Z8:=aX.cell (show wf.cell? (aM gw (ow+14+2))=_ from (Q.s.x.trans D.o).cell_ (j.o 16 (.bool bv.e.s2) rfl));have ZW:=aX.cell (show wf.cell? (aM gw (ow+14+3))=_ from (Q.s.x.trans D.o).cell_ (j.o 17 (.slice bv.e.A2 bv.e.n2 bv.e.c2) rfl));have aq:=aX.cell (show wf.cell? (aM gw (ow+14+4))=_ from (Q.s.x.trans D.o).cell_ (j.o 18 (.bool bv.e.s3) rfl));have ZV:=aX.cell (show wf.cell? (aM gw (ow+14+5))=_ from (Q.s.x.trans D.o).cell_ (j.o 19 (.slice bv.e.A3 bv.e.n3 bv.e.c3) rfl));refine tN 7 [(3,.eq (.pointer (γ (aM gw ow)))),(6,.gv (V n b.a-V n b.b-GQ.i b.emf 0) (4729))] ?_;refine Qs ?_;refine En_ ?_;intro a6 a4;refine Qs ?_;refine Ee (fun R I=>uX gf ed.v bv.e.v (V n b.a-V n b.b) (GQ.i b.emf 0) 4600 64 _ ((dz.ext Q.c D.o).ext I.1) (HD.ext I.1) (((Zc.o.2.2.ext Q.s.x).ext D.o).ext I.1) aa) ?_;intro ee ac ad;refine bN ?_;intro wE I;have F:=I.ext;have ZG:=I.hV 6;have YA:=aW F;clear I F;have N:=aW ((Yv.ext YA.o).there (o:=0) (n:=6) ag);refine bG rfl 42 (.tmp 10) (.tmp 82) rfl g10 0 ee.cells rf rf N.o cO (eP ee) ?_;intro wg B;refine Qp ?_;have T:=iw (w:=wr) (n:=1) (f:=fun _=>ee) (f0:=fun _=>ed) (D.trans YA.o) Zj.o (show Blk wE g10 42 (bz 1 fun _=>ed).toArray from Yv.ext YA.o) B;replace Yv:Hid (Blk wg g10 42 #[ee.s1,aO ee.A1 ee.n1 ee.c1,ee.s2,aO ee.A2 ee.n2 ee.c2,ee.s3,aO ee.A3 ee.n3 ee.c3]):=aW T.1;replace D:=aW T.2.1;replace HD:Hid (GV wg ee.v (V n b.a-V n b.b-GQ.i b.emf 0) 4600):=aW (GV.to (T.2.2 _ _ _ ZG.o) (by have:=Zi.o b rfl;rw[ZJ.o];exact this));clear B N YA ZG T YF ZZ ZX Z8 ZW aq ZV;have kc:wg.cell? (aM gf 0)=γ (.int .i64 0):=((Q.ext D.o).c.cell 0).trans rfl;have Zv:=Yv.cell;have ZB:cq V Lv (γ b) n=(V n b.a-V n b.b-GQ.i b.emf 0)/b.zs m:=by rw[<-HM.o];exact(ι ⟨ZM.o,Zp.o⟩).trans (by rw[<-ZT.o])
       have Zz:=aW ZB;clear ZB;by_cases hz:V n b.a-V n b.b-GQ.i b.emf 0=GQ.i 0 0
       .have HZ:=aW hz;clear hz;go_wp2_with fail;refine(yK ee.v (V n b.a-V n b.b-GQ.i b.emf 0) 4600 _ HD.o aa HZ.o).mono ?_;rintro _ wh ⟨rfl,F⟩;have YB:=aW ((Q.ext (D.trans F)).skip (by rw[Zz.o,HZ.o,afw]));clear kc Zv F Q;go_wp2_with fail
        go_roundw
        case rel=>exact⟨n+1,aa,au,_,YB.o⟩
        case measure=>exact aV
       .have HZ:=aW hz;clear hz;go_wp2_with fail;refine(Bi ee.v (V n b.a-V n b.b-GQ.i b.emf 0) 4600 _ HD.o aa HZ.o).mono ?_;rintro _ wh ⟨rfl,F⟩;replace D:=D.aC F;replace Yv:=Yv.aA F;replace HD:=HD.aA F;clear kc Zv F;go_wp2_with fail;have YF:=aX.blk Yv.o;have ZP:=six (g:=gw) (a:=ow+2+m*6) (e:=ez) (fun t u hu=>(Q.s.x.trans D.o).cell_ (YR.o t u hu));have Ze:=Zd.o n;rw[Zz.o] at Ze;have YV:=aW Ze;clear Ze;refine tN 12 [(5,.eq (.int .i64 (m:Int))),(6,.eq (.pointer (γ (aM gw ow)))),(10,.gv ((V n b.a-V n b.b-GQ.i b.emf 0)/b.zs m) (4600))] ?_;refine Qs ?_;refine dL rf rf rf ?_ ?_
        .exact AcG
        intro v_ Zw Zx YD;obtain⟨R,YC⟩:=YD;obtain rfl:v_=_:=YC.get;clear YC R;refine Qp ?_;refine En_ ?_;intro ac ad;refine Qs ?_;refine Ee (fun R I=>nR gf ee.v ez.v (V n b.a-V n b.b-GQ.i b.emf 0) (b.zs m) 4600 64 _ ((dz.ext Q.c D.o).ext I.1) (HD.ext I.1) (((aw.ext Q.s.x).ext D.o).ext I.1) (YS.ne m) 4600 aa aa YV.o aa) ?_;intro eq af ai;refine Qs ?_;refine bN ?_;intro wE I;have F:=I.ext;have O:=I.hV 10;have YA:=aW F;clear I F;have N:=aW ((Q.ext (D.trans YA.o)).s.there Yu);refine bG rfl 42 (.tmp 104) (.tmp 103) rfl g7 (n*6) eq.cells rf rf N.o cO (eP eq) ?_;intro wj B;refine Qp ?_;have YB:=aW ((Q.ext (D.trans YA.o)).put ZH.o Yu (e:=eq) (by rw[Zz.o];exact O.o) B);clear B N YA O Q D Yv HD YF ZP;go_wp2_with fail
        go_roundw
        case rel=>exact⟨n+1,aa,au,_,YB.o⟩
        case measure=>exact aV
      .have Zq:((n:Int)==1)=ζ:=ae;have ZJ:=aW h1;clear h1;have ZT:Hid (V n b.a-V n b.b=V n b.a-V n b.b-(if n=1 then GQ.i b.emf 0 else GQ.i 0 0)):=aW (by rw[θ ZJ.o];exact(X4 _).symm);have kc:wf.cell? (aM gf 0)=γ (.int .i64 0):=((Q.ext D.o).c.cell 0).trans rfl;have Zv:=Yv.cell;have ZB:cq V Lv (γ b) n=(V n b.a-V n b.b)/b.zs m:=by rw[<-HM.o];exact(ι ⟨ZM.o,Zp.o⟩).trans (by rw[<-ZT.o])
       have Zz:=aW ZB;clear ZB;by_cases hz:V n b.a-V n b.b=GQ.i 0 0
       .have HZ:=aW hz;clear hz;go_wp2_with fail;refine(yK ed.v (V n b.a-V n b.b) 4600 _ HD.o aa HZ.o).mono ?_;rintro _ wh ⟨rfl,F⟩;have YB:=aW ((Q.ext (D.trans F)).skip (by rw[Zz.o,HZ.o,afw]));clear kc Zv F Q;go_wp2_with fail
        go_roundw
        case rel=>exact⟨n+1,aa,au,_,YB.o⟩
        case measure=>exact aV
       .have HZ:=aW hz;clear hz;go_wp2_with fail;refine(Bi ed.v (V n b.a-V n b.b) 4600 _ HD.o aa HZ.o).mono ?_;rintro _ wh ⟨rfl,F⟩;replace D:=D.aC F;replace Yv:=Yv.aA F;replace HD:=HD.aA F;clear kc Zv F;go_wp2_with fail;have YF:=aX.blk Yv.o;have ZP:=six (g:=gw) (a:=ow+2+m*6) (e:=ez) (fun t u hu=>(Q.s.x.trans D.o).cell_ (YR.o t u hu));have Ze:=Zd.o n;rw[Zz.o] at Ze;have YV:=aW Ze;clear Ze;refine tN 12 [(5,.eq (.int .i64 (m:Int))),(6,.eq (.pointer (γ (aM gw ow)))),(10,.gv ((V n b.a-V n b.b)/b.zs m) (4600))] ?_;refine Qs ?_;refine dL rf rf rf ?_ ?_
        .exact AcG
        intro v_ Zw Zx YD;obtain⟨R,YC⟩:=YD;obtain rfl:v_=_:=YC.get;clear YC R;refine Qp ?_;refine En_ ?_;intro ac ad;refine Qs ?_;refine Ee (fun R I=>nR gf ed.v ez.v (V n b.a-V n b.b) (b.zs m) 4600 64 _ ((dz.ext Q.c D.o).ext I.1) (HD.ext I.1) (((aw.ext Q.s.x).ext D.o).ext I.1) (YS.ne m) 4600 aa aa YV.o aa) ?_;intro eq af ai;refine Qs ?_;refine bN ?_;intro wE I;have F:=I.ext;have O:=I.hV 10;have YA:=aW F;clear I F;have N:=aW ((Q.ext (D.trans YA.o)).s.there Yu);refine bG rfl 42 (.tmp 104) (.tmp 103) rfl g7 (n*6) eq.cells rf rf N.o cO (eP eq) ?_;intro wj B;refine Qp ?_;have YB:=aW ((Q.ext (D.trans YA.o)).put ZH.o Yu (e:=eq) (by rw[Zz.o];exact O.o) B);clear B N YA O Q D Yv HD YF ZP;go_wp2_with fail
        go_roundw
        case rel=>exact⟨n+1,aa,au,_,YB.o⟩
        case measure=>exact aV
     .obtain rfl:n=3:=aa;have hd:decide ((3:Int)<3)=ζ:=aj;have YE:=aW Q.s.b5.rng;obtain⟨fr,L⟩:∃f:Nat->En,a=f:=⟨_,rfl⟩;rw[L] at YE;have N:=aW (eX (f:=fr) Q.s.b4);have K:Hid (ng wr 3 fr (cq V Lv (γ b)) 4600):=aW (fun k hk=>by rw[<-L];have h:=Q.v k hk;rw[ι hk] at h;exact h);have U:=aW (L ▸ Q.s);clear L;(go_wp2_with (refine σ rfl 102 _ rfl g7 (0) rf (bz 3 fr) _ YE.o z8 rfl (j3 _) (Hid.o ?_)));refine Qz ?_;refine aY rfl 102 (.tmp 6) (.tmp 106) rfl g6 (0) (bz 3 fr) rf rf N.o (j3 _) (dN 3 _) (fun we G=> ?_);refine Qp ?_;replace G:=Hid.o G;have Y:=aW (U.fin G);clear G;go_wp2_with fail;exact jo rfl rfl rf Y.o.1 z8 rfl (pF _) ⟨_,rfl,fun k hk=>Y.o.2.2 _ _ _ (K.o k hk),Y.o.2.1⟩
  .have hd:decide ((b.a:Int)<13)=ε:=ae;have ZY:=aW YL;clear YL;go_wp2_with fail;go_quiet (fail);generalize J:Yw.drewN nq=wr;have YO:Ext Yw wr:=by rw[<-J];exact(Ext.refl _).drewN _
   replace Q:=Q.aA YO;clear YO J;have YE:=aW Q.s.b5.rng;obtain⟨fr,L⟩:∃f:Nat->En,pk3 P fb fc=f:=⟨_,rfl⟩;rw[L] at YE;have N:=aW (eX (f:=fr) Q.s.b4);have K:Hid (ng wr 3 fr (cq V Lv (γ b)) 4600):=aW (fun k hk=>by rw[<-L];have h:=Q.v k hk;rw[θ aa] at h;rw[show cq V Lv (γ b) k=GQ.i 0 0 from θ (fun h=>ZY.o h.1)];exact h);exact Aap
def qK (nm:ByteArray) (A0:Option Addr) (n0 c0:Nat) (A1:Option Addr) (n1 c1:Nat) (A2:Option Addr) (n2 c2:Nat) (A3:Option Addr) (n3 c3:Nat) (PA:Option Addr) (B D:Nat) (PB:Option Addr) (V qc:Nat) (j:Option Addr) (F C:Nat):Value:=.agg #[nm,aO A0 n0 c0,aO A1 n1 c1,aO A2 n2 c2,aO A3 n3 c3,aO PA B D,aO PB V qc,aO j F C]
def vW (w:World) (B:Option Addr) (j:Nat) (g:List Int):Prop:=g.length=j/\Arr w B j 1 (fun i=>[.int .i64 (g.getD i 0)])
def vW.ext{w w' B j g}(h:vW w B j g)(x:Ext w w'):vW w' B j g:=⟨h.1,h.2.ext x⟩
def wM (x:(Int×Int)×(Int×Int)):Value:=.agg #[x.1.1,x.1.2,x.2.1,x.2.2]
theorem IK{s p i t}(hn:(s.bays.getD i η).links.length<=2)(B:t<(s.bays.getD i η).links.length)(D:∀u,u<t->(p.links.getD i []).getD u 0≠1)(j:(p.links.getD i []).getD t 0=1):sD s p i=xH s p (ic s i t):=by
 unfold sD;by_cases C:t=0
 .subst C;rw[ι j]
 .obtain rfl:t=1:=aa;rw[θ (D 0 aa),ι ⟨B,j⟩]
theorem CU{s p i n}(hn:(s.bays.getD i η).links.length=n)(B:1<=n)(j:∀u,u<n->(p.links.getD i []).getD u 0≠1):sD s p i=(0,0):=by
 unfold sD;rw[θ (j 0 aa),θ (fun h=>j 1 aa h.2)]
theorem tT(nm){A0}{n0 c0:Nat}{A1}{n1 c1:Nat}{A2}{n2 c2:Nat}{A3}{n3 c3:Nat}{PA}{G M:Nat}{PB}{V qc:Nat}{K}{p:dM}(J)(T L:Nat)(i k:Nat)(B:Int)(I:B=(k:Int))(w)(hp:iR w PA G PB V K p)(hi:i<V)(Y:k<(p.links.getD i []).length):
  CE 187 #[qK nm A0 n0 c0 A1 n1 c1 A2 n2 c2 A3 n3 c3 PA G M PB V qc J T L,(i:Int),B] w (.bool (decide ((p.links.getD i []).getD k 0=1))):=by
 subst I;have D:Hid (Ext w (aL w #[nm,aO A0 n0 c0,aO A1 n1 c1,aO A2 n2 c2,aO A3 n3 c3,aO PA G M,aO PB V qc,aO J T L] 215)):=aW (Ext.new _ _);obtain⟨-,hb⟩:=an1 w 215 #[nm,aO A0 n0 c0,aO A1 n1 c1,aO A2 n2 c2,aO A3 n3 c3,aO PA G M,aO PB V qc,aO J T L];have C:=hb.cell;clear hb;obtain⟨pb,F,S,W,f0⟩:=(hp.ext D.o).rows.one hi;have O:k<(K i).n:=by rw[<-hp.lens i hi];exact Y
 obtain⟨Q,R,j,P,U⟩:=((hp.ext D.o).ints i hi).one O;have N:=hp.mx.2.1;have H:=hp.mx.2.2 i hi;unfold Hd.v at f0;clear hp;generalize K i=Z at f0 U j O H;generalize (p.links.getD i []).getD k 0=x at U;rw[j] at f0;subst S;unfold qK;go_enter func187,ntmps187;go_wp2;go_ret;exact⟨rfl,D.o⟩
theorem vH(nm){A0 n0 c0 A1 n1 c1 A2 n2 c2 A3 n3 c3}(PA G J PB V qc){F B H g}(b w)(L:vW w F B g)(hb:b<B):
  CE 188 #[qK nm A0 n0 c0 A1 n1 c1 A2 n2 c2 A3 n3 c3 PA G J PB V qc F B H,(b:Int)] w (.agg #[aK,(g.getD b 0)]):=by
 have D:Hid (Ext w (aL (aL w #[nm,aO A0 n0 c0,aO A1 n1 c1,aO A2 n2 c2,aO A3 n3 c3,aO PA G J,aO PB V qc,aO F B H] 215) #[aJ,aJ] 186)):=aW ((Ext.new _ _).alloc _);obtain⟨-,I,-⟩:=an2 w 215 #[nm,aO A0 n0 c0,aO A1 n1 c1,aO A2 n2 c2,aO A3 n3 c3,aO PA G J,aO PB V qc,aO F B H] 186 #[aJ,aJ];have C:=I.cell;clear I;obtain⟨R,j,K,P,f0⟩:=L.2.one hb;generalize N:g.getD b 0=x at f0;have M:=aW N;clear N;have Q:Hid (∀u v,Ext w ((((w.alloc (.cells #[nm,aO A0 n0 c0,aO A1 n1 c1,aO A2 n2 c2,aO A3 n3 c3,aO PA G J,aO PB V qc,aO F B H] 215)).alloc (.cells #[aJ,aJ] 186)).setCell ⟨w.heap.size+1,0,δ⟩ u).setCell ⟨w.heap.size+1,1,δ⟩ v)):=aW (fun u v=>fO (g:=w.heap.size+1) (show w.heap.size<=w.heap.size+1 by omega) 0 [u,v] D.o);have O:Hid (∀u v,Blk ((((w.alloc (.cells #[nm,aO A0 n0 c0,aO A1 n1 c1,aO A2 n2 c2,aO A3 n3 c3,aO PA G J,aO PB V qc,aO F B H] 215)).alloc (.cells #[aJ,aJ] 186)).setCell ⟨w.heap.size+1,0,δ⟩ u).setCell ⟨w.heap.size+1,1,δ⟩ v) (w.heap.size+1) 186 #[u,v]):=aW (fun u v=>dm 0 [u,v] (aeV _ _ ag));subst K;clear L;unfold qK;go_enter func188,ntmps188;go_wp2;exact nP rfl rfl rfl (aeV _ _ ag) underlying186 rfl ah ⟨rfl,(Ext.new _ _).alloc _⟩
theorem IP(nm){A0 n0 c0 A1 n1 c1 A2 n2 c2 A3 n3 c3 L s PA pn pc PB V qc K p GA C gc}(i w)(hs:lI w A0 n0 c0 A1 n1 c1 A2 n2 c2 A3 n3 c3 L s)(hp:iR w PA pn PB V K p)(j:jC s)(Zg:∀i,i<s.bays.length->(p.links.getD i []).length=(s.bays.getD i η).links.length)(hg:vW w GA C (groups s p))(F:C=s.buses.length)(hi:i<n3)(hq:i<V)(T:(s.bays.getD i η).kind=3):
  CE 155 #[qK nm A0 n0 c0 A1 n1 c1 A2 n2 c2 A3 n3 c3 PA pn pc PB V qc GA C gc,(i:Int)] w (wM (sides s p i)):=by
 have YR:=hs.mx;obtain⟨m0,m1,m2,m3⟩:=YR;have YH:=hs.l3;have hL:=(hs.links i hi);have Zz:=j.link (show i<s.bays.length by omega);have D:=fun k T=>j.bus (i:=i) (k:=k) (show i<s.bays.length by omega) T;have ZO:C<=4:=by have:=j.nb;omega
 obtain⟨lb,lo,hA,hb,e0,e1,e2,e3,e4,e5,e6,e7,e8,e9,Yx,YE⟩:=hs.bays.bay hi;subst hA;have d0:decide ((i:Int)<0)=ζ:=ag;have d1:decide ((n3:Int)<=i)=ζ:=ae;have HS:=aW hs;have HP:=aW hp;have HG:=aW hg;have YQ:=aW Zz;have R:=aW D;have YP:=aW hL;have S:Hid ((s.bays.getD i η).links.length=(L i).n):=aW hL.1;have Zl:=aW (Zg i aa);have YB:Hid (i<V):=aW hq;clear hs hp hg Zz D hL j Zg F YH hq;have Y:Hid (sides s p i=(xH s p (ic s i 0),xH s p (ic s i 1))):=aW (by unfold sides;rw[ι T]);have YW:=YQ.o.2.1 T;have YY:=R.o 0 aa;have YZ:=R.o 1 aa;have YM:ic s i 0<C:=by have:=HG.o.1;rw[lJ] at this;omega
 have YJ:ic s i 1<C:=by have:=HG.o.1;rw[lJ] at this;omega
 obtain⟨kb,ko,hI,Zn,Q⟩:=YP.o.2.at_ (show 0<(L i).n by have:=S.o;omega);obtain⟨ZK,ZJ,N,_,O⟩:=YP.o.2.at_ (show 1<(L i).n by have:=S.o;omega);rw[hI] at N;injection N with N;injection N with Zd G _;subst Zd G;have f0:w.cell? (aM kb ko)=γ (.int .i64 (ic s i 0:Int)):=by
  have:=Q 0 _ rfl;rw[YY.1] at this;simpa using this
 have f1:w.cell? (aM kb (ko+2))=γ (.int .i64 (ic s i 1:Int)):=by
  have:=O 0 _ rfl;rw[YZ.1] at this;simpa using this
 have Z:(L i).n=2:=by have:=S.o;omega
 clear Q O YY YZ YW;rw[T] at e1;have q1:((i:Int)==3)=((i:Int)==3):=rfl;clear q1;generalize L i=M at e6 hI Z;obtain⟨lA,ln,lc⟩:=M;simp only at hI Z;subst hI Z;have Yz:=aW T;clear T;generalize ic s i 0=u0 at f0 YM Y;generalize ic s i 1=u1 at f1 YJ Y;generalize YI:s.bays.getD i η=b at e0 e1 e2 e3 e4 e5 e6 e7 e8 e9 Yx YE;clear YI;obtain⟨w4,b0,b1,b2,b3⟩:=an4 w 215 #[nm,aO A0 n0 c0,aO A1 n1 c1,aO A2 n2 c2,aO (γ (aM lb lo)) n3 c3,aO PA pn pc,aO PB V qc,aO GA C gc] 187 #[aJ,aJ,aJ,aJ] 57 #[b.name,(3:Int),b.obj,b.en,b.z.r,b.z.x,aO (γ (aM kb ko)) 2 lc,b.closed,b.ct,b.vt,b.sat,b.travel] 187 #[aJ,aJ,aJ,aJ];have HW:=aW w4;have YX:=aW b0;have Yw:=aW b1;have U:=aW b2;have Yy:=aW b3;clear w4 b0 b1 b2 b3;unfold qK;go_enter aek,adG;go_wp2_with fail;generalize aU _ _=w5 at HW YX Yw U Yy⊢;clear e0 e1 e2 e3 e4 e5 e6 e7 e8 e9 Yx YE d0 d1;have g0:=HW.cell_ f0;have g1:=HW.cell_ f1;clear f0 f1;have Y1:=aX.blk YX.o;have Y2:=aX.blk U.o;have Y3:=fun x:aX w5=>aX.cell g0 x;have Y4:=fun x:aX w5=>aX.cell g1 x;refine bO 15 [(ε,0),(ε,1),(ε,2),(ε,3),(ε,4),(ε,5),(ε,7),(ε,8),(ε,9),(ε,10),(ε,11),(ε,12),(ζ,6),(ζ,13),(ε,14)] ah ah ?_;refine bD [0,1,2,3,4,5,7,8,9,10,11,12] [(ζ,6),(ζ,13),(ε,14)] _ ah ?_;refine Gq ?_;refine bC 6 [(ζ,13),(ε,14)] ah ?_;intro K I;simp only[bJ];go_wp2_with fail;refine(vH nm PA pn pc PB V qc u0 _ (HG.ext (HW.trans ((Ext.refl w5).drew))) YM).mono ?_;rintro e w6 ⟨rfl,J⟩;have P:=((Ext.refl w5).drew).trans J;have W:=aW P;clear J;go_wp2_with fail;refine I _ _ ⟨⟨w6,P⟩,rfl⟩ ?_;clear I K P;refine bC 13 [(ε,14)] ah ?_;intro K I;simp only[bJ];go_wp2_with fail;refine(vH nm PA pn pc PB V qc u1 _ (HG.ext (HW.trans W.o)) YJ).mono ?_;rintro e w7 ⟨rfl,J⟩;have H:=W.trans J;have YA:=aW H;clear J;go_wp2_with fail;refine I _ _ ⟨⟨w7,H⟩,rfl⟩ ?_;clear I K H;refine bD [14] [] _ ah ?_;refine Gq ?_;simp only[dh,ξ,τ];have B7:=Yw.ext YA.o;have k7:=B7.cell;have f7:=B7.frozen;have YL:Hid (∀B,Ext w (puts w7 (w.heap.size+1) 0 B)):=aW (fun B=>fO (g:=w.heap.size+1) (show w.heap.size<=w.heap.size+1 by omega) 0 B (HW.trans YA.o));have YT:=aW B7;clear B7;go_wp2_with fail;refine nP rfl rfl rfl (dm 0 [.int .i64 1,.int .i64 ((groups s p).getD u0 0),.int .i64 1,.int .i64 ((groups s p).getD u1 0)] YT.o) aa6 rfl ah ⟨?_,YL.o [.int .i64 1,.int .i64 ((groups s p).getD u0 0),.int .i64 1,.int .i64 ((groups s p).getD u1 0)]⟩;rw[Y.o];rfl
theorem JO(nm){A0 n0 c0 A1 n1 c1 A2 n2 c2 A3 n3 c3 L s PA pn pc PB V qc K p GA gn gc}(i w)(hs:lI w A0 n0 c0 A1 n1 c1 A2 n2 c2 A3 n3 c3 L s)(hp:iR w PA pn PB V K p)(YG:jC s)(Zg:∀i,i<s.bays.length->(p.links.getD i []).length=(s.bays.getD i η).links.length)(hg:vW w GA gn (groups s p))(F:gn=s.buses.length)(hi:i<n3)(hq:i<V)(hk:(s.bays.getD i η).kind=1):
  CE 155 #[qK nm A0 n0 c0 A1 n1 c1 A2 n2 c2 A3 n3 c3 PA pn pc PB V qc GA gn gc,(i:Int)] w (wM (sides s p i)):=by
 have YR:=hs.mx;obtain⟨m0,m1,m2,m3⟩:=YR;have YH:=hs.l3;have hL:=(hs.links i hi);have Zz:=YG.link (show i<s.bays.length by omega);have D:=fun k hk=>YG.bus (i:=i) (k:=k) (show i<s.bays.length by omega) hk;have ZO:gn<=4:=by have:=YG.nb;omega
 obtain⟨lb,lo,hA,hb,e0,e1,e2,e3,e4,e5,e6,e7,e8,e9,Yx,YE⟩:=hs.bays.bay hi;subst hA;have d0:decide ((i:Int)<0)=ζ:=ag;have d1:decide ((n3:Int)<=i)=ζ:=ae;have HS:=aW hs;have HP:=aW hp;have HG:=aW hg;have YQ:=aW Zz;have R:=aW D;have YP:=aW hL;have S:Hid ((s.bays.getD i η).links.length=(L i).n):=aW hL.1;have Zl:=aW (Zg i aa);have YB:Hid (i<V):=aW hq;clear hs hp hg Zz D hL YG Zg F YH hq;have YF:Hid (sides s p i=(sD s p i,(2,(s.bays.getD i η).obj))):=aW Ac0;have Y:∀k,k<(s.bays.getD i η).links.length->ic s i k<gn:=fun k YN=>by have:=(R.o k YN).2;have:=HG.o.1;rw[lJ] at this;omega
 have YT:=aW Y;clear Y;rw[hk] at e1;generalize Zr:L i=M at e6;have O:Hid (Lks w M.A M.n (s.bays.getD i η).links):=aW (by rw[<-Zr];exact YP.o);have YL:Hid ((s.bays.getD i η).links.length=M.n):=aW O.o.1;clear Zr S YP;have Yz:=aW hk;clear hk;have ZW:M.n<=2:=by have:=YQ.o.1.2;have:=YL.o;omega
 have Zq:0<M.n:=by have:=YQ.o.1.1;have:=YL.o;omega
 obtain⟨kb,ko,hI,Zn,_⟩:=O.o.2.at_ Zq;obtain⟨lA,ln,lc⟩:=M;simp only at hI Zq ZW;subst hI;generalize YI:s.bays.getD i η=b at e0 e1 e2 e3 e4 e5 e6 e7 e8 e9 Yx YE YF;have Zc:=aW YI;clear YI;obtain⟨w4,b0,b1,-,-⟩:=an4 w 215 #[nm,aO A0 n0 c0,aO A1 n1 c1,aO A2 n2 c2,aO (γ (aM lb lo)) n3 c3,aO PA pn pc,aO PB V qc,aO GA gn gc] 187 #[aJ,aJ,aJ,aJ] 57 #[b.name,aK,b.obj,b.en,b.z.r,b.z.x,aO (γ (aM kb ko)) ln lc,b.closed,b.ct,b.vt,b.sat,b.travel] 187 #[aJ,aJ,(2:Int),b.obj];have b2:Blk ((((w.alloc (.cells #[nm,aO A0 n0 c0,aO A1 n1 c1,aO A2 n2 c2,aO (γ (aM lb lo)) n3 c3,aO PA pn pc,aO PB V qc,aO GA gn gc] 215)).alloc (.cells #[aJ,aJ,aJ,aJ] 187)).alloc (.cells #[b.name,aK,b.obj,b.en,b.z.r,b.z.x,aO (γ (aM kb ko)) ln lc,b.closed,b.ct,b.vt,b.sat,b.travel] 57)).alloc (.cells #[aJ,aJ,(2:Int),b.obj] 187)) (w.heap.size+1+1) 57 #[b.name,aK,b.obj,b.en,b.z.r,b.z.x,aO (γ (aM kb ko)) ln lc,b.closed,b.ct,b.vt,b.sat,b.travel]:=(aeV _ _ ag).alloc _;have b3:Blk ((((w.alloc (.cells #[nm,aO A0 n0 c0,aO A1 n1 c1,aO A2 n2 c2,aO (γ (aM lb lo)) n3 c3,aO PA pn pc,aO PB V qc,aO GA gn gc] 215)).alloc (.cells #[aJ,aJ,aJ,aJ] 187)).alloc (.cells #[b.name,aK,b.obj,b.en,b.z.r,b.z.x,aO (γ (aM kb ko)) ln lc,b.closed,b.ct,b.vt,b.sat,b.travel] 57)).alloc (.cells #[aJ,aJ,(2:Int),b.obj] 187)) (w.heap.size+1+1+1) 187 #[aJ,aJ,(2:Int),b.obj]:=aeV _ _ ag;have HW:=aW w4;have YX:=aW b0;have Yw:=aW b1;have U:=aW b2;have Yy:=aW b3;clear w4 b0 b1 b2 b3;unfold qK;go_enter aek,adG;go_wp2_with fail;generalize aU _ _=w5 at HW YX Yw U Yy⊢;clear e0 e1 e2 e3 e4 e5 e6 e7 e8 e9 Yx YE;generalize P:w.heap.size+1+1+1=q3 at Yy⊢;generalize Zt:w.heap.size+1+1=q2 at U⊢;generalize T:w.heap.size+1=q1 at Yw⊢;generalize YA:w.heap.size=q0 at YX⊢;have B:Hid (w.heap.size<=q3/\q1<q3):=aW aa;have YD:Hid (w.heap.size<=q1):=aW aa;clear P Zt T YA;have k2:=U.cell;go_loopw [58] (fun j wr=>∃t:Nat,t<=ln/\j=.int .i64 (t:Int)/\(∀u,u<t->(p.links.getD i []).getD u 0≠1)/\Ext w5 wr) (aT ln)
 case atStart=>exact⟨0,aa,rfl,by intros;omega,Ext.refl _⟩
 case round=>
  obtain⟨t,ht,rfl,hz,J⟩:=hrel;have HZ:=aW hz;have HX:=aW J;clear hz J k2;have k0:=(YX.ext HX.o).cell;have l0:=(YX.ext HX.o).lt;have l3:=(Yy.ext HX.o).lt;have l1:=(Yw.ext HX.o).lt;have l2:=(U.ext HX.o).lt;by_cases Yu:t<ln
  .have hd:decide (t<ln)=ε:=ae;obtain⟨ZK,ZJ,N,YY,hc⟩:=(O.ext (HW.trans HX.o)).2.at_ Yu;injection N with N;injection N with Zd G _;subst Zd G;have g0:wr.cell? (aM kb (ko+t*2))=γ (.int .i64 ((s.bays.getD i η).links.getD t η).bus):=hc 0 _ rfl;have g1:=hc 1 _ rfl;rw[(R.o t AbW).1] at g0;clear hc;have hu:=YT.o t AbW;have YS:Hid (t<(p.links.getD i []).length):=aW (by have:=YL.o;have:=Zl.o;omega);have ZE:Hid ((p.links.getD i []).getD t 0=1->sD s p i=xH s p (ic s i t)):=aW (IK AbW AbW HZ.o);generalize ic s i t=u at g0 hu ZE;generalize ((s.bays.getD i η).links.getD t η).pos=ps at g1;have Yv:Hid (Ext w5 (aL wr #[u,ps] 137)):=aW (HX.alloc _);obtain⟨-,Zo⟩:=an1 wr 137 #[u,ps];have Q:=aW Zo;clear Zo;go_wp2_with fail;refine(tT nm GA gn gc i t _ rfl _ (HP.ext (HW.trans Yv.o)) YB.o YS.o).mono ?_;rintro e w6 ⟨rfl,J⟩;have YO:=aW (Yv.trans J);have kl:=(Q.ext J).cell;have ll:=(Q.ext J).lt;have YV:=(YX.ext YO.o).cell;have YU:q0<w6.heap.size:=(YX.ext YO.o).lt;have I:q3<w6.heap.size:=(Yy.ext YO.o).lt;clear J;by_cases H:(p.links.getD i []).getD t 0=1
   .have dx:decide ((p.links.getD i []).getD t 0=1)=ε:=Λ H;rw[dx];have W:=aW (ZE.o H);clear H dx;go_wp2_with fail;refine(vH nm PA pn pc PB V qc u _ (HG.ext (HW.trans YO.o)) hu).mono ?_;rintro e w7 ⟨rfl,J⟩;have Za:=aW (YO.trans J);clear J kl ll YV YU I;have b7:=Yy.ext Za.o;have Z:=Yw.ext Za.o;have Zf:=b7.cell;have Ze:=b7.frozen;have Zj:=Z.cell;have ZL:=Z.frozen;have Zi:q1<w7.heap.size:=Z.lt;have Zh:q3<w7.heap.size:=b7.lt;have b8:=dm 0 [.int .i64 1,.int .i64 ((groups s p).getD u 0)] b7;have c8:Blk (puts w7 q3 0 [.int .i64 1,.int .i64 ((groups s p).getD u 0)]) q1 187 #[aJ,aJ,aJ,aJ]:=((Z.far Abb _).far Abb _);have x8:Ext w (puts w7 q3 0 [.int .i64 1,.int .i64 ((groups s p).getD u 0)]):=fO (g:=q3) B.o.1 0 _ (HW.trans Za.o);have YK:=aW b8;have YW:=aW c8;have Zp:=aW x8;clear b7 Z b8 c8 x8;have YZ:¬q1=q3:=by have:=B.o.2;omega
    have YM:¬q3=q1:=by have:=B.o.2;omega
    go_wp2_with fail;refine nP rfl rfl rfl (dm 0 [.int .i64 1,.int .i64 ((groups s p).getD u 0),.int .i64 2,.int .i64 b.obj] YW.o) aa6 rfl ah ⟨?_,fO (g:=q1) YD.o 0 [.int .i64 1,.int .i64 ((groups s p).getD u 0),.int .i64 2,.int .i64 b.obj] Zp.o⟩;rw[YF.o,W.o];rfl
   .have dx:decide ((p.links.getD i []).getD t 0=1)=ζ:=ρ H;rw[dx];have YC:=aW H;clear H dx;go_wp2_with fail
    go_roundw
    case rel=>exact⟨t+1,aa,au,fun v hv=>by
     by_cases e:v=t
     .rw[e];exact YC.o
     .exact HZ.o v aa,YO.o⟩
    case measure=>exact aV
  .obtain rfl:t=ln:=aa;clear Yu ht;have YJ:Hid (sD s p i=(0,0)):=aW (CU YL.o (by have:=YQ.o.1.1;have:=YL.o;omega) HZ.o);have k3:=(Yy.ext HX.o).cell;have C:=(Yw.ext HX.o).cell;have f1:=(Yw.ext HX.o).frozen;go_wp2_with fail;refine nP rfl rfl rfl (dm 0 [.int .i64 0,.int .i64 0,.int .i64 2,.int .i64 b.obj] (Yw.ext HX.o)) aa6 rfl ah ⟨?_,fO (g:=q1) YD.o 0 [.int .i64 0,.int .i64 0,.int .i64 2,.int .i64 b.obj] (HW.trans HX.o)⟩;rw[YF.o,YJ.o];rfl
theorem H9(nm){A0 n0 c0 A1 n1 c1 A2 n2 c2 A3 n3 c3 L s PA pn pc PB V qc K p GA gn gc}(i w)(hs:lI w A0 n0 c0 A1 n1 c1 A2 n2 c2 A3 n3 c3 L s)(hp:iR w PA pn PB V K p)(YG:jC s)(Zg:∀i,i<s.bays.length->(p.links.getD i []).length=(s.bays.getD i η).links.length)(hg:vW w GA gn (groups s p))(F:gn=s.buses.length)(hi:i<n3)(hq:i<V)(hk:(s.bays.getD i η).kind=2):
  CE 155 #[qK nm A0 n0 c0 A1 n1 c1 A2 n2 c2 A3 n3 c3 PA pn pc PB V qc GA gn gc,(i:Int)] w (wM (sides s p i)):=by
 have YR:=hs.mx;obtain⟨m0,m1,m2,m3⟩:=YR;have YH:=hs.l3;have hL:=(hs.links i hi);have Zz:=YG.link (show i<s.bays.length by omega);have D:=fun k hk=>YG.bus (i:=i) (k:=k) (show i<s.bays.length by omega) hk;have ZO:gn<=4:=by have:=YG.nb;omega
 obtain⟨lb,lo,hA,hb,e0,e1,e2,e3,e4,e5,e6,e7,e8,e9,Yx,YE⟩:=hs.bays.bay hi;subst hA;have d0:decide ((i:Int)<0)=ζ:=ag;have d1:decide ((n3:Int)<=i)=ζ:=ae;have HS:=aW hs;have HP:=aW hp;have HG:=aW hg;have YQ:=aW Zz;have R:=aW D;have YP:=aW hL;have S:Hid ((s.bays.getD i η).links.length=(L i).n):=aW hL.1;have Zl:=aW (Zg i aa);have YB:Hid (i<V):=aW hq;clear hs hp hg Zz D hL YG Zg F YH hq;have YF:Hid (sides s p i=(sD s p i,(3,(s.bays.getD i η).obj))):=aW Ac0;have Y:∀k,k<(s.bays.getD i η).links.length->ic s i k<gn:=fun k YN=>by have:=(R.o k YN).2;have:=HG.o.1;rw[lJ] at this;omega
 have YT:=aW Y;clear Y;rw[hk] at e1;generalize Zr:L i=M at e6;have O:Hid (Lks w M.A M.n (s.bays.getD i η).links):=aW (by rw[<-Zr];exact YP.o);have YL:Hid ((s.bays.getD i η).links.length=M.n):=aW O.o.1;clear Zr S YP;have Yz:=aW hk;clear hk;have ZW:M.n<=2:=by have:=YQ.o.1.2;have:=YL.o;omega
 have Zq:0<M.n:=by have:=YQ.o.1.1;have:=YL.o;omega
 obtain⟨kb,ko,hI,Zn,_⟩:=O.o.2.at_ Zq;obtain⟨lA,ln,lc⟩:=M;simp only at hI Zq ZW;subst hI;generalize YI:s.bays.getD i η=b at e0 e1 e2 e3 e4 e5 e6 e7 e8 e9 Yx YE YF;have Zc:=aW YI;clear YI;obtain⟨w4,b0,b1,-,-⟩:=an4 w 215 #[nm,aO A0 n0 c0,aO A1 n1 c1,aO A2 n2 c2,aO (γ (aM lb lo)) n3 c3,aO PA pn pc,aO PB V qc,aO GA gn gc] 187 #[aJ,aJ,aJ,aJ] 57 #[b.name,(2:Int),b.obj,b.en,b.z.r,b.z.x,aO (γ (aM kb ko)) ln lc,b.closed,b.ct,b.vt,b.sat,b.travel] 187 #[aJ,aJ,(3:Int),b.obj];have b2:Blk ((((w.alloc (.cells #[nm,aO A0 n0 c0,aO A1 n1 c1,aO A2 n2 c2,aO (γ (aM lb lo)) n3 c3,aO PA pn pc,aO PB V qc,aO GA gn gc] 215)).alloc (.cells #[aJ,aJ,aJ,aJ] 187)).alloc (.cells #[b.name,(2:Int),b.obj,b.en,b.z.r,b.z.x,aO (γ (aM kb ko)) ln lc,b.closed,b.ct,b.vt,b.sat,b.travel] 57)).alloc (.cells #[aJ,aJ,(3:Int),b.obj] 187)) (w.heap.size+1+1) 57 #[b.name,(2:Int),b.obj,b.en,b.z.r,b.z.x,aO (γ (aM kb ko)) ln lc,b.closed,b.ct,b.vt,b.sat,b.travel]:=(aeV _ _ ag).alloc _;have b3:Blk ((((w.alloc (.cells #[nm,aO A0 n0 c0,aO A1 n1 c1,aO A2 n2 c2,aO (γ (aM lb lo)) n3 c3,aO PA pn pc,aO PB V qc,aO GA gn gc] 215)).alloc (.cells #[aJ,aJ,aJ,aJ] 187)).alloc (.cells #[b.name,(2:Int),b.obj,b.en,b.z.r,b.z.x,aO (γ (aM kb ko)) ln lc,b.closed,b.ct,b.vt,b.sat,b.travel] 57)).alloc (.cells #[aJ,aJ,(3:Int),b.obj] 187)) (w.heap.size+1+1+1) 187 #[aJ,aJ,(3:Int),b.obj]:=aeV _ _ ag;have HW:=aW w4;have YX:=aW b0;have Yw:=aW b1;have U:=aW b2;have Yy:=aW b3;clear w4 b0 b1 b2 b3;unfold qK;go_enter aek,adG;go_wp2_with fail;generalize aU _ _=w5 at HW YX Yw U Yy⊢;clear e0 e1 e2 e3 e4 e5 e6 e7 e8 e9 Yx YE;generalize P:w.heap.size+1+1+1=q3 at Yy⊢;generalize Zt:w.heap.size+1+1=q2 at U⊢;generalize T:w.heap.size+1=q1 at Yw⊢;generalize YA:w.heap.size=q0 at YX⊢;have B:Hid (w.heap.size<=q3/\q1<q3):=aW aa;have YD:Hid (w.heap.size<=q1):=aW aa;clear P Zt T YA;have k2:=U.cell;go_loopw [58] (fun j wr=>∃t:Nat,t<=ln/\j=.int .i64 (t:Int)/\(∀u,u<t->(p.links.getD i []).getD u 0≠1)/\Ext w5 wr) (aT ln)
 case atStart=>exact⟨0,aa,rfl,by intros;omega,Ext.refl _⟩
 case round=>
  obtain⟨t,ht,rfl,hz,J⟩:=hrel;have HZ:=aW hz;have HX:=aW J;clear hz J k2;have k0:=(YX.ext HX.o).cell;have l0:=(YX.ext HX.o).lt;have l3:=(Yy.ext HX.o).lt;have l1:=(Yw.ext HX.o).lt;have l2:=(U.ext HX.o).lt;by_cases Yu:t<ln
  .have hd:decide (t<ln)=ε:=ae;obtain⟨ZK,ZJ,N,YY,hc⟩:=(O.ext (HW.trans HX.o)).2.at_ Yu;injection N with N;injection N with Zd G _;subst Zd G;have g0:wr.cell? (aM kb (ko+t*2))=γ (.int .i64 ((s.bays.getD i η).links.getD t η).bus):=hc 0 _ rfl;have g1:=hc 1 _ rfl;rw[(R.o t AbW).1] at g0;clear hc;have hu:=YT.o t AbW;have YS:Hid (t<(p.links.getD i []).length):=aW (by have:=YL.o;have:=Zl.o;omega);have ZE:Hid ((p.links.getD i []).getD t 0=1->sD s p i=xH s p (ic s i t)):=aW (IK AbW AbW HZ.o);generalize ic s i t=u at g0 hu ZE;generalize ((s.bays.getD i η).links.getD t η).pos=ps at g1;have Yv:Hid (Ext w5 (aL wr #[u,ps] 137)):=aW (HX.alloc _);obtain⟨-,Zo⟩:=an1 wr 137 #[u,ps];have Q:=aW Zo;clear Zo;go_wp2_with fail;refine(tT nm GA gn gc i t _ rfl _ (HP.ext (HW.trans Yv.o)) YB.o YS.o).mono ?_;rintro e w6 ⟨rfl,J⟩;have YO:=aW (Yv.trans J);have kl:=(Q.ext J).cell;have ll:=(Q.ext J).lt;have YV:=(YX.ext YO.o).cell;have YU:q0<w6.heap.size:=(YX.ext YO.o).lt;have I:q3<w6.heap.size:=(Yy.ext YO.o).lt;clear J;by_cases H:(p.links.getD i []).getD t 0=1
   .have dx:decide ((p.links.getD i []).getD t 0=1)=ε:=Λ H;rw[dx];have W:=aW (ZE.o H);clear H dx;go_wp2_with fail;refine(vH nm PA pn pc PB V qc u _ (HG.ext (HW.trans YO.o)) hu).mono ?_;rintro e w7 ⟨rfl,J⟩;have Za:=aW (YO.trans J);clear J kl ll YV YU I;have b7:=Yy.ext Za.o;have Z:=Yw.ext Za.o;have Zf:=b7.cell;have Ze:=b7.frozen;have Zj:=Z.cell;have ZL:=Z.frozen;have Zi:q1<w7.heap.size:=Z.lt;have Zh:q3<w7.heap.size:=b7.lt;have b8:=dm 0 [.int .i64 1,.int .i64 ((groups s p).getD u 0)] b7;have c8:Blk (puts w7 q3 0 [.int .i64 1,.int .i64 ((groups s p).getD u 0)]) q1 187 #[aJ,aJ,aJ,aJ]:=((Z.far Abb _).far Abb _);have x8:Ext w (puts w7 q3 0 [.int .i64 1,.int .i64 ((groups s p).getD u 0)]):=fO (g:=q3) B.o.1 0 _ (HW.trans Za.o);have YK:=aW b8;have YW:=aW c8;have Zp:=aW x8;clear b7 Z b8 c8 x8;have YZ:¬q1=q3:=by have:=B.o.2;omega
    have YM:¬q3=q1:=by have:=B.o.2;omega
    go_wp2_with fail;refine nP rfl rfl rfl (dm 0 [.int .i64 1,.int .i64 ((groups s p).getD u 0),.int .i64 3,.int .i64 b.obj] YW.o) aa6 rfl ah ⟨?_,fO (g:=q1) YD.o 0 [.int .i64 1,.int .i64 ((groups s p).getD u 0),.int .i64 3,.int .i64 b.obj] Zp.o⟩;rw[YF.o,W.o];rfl
   .have dx:decide ((p.links.getD i []).getD t 0=1)=ζ:=ρ H;rw[dx];have YC:=aW H;clear H dx;go_wp2_with fail
    go_roundw
    case rel=>exact⟨t+1,aa,au,fun v hv=>by
     by_cases e:v=t
     .rw[e];exact YC.o
     .exact HZ.o v aa,YO.o⟩
    case measure=>exact aV
  .obtain rfl:t=ln:=aa;clear Yu ht;have YJ:Hid (sD s p i=(0,0)):=aW (CU YL.o (by have:=YQ.o.1.1;have:=YL.o;omega) HZ.o);have k3:=(Yy.ext HX.o).cell;have C:=(Yw.ext HX.o).cell;have f1:=(Yw.ext HX.o).frozen;go_wp2_with fail;refine nP rfl rfl rfl (dm 0 [.int .i64 0,.int .i64 0,.int .i64 3,.int .i64 b.obj] (Yw.ext HX.o)) aa6 rfl ah ⟨?_,fO (g:=q1) YD.o 0 [.int .i64 0,.int .i64 0,.int .i64 3,.int .i64 b.obj] (HW.trans HX.o)⟩;rw[YF.o,YJ.o];rfl
theorem jC.kind{s}(h:jC s){i}(hi:i<s.bays.length):(s.bays.getD i η).kind=1\/(s.bays.getD i η).kind=2\/(s.bays.getD i η).kind=3:=by
 have j:=h.obj i hi;unfold jK at j;by_cases C:(s.bays.getD i η).kind=1
 .exact .inl C
 by_cases B:(s.bays.getD i η).kind=2
 .exact .inr (.inl B)
 by_cases D:(s.bays.getD i η).kind=3
 .exact .inr (.inr D)
 rw[θ C,θ B,θ D] at j;cases j
def Ll(nm){A0 n0 c0 A1 n1 c1 A2 n2 c2 A3 n3 c3 L s PA I M PB V qc K p H G J}(i w)(hs:lI w A0 n0 c0 A1 n1 c1 A2 n2 c2 A3 n3 c3 L s)(hp:iR w PA I PB V K p)(j:jC s)(B:∀i,i<s.bays.length->(p.links.getD i []).length=(s.bays.getD i η).links.length)(D:vW w H G (groups s p))(F:G=s.buses.length)(hi:i<n3)(hq:i<V):
  CE 155 #[qK nm A0 n0 c0 A1 n1 c1 A2 n2 c2 A3 n3 c3 PA I M PB V qc H G J,(i:Int)] w (wM (sides s p i)):=by
 rcases j.kind (show i<s.bays.length by have:=hs.l3;omega) with C|C|C
 .exact JO nm i w hs hp j B D F hi hq C
 .exact H9 nm i w hs hp j B D F hi hq C
 .exact IP nm i w hs hp j B D F hi hq C
def EE(s p k):jN s p (k+1)=qX s p k (jN s p k):=rfl
theorem yE{s p k}(h:(s.bays.getD k η).kind=3\/(s.bays.getD k η).links.length≠2\/(p.links.getD k []).getD 0 0≠1\/(p.links.getD k []).getD 1 0≠1):jN s p (k+1)=jN s p k:=by
 rw[EE];unfold qX;rw[θ];unfold joins;intro e;simp only[υ,Δ] at e;rcases h with h|h|h|h
 .exact e.1.1.1 h
 .exact h e.1.1.2
 .exact h e.1.2
 .exact h e.2
theorem Ph{s p k}(C:(s.bays.getD k η).kind≠3)(j:(s.bays.getD k η).links.length=2)(D:(p.links.getD k []).getD 0 0=1)(B:(p.links.getD k []).getD 1 0=1):
  jN s p (k+1)=merge ((jN s p k).getD (ic s k 0) 0) ((jN s p k).getD (ic s k 1) 0) (jN s p k):=by
 rw[EE];unfold qX;rw[ι];unfold joins;simp only[υ,Δ];exact⟨⟨⟨C,j⟩,D⟩,B⟩
theorem EZ{s p}(h:jG s p=0):p.closed.length=s.bays.length/\p.links.length=s.bays.length/\∀i,i<s.bays.length->(p.links.getD i []).length=(s.bays.getD i η).links.length:=by
 unfold jG at h;split at h
 .rename_i Z
  refine⟨Z.1,Z.2,?_⟩;split at h
  .rename_i ha
   intro i hi;exact aaZ (q8.1 ha i (aau.2 hi))
  .cases h
 .cases h
def iota (k:Nat):List Int:=(List.range k).map (fun j:Nat=>(j:Int))
theorem OP(k):(iota k).map (Value.int .i64)++[Value.int .i64 (k:Int)]=(iota (k+1)).map (Value.int .i64):=by
 unfold iota;rw[abV,aaq,aaq];rfl
def SY{l:List Int}{j}(h:j<l.length):l[j]? =γ (l.getD j 0):=by
 rw[π,ν h];rfl
theorem Jd{A0 n0 c0 A1 n1 c1 A2 n2 c2 A3 n3 c3 L s PA pn pc PB V qc K p}(w)(hs:lI w A0 n0 c0 A1 n1 c1 A2 n2 c2 A3 n3 c3 L s)(hp:iR w PA pn PB V K p)(hc:chk s=0)(ZY:jG s p=0):
  Calls prog 154 #[stV s.name A0 n0 c0 A1 n1 c1 A2 n2 c2 A3 n3 c3,lK PA pn pc PB V qc] w fun e w'=>∃GA gc,e=.returned (.tuple #[qK s.name A0 n0 c0 A1 n1 c1 A2 n2 c2 A3 n3 c3 PA pn pc PB V qc GA n0 gc,ε])/\vW w' GA n0 (groups s p)/\Ext w w':=by
 have D:Hid (Ext w (aL (aL (aL w #[s.name,aO A0 n0 c0,aO A1 n1 c1,aO A2 n2 c2,aO A3 n3 c3] 27) #[aO PA pn pc,aO PB V qc] 31) #[ByteArray.empty,(),(),(),(),(),(),()] 215)):=aW (((Ext.new _ _).trans (Ext.new _ _)).trans (Ext.new _ _));have HS:=aW (hs.ext D.o);have HP:=aW (hp.ext D.o);have HC:=aW hc;have az:=aW ZY;have YM:=aW (vZ hc);obtain⟨m0,m1,m2,m3⟩:=hs.mx;have Z:=aW hs.l3;have YJ:Hid (s.buses.length=n0):=aW (by have:=hs.buses.1;simpa using this);have af:Hid (1<=n0/\n0<=4):=aW (by have:=YM.nb;have:=YJ.o;omega);have Zf:=af.o.1;have Zl:=aW (EZ ZY);have HQ:Hid (V=n3):=aW (by have:=hp.ll;have:=Zl.o.2.1;have:=Z.o;omega);clear hs hp hc ZY;obtain⟨-,Yw,U,-⟩:=ah3 w 27 #[s.name,aO A0 n0 c0,aO A1 n1 c1,aO A2 n2 c2,aO A3 n3 c3] 31 #[aO PA pn pc,aO PB V qc] 215 #[ByteArray.empty,(),(),(),(),(),(),()];have Yy:Hid (Blk (aL (aL (aL w #[s.name,aO A0 n0 c0,aO A1 n1 c1,aO A2 n2 c2,aO A3 n3 c3] 27) #[aO PA pn pc,aO PB V qc] 31) #[ByteArray.empty,(),(),(),(),(),(),()] 215) (w.heap.size+1+1) 215 #[ByteArray.empty,(),(),(),(),(),(),()]):=aW (aeV _ _ ag);unfold stV lK;go_enter func154,ntmps154;go_wp2_with fail;refine(zX _ HS.o).mono ?_;rintro e w1 ⟨rfl,J⟩;rw[HC.o];replace D:=D.aC J;replace HS:=HS.aA J;replace HP:=HP.aA J;replace Yw:=Yw.aA J;replace U:=U.aA J;replace Yy:=Yy.aA J;have h1:=Yw.lt;have h2:=U.lt;have C:=Yw.cell;have k2:=U.cell;clear J;go_wp2_with fail;refine(Ae s.name _ HS.o HP.o).mono ?_;rintro e w2 ⟨rfl,J⟩;rw[az.o];replace D:=D.aC J;replace HS:=HS.aA J;replace HP:=HP.aA J;replace Yw:=Yw.aA J;replace U:=U.aA J;replace Yy:=Yy.aA J;clear h1 h2 C k2 J;have h1:=Yw.lt;have h2:=U.lt;have C:=Yw.cell;have k2:=U.cell;obtain⟨-,YN⟩:=an1 w2 215 #[s.name,aO A0 n0 c0,aO A1 n1 c1,aO A2 n2 c2,aO A3 n3 c3,aO PA pn pc,aO PB V qc,()];have YS:=aW YN;clear YN;have Zq:Hid (Ext w2 (aL w2 #[s.name,aO A0 n0 c0,aO A1 n1 c1,aO A2 n2 c2,aO A3 n3 c3,aO PA pn pc,aO PB V qc,()] 215)):=aW (Ext.new _ _);go_wp2_with fail;clear C k2 h1 h2;generalize Zt:w.heap.size+1+1=q2 at Yy⊢;generalize T:w.heap.size+1=q1 at U⊢;generalize YA:w.heap.size=q0 at Yw⊢;have YG:Hid (w.heap.size<=q2):=aW aa;clear Zt T YA;generalize ZM:w2.alloc (.cells #[s.name,aO A0 n0 c0,aO A1 n1 c1,aO A2 n2 c2,aO A3 n3 c3,aO PA pn pc,aO PB V qc,()] 215)=w6 at YS Zq⊢;clear ZM;generalize Zy:w2.heap.size=g6 at YS⊢;have ZG:=aW Zy;clear Zy;go_loopw [32] (fun i wr=>∃(k:Nat) (v:Value),k<=n0/\i=.int .i64 (k:Int)/\Blk wr g6 215 #[s.name,aO A0 n0 c0,aO A1 n1 c1,aO A2 n2 c2,aO A3 n3 c3,aO PA pn pc,aO PB V qc,v]/\wr.ownsRow (g6+1) 3 1 v k ((iota k).map (.int .i64))/\Ext w2 wr) (aT n0)
 case atStart=>exact⟨0,_,aa,rfl,YS.o,RS _ _ _ _,Zq.o⟩
 case round=>
  clear YS Zq;obtain⟨k,v,hk,rfl,YN,F,J⟩:=hrel;obtain⟨Av,cv,rfl,_,_,_⟩:=jH F;have YS:=aW YN;have B:=aW F;have HX:=aW J;have k6:=YN.cell;have l6:=YN.lt;have k0:=(Yw.ext J).cell;have l0:=(Yw.ext J).lt;clear YN F J;by_cases Yu:k<n0
  .have hd:decide (k<n0)=ε:=ae;(go_wp2_with (at_builtin;refine fu Da rfl (.tmp 36) (.tmp 38) rfl (g6+1) _ k _ rf (B.alloc _) wr.heap.size 1 1 [.int .i64 (k:Int)] rf (Blk.new _ _ _) rfl AaC aa aa aa ae ?_));intro gA H w7 Zj ZA ZP ZB;rw[OP] at Zj;have Zg:=gQ ZA (YS.alloc (.cells #[k] 3)) (kK B.o aa);have Zi:Mod (fun g=>g=g6\/(Value.slice Av k cv).ownBlock=γ g) wr (w7.setCell ⟨g6,7,δ⟩ (.slice (γ (aM gA 0)) (k+1) H)):=((ae0 (Ext.new _ _)).trans (Mod.grown ZA (fun g h=> .inr h))).trans (Mod.only (Only.set w7 g6 7 _) (.inl rfl));have k7:=Zg.cell;have f7:=Zg.frozen;have l7:=Zg.lt;have YH:Blk (w7.setCell ⟨g6,7,δ⟩ (.slice (γ (aM gA 0)) (k+1) H)) g6 215 #[s.name,aO A0 n0 c0,aO A1 n1 c1,aO A2 n2 c2,aO A3 n3 c3,aO PA pn pc,aO PB V qc,aO (γ (aM gA 0)) (k+1) H]:=by simpa using Zg.qG 7 (.slice (γ (aM gA 0)) (k+1) H)
   have ZC:=rY Zj (Only.set w7 g6 7 (.slice (γ (aM gA 0)) (k+1) H)) (kK Zj aa);have YK:=aW YH;have ZR:=aW ZC;have Zh:=aW Zi;clear Zg Zi YH ZC Zj ZA ZP;go_wp2_with fail
   go_roundw
   case rel=>
    refine⟨k+1,_,aa,au,YK.o,ZR.o,HX.mod Zh.o (fun g hg=> ?_)⟩;exact AdP
   case measure=>exact aV
  .obtain rfl:n0=k:=aa;clear Yu hk;go_wp2_with fail;clear k6 l6 k0 l0;go_loopw [45] (fun i wr=>∃(j:Nat) (v:Value),j<=n3/\i=.int .i64 (j:Int)/\Blk wr g6 215 #[s.name,aO A0 n0 c0,aO A1 n1 c1,aO A2 n2 c2,aO A3 n3 c3,aO PA pn pc,aO PB V qc,v]/\wr.ownsRow (g6+1) 3 1 v n0 ((jN s p j).map (.int .i64))/\Ext w2 wr) (aT n3)
   case atStart=>exact⟨0,_,aa,rfl,YS.o,by rw[show jN s p 0=iota n0 from by rw[<-YJ.o];rfl];exact B.o,HX.o⟩
   case round=>
    clear YS B HX;obtain⟨j,v,hj,rfl,YN,F,J⟩:=hrel;obtain⟨gr,YR,rfl,aI,aG⟩:=F.form aa;obtain⟨wv,Zk⟩:∃wv,wv=wr:=⟨_,rfl⟩;subst Zk;have YS:=aW YN;have B:=aW F;have HX:=aW J;have k6:=YN.cell;have l6:=YN.lt;have k0:=(Yw.ext J).cell;have l0:=(Yw.ext J).lt;clear YN F J;by_cases Yu:j<n3
    .have hd:decide (j<n3)=ε:=ae;obtain⟨lb,lo,hA,hb,e0,e1,e2,e3,e4,e5,e6,e7,e8,e9,Yx,YE⟩:=(HS.ext HX.o).bays.bay Yu;subst hA;generalize Zr:L j=M at e6;have YP:Hid (Lks wv M.A M.n (s.bays.getD j η).links):=aW (by rw[<-Zr];exact((HS.ext HX.o).links j Yu));have YL:Hid ((s.bays.getD j η).links.length=M.n):=aW YP.o.1;clear Zr;generalize YI:s.bays.getD j η=b at e0 e1 e2 e3 e4 e5 e6 e7 e8 e9 Yx YE;have Zc:=aW YI;clear YI;have YQ:Hid (Ext w2 (wv.alloc (.cells #[b.name,b.kind,b.obj,b.en,b.z.r,b.z.x,aO M.A M.n M.c,b.closed,b.ct,b.vt,b.sat,b.travel] 57))):=aW (HX.alloc _);have Zw:=aW (B.alloc (.cells #[b.name,b.kind,b.obj,b.en,b.z.r,b.z.x,aO M.A M.n M.c,b.closed,b.ct,b.vt,b.sat,b.travel] 57));have YF:=aW (YS.alloc (.cells #[b.name,b.kind,b.obj,b.en,b.z.r,b.z.x,aO M.A M.n M.c,b.closed,b.ct,b.vt,b.sat,b.travel] 57));obtain⟨-,YW⟩:=an1 wv 57 #[b.name,b.kind,b.obj,b.en,b.z.r,b.z.x,aO M.A M.n M.c,b.closed,b.ct,b.vt,b.sat,b.travel];have YB:=aW YW;clear YW;by_cases h1:b.kind=3
     .have q1:((b.kind:Int)==3)=ε:=by simp[h1]
      have HJ:Hid (jN s p (j+1)=jN s p j):=aW (yE (.inl (by rw[Zc.o];exact h1)));clear h1;go_wp2_with fail
      go_roundw
      case rel=>exact⟨j+1,_,aa,au,YF.o,by rw[HJ.o];exact Zw.o,YQ.o⟩
      case measure=>exact aV
     have q1:((b.kind:Int)==3)=ζ:=by simp[h1]
     have H1:=aW h1;clear h1;by_cases h2:M.n=2
     rotate_left
     .have q2:((M.n:Int) !=2)=ε:=ae;have HJ:Hid (jN s p (j+1)=jN s p j):=aW (yE (.inr (.inl (by rw[YL.o];exact h2))));clear h2;go_wp2_with fail
      go_roundw
      case rel=>exact⟨j+1,_,aa,au,YF.o,by rw[HJ.o];exact Zw.o,YQ.o⟩
      case measure=>exact aV
     obtain⟨kb,ko,hI,Zn,Q⟩:=YP.o.2.at_ (show 0<M.n by omega);obtain⟨ZK,ZJ,N,_,O⟩:=YP.o.2.at_ (show 1<M.n by omega);rw[hI] at N;injection N with N;injection N with Zd G _;subst Zd G;have YX:Hid (j<s.bays.length):=aW AcD;have f0:wv.cell? (aM kb ko)=γ (.int .i64 (ic s j 0:Int)):=by
      have:=Q 0 _ rfl;rw[(YM.o.bus YX.o AbW).1] at this;simpa using this
     have f1:wv.cell? (aM kb (ko+2))=γ (.int .i64 (ic s j 1:Int)):=by
      have:=O 0 _ rfl;rw[(YM.o.bus YX.o AbW).1] at this;simpa using this
     have YY:ic s j 0<n0:=by have:=(YM.bus YX.o (show 0<_ by have:=YL.o;omega)).2;have:=YJ.o;omega
     have YZ:ic s j 1<n0:=by have:=(YM.bus YX.o (show 1<_ by have:=YL.o;omega)).2;have:=YJ.o;omega
     have ac:Hid ((p.links.getD j []).length=2):=aW (by have:=Zl.o.2.2 j YX.o;have:=YL.o;omega);have ZX:Hid (j<V):=aW (by have:=HQ.o;omega);have R:Hid ((p.links.getD j []).getD 0 0=1->(p.links.getD j []).getD 1 0=1->jN s p (j+1)=merge ((jN s p j).getD (ic s j 0) 0) ((jN s p j).getD (ic s j 1) 0) (jN s p j)):=aW (fun h3 h4=>Ph (by rw[Zc.o];exact H1.o) (by rw[YL.o];exact h2) h3 h4);have Zz:Hid ((jN s p j).length=n0):=aW (by rw[kR];exact YJ.o);generalize ic s j 0=u0 at f0 YY R;generalize ic s j 1=u1 at f1 YZ R;obtain⟨lA,ln,lc⟩:=M;simp only at hI h2;subst hI h2;clear Q O;have Z9:=(Ext.new wv (.cells #[b.name,b.kind,b.obj,b.en,b.z.r,b.z.x,aO (γ (aM kb ko)) 2 lc,b.closed,b.ct,b.vt,b.sat,b.travel] 57)).cell_ f0;have ZW:=(Ext.new wv (.cells #[b.name,b.kind,b.obj,b.en,b.z.r,b.z.x,aO (γ (aM kb ko)) 2 lc,b.closed,b.ct,b.vt,b.sat,b.travel] 57)).cell_ f1;go_wp2_with fail;refine(tT s.name (γ ⟨gr,0,δ⟩) n0 YR j 0 _ rfl _ (HP.ext YQ.o) ZX.o (by rw[ac.o];decide)).mono ?_;rintro e w6 ⟨rfl,J⟩;have YO:=aW (YQ.trans J);have ZQ:=aW (eY Zw.o J);have S:=aW (YF.ext J);have Zv:=aW (YB.ext J);have ZV:=J.cell_ Z9;have ZU:=J.cell_ ZW;clear J f0 f1 Z9 ZW e0 e1 e2 e3 e4 e5 e6 e7 e8 e9 Yx YE;have ax:=S.cell;have ao:=S.lt;have ai:=Zv.cell;have ar:=Zv.lt;by_cases h3:(p.links.getD j []).getD 0 0=1
     rotate_left
     .have q3:decide ((p.links.getD j []).getD 0 0=1)=ζ:=ρ h3;rw[q3];have HJ:Hid (jN s p (j+1)=jN s p j):=aW (yE (.inr (.inr (.inl h3))));clear h3 q3;go_wp2_with fail
      go_roundw
      case rel=>exact⟨j+1,_,aa,au,S.o,by rw[HJ.o];exact ZQ.o,YO.o⟩
      case measure=>exact aV
     have q3:decide ((p.links.getD j []).getD 0 0=1)=ε:=Λ h3;rw[q3];replace R:=aW (R.o h3);clear h3 q3;go_wp2_with fail;refine(tT s.name (γ ⟨gr,0,δ⟩) n0 YR j 1 _ rfl _ (HP.ext YO.o) ZX.o (by rw[ac.o];decide)).mono ?_;rintro e w7 ⟨rfl,J⟩;have Za:=aW (YO.trans J);have Zx:=aW (eY ZQ.o J);have YT:=aW (S.ext J);have ZF:=aW (Zv.ext J);have Z8:=J.cell_ ZV;have ZL:=J.cell_ ZU;clear J ZV ZU ax ao ai ar;have aB:=YT.cell;have am:=YT.lt;have ad:=ZF.cell;have av:=ZF.lt;by_cases h3:(p.links.getD j []).getD 1 0=1
     rotate_left
     .have q3:decide ((p.links.getD j []).getD 1 0=1)=ζ:=ρ h3;rw[q3];have HJ:Hid (jN s p (j+1)=jN s p j):=aW (yE (.inr (.inr (.inr h3))));clear h3 q3;go_wp2_with fail
      go_roundw
      case rel=>exact⟨j+1,_,aa,au,YT.o,by rw[HJ.o];exact Zx.o,Za.o⟩
      case measure=>exact aV
     have q3:decide ((p.links.getD j []).getD 1 0=1)=ε:=Λ h3;rw[q3];replace R:=aW (R.o h3);clear h3 q3;have ZT:=(FP Zx.o YY (SY (by have:=Zz.o;omega))).1;have ZZ:=(FP Zx.o YZ (SY (by have:=Zz.o;omega))).1;have a1:=(Zx.lt gr rfl).2;have aE:kb<w7.heap.size:=by
      have:=(HX.size);exact block_lt_of_cell Z8
     generalize (jN s p j).getD u0 0=x0 at ZT R;generalize (jN s p j).getD u1 0=x1 at ZZ R;go_wp2_with fail;go_quiet (fail);have ay:=(YT.drewN nq).cell;have ap:=(YT.drewN nq).lt;go_wp2_with fail;clear ZT ZZ Z8 ZL aB am ad av ay ap;have Zp:=aW (Za.drewN nq);have YK:=aW (YT.drewN nq);have ZN:Hid ((w7.drewN nq).ownsRow (g6+1) 3 1 (.slice (γ (aM gr 0)) n0 YR) n0 ((jN s p j).map (.int .i64))):=aW (eY Zx.o ((Ext.refl _).drewN nq));generalize w7.drewN nq=w8 at Zp YK ZN⊢;have YV:Hid ((jN s p j).map (fun v=>if v=max x0 x1 then min x0 x1 else v)=merge x0 x1 (jN s p j)):=aW (OQ _);rw[<-YV.o] at R;generalize max x0 x1=mx at R YV⊢;generalize min x0 x1=mn at R YV⊢;generalize jN s p j=l at ZN Zz R YV;clear YQ YO Za YF S YT YB Zv ZF Zw ZQ Zx YV;go_loopw [98] (fun i wq=>∃t:Nat,t<=n0/\i=.int .i64 (t:Int)/\wq.ownsRow (g6+1) 3 1 (.slice (γ (aM gr 0)) n0 YR) n0 ((wJ (fun v=>if v=mx then mn else v) l t).map (.int .i64))/\Mod (fun g=>g=gr) w8 wq) (aT n0)
     case atStart=>exact⟨0,aa,rfl,by rw[SQ];exact ZN.o,Mod.refl _ _⟩
     case round=>
      obtain⟨t,ht,rfl,ZE,YU⟩:=hrel;have YC:=aW ZE;have Zo:=aW YU;have ZH:=YK.mod YU (fun h=>aa);have Ze:=aW ZH;have kq:=ZH.cell;have lq:=ZH.lt;clear ZE YU ZH;by_cases I:t<n0
      .have a0:decide (t<n0)=ε:=ae;have YD:t<l.length:=by have:=Zz.o;omega
       obtain⟨q1,q2⟩:=FP YC.o I (FZ YD);have aP:=(YC.lt gr rfl).2;have Yz:=aW (Mf YC.o t (.int .i64 mn));have Zm:=aW (CY (f:=fun v=>if v=mx then mn else v) YD);have Yv:=aW (EB (f:=fun v=>if v=mx then mn else v) YD);generalize l.getD t 0=x at q1 Zm Yv;by_cases P:x=mx
       .have dx:((x:Int)==mx)=ε:=ae;have W:=aW P;clear P;go_wp2_with fail
        go_roundw
        case rel=>
         refine⟨t+1,aa,au,?_,?_⟩
         .have h1:=Yz.o.1;rw[<-adW (f:=Value.int .i64) (a:=mn)] at h1;have h2:=Zm.o;simp only[ι W.o] at h2;rw[<-h2];exact h1
         .exact Zo.trans Yz.o.2
        case measure=>exact aV
       .have dx:((x:Int)==mx)=ζ:=ae;have W:=aW P;clear P;go_wp2_with fail
        go_roundw
        case rel=>exact⟨t+1,aa,au,by rw[Yv.o (θ W.o)];exact YC.o,Zo.o⟩
        case measure=>exact aV
      .obtain rfl:n0=t:=aa;clear I ht;have Z7:=aW (Jr (f:=fun v=>if v=mx then mn else v) Zz.o);go_wp2_with fail
       go_roundw
       case rel=>exact⟨j+1,_,aa,au,Ze.o,by rw[R.o,<-Z7.o];exact YC.o,Zp.mod Zo.o (fun g hg=>by have:=ZG.o;omega)⟩
       case measure=>exact aV
    .obtain rfl:n3=j:=aa;clear Yu hj;have Y:=Yy.ext HX.o;have kr:=Y.cell;have fr:=Y.frozen;have lr:=Y.lt;go_wp2_with fail;have aq:Hid (groups s p=jN s p n3):=aW (by unfold groups;rw[Z.o]);have r1:=rY B.o (gV wv q2 0 [.string s.name,.slice A0 n0 c0,.slice A1 n1 c1,.slice A2 n2 c2,.slice A3 n3 c3,.slice PA pn pc,.slice PB V qc,.slice (γ (aM gr 0)) n0 YR]) (fH B.o Y aj);obtain⟨GA,gc,eg,_,ZO,ZI⟩:=afk 0 r1;injection eg with aw _ _;subst aw;refine G6 rfl rfl rfl (dm 0 [.string s.name,.slice A0 n0 c0,.slice A1 n1 c1,.slice A2 n2 c2,.slice A3 n3 c3,.slice PA pn pc,.slice PB V qc,.slice (γ (aM gr 0)) n0 YR] Y) underlying215 rfl ah ⟨_,YR,rfl,?_,fO (g:=q2) YG.o 0 [.string s.name,.slice A0 n0 c0,.slice A1 n1 c1,.slice A2 n2 c2,.slice A3 n3 c3,.slice PA pn pc,.slice PB V qc,.slice (γ (aM gr 0)) n0 YR] (D.trans HX.o)⟩;rw[aq.o];exact⟨ZO,ZI⟩
theorem IM{A0 n0 c0 A1 n1 c1 A2 n2 c2 A3 n3 c3 L s PA F I PB V qc K p}(i w)(hs:lI w A0 n0 c0 A1 n1 c1 A2 n2 c2 A3 n3 c3 L s)(hp:iR w PA F PB V K p)(hc:chk s=0)(C:jG s p=0)(hi:i<n3):
  CE 119 #[stV s.name A0 n0 c0 A1 n1 c1 A2 n2 c2 A3 n3 c3,lK PA F I PB V qc,(i:Int)] w (wM (sides s p i)):=by
 have D:Hid (Ext w (aL (aL (aL w #[s.name,aO A0 n0 c0,aO A1 n1 c1,aO A2 n2 c2,aO A3 n3 c3] 27) #[aO PA F I,aO PB V qc] 31) #[aJ,aJ,aJ,aJ] 187)):=aW (((Ext.new _ _).trans (Ext.new _ _)).trans (Ext.new _ _));have M:=aW (hs.ext D.o);have N:=aW (hp.ext D.o);have HC:=aW hc;have O:=aW C;have P:=aW (vZ hc);have H:=aW (EZ C);have j:Hid (n0=s.buses.length):=aW (by have:=hs.buses.1;simpa using this.symm);have T:Hid (i<V):=aW (by have:=hp.ll;have:=H.o.2.1;have:=hs.l3;omega);have Y:=aW hi;clear hs hp hc C hi;obtain⟨-,Q,U,-⟩:=ah3 w 27 #[s.name,aO A0 n0 c0,aO A1 n1 c1,aO A2 n2 c2,aO A3 n3 c3] 31 #[aO PA F I,aO PB V qc] 187 #[aJ,aJ,aJ,aJ];have B:Hid (Blk (aL (aL (aL w #[s.name,aO A0 n0 c0,aO A1 n1 c1,aO A2 n2 c2,aO A3 n3 c3] 27) #[aO PA F I,aO PB V qc] 31) #[aJ,aJ,aJ,aJ] 187) (w.heap.size+1+1) 187 #[aJ,aJ,aJ,aJ]):=aW (aeV _ _ ag);unfold stV lK;go_enter func119,ntmps119;go_wp2_with fail;refine(Jd _ M.o N.o HC.o O.o).mono ?_;rintro e w1 ⟨GA,gc,rfl,S,J⟩;have R:=aW (D.trans J);have G:Hid (Ext w1 (aL w1 #[s.name,aO A0 n0 c0,aO A1 n1 c1,aO A2 n2 c2,aO A3 n3 c3,aO PA F I,aO PB V qc,aO GA n0 gc] 215)):=aW (Ext.new _ _);have Z:=aW (S.ext G.o);clear S;replace M:=M.aA (J.trans G.o);replace N:=N.aA (J.trans G.o);replace B:=B.aA (J.trans G.o);clear J Q U;unfold qK;go_wp2_with fail;refine(Ll s.name i _ M.o N.o P.o H.o.2.2 Z.o j.o Y.o T.o).mono ?_;rintro e w2 ⟨rfl,J⟩;replace B:=B.aA J;have W:=aW ((R.trans G.o).trans J);clear J;have kr:=B.cell;have fr:=B.frozen;have lr:=B.lt;unfold wM;go_wp2_with fail;exact nP rfl rfl rfl (dm 0 [.int .i64 (sides s p i).1.1,.int .i64 (sides s p i).1.2,.int .i64 (sides s p i).2.1,.int .i64 (sides s p i).2.2] B.o) aa6 rfl ah ⟨rfl,fO (g:=w.heap.size+1+1) (show w.heap.size<=w.heap.size+1+1 by omega) 0 [.int .i64 (sides s p i).1.1,.int .i64 (sides s p i).1.2,.int .i64 (sides s p i).2.1,.int .i64 (sides s p i).2.2] W.o⟩
theorem GG{A0 n0 c0 A1 n1 c1 A2 n2 c2 A3 n3 c3 L s PA C H PB V qc K p}(w)(hs:lI w A0 n0 c0 A1 n1 c1 A2 n2 c2 A3 n3 c3 L s)(hp:iR w PA C PB V K p)(hc:chk s=0)(j:jG s p=0):
  Calls prog 121 #[stV s.name A0 n0 c0 A1 n1 c1 A2 n2 c2 A3 n3 c3,lK PA C H PB V qc] w fun e w'=>∃B F,e=.returned (.slice B n0 F)/\vW w' B n0 (groups s p)/\Ext w w':=by
 have D:Hid (Ext w (aL (aL w #[s.name,aO A0 n0 c0,aO A1 n1 c1,aO A2 n2 c2,aO A3 n3 c3] 27) #[aO PA C H,aO PB V qc] 31)):=aW ((Ext.new _ _).trans (Ext.new _ _));have Q:=aW (hs.ext D.o);have R:=aW (hp.ext D.o);have P:=aW hc;have G:=aW j;clear hs hp hc j;unfold stV lK;go_enter func121,ntmps121;go_wp2_with fail;refine(Jd _ Q.o R.o P.o G.o).mono ?_;rintro e w1 ⟨B,F,rfl,M,J⟩;have I:=aW (D.trans J);have N:Hid (Ext w1 (aL w1 #[s.name,aO A0 n0 c0,aO A1 n1 c1,aO A2 n2 c2,aO A3 n3 c3,aO PA C H,aO PB V qc,aO B n0 F] 215)):=aW (Ext.new _ _);have O:=aW (M.ext N.o);clear M;clear J;unfold qK;go_wp2_with fail;go_ret;exact⟨B,F,rfl,O.o,I.trans N.o⟩
def oP:List Value:=[.string ByteArray.empty,.int .i64 0,.int .i64 0,.int .i64 0,.int .i64 0,.int .i64 0,.slice δ 0 0,.bool ζ,.int .i64 0,.int .i64 0,.int .i64 0,.int .i64 0]
def uF:(prog.info? 57).map (·.zero)=γ (γ (.agg oP.toArray)):=ah
def lF:(prog.info? 57).map (·.size)=γ (12:Nat):=ah
theorem xS(b h):∀v∈ji b h,v.oneCell'=ε:=by
 intro v hv;unfold ji at hv;simp only[kC,Ha,aaH] at hv;rcases hv with rfl|rfl|rfl|rfl|rfl|rfl|rfl|rfl|rfl|rfl|rfl|rfl<;>rfl
def Tv{w g b h}(hb:Blk w g 57 oP.toArray):Blk (puts w g 0 (ji b h)) g 57 (ji b h).toArray:=by
 have j:Blk (puts w g 0 (ji b h)) g 57 (gJ oP.toArray 0 (ji b h)):=dm 0 (ji b h) hb;rw[iF oP (ji b h) rfl] at j;exact j
def xN{w wd j b h}(hd:wd=w.alloc (.cells oP.toArray 57))(O:j=puts wd w.heap.size 0 (ji b h)):Blk j w.heap.size 57 (ji b h).toArray/\Ext w j:=by
 have B:Blk wd w.heap.size 57 oP.toArray:=by rw[hd];exact Blk.new _ _ _
 have H:Ext w wd:=by rw[hd];exact Ext.new _ _
 exact⟨by rw[O];exact Tv B,by rw[O];exact fO (κ _:Own w w.heap.size) 0 _ H⟩
theorem OJ(gx gf i C E){A0 n0 c0 A1 n1 c1 A2 n2 c2 A3 n3 c3 LH s p f}(w)(hc:dz w gf)(hg:fU w gx 105 393 (fT C E))(hv:oO w gx C E s p f)(hs:lI w A0 n0 c0 A1 n1 c1 A2 n2 c2 A3 n3 c3 LH s)(YG:jC s)(hi:i<n3):
  Calls prog 46 #[aN gx 0,aN gf 0,stV s.name A0 n0 c0 A1 n1 c1 A2 n2 c2 A3 n3 c3,(i:Int)] w fun r w'=>∃a:Nat->En,r=.returned (.agg (bz 3 a).toArray)/\ng w' 3 a (jS s p f i) 4600/\Ext w w':=by
 have HC:=aW hc;have HG:=aW hg;have HV:=aW hv;have Yz:=aW hs;have YM:=aW YG;have ZO:=aW hi;have YH:=hs.l3;have YR:i<s.bays.length:=aa;obtain⟨b,Ze⟩:∃b,s.bays.getD i η=b:=⟨_,rfl⟩;have ad:=YG.obj i YR;have Zi:=YG.rng i YR;have Zr:=YG.kind YR;rw[Ze] at ad Zi Zr;have YV:=aW Ze;have YS:=aW YR;have ap:=aW ad;have am:=aW Zi;have ZJ:=aW Zr;obtain⟨gb,ob,Z7,Zo,Zh⟩:=hs.bays.at_ hi;rw[Ze] at Zh;subst Z7;have ax:=aW Zh;have Q:=aW Zo;clear hc hg hv hs YG hi Ze ad Zi Zr YR Zh Zo YH;unfold stV;go_enter func46,ntmps46;(go_wp2_with (refine bF rfl 102 rfl _ uY (fun w_ G=>Hid.o ?_)));refine Qz ?_;replace G:=Hid.o G;have HX:Hid (Ext w w_):=aW (by rw[G];exact(Ext.new _ _).alloc _);have S:Hid (Blk w_ w.heap.size 27 #[s.name,aO A0 n0 c0,aO A1 n1 c1,aO A2 n2 c2,aO (γ (aM gb ob)) n3 c3]):=aW (by rw[G];exact(Blk.new _ _ _).alloc _);have YK:Hid (Blk w_ (w.heap.size+1) 102 (bz 3 fun _=>zEn).toArray):=aW (by rw[G];exact aeV _ _ (eU _ _));clear G;(try simp only[eU]);generalize Zq:w.heap.size+1=g8 at YK⊢;have Zc:Hid (w.heap.size<=g8):=aW aa;clear Zq;generalize w.heap.size=g6 at S⊢;go_wp2_with fail;refine(dR gf 0 _ (dz.ext HC.o HX.o) aa aa).mono ?_;rintro _ wa ⟨_,rfl,M,F⟩;obtain⟨P,rfl⟩:=M.en;replace HX:=HX.aC F;replace S:=S.aA F;replace YK:=YK.aA F;have H:=aW M;clear M F;go_wp2_with fail;refine(dR gf 0 _ (dz.ext HC.o HX.o) aa aa).mono ?_;rintro _ wb ⟨_,rfl,M,F⟩;obtain⟨fb,rfl⟩:=M.en;replace HX:=HX.aC F;replace S:=S.aA F;replace YK:=YK.aA F;replace H:=H.aA F;have W:=aW M;clear M F;go_wp2_with fail;refine(dR gf 0 _ (dz.ext HC.o HX.o) aa aa).mono ?_;rintro _ wc ⟨_,rfl,M,F⟩;obtain⟨fc,rfl⟩:=M.en;replace HX:=HX.aC F;replace S:=S.aA F;replace YK:=YK.aA F;replace H:=H.aA F;replace W:=W.aA F;have YX:=aW M;clear M F;(iterate 2 (try (first|go_values|go_skip|go_guarded|go_step|go_upon|go_in|go_back|go_simp)));simp only[En.v,gv];(go_wp2_with (refine bF rfl 102 rfl _ uY (fun YQ G=>Hid.o ?_)));refine Qz ?_;replace G:=Hid.o G;have F:Ext wc YQ:=by rw[G];exact Ext.new _ _
 have Zg:Blk YQ wc.heap.size 102 (bz 3 fun _=>zEn).toArray:=by rw[G];exact Blk.new _ _ _
 have N:Hid (YQ.there wc.heap.size 0 18):=aW (Zg.there AbX);have YW:=YK.lt;clear G;generalize ZA:wc.heap.size=g9 at Zg N YW⊢;(go_wp2_with (refine aY rfl 102 (.tmp 9) (.tmp 17) rfl g9 (0) (P.cells++(fb.cells++fc.cells)) rf rf N.o pJ (sV _ _ _) (fun Yw G=>Hid.o ?_)));refine Qz ?_;replace G:=Hid.o G;have YY:Yw=puts YQ g9 0 (bz 3 (pk3 P fb fc)):=by rw[xK];exact G
 have T:=iw (w:=wc) F aa Zg YY;have B:ng Yw 3 (pk3 P fb fc) (fun _=>GQ.i 0 0) 4600:=fun k hk=>by
  have h3:k=0\/k=1\/k=2:=aa;rcases h3 with rfl|rfl|rfl
  .exact(T.2.2 _ _ _ (H.ext F)).up aa
  .exact(T.2.2 _ _ _ (W.ext F)).up aa
  .exact(T.2.2 _ _ _ (YX.ext F)).up aa
 have K:=aW B;have D:=aW T.1;replace HX:=HX.aC T.2.1;replace S:=S.aA T.2.1;replace YK:=YK.aA T.2.1;have ZG:Hid (g8<g9):=aW YW;clear H W YX F Zg N YW ZA YY T G B;obtain⟨fz,YB⟩:∃f,pk3 P fb fc=f:=⟨_,rfl⟩;rw[YB] at K D;clear YB;have k6:=S.cell;have q1:(0:Int)<=i:=aa;have q2:(i:Int)<n3:=by have:=ZO.o;omega
 have YE:=aW (show Yw.rangeAt gb (ob+i*12) (ji b (LH i)) from fun j v hv=>HX.cell_ (ax.o j v hv));(go_wp2_with (refine σ rfl 57 _ rfl gb (ob+i*12) rf (ji b (LH i)) _ YE.o abg rfl lF (Hid.o ?_)));refine Qz ?_;(go_wp2_with (refine bF rfl 57 rfl _ uF (fun aP G=>Hid.o ?_)));refine Qz ?_;replace G:=Hid.o G;have Zt:=aW G;clear G;refine aY rfl 57 (.tmp 10) (.tmp 22) rfl Yw.heap.size 0 (ji b (LH i)) rf rf (by rw[Zt.o];exact(Blk.new Yw 57 oP.toArray).there (show 0+(ji b (LH i)).length<=oP.toArray.size from κ 12)) lF (xS _ _) (fun ZQ G=> ?_);refine Qp ?_;replace G:=Hid.o G;have T:=xN Zt.o G;have Yv:=aW T.1;replace HX:=HX.aC T.2;replace S:=S.aA T.2;replace YK:=YK.aA T.2;replace D:=D.aA T.2;replace K:=K.aA T.2;clear T Zt G YE k6;generalize Yw.heap.size=g10 at Yv⊢;have kk:ZQ.cell? (aM g10 1)=γ (.int .i64 b.kind):=(Yv.cell 1).trans rfl;have ko:ZQ.cell? (aM g10 2)=γ (.int .i64 b.obj):=(Yv.cell 2).trans rfl;have ke:ZQ.cell? (aM g10 3)=γ (.int .i64 b.en):=(Yv.cell 3).trans rfl;by_cases h1:b.kind=1
 .have ZB:(b.kind==1)=ε:=by rw[h1];rfl
  have H1:=aW h1;clear h1;have ho:=O8 ap.o H1.o;have O:=QP am.o;have h6:=YM.nl;obtain⟨l,Z⟩:∃l:Nat,b.obj=(l:Int):=⟨b.obj.toNat,aa⟩;obtain⟨e,YT⟩:∃e:Nat,b.en=(e:Int):=⟨b.en.toNat,aa⟩;rw[Z] at ko;rw[YT] at ke;have ar:l<6:=aa;have aE:e<2:=aa;have YL:=aW (And.intro Z YT);clear Z YT ho O h6;have Zm:=(tq (p:=p) YM.o (l:=l) (e:=e) ar aa _ (κ _)).1;obtain⟨nd,Yy⟩:∃n,eF s p l e=n:=⟨_,rfl⟩;have Zn:nd<=17:=by unfold eF at Yy;omega
  have Zv:=aW Yy;clear Yy Zm;have aB:=aX.cell ((HG.ext HX.o).cell_ (k:=1+l*2+e) (v:=.int .i64 (nd:Int)) aa ((dU aa).trans (by rw[show 1+l*2+e=1+2*l+e by omega,HV.o.ends l e ar aE,Zv.o])));have aw:=aX.cell ko;have az:=aX.cell ke;have p1:(0:Int)<=l:=aa;have p2:(l:Int)<6:=aa;have p3:(0:Int)<=e:=aa;have p4:(e:Int)<2:=aa;go_wp2_with fail;refine tN 12 [(6,.eq (.pointer (γ (aM gx 0)))),(11,.eq (.agg (bz 3 fun k=>E (k*18+nd)).toArray))] ?_;refine Qs ?_;refine En_ ?_;intro aG aI;refine Qs ?_;refine dL rf rf rf ?_ ?_
  .intro R I;have hW:=I.1;clear I;go_simp;exact⟨rfl,(Xm gx nd C E _ ((HG.ext HX.o).ext hW) Zn).mono fun e w' ⟨O,J⟩=>⟨_,O,J,rfl⟩⟩
  intro v_ ZI ZH YD;obtain⟨R,YC⟩:=YD;obtain rfl:v_=_:=YC.get;clear YC R;refine Qp ?_;refine bN ?_;intro wE I;have F:=I.ext;have YA:=aW F;clear I F;have N:=aW (eX (f:=fun k=>E (k*18+nd)) (YK.ext YA.o));refine aY rfl 102 (.tmp 8) (.tmp 38) rfl g8 (0) (bz 3 fun k=>E (k*18+nd)) rf rf N.o (j3 _) (dN 3 _) (fun we G=> ?_);refine Qp ?_;replace G:=Hid.o G;have Y:=aW (iw (HX.trans YA.o) Zc.o (YK.ext YA.o) G);clear G aB aw az kk ko ke;go_wp2_with fail;exact jo rfl rfl rf Y.o.1 z8 rfl (pF _) ⟨_,rfl,fun k hk=>Y.o.2.2 _ _ _ (by
   have h:=HV.v k nd hk aa;have e1:jS s p f i k=kE (bU s p f) (eO s p f) f k nd:=by
    unfold jS;simp only[YV.o,ι H1.o];rw[YL.o.1,YL.o.2,Hu,Hu,Zv.o]
   rw[e1];exact((h.ext HX.o).ext YA.o).up aa),Y.o.2.1⟩
 .have ZB:(b.kind==1)=ζ:=by simpa using h1
  have H1:=aW h1;clear h1;obtain⟨BA,bc,wv,Zj,Zf,Za⟩:=HV.bays;have Zp:=Za i YS.o;have L:way s p f i=iq s p i:=by unfold way;rw[YV.o,θ H1.o]
  rw[L] at Zp;obtain⟨gq,oq,rfl,YO,Zx⟩:=Zf.at_ YS.o;have kq:ZQ.cell? (aM gq (oq+i))=γ (wv i):=HX.cell_ (by have:=Zx 0 _ rfl;simpa using this);have ZL:=(HG.ext HX.o).cell_ (k:=13) aa ((dU aa).trans Zj);have q3:(i:Int)<s.bays.length:=by have:=YS.o;omega
  have Zy:=aW Zp;clear Zp L Zf Za Zj YO Zx;by_cases h2:b.kind=2
  .have YN:(b.kind==2)=ε:=by rw[h2];rfl
   have H2:=aW h2;clear h2;cases Zl:iq s p i with
   |none=>
    have V:wv i=.pointer δ:=by have:=Zy.o;rw[Zl] at this;exact this
    rw[V] at kq;have ai:=aW Zl;clear Zl V;have ho:=Tm ap.o H2.o;obtain⟨l,Z⟩:∃l:Nat,b.obj=(l:Int):=⟨b.obj.toNat,aa⟩;rw[Z] at ko;have Zz:l<n2:=by have:=Yz.l2;omega
    obtain⟨gs,os,av,ay,ao⟩:=Yz.srcs.at_ Zz;subst av;obtain⟨em,ac⟩:∃m,(s.srcs.getD l η).emf=m:=⟨_,rfl⟩;have ks:ZQ.cell? (aM gs (os+l*6+1))=γ (.int .i64 em):=HX.cell_ (by have:=ao 1 _ rfl;rw[<-ac];exact this);have ZX:=YM.src l (by have:=Yz.l2;omega);unfold ky at ZX;simp only[υ] at ZX;have YF:=fJ.1 ZX.1.1;rw[ac] at YF;have ZF:ZQ.cell? (aM g6 3)=γ (aO (γ (aM gs os)) n2 c2):=(S.cell 3).trans rfl;have p1:(0:Int)<=l:=aa;have p2:(l:Int)<n2:=aa;have aq:=aW (And.intro Z ac);have U:=aW YF;clear Z ac ho ay ao ZX YF;go_wp2_with fail;clear ks ZF kk ko ke kq ZL;refine(dR gf em _ (dz.ext HC.o HX.o) (by have:=U.o;omega) (by have:=U.o;omega)).mono ?_;rintro _ w5 ⟨_,rfl,M,F⟩;obtain⟨en,rfl⟩:=M.en;have HS:=aW (AtS.mk (n:=3) (YK.ext F) (D.ext F) (HX.trans F) Zc.o ZG.o);have Zw:=aW M;replace K:=K.aA F;clear M F YK D HX;have N:Hid (w5.there g9 6 6):=aW (HS.there (i:=1) aa);(go_wp2_with (refine aY rfl 42 (.tmp 78) (.tmp 77) rfl g9 (6) (en.cells) rf rf N.o cO (eP en) (fun w6 G=>Hid.o ?_)));refine Qz ?_;replace G:=Hid.o G;obtain⟨YP,af⟩:=HS.put (i:=1) (a:=6) aa en aa G;have B:ng w6 3 (upd fz 1 en) (jS s p f i) 4600:=fun k hk=>by
     have e1:jS s p f i k=if k=1 then GQ.i em 0 else GQ.i 0 0:=(by unfold jS;simp only[YV.o,θ H1.o,ι H2.o,ai.o];rw[aq.o.1,Hu,aq.o.2]);rw[e1];by_cases ZB:k=1
     .subst ZB;rw[upd_same,ι rfl];exact(Zw.mod af HS.far).up aa
     .rw[upd_ne ZB,θ ZB];exact(K.o k hk).mod af HS.far
    have ZC:=aW B;have YK:=aW YP.b4;have D:=aW YP.b5;have HX:=aW YP.x;clear B YP af HS N G K Zw;have YE:=aW D.rng;have N:=aW (eX (f:=(upd fz 1 en)) YK.o);(go_wp2_with (refine σ rfl 102 _ rfl g9 (0) rf (bz 3 (upd fz 1 en)) _ YE.o z8 rfl (j3 _) (Hid.o ?_)));refine Qz ?_;refine aY rfl 102 (.tmp 8) (.tmp 79) rfl g8 (0) (bz 3 (upd fz 1 en)) rf rf N.o (j3 _) (dN 3 _) (fun we G=> ?_);refine Qp ?_;replace G:=Hid.o G;have Y:=aW (iw HX.o Zc.o YK.o G);clear G;go_wp2_with fail;exact jo rfl rfl rf Y.o.1 z8 rfl (pF _) ⟨_,rfl,fun k hk=>Y.o.2.2 _ _ _ (ZC.o k hk),Y.o.2.1⟩
   |some br=>
    have V:=Zy.o;rw[Zl] at V;obtain⟨gw,ow,bv,Zk,Yx,Yu,YJ,YZ,YI,-⟩:=V;rw[Zk] at kq;have YU:=yF YM.o YS.o Zl;have ZE:=YU.1.a;have kf:ZQ.cell? (aM gw ow)=γ (.int .i64 (br.a:Int)):=HX.cell_ (by have:=YJ 0 _ rfl;rw[YZ] at this;exact this);have ai:=aW Zl;have Zd:=aW ZE;clear Zl Zk Yx Yu YJ YZ YI YU;go_wp2_with fail;clear kk ko ke kq ZL kf;refine(Xm gx br.a C E _ (HG.ext HX.o) (by have:=Zd.o;omega)).mono ?_;rintro _ w5 ⟨rfl,F⟩;replace HX:=HX.aC F;replace YK:=YK.aA F;clear F;have N:=aW (eX (f:=fun k=>E (k*18+br.a)) YK.o);(go_wp2_with (refine aY rfl 102 (.tmp 8) (.tmp 64) rfl g8 (0) (bz 3 fun k=>E (k*18+br.a)) rf rf N.o (j3 _) (dN 3 _) (fun we G=>Hid.o ?_)));refine Qz ?_;replace G:=Hid.o G;have Y:=aW (iw HX.o Zc.o YK.o G);clear G;go_wp2_with fail;exact jo rfl rfl rf Y.o.1 z8 rfl (pF _) ⟨_,rfl,fun k hk=>Y.o.2.2 _ _ _ (by
     have h:=HV.v k br.a hk (by have:=Zd.o;omega);have e1:jS s p f i k=kE (bU s p f) (eO s p f) f k br.a:=by
      unfold jS;simp only[YV.o,θ H1.o,ι H2.o,ai.o]
     rw[e1];exact(h.ext HX.o).up aa),Y.o.2.1⟩
  .have YN:(b.kind==2)=ζ:=by simpa using h2
   have H2:=aW h2;clear h2;have YE:=aW D.rng;have N:=aW (eX (f:=fz) YK.o);(go_wp2_with (refine σ rfl 102 _ rfl g9 (0) rf (bz 3 fz) _ YE.o z8 rfl (j3 _) (Hid.o ?_)));refine Qz ?_;refine aY rfl 102 (.tmp 8) (.tmp 79) rfl g8 (0) (bz 3 fz) rf rf N.o (j3 _) (dN 3 _) (fun we G=> ?_);refine Qp ?_;replace G:=Hid.o G;have Y:=aW (iw HX.o Zc.o YK.o G);clear G;go_wp2_with fail;exact jo rfl rfl rf Y.o.1 z8 rfl (pF _) ⟨_,rfl,fun k hk=>Y.o.2.2 _ _ _ (by have h:=K.o k hk;have e1:jS s p f i k=GQ.i 0 0:=(by unfold jS;simp only[YV.o,θ H1.o,θ H2.o]);rw[e1];exact h),Y.o.2.1⟩
def lu:BrV:=⟨0,0,zEn,zEn,zEn⟩
def brc (n:Nat) (B:Nat->BrV):List Value:=(List.range n).flatMap fun j=>(B j).cs
theorem nT(n B):brc (n+1) B=brc n B++(B n).cs:=by
 unfold brc;exact Abv
def iU(b:BrV):b.cs.length=20:=rfl
def jQ:∀(n:Nat) (B:Nat->BrV),(brc n B).length=n*20
 |0,_=>rfl
 |n+1,B=>by rw[nT,pz,jQ n B,iU];omega
def yV:∀{n:Nat} {B D:Nat->BrV},(∀i,i<n->B i=D i)->brc n B=brc n D
 |0,_,_,_=>rfl
 |n+1,B,D,h=>by rw[nT,nT,yV (fun i hi=>h i aa),h n aa]
def wI{B j t}(C:t<20):∀{n:Nat},j<n->(brc n B)[j*20+t]? =(B j).cs[t]?
 |0,h=>absurd h aa
 |n+1,h=>by
  rw[nT];by_cases e:j=n
  .subst e;rw[nG AdU,jQ,show j*20+t-j*20=t by omega]
  .rw[Ω AdU];exact wI C aa
def Ap(a B):∀b,brc a B++brc b (fun _=>lu)=brc (a+b) (fun i=>if i<a then B i else lu)
 |0=>by
  show brc a B++[]=_;rw[Z6];exact yV fun i hi=>by rw[ι hi]
 |b+1=>by
  rw[nT,<-I5,Ap a B b,show a+(b+1)=(a+b)+1 by omega,nT,θ aa]
def NT{B k n}(r)(G:k<n):(brc n B).take (k*20)++r.cs++(brc n B).drop (k*20+20)=brc n (upd B k r):=by
 apply aal;intro p;have l1:((brc n B).take (k*20)).length=k*20:=by rw[Bn,jQ];omega
 by_cases hp:p<n*20
 .obtain⟨j,t,rfl,C⟩:∃j t,p=j*20+t/\t<20:=⟨p/20,p%20,aa,aa⟩;have D:j<n:=aa;rw[wI C D];by_cases e1:j<k
  .rw[I5,Ω (by rw[l1];omega),PI aa,wI C D,upd_ne aa]
  .by_cases F:j=k
   .subst F;rw[I5,nG (by rw[l1];omega),l1,show j*20+t-j*20=t by omega,Ω (by rw[iU];exact C),upd_same]
   .rw[nG (by rw[pz,l1,iU];omega),pz,l1,iU,Zb,show k*20+20+(j*20+t-(k*20+20))=j*20+t by omega,wI C D,upd_ne F]
 .rw[qb (by simp only[pz,l1,iU,abL,jQ];omega),qb AdU]
theorem PX(b:BrV):∀(t:Nat) (v:Value),b.cs[t]? =γ v->nX v=ε:=by
 intro t v hv;have B:t<20:=by have:=(μ.1 hv).1;rwa[iU] at this
 have Q:∀u∈b.cs,nX u=ε:=by
  intro u j;unfold BrV.cs at j;simp only[kC,Ha,aaH] at j;rcases j with rfl|rfl|rfl|rfl|rfl|rfl|rfl|rfl|rfl|rfl|rfl|rfl|rfl|rfl|rfl|rfl|rfl|rfl|rfl|rfl<;>rfl
 exact Q v (wo hv)
def Hr{n:Nat}{B}(p:Nat)(v)(h:(brc n B)[p]? =γ v):nX v=ε:=by
 have hp:p<n*20:=by have:=(μ.1 h).1;rwa[jQ] at this
 obtain⟨j,t,rfl,C⟩:∃j t,p=j*20+t/\t<20:=⟨p/20,p%20,aa,aa⟩;rw[wI C aa] at h;exact PX _ t v h
def Uv:(prog.info? 167).map (fun i=>(i.zero,i.size,i.bytes))=γ (γ (.agg lu.cs.toArray),20,304):=ah
def oI (n:Nat) (l:List Value):List Value:=(List.range n).flatMap fun _=>l
theorem qN(n l):oI (n+1) l=oI n l++l:=by
 unfold oI;exact Abv
def qm(l):∀n,(oI n l).length=n*l.length
 |0=>by simp[oI]
 |n+1=>by rw[qN,pz,qm l n,Nat.succ_mul]
def Ea{l j t}(C:t<l.length):∀{n:Nat},j<n->(oI n l)[j*l.length+t]? =l[t]?
 |0,h=>absurd h aa
 |n+1,h=>by
  rw[qN];by_cases e:j=n
  .subst e;rw[nG (by rw[qm];omega),qm,show j*l.length+t-j*l.length=t by omega]
  .have B:j<n:=aa;have D:j*l.length+l.length<=n*l.length:=by rw[<-Nat.succ_mul];exact pq _ B
   rw[Ω (by rw[qm];omega)];exact Ea C B
theorem qY(l)(D:0<l.length)(n):madeCells l.toArray (n*l.length)=(oI n l).toArray:=by
 unfold madeCells;apply Array.ext';apply aal;intro p;by_cases hp:p<n*l.length
 .have B:p%l.length<l.length:=pu _ D;have hd:p/l.length<n:=(aaQ D).2 hp;have e:p=p/l.length*l.length+p%l.length:=(Nat.div_add_mod' p l.length).symm;have C:=Ea (l:=l) (j:=p/l.length) (t:=p%l.length) B hd;rw[<-e] at C;rw[C];simp[Aa,hp,aaz,B]
 .rw[qb ae,qb (by simp[qm];omega)]
def LB(n):oI n lu.cs=brc n fun _=>lu:=rfl
def Ig(n):Builtin.zeroCells (Value.agg lu.cs.toArray).cells n=(brc n fun _=>lu).toArray:=by
 rw[<-LB,<-qY _ aj];rfl
def oD (w:World) (B0:Nat) (v:Value) (k:Nat) (B:Nat->BrV):Prop:=
 (v=.slice δ 0 0/\k=0)\/∃(g N:Nat) (B':Nat->BrV),v=.slice (γ (aM g 0)) k N/\B0<=g/\k<=N/\Blk w g 167 (brc N B').toArray/\∀i,i<k->B' i=B i
def oD.ext{w w' B0 v k B}(h:oD w B0 v k B)(e:Ext w w'):oD w' B0 v k B:=by
 rcases h with h|⟨g,N,B',D,j,G,C,F⟩
 .exact .inl h
 .exact .inr ⟨g,N,B',D,j,G,C.ext e,F⟩
def oD.mod{S w w' B0 v k B}(h:oD w B0 v k B)(m:Mod S w w')(hs:∀g,v.ownBlock=γ g->¬S g):oD w' B0 v k B:=by
 rcases h with h|⟨g,N,B',j,C,G,D,F⟩
 .exact .inl h
 .exact .inr ⟨g,N,B',j,C,G,D.mod m (hs g (by rw[j];rfl)),F⟩
def oD.far{w B0 v k B}(h:oD w B0 v k B):iB (fun g=>v.ownBlock=γ g) w:=fun g C _=>by
 rcases h with ⟨rfl,_⟩|⟨g',N,B',rfl,F,H,D,G⟩
 .cases C
 .have:g'=g:=by simpa[Value.ownBlock] using C
  subst this;exact⟨_,_,D,fun j v hv=>Hr j v (by rwa[Γ] at hv)⟩
def oD.low{w B0 v k B}(h:oD w B0 v k B){g}(j:v.ownBlock=γ g):B0<=g/\g<w.heap.size:=by
 rcases h with ⟨rfl,_⟩|⟨g',N,B',rfl,C,G,D,F⟩
 .cases j
 .have:g'=g:=by simpa[Value.ownBlock] using j
  subst this;exact⟨C,D.lt⟩
def oD.arr{w B0 v k B}(h:oD w B0 v k B):∃A c,v=.slice A k c/\Arr w A k 20 (fun i=>(B i).cs)/\∀b o,A=γ ⟨b,o,δ⟩->B0<=b:=by
 rcases h with ⟨rfl,rfl⟩|⟨g,N,B',rfl,G,I,j,F⟩
 .exact⟨δ,0,rfl,fun h=>absurd h aa,fun b o e=>by cases e⟩
 .refine⟨γ ⟨g,0,δ⟩,N,rfl,fun H=>⟨g,0,rfl,j.lt,fun i hi t u C=> ?_⟩,fun b o e=>by injection e with e;injection e with e1;omega⟩;have D:t<20:=by have:=(μ.1 C).1;rwa[iU] at this
  rw[j.cell,Γ,aaC,wI D aa,F i hi];exact C
def Kk{w B0 k v B}(h:oD w B0 v k B)(hk:k<=1000)(Z:B0<=w.heap.size){r R}(hb:Blk w R 167 r.cs.toArray)(c F):
  ∃G w',(Builtin.append_ #[96,96] F #[v,aO (γ (aM R 0)) 1 c]).run prog w=.ok G w'/\oD w' B0 G (k+1) (upd B k r)/\Mod (fun g=>v.ownBlock=γ g) w w'/\(∀g,G.ownBlock=γ g->v.ownBlock=γ g\/g=w.heap.size):=by
 obtain⟨i0,O,S,J,T⟩:=abM Uv;have hn:∀j u,r.cs[j]? =γ u->w.cell? ((⟨R,0,δ⟩:Addr).add j)=γ u:=fun j u V=>by
  have:=acy hb j u;simpa using this (by simpa using V)
 have h1:∀u∈r.cs,u.oneCell'=ε:=yY r;have H:brc 1 (fun _=>r)=r.cs:=by rw[nT];rfl
 rcases h with ⟨rfl,rfl⟩|⟨g,N,B',rfl,U,I,Q,Y⟩
 .have L:=run_append_nil (P:=prog) w 96 F 167 i0 (.agg lu.cs.toArray) acZ O S ⟨R,0,δ⟩ 1 c r.cs (by rw[J];rfl) hn aa aa (by rw[T];omega);have C:=grownCap_ge w 1 0 167;have ec:(r.cs.toArray++Builtin.zeroCells (Value.agg lu.cs.toArray).cells (grownCap w 1 0 167-1))=(brc (grownCap w 1 0 167) (fun i=>if i<1 then r else lu)).toArray:=by
   rw[Ig];have:=Ap 1 (fun _=>r) (grownCap w 1 0 167-1);rw[show 1+(grownCap w 1 0 167-1)=grownCap w 1 0 167 by omega] at this;rw[<-this,H];simp
  rw[ec] at L;refine⟨_,_,L,.inr ⟨w.heap.size,_,(fun i=>if i<1 then r else lu),rfl,Z,C,?_,fun i hi=> ?_⟩,ae0 ((Ext.refl w).drew.alloc _),fun g U=>Or.inr (by simpa[Value.ownBlock] using U.symm)⟩
  .have:=Blk.new w.drew 167 (brc (grownCap w 1 0 167) (fun i=>if i<1 then r else lu)).toArray;exact this
  .obtain rfl:i=0:=aa;show r=upd B 0 r 0;rw[upd_same]
 .have W:(brc N B').toArray.size=N*20:=by simp[jQ]
  by_cases K:k+1<=N
  .have L:=run_append_room (P:=prog) w 96 F 167 i0 acZ O g k N _ Q ⟨R,0,δ⟩ 1 c r.cs (by rw[J];rfl) hn h1 K (by rw[J,W,iU];omega);have ec:((brc N B').toArray.toList.take (k*i0.size)++r.cs++(brc N B').toArray.toList.drop (k*i0.size+r.cs.length)).toArray=(brc N (upd B' k r)).toArray:=by
    rw[J,iU];exact congrArg List.toArray (NT r aa)
   rw[ec] at L;refine⟨_,_,L,.inr ⟨g,N,(upd B' k r),rfl,U,K,KQ Q,fun i hi=> ?_⟩,(agc w g _).mono fun j hj=>by subst hj;rfl,fun g' M=>Or.inl M⟩;by_cases e:i=k
   .subst e;rw[upd_same,upd_same]
   .rw[upd_ne e,upd_ne e];exact Y i aa
  .obtain rfl:N=k:=aa;have ho:∀j u,(brc N B')[j]? =γ u->w.cell? ((⟨g,0,δ⟩:Addr).add j)=γ u:=fun j u V=>acy Q j u (by simpa using V);have L:=run_append_grow (P:=prog) w 96 F 167 i0 (.agg lu.cs.toArray) acZ O S ⟨g,0,δ⟩ N N (brc N B') (by rw[J,jQ]) ho ⟨R,0,δ⟩ 1 c r.cs (by rw[J];rfl) hn aa aa (by
    have:=nextslicecap_le (need:=N+1) (old:=N) aa;rw[T];omega)
   have C:=grownCap_ge w (N+1) N 167;have ec:((brc N B').toArray++r.cs.toArray++Builtin.zeroCells (Value.agg lu.cs.toArray).cells (grownCap w (N+1) N 167-(N+1)))=(brc (grownCap w (N+1) N 167) (fun i=>if i<N+1 then upd B' N r i else lu)).toArray:=by
    rw[Ig];have:=Ap (N+1) (upd B' N r) (grownCap w (N+1) N 167-(N+1));rw[show N+1+(grownCap w (N+1) N 167-(N+1))=grownCap w (N+1) N 167 by omega] at this;rw[<-this,nT,upd_same,yV (B:=upd B' N r) (D:=B') (fun i hi=>upd_ne aa)];simp
   rw[ec] at L;refine⟨_,_,L,.inr ⟨w.heap.size,_,(fun i=>if i<N+1 then upd B' N r i else lu),rfl,Z,C,?_,fun i hi=> ?_⟩,ae0 ((Ext.refl w).drew.alloc _),fun g' M=>Or.inr (by simpa[Value.ownBlock] using M.symm)⟩
   .have:=Blk.new w.drew 167 (brc (grownCap w (N+1) N 167) (fun i=>if i<N+1 then upd B' N r i else lu)).toArray;exact this
   .show(if i<N+1 then upd B' N r i else lu)=upd B N r i;rw[ι hi];by_cases e:i=N
    .subst e;rw[upd_same,upd_same]
    .rw[upd_ne e,upd_ne e];exact Y i aa
def shf (kind:Int):Nat:=if kind=2\/kind=6\/kind=9 then 1 else if kind=3\/kind=4\/kind=7 then 2 else 0
theorem P6(kind):shf kind<3:=by
 unfold shf;split
 .omega
 .split<;>omega
section
variable {x y d c:Nat->GQ} {z0 z1 k:GQ} {sh:Nat}
def PQ.rX(p t:PQ):p+t=t+p:=by ext<;>simp only[PQ.qR,PQ.qJ,GQ.bT,GQ.bS]<;>grind
def PQ.sH(p t s:PQ):p+t+s=p+(t+s):=by ext<;>simp only[PQ.qR,PQ.qJ,GQ.bT,GQ.bS]<;>grind
theorem xY(h:∀n,n<3->d n=x n-y n)(m):phv x sh m+(phv y sh m).sc (GQ.i (-1) 0)=phv d sh m:=by
 unfold phv;rw[UR h,afb,afv]
theorem Nf(hs:sh<3):phv d sh 0+(phv d sh 1+phv d sh 2)=⟨GQ.i 3 0*d 0,GQ.i 0 0⟩*PQ.zp (8*sh%12):=by
 rw[<-Tq (q:=d)];unfold phv;rw[<-afb,<-afb];have j:sh=0\/sh=1\/sh=2:=aa;congr 1;rcases j with rfl|rfl|rfl
 .rfl
 .show phq d 2+(phq d 0+phq d 1)=_;rw[PQ.rX,PQ.sH]
 .show phq d 1+(phq d 2+phq d 0)=_;rw[<-PQ.sH,PQ.rX]
def Tw(hs:sh<3)(j:d 0=c 0*z0):phv d sh 0+(phv d sh 1+phv d sh 2)=(phv c sh 0+(phv c sh 1+phv c sh 2)).sc z0:=by
 rw[Nf hs,Nf hs,afv,j];congr 1;ext<;>simp only[PQ.sc,GQ.bL,GQ.bK,GQ.dH,GQ.dC]<;>grind
theorem Q0(j:d 1=c 1*z1)(B:d 2=c 2*z1)(a b):phv d sh a+(phv d sh b).sc (GQ.i (-1) 0)=(phv c sh a+(phv c sh b).sc (GQ.i (-1) 0)).sc z1:=by
 unfold phv;rw[afv,afv,<-afb,<-afb,afv,SI j B]
end
section
variable {s:StD} {p:dM} {f:eD}
theorem Qf(z:Imp):zq z 1 1=GQ.i z.r z.x:=by
 unfold zq;ext<;>simp only[GQ.dH,GQ.dC]<;>grind
end
structure Gr0 (w0 w:World) (gx gf:Nat) (C:Nat->Value) (nb:Nat) (Bv:Nat->BrV) (brs:List BrD):Prop where
 g:fU w gx 105 393 (fT C fun _=>zEn)
 c:dz w gf
 m:Mod (fun k=>k=gx) w0 w
 own:oD w w0.heap.size (C 0) nb Bv
 len:brs.length=nb
 br:∀i,i<nb->sN w (Bv i) (brs.getD i η)
 n32:∀i,i<33->nX (C i)=ε
 lx:gx<w0.heap.size
 lf:gf<w0.heap.size
section
variable {w0 w w' w2:World} {gx gf nb:Nat} {C:Nat->Value} {Bv:Nat->BrV} {brs:List BrD}
def Gr0.ne(h:Gr0 w0 w gx gf C nb Bv brs):gf≠gx:=Blk.fw h.c h.g aj
def Gr0.far(h:Gr0 w0 w gx gf C nb Bv brs):iB (fun k=>k=gx) w:=afm h.g (fun k _=>p9 h.n32 k) (fun k j=>j)
def Gr0.ext(h:Gr0 w0 w gx gf C nb Bv brs)(x:Ext w w'):Gr0 w0 w' gx gf C nb Bv brs:=⟨h.g.ext x,h.c.ext x,h.m.trans (ae0 x),h.own.ext x,h.len,fun i hi=>(h.br i hi).ext x,h.n32,h.lx,h.lf⟩
def Gr0.mod{S}(h:Gr0 w0 w gx gf C nb Bv brs)(m:Mod S w w')(hs:∀k,S k->w0.heap.size<=k)(B:iB S w)(D:∀g,(C 0).ownBlock=γ g->¬S g):Gr0 w0 w' gx gf C nb Bv brs:=by
 have lx:=h.lx;have lf:=h.lf;refine⟨h.g.mod m (fun e=>by have:=hs _ e;omega),Blk.mod h.c m (fun e=>by have:=hs _ e;omega),?_,h.own.mod m D,h.len,fun i hi=>(h.br i hi).fQ m B,h.n32,h.lx,h.lf⟩;exact⟨m.os.trans h.m.os,m.tape.trans h.m.tape,m.output.trans h.m.output,Θ h.m.size m.size,fun k j hn=>(m.block k (ο j h.m.size) (fun e=>by have:=hs _ e;omega)).trans (h.m.block k j hn)⟩
theorem Fg{C E i}(v)(hi:i<33)(k):upd (fT C E) i v k=fT (upd C i v) E k:=by
 by_cases h:k=i
 .subst h;rw[upd_same,dU hi,upd_same]
 .rw[upd_ne h];unfold fT;by_cases j:k<33
  .rw[ι j,ι j,upd_ne h]
  .rw[θ j,θ j]
def Gr0.set(h:Gr0 w0 w gx gf C nb Bv brs){i}(v)(hi:i<33)(F:i≠0)(hv:nX v=ε):Gr0 w0 (w.setCell ⟨gx,i,δ⟩ v) gx gf (upd C i v) nb Bv brs/\Mod (fun k=>k=gx) w (w.setCell ⟨gx,i,δ⟩ v):=by
 have B:Mod (fun k=>k=gx) w (w.setCell ⟨gx,i,δ⟩ v):=Mod.set _ _ _ _ rfl;have J:∀g,(C 0).ownBlock=γ g->g≠gx:=fun g G=>by have:=(h.own.low G).1;have:=h.lx;omega
 refine⟨⟨(h.g.set v aa).congr (fun k _=>Fg v hi k),Blk.mod h.c B h.ne,h.m.trans B,?_,h.len,fun j D=>(h.br j D).fQ B h.far,fun j D=> ?_,h.lx,h.lf⟩,B⟩
 .rw[upd_ne (abk F)];exact h.own.mod B J
 .by_cases e:j=i
  .subst e;rw[upd_same];exact hv
  .rw[upd_ne e];exact h.n32 j D
def Oz{l:List BrD}{b i}:(l++[b]).getD i η=if i<l.length then l.getD i η else if i=l.length then b else η:=by
 rw[π,π];by_cases h:i<l.length
 .rw[ι h,Ω h]
 .rw[θ h,nG aa];by_cases j:i=l.length
  .rw[ι j,j,aaW];rfl
  .rw[θ j,qb ae];rfl
def Qi{w B0 v k B}(h:oD w B0 v k B):nX v=ε:=by
 rcases h with ⟨rfl,_⟩|⟨g',N,B',rfl,_⟩<;>rfl
def Gr0.push(h:Gr0 w0 w gx gf C nb Bv brs){r b G}(O:sN w r b)(M:oD w' w0.heap.size G (nb+1) (upd Bv nb r))(I:Mod (fun g=>(C 0).ownBlock=γ g) w w')(N:w2=w'.setCell ⟨gx,0,δ⟩ G):
  Gr0 w0 w2 gx gf (upd C 0 G) (nb+1) (upd Bv nb r) (brs++[b])/\Mod (fun g=>g=gx\/(C 0).ownBlock=γ g) w w2/\iB (fun g=>g=gx\/(C 0).ownBlock=γ g) w:=by
 subst N;have D:∀g,(C 0).ownBlock=γ g->w0.heap.size<=g:=fun g F=>(h.own.low F).1;have lx:=h.lx;have lf:=h.lf;have J:∀g,(C 0).ownBlock=γ g->g≠gx:=fun g F=>by have:=D g F;omega
 have g1:fU w' gx 105 393 (fT C fun _=>zEn):=h.g.mod I (fun e=>J _ e rfl);have c1:dz w' gf:=Blk.mod h.c I (fun e=>by have:=D _ e;omega);have B:Mod (fun k=>k=gx) w' (w'.setCell ⟨gx,0,δ⟩ G):=Mod.set _ _ _ _ rfl;have Q:iB (fun k=>k=gx) w':=afm g1 (fun k _=>p9 h.n32 k) (fun k K=>K);have S:∀g,G.ownBlock=γ g->¬g=gx:=fun g F=>by have:=(M.low F).1;omega
 have H:Mod (fun g=>g=gx\/(C 0).ownBlock=γ g) w (w'.setCell ⟨gx,0,δ⟩ G):=
  ⟨B.os.trans I.os,B.tape.trans I.tape,B.output.trans I.output,Θ I.size B.size,fun k K hn=>(B.block k (ο K I.size) (fun e=>hn (Or.inl e))).trans (I.block k K (fun e=>hn (Or.inr e)))⟩
 have hF:iB (fun g=>g=gx\/(C 0).ownBlock=γ g) w:=fun g F Z=>by
  rcases F with F|F
  .exact h.far g F Z
  .exact h.own.far g F Z
 refine⟨⟨(g1.set G aa).congr (fun k _=>Fg G aa k),Blk.mod c1 B h.ne,?_,?_,by rw[pz,h.len];rfl,fun i hi=> ?_,fun j P=> ?_,h.lx,h.lf⟩,H,hF⟩
 .exact⟨H.os.trans h.m.os,H.tape.trans h.m.tape,H.output.trans h.m.output,Θ h.m.size H.size,fun k K hn=>(H.block k (ο K h.m.size) (fun e=>by
   rcases e with e|e
   .exact hn e
   .have:=D _ e;omega)).trans (h.m.block k K hn)⟩
 .rw[upd_same];exact M.mod B S
 .rw[Oz,h.len];by_cases L:i<nb
  .rw[ι L,upd_ne aa];exact(h.br i L).fQ H hF
  .rw[θ L,ι aa,show i=nb by omega,upd_same];exact O.fQ H hF
 .by_cases e:j=0
  .subst e;rw[upd_same];exact Qi M
  .rw[upd_ne e];exact h.n32 j P
end
def Fp (B:Nat) (PA PB:Option Addr) (V:Nat) (K:Nat->Hd):Prop:=
 (∀b o,PA=γ ⟨b,o,δ⟩->B<=b)/\(∀b o,PB=γ ⟨b,o,δ⟩->B<=b)/\∀i,i<V->∀b o,(K i).A=γ ⟨b,o,δ⟩->B<=b
def iR.mod{S w w' B PA j PB V K p}(h:iR w PA j PB V K p)(hn:Fp B PA PB V K)(m:Mod S w w')(hS:∀g,S g->g<B):iR w' PA j PB V K p:=
 ⟨h.lc,h.closed.mod m (fun b o e hs=>by have:=hn.1 b o e;have:=hS b hs;omega),h.ll,h.rows.mod m (fun b o e hs=>by have:=hn.2.1 b o e;have:=hS b hs;omega),h.lens,fun i hi=>(h.ints i hi).mod m (fun b o e hs=>by have:=hn.2.2 i hi b o e;have:=hS b hs;omega),h.mx⟩
structure Kp3 (w:World) (a b c:Nat) where
 val:World
 ha:val.heap[a]? =w.heap[a]?
 hb:val.heap[b]? =w.heap[b]?
 hc:val.heap[c]? =w.heap[c]?
instance (w:World) (a b c:Nat):Nonempty (Kp3 w a b c):=⟨⟨w,rfl,rfl,rfl⟩⟩
theorem BG{w w':World}{g i v}(h:w'.heap[g]? =w.heap[g]?)(hv:w.cell? (aM g i)=γ v):w'.cell? (aM g i)=γ v:=by
 unfold World.cell? at hv⊢;simp only[h] at hv⊢;exact hv
def Kp3.a{w a b c i v}(h:w.cell? (aM a i)=γ v)(x:Kp3 w a b c):x.val.cell? (aM a i)=γ v:=BG x.ha h
def Kp3.b{w a b c i v}(h:w.cell? (aM b i)=γ v)(x:Kp3 w a b c):x.val.cell? (aM b i)=γ v:=BG x.hb h
def Kp3.of{S w w' a b c}(m:Mod S w w')(la:a<w.heap.size)(lb:b<w.heap.size)(lc:c<w.heap.size)(ha:¬S a)(hb:¬S b)(hc:¬S c):∃x:Kp3 w a b c,w'=x.val:=
 ⟨⟨w',m.block a la ha,m.block b lb hb,m.block c lc hc⟩,rfl⟩
def nQ{w ops rest o a Q}(H:o.guard=δ)(s x:Operand)(L:o.op=.call {callee:=.builtin .append,args:= #[s,x],argTypes:= #[96,96]}){B0 k j c v B r}(hs:a.eval s=v)(J:a.eval x=.slice (γ (aM j 0)) 1 c)(K:oD w B0 v k B)(D:k<=1000)(N:B0<=w.heap.size)(hb:Blk w j 167 r.cs.toArray)(h:∀G w',oD w' B0 G (k+1) (upd B k r)->Mod (fun g=>v.ownBlock=γ g) w w'->(∀g,G.ownBlock=γ g->v.ownBlock=γ g\/g=w.heap.size)->wpList prog ops Q rest (a.put o.dst G) w'):
  wpList prog ops Q (o::rest) a w:=by
 obtain⟨G,w',I,C,M,F⟩:=Kk K D N hb c o.type;exact LW H s x _ L hs J I (h G w' C M F)
theorem DY{PA pn pc PB V qc K p}(w)(hp:iR w PA pn PB V K p)(hb:pn<=1000)(hq:V<=1000)(hk:∀i,i<V->(K i).n<=1000):
  Calls prog 82 #[lK PA pn pc PB V qc,ζ] w fun e w'=>∃YP YZ YT Ze R,e=.returned (lK YP pn YZ YT V Ze)/\iR w' YP pn YT V R (resolve 0 p)/\(∀i,i<V->(R i).n=(K i).n)/\Fp w.heap.size YP YT V R/\Ext w w':=by
 have D:Hid (Ext w (aL (aL w #[aO PA pn pc,aO PB V qc] 31) #[(),()] 31)):=aW ((Ext.new _ _).trans (Ext.new _ _));have HP:=aW (hp.ext D.o);clear hp;have YM:=aW hk;clear hk;obtain⟨-,Yw,U⟩:=ah2 w 31 #[aO PA pn pc,aO PB V qc] 31 #[(),()];unfold lK;go_enter func82,ntmps82;go_wp2_with fail;refine(KM PA pn pc p.closed _ HP.closed HP.lc aa).mono ?_;rintro e w1 ⟨v1,rfl,ho,J⟩;have Zr:=aW (D.trans J);have YL:=aW (HP.ext J);have YB:=aW (Yw.ext J);have ac:=aW (U.ext J);obtain⟨A1,c1,rfl,_,_,_⟩:=jH ho;have T:=aW (ho.less (base':=w.heap.size) ae);have YA:w.heap.size+1<w1.heap.size:=(U.ext J).lt;have YY:w.heap.size<w1.heap.size:=aa;have C:=YB.cell;clear J ho HP Yw U;obtain⟨-,YN⟩:=an1 w1 31 #[aO A1 pn c1,()];have YS:=aW YN;clear YN;have Zq:Hid (Ext w1 (aL w1 #[aO A1 pn c1,()] 31)):=aW (Ext.new _ _);go_wp2_with fail;generalize ZM:w1.alloc (.cells #[aO A1 pn c1,()] 31)=w6 at YS Zq⊢;clear ZM;generalize Zy:w1.heap.size=g6 at YS YY YA⊢;have ZG:=aW Zy;clear Zy;clear C;go_loopw [19] (fun i wr=>∃(k:Nat) (v:Value) (R:Nat->Hd),k<=V/\i=.int .i64 (k:Int)/\Blk wr g6 31 #[aO A1 pn c1,v]/\wr.ownsRow (g6+1) 92 1 v k (zk R k)/\xq wr (g6+1) k R (fun i=>(p.links.getD i []).map (mv 0))/\(∀i,i<k->(R i).n=(K i).n)/\Ext w1 wr) (aT V)
 case atStart=>exact⟨0,_,K,aa,rfl,YS.o,RS _ _ _ _,fun i hi=>absurd hi aa,fun i hi=>absurd hi aa,Zq.o⟩
 case round=>
  clear YS Zq;obtain⟨k,v,R,G,rfl,YN,F,N,O,J⟩:=hrel;obtain⟨wv,Zk⟩:∃wv,wv=wr:=⟨_,rfl⟩;subst Zk;obtain⟨Av,cv,rfl,_,_,_⟩:=jH F;have YS:=aW YN;have B:=aW F;have M:=aW N;have Zl:=aW O;have HX:=aW J;have Zv:g6<wv.heap.size:=YN.lt;clear YN F N O J;by_cases Yu:k<V
  .have hd:decide (k<V)=ε:=ae;have Zn:=YM.o k Yu;obtain⟨pb,Yy,S,YV,f0⟩:=(YL.ext HX.o).rows.one Yu;have YQ:Hid ((p.links.getD k []).length=(K k).n):=aW (YL.lens k Yu);have Y:=aW ((YL.ext HX.o).ints k Yu);unfold Hd.v at f0;generalize Zc:K k=kh at f0 YQ Y Zn;have YF:Hid ((K k).n=kh.n):=aW (by rw[Zc]);clear Zc;subst S;generalize Z:p.links.getD k []=l at YQ Y;have HL:=aW Z;clear Z;have Yx:w.heap.size<wv.heap.size:=aa;have Q:w.heap.size+1<wv.heap.size:=aa;go_wp2_with fail;refine(KS kh.A kh.n kh.c l _ Y.o YQ.o aa).mono ?_;rintro e w2 ⟨v3,rfl,YI,P⟩;obtain⟨A3,c3,rfl,_,_,_⟩:=jH YI;have Za:=aW YI;have W:=aW P;have ZU:=P.size;clear YI P f0;go_wp2_with fail
   go_loopw [27] (fun i wq=>∃t:Nat,t<=kh.n/\i=.int .i64 (t:Int)/\wq.ownsRow wv.heap.size 3 1 (.slice A3 kh.n c3) kh.n ((wJ (mv 0) l t).map (.int .i64))/\Mod (fun g=>(Value.slice A3 kh.n c3).ownBlock=γ g) w2 wq) (aT kh.n)
   case atStart=>exact⟨0,aa,rfl,by rw[SQ];exact Za.o,Mod.refl _ _⟩
   case round=>
    obtain⟨t,ht,rfl,ZE,YU⟩:=hrel;have YC:=aW ZE;have Zo:=aW YU;clear ZE YU;by_cases I:t<kh.n
    .have ad:decide (t<kh.n)=ε:=ae;have YD:t<l.length:=by have:=YQ.o;omega
     obtain⟨g3,Zp,YE,Zf,Zd⟩:=YC.form aa;injection YE with Z7 _ ZH;subst Z7 ZH;obtain⟨q1,q2⟩:=FP YC.o I (FZ YD);have Yz:=Mf YC.o t (.int .i64 0);have Zm:=CY (f:=mv 0) YD;have Yv:=EB (f:=mv 0) YD;generalize l.getD t 0=x at q1 Zm Yv;have Yz:=aW Yz;have Zm:=aW Zm;have Yv:=aW Yv;by_cases P:x=2
     .have dx:((x:Int)==2)=ε:=ae;subst P;go_wp2_with fail
      go_roundw
      case rel=>
       refine⟨t+1,aa,au,?_,?_⟩
       .have h1:=Yz.o.1;rw[<-adW (f:=Value.int .i64) (a:=(0:Int))] at h1;rw[<-Zm.o];exact h1
       .exact Zo.trans (Yz.o.2.mono fun k hk=>by rw[hk];rfl)
      case measure=>exact aV
     .have dx:((x:Int)==2)=ζ:=ae;have YG:=aW P;clear P;go_wp2_with fail
      go_roundw
      case rel=>exact⟨t+1,aa,au,by rw[Yv.o (by unfold mv;rw[θ YG.o])];exact YC.o,Zo.o⟩
      case measure=>exact aV
    .obtain rfl:t=kh.n:=aa;clear I ht;have YO:Ext wv wr:=W.mod Zo.o (fun g hg=>(YC.lt g hg).1);have ZI:=aW YO;have YX:=YS.ext YO;have k6:=YX.cell;have af:=YX.lt;have YR:=YO.size;have j:=aW (eY B.o YO);clear YO YX;(go_wp2_with (at_builtin;refine fu D7 rfl (.tmp 40) (.tmp 42) rfl (g6+1) _ k (zk R k) rf (j.alloc _) wr.heap.size 1 1 [.slice A3 kh.n c3] rf (Blk.new _ _ _) rfl AaC aa aa aa ae ?_));intro gA H w7 Zj ZA ZP ZB;have Zg:=gQ ZA ((YS.ext ZI.o).alloc (.cells #[aO A3 kh.n c3] 92)) (kK j.o aa);have Zi:Mod (fun g=>g=g6\/(Value.slice Av k cv).ownBlock=γ g) wr (w7.setCell ⟨g6,1,δ⟩ (.slice (γ (aM gA 0)) (k+1) H)):=((ae0 (Ext.new _ _)).trans (Mod.grown ZA (fun g h=> .inr h))).trans (Mod.only (Only.set w7 g6 1 _) (.inl rfl));have k7:=Zg.cell;have f7:=Zg.frozen;have YH:Blk (w7.setCell ⟨g6,1,δ⟩ (.slice (γ (aM gA 0)) (k+1) H)) g6 31 #[aO A1 pn c1,aO (γ (aM gA 0)) (k+1) H]:=by simpa using Zg.qG 1 (.slice (γ (aM gA 0)) (k+1) H)
     have ZC:=rY Zj (Only.set w7 g6 1 (.slice (γ (aM gA 0)) (k+1) H)) (kK Zj aa);have YK:=aW YH;have ZR:=aW ZC;have Zh:=aW Zi;clear Zg Zi YH ZC Zj ZA ZP;go_wp2_with fail
     go_roundw
     case rel=>
      refine⟨k+1,_,upd R k ⟨A3,kh.n,c3⟩,aa,au,YK.o,?_,fun i hi=> ?_,fun i hi=> ?_,(HX.trans ZI.o).mod Zh.o (fun g hg=> ?_)⟩
      .rw[EJ,upd_same,Ch (fun i hi=>upd_ne (show i≠k by omega))];exact ZR.o
      .by_cases e:i=k
       .subst e;simp only[upd_same,HL.o];rw[<-Jr YQ.o];refine(mJ (YC.less aa) Zh.o fun g hg hS=> ?_);have:=(YC.lt g hg).1;rcases hS with hS|hS
        .omega
        .have:=(B.lt g hS).2;omega
       .rw[upd_ne e];have h1:=eY (M.o i aa) ZI.o;refine mJ h1 Zh.o fun g hg hS=> ?_;rcases hS with hS|hS
        .have:=(h1.lt g hg).1;omega
        .rcases uJ h1 j.o aj with h2|h2
         .rw[h2] at hg;cases hg
         .exact h2 (hg.trans hS.symm)
      .by_cases e:i=k
       .subst e;rw[upd_same];exact YF.symm
       .rw[upd_ne e];exact Zl.o i aa
      .exact AdP
     case measure=>exact aV
  .obtain rfl:k=V:=aa;clear Yu G;have YJ:=(ac.ext HX.o);have k6:=YS.cell;have kr:=YJ.cell;have fr:=YJ.frozen;have Zt:=YJ.lt;go_wp2_with fail;have Z8:=gV wv (w.heap.size+1) 0 [.slice A1 pn c1,.slice Av k cv];have r1:=rY (eY T.o HX.o) Z8 (fH (eY T.o HX.o) YJ aj);have r2:=rY (B.less (base':=w.heap.size) aa) Z8 (fH B.o YJ aj);have r3:xq (puts wv (w.heap.size+1) 0 [.slice A1 pn c1,.slice Av k cv]) w.heap.size k R (fun i=>(resolve 0 p).links.getD i []):=fun i hi=>by
    have h:=M.o i hi;have:=rY (h.less (base':=w.heap.size) aa) Z8 (fH h YJ aj);simp only[vY];exact this
   have ZN:=YL.ll;obtain⟨YP,YZ,YT,Ze,e1,e2,L⟩:=iR.made r1 r2 (p:=resolve 0 p) (by rw[<-ZN];simp[resolve]) r3 aa aa (fun i hi=>by rw[Zl.o i hi];have:=YM.o i hi;omega);have YW:Fp w.heap.size YP YT k R:=by
    refine⟨fun b o e=> ?_,fun b o e=> ?_,fun i hi b o e=> ?_⟩
    .rw[e] at e1;exact(r1.lt b (by rw[e1];rfl)).1
    .rw[e] at e2;exact(r2.lt b (by rw[e2];rfl)).1
    .exact((r3 i hi).lt b (by unfold Hd.v;rw[e];rfl)).1
   refine nP rfl rfl rfl (dm 0 [.slice A1 pn c1,.slice Av k cv] YJ) acd rfl ah ⟨YP,YZ,YT,Ze,R,?_,L,Zl.o,YW,fO (g:=w.heap.size+1) (show w.heap.size<=w.heap.size+1 by omega) 0 [.slice A1 pn c1,.slice Av k cv] (Zr.trans HX.o)⟩;rw[<-e1,<-e2];rfl
def kz (C:Nat->Value) (L:Nat->Bool) (i:Nat):Value:=if 15<=i/\i<33 then .bool (L (i-15)) else C i
theorem nZ{C L k}(j:k<18):kz C L (15+k)=.bool (L k):=by
 unfold kz;rw[ι aa,show 15+k-15=k by omega]
theorem mD{C L i}(h:i<15):kz C L i=C i:=by unfold kz;rw[θ aa]
theorem Kb{C L}(h:∀i,i<33->nX (C i)=ε)(i)(hi:i<33):nX (kz C L i)=ε:=by
 unfold kz;split
 .rfl
 .exact h i hi
theorem O0{C E L k}(D:k<18)(i):upd (fT (kz C L) E) (15+k) (.bool ε) i=fT (kz C (upd L k ε)) E i:=by
 by_cases h:i=15+k
 .subst h;rw[upd_same,dU aa,nZ D,upd_same]
 .rw[upd_ne h];unfold fT;by_cases B:i<33
  .rw[ι B,ι B];unfold kz;by_cases j:15<=i/\i<33
   .rw[ι j,ι j,upd_ne aa]
   .rw[θ j,θ j]
  .rw[θ B,θ B]
def Aw{L n}(B:L n=ζ):∀k,cnt (upd L n ε) k=cnt L k+(if n<k then 1 else 0)
 |0=>rfl
 |k+1=>by
  show cnt (upd L n ε) k+(if upd L n ε k=ε then 1 else 0)=cnt L k+(if L k=ε then 1 else 0)+_;rw[Aw B k];by_cases h:k=n
  .subst h;rw[upd_same,B,ι rfl,θ aa,θ aj,ι aa]
  .rw[upd_ne h];by_cases j:n<k
   .rw[ι j,ι (show n<k+1 by omega)];omega
   .rw[θ j,θ (show ¬n<k+1 by omega)];omega
def uR (lb:Bool) (n:Nat) (L:Nat->Bool):Nat->Bool:=if lb=ε/\n≠17/\L n=ζ then upd L n ε else L
def ou (L:Nat->Bool) (b:BrD):Bool:=decide (b.b=17)||(L b.a||L b.b)
def stp (b:BrD) (L:Nat->Bool) (j:Nat):Nat->Bool:=if j=0 then L else if j=1 then uR (ou L b) b.a L else uR (ou L b) b.b (uR (ou L b) b.a L)
theorem CJ(lb n L k):uR lb n L k=(L k||(lb&&decide (k≠17)&&decide (k=n))):=by
 unfold uR;by_cases h:lb=ε/\n≠17/\L n=ζ
 .rw[ι h];by_cases e:k=n
  .subst e;rw[upd_same,h.1];simp[h.2.1]
  .rw[upd_ne e];simp[e]
 .rw[θ h];by_cases e:k=n
  .subst e;cases Z:lb
   .simp
   .by_cases D:k=17
    .simp[D]
    .have:L k=ε:=by
      cases j:L k with
      |true=>rfl
      |false=>exact absurd ⟨Z,D,j⟩ h
     simp[this]
  .simp[e]
theorem Uf(b L k):stp b L 2 k=rP L b k:=by
 unfold stp rP;rw[θ aa,θ aa,CJ,CJ];unfold ou;cases L k<;>cases decide (b.b=17)<;>cases L b.a<;>cases L b.b<;>cases decide (k≠17)<;>cases decide (k=b.a)<;>cases decide (k=b.b)<;>rfl
def yx(b L){j}(C:j<2):stp b L (j+1)=uR (ou L b) (if j=0 then b.a else b.b) (stp b L j):=by
 have B:j=0\/j=1:=aa;rcases B with rfl|rfl<;>rfl
def Cy{lb n L}(h:L 17=ζ):uR lb n L 17=ζ:=by rw[CJ,h];simp
theorem FW{b L}(h:L 17=ζ)(j):stp b L j 17=ζ:=by
 unfold stp;split
 .exact h
 .split
  .exact Cy h
  .exact Cy (Cy h)
theorem qz{lb n L}(h:lb=ζ\/n=17\/L n=ε):uR lb n L=L:=by
 unfold uR;refine θ fun hc=> ?_;rcases h with h|h|h
 .rw[h] at hc;cases hc.1
 .exact hc.2.1 h
 .rw[h] at hc;cases hc.2.2
theorem kS{lb n L}(h:lb=ε)(B:n≠17)(j:L n=ζ):uR lb n L=upd L n ε:=by
 unfold uR;exact ι ⟨h,B,j⟩
def Wy(L):cnt L 18<=18:=LM 18
structure Rv (w wr:World) (gx:Nat) (C:Nat->Value) (E:Nat->En) (bs:List BrD) (L:Nat->Bool):Prop where
 g:fU wr gx 105 393 (fT (kz C L) E)
 m:Mod (fun k=>k=gx) w wr
 sub:∀k,L k=ε->JoinD bs k
section
variable {w wr wr':World} {gx:Nat} {C:Nat->Value} {E:Nat->En} {bs:List BrD} {L:Nat->Bool}
def Rv.ext(h:Rv w wr gx C E bs L)(x:Ext wr wr'):Rv w wr' gx C E bs L:=⟨h.g.ext x,h.m.trans (ae0 x),h.sub⟩
def Rv.set(h:Rv w wr gx C E bs L){n}(hn:n<18)(B:JoinD bs n):Rv w (wr.setCell ⟨gx,15+n,δ⟩ (.bool ε)) gx C E bs (upd L n ε):=by
 refine⟨(h.g.set (.bool ε) aa).congr (fun k _=>O0 hn k),h.m.trans (Mod.set _ _ _ _ rfl),fun k j=> ?_⟩;by_cases e:k=n
 .subst e;exact B
 .rw[upd_ne e] at j;exact h.sub k j
theorem Lb{b}(hb:b∈bs)(hs:∀k,L k=ε->JoinD bs k)(D:L 17=ζ)(h:ou L b=ε):JoinD bs b.a:=by
 unfold ou at h;simp only[acm,Δ] at h;rcases h with h|h|h
 .exact .neutral b hb h
 .exact hs _ h
 .exact .fro b hb (fun e=>by rw[e,D] at h;cases h) (hs _ h)
theorem LU{b}(hb:b∈bs)(hs:∀k,L k=ε->JoinD bs k)(D:L 17=ζ)(h:ou L b=ε)(hn:b.b≠17):JoinD bs b.b:=by
 unfold ou at h;simp only[acm,Δ] at h;rcases h with h|h|h
 .exact absurd h hn
 .exact .fwd b hb hn (hs _ h)
 .exact hs _ h
end
structure Rnd (bs:List BrD) (Lr L:Nat->Bool) (ch:Bool) (i:Nat):Prop where
 no:ch=ζ->L=Lr/\∀j,j<i->∀n,rP Lr (bs.getD j η) n=Lr n
 yes:ch=ε->cnt Lr 18<cnt L 18
def Rnd.le{bs B L j i}(h:Rnd bs B L j i):cnt B 18<=cnt L 18:=by
 cases hc:j with
 |false=>rw[(h.no hc).1];exact κ _
 |true=>exact aah (h.yes hc)
def Rnd.next{bs B L D F i b}(h:Rnd bs B L D i)(hb:bs.getD i η=b)(Z:cnt B 18<=cnt (stp b L 2) 18)(hn:F=ζ->D=ζ/\stp b L 2=L)(R:F=ε->cnt B 18<cnt (stp b L 2) 18):Rnd bs B (stp b L 2) F (i+1):=by
 refine⟨fun hc=> ?_,R⟩;obtain⟨I,C⟩:=hn hc;obtain⟨G,H⟩:=h.no I;refine⟨C.trans G,fun j J n=> ?_⟩;by_cases e:j=i
 .subst e;rw[hb,<-G,<-Uf,C]
 .exact H j aa n
def Ux{a b:Nat}{j:Nat}(C:j<2)(w):Sem.run prog (Instr.index 64 (.agg #[(a:Int),(b:Int)]) (.int .i64 (j:Int))) w=.ok (.int .i64 ((if j=0 then a else b:Nat):Int)) w:=by
 have B:j=0\/j=1:=aa;rcases B with rfl|rfl<;>simp[Instr.index,abl underlying64,asIntOf,go_sem,isAgg3,sizeOf3,part]
theorem QZ(gx nb cb C E A Bv bs w)(hg:fU w gx 105 393 (fT C E))(hn:tY w C A nb cb Bv bs (fun _=>ζ))(YU:∀i,i<33->nX (C i)=ε)(hA:∀b o,A=γ ⟨b,o,δ⟩->b≠gx):
  Calls prog 83 #[aN gx 0] w fun e w'=>e=.returned (.tuple #[])/\fU w' gx 105 393 (fT (kz C (lv bs)) E)/\Mod (fun k=>k=gx) w w':=by
 have HG:=aW hg;have HN:=aW hn;have ZG:=aW YU;have HA:=aW hA;have ad:Hid (Rv w w gx C E bs (fun _=>ζ)):=aW ⟨hg.congr (fun k _=>by
  unfold fT;by_cases h:k<33
  .rw[ι h,ι h];unfold kz;by_cases h2:15<=k/\k<33
   .rw[ι h2,<-hn.live (k-15) aa,show 15+(k-15)=k by omega]
   .rw[θ h2]
  .rw[θ h,θ h]),ae0 (Ext.refl _),fun k hk=>by cases hk⟩
 clear hg hn YU hA;go_enter func83,ntmps83;go_wp2_with fail
 go_loopg [2] 40 (fun gk cv wr=>∃(L:Nat->Bool) (ch:Bool),cv=.bool ch/\Rv w wr gx C E bs L/\L 17=ζ/\(ch=ε->37<=gk+2*cnt L 18)/\(ch=ζ->36<=gk+2*cnt L 18/\∀j,j<nb->∀n,rP L (bs.getD j η) n=L n))
 case atStart=>exact⟨_,ε,rfl,ad.o,rfl,fun _=>aa,fun h=>by cases h⟩
 case round=>
  clear ad;obtain⟨L,ch,rfl,hR,D,Zw,YV⟩:=hrel;have Q:=aW hR;have Zv:=aW D;have Zj:=aW Zw;have Zg:=aW YV;clear hR D Zw YV;cases ch with
  |false=>
   have Zd:=aW (Zg.o rfl);clear Zg Zj;go_wp2_with fail;have hL:L=lv bs:=XW HN.ok (agJ Zv.o (fun b hb n=>by
    obtain⟨j,hj,e⟩:=acC hb;have:=Zd.o.2 j (by have:=HN.len;omega) n;rw[π,ν hj] at this;simpa[e] using this)) Q.sub
   refine aaY (aas rfl _ _ _) rfl ⟨rfl,by rw[<-hL];exact Q.g,Q.m⟩
  |true=>
   have Zx:=aW (Zj.o rfl);clear Zg Zj;have Zm:=Q.g.cell_ (k:=0) aa ((dU aa).trans ((mD aa).trans HN.br));go_wp2_with fail;clear Zm;go_loopw [2,14] (fun cv iv wz=>∃(i:Nat) (G:Nat->Bool) (ch:Bool),i<=nb/\iv=.int .i64 i/\cv=.bool ch/\Rv w wz gx C E bs G/\G 17=ζ/\Rnd bs L G ch i) (fun _ iv _=>nb-(intOf iv).toNat)
   case atStart=>exact⟨0,L,ζ,aa,rfl,rfl,Q.o,Zv.o,fun _=>⟨rfl,fun j hj=>aa⟩,fun h=>by cases h⟩
   case round=>
    rename World=>wz;obtain⟨i,G,ch,hi,rfl,rfl,ZZ,Zi,ZB⟩:=hrel;have YB:=aW ZZ;have R:=aW Zi;have T:=aW ZB;clear ZZ Zi ZB;by_cases Yu:i<nb
    .have hd:decide ((i:Int)<nb)=ε:=ae;obtain⟨bA,oA,hA,Zo,Zt⟩:=HN.arr aa;subst hA;have Zr:bA≠gx:=HA.o _ _ rfl;have ZU:=aW (show wz.rangeAt bA (oA+i*20) (Bv i).cs from fun j v hv=>by
      have h1:=Zt i Yu j v hv;unfold World.cell? at h1⊢;simp only[YB.o.m.block bA Zo Zr] at h1⊢;exact h1)
     clear Zt Zo Zr;(iterate 21 (try (first|go_values|go_skip|go_guarded|go_step|go_upon|go_in|go_back|go_simp)));refine σ rfl 167 _ rfl bA (oA+i*20) rf (Bv i).cs _ ZU.o aaT rfl x9 ?_;refine gD rfl 167 rfl _ MN ?_;intro wd YQ;refine bG rfl 167 (.tmp 4) (.tmp 17) rfl wz.heap.size 0 (Bv i).cs rf rf AcE x9 (yY _) ?_;intro we Ze;refine Qp ?_;have YJ:Blk wd wz.heap.size 167 zBr:=by rw[YQ];exact Blk.new _ _ _
     have H:Ext wz wd:=by rw[YQ];exact Ext.new _ _
     have P:Ext wz we:=by rw[Ze];exact fO (κ _:Own wz wz.heap.size) 0 _ H
     have YF:Blk we wz.heap.size 167 (Bv i).cs.toArray:=by rw[Ze];exact Rz YJ
     have U:=aW YF;replace YB:=YB.aA P;clear YQ Ze YJ H P YF;generalize wz.heap.size=YZ at U⊢;have Zk:wrap64 ((i:Int)+1)=(i:Int)+1:=Ab _ (by have:=HN.len;have:=HN.l23;omega);have O:=aW Zk;clear Zk;have hm:bs.getD i η∈bs:=CP (by have:=HN.len;omega);have YG:=HN.ok _ hm;have Yx:=HN.ab i Yu;obtain⟨b,Zl⟩:∃b,bs.getD i η=b:=⟨_,rfl⟩;rw[Zl] at hm YG Yx;have Zh:=aW Zl;have HM:=aW hm;have YM:=aW YG;have YN:=aW Yx;clear YG Yx hm Zl;have ZE:b.a<17:=YM.a;have af:b.b<=17:=YM.b;have YD:we.cell? (aM YZ 0)=γ (.int .i64 (b.a:Int)):=(U.cell 0).trans (by rw[<-YN.o.1];rfl);have Yz:we.cell? (aM YZ 1)=γ (.int .i64 (b.b:Int)):=(U.cell 1).trans (by rw[<-YN.o.2];rfl);have YR:=YB.g.cell_ (k:=15+b.a) aa ((dU aa).trans (nZ aa));have YS:=YB.g.cell_ (k:=15+b.b) aa ((dU aa).trans (nZ aa));have p1:(0:Int)<=b.a:=aa;have p2:(b.a:Int)<18:=aa;have p3:(0:Int)<=b.b:=aa;have p4:(b.b:Int)<18:=aa;by_cases hb:b.b=17
     .have hq:((b.b:Int)==17)=ε:=by rw[hb];rfl
      have Zc:=aW hb;clear hb;have ZA:=aW YB.o;have Za:Hid (ou G b=ε):=aW (by unfold ou;simp[Zc.o]);exact Aab
     .have hq:((b.b:Int)==17)=ζ:=ae;have Zc:=aW hb;clear hb;cases ZC:G b.a with
      |true=>
       rw[ZC] at YR;have ZA:=aW YB.o;have Za:Hid (ou G b=ε):=aW (by unfold ou;simp[ZC]);exact Aab
      |false=>
       rw[ZC] at YR;cases Zq:G b.b with
       |true=>
        rw[Zq] at YS;have ZA:=aW YB.o;have Za:Hid (ou G b=ε):=aW (by unfold ou;simp[Zq]);exact Aab
       |false=>
        rw[Zq] at YS;have ZA:=aW YB.o;have Za:Hid (ou G b=ζ):=aW (by unfold ou;simp[ZC,Zq,Zc.o]);go_wp2_with fail;go_quiet (fail);generalize J:we.drewN nq=wq;have YO:Ext we wq:=by rw[<-J];exact(Ext.refl _).drewN _
        replace YB:=YB.aA YO;replace U:=U.aA YO;clear YO J YD Yz YR YS;have YD:wq.cell? (aM YZ 0)=γ (.int .i64 (b.a:Int)):=(U.cell 0).trans (by rw[<-YN.o.1];rfl);have Yz:wq.cell? (aM YZ 1)=γ (.int .i64 (b.b:Int)):=(U.cell 1).trans (by rw[<-YN.o.2];rfl);clear hq U;go_wp2_with fail;clear YD Yz;go_loopw [2,44] (fun cv jv wx=>∃(j:Nat) (F:Bool),j<=2/\jv=.int .i64 j/\cv=.bool F/\Rv w wx gx C E bs (stp b G j)/\cnt L 18<=cnt (stp b G j) 18/\(F=ζ->ch=ζ/\stp b G j=G)/\(F=ε->cnt L 18<cnt (stp b G j) 18)) (fun _ jv _=>2-(intOf jv).toNat)
        case atStart=>exact⟨0,ch,aa,rfl,rfl,YB.o,T.le,fun h=>⟨h,rfl⟩,T.yes⟩
        case round=>
         rename World=>wx;obtain⟨j,F,hj,rfl,rfl,V,YT,Y,YA⟩:=hrel;have K:=aW V;have YL:=aW YT;have Yv:=aW Y;have Yw:=aW YA;clear V YT Y YA YB;by_cases Yy:j<2
         .have YP:decide ((j:Int)<2)=ε:=ae;have ac:=Ux (a:=b.a) (b:=b.b) Yy wx;obtain⟨n,hn⟩:∃n,(if j=0 then b.a else b.b)=n:=⟨_,rfl⟩;rw[hn] at ac;have YW:n<=17:=by rw[<-hn];split<;>omega
          have I:=yx b G Yy;rw[hn,Za.o] at I;have B:=aW I;have Zf:=aW hn;clear I hn;have W:=aW (qz (lb:=ζ) (n:=n) (L:=stp b G j) (Or.inl rfl));go_wp2_with fail
          go_roundw
          case rel=>exact⟨j+1,F,aa,au,rfl,by rw[B.o,W.o];exact K.o,by rw[B.o,W.o];exact YL.o,fun h=>by rw[B.o,W.o];exact Yv.o h,fun h=>by rw[B.o,W.o];exact Yw.o h⟩
          case measure=>exact aV
         .obtain rfl:j=2:=aa;have YP:decide ((2:Int)<2)=ζ:=aj
          go_wp2_with fail
          exact AdJ
    .obtain rfl:i=nb:=aa;have hd:decide ((i:Int)<i)=ζ:=ag
     go_wp2_with fail
     go_roundg (gk-1)
     case measure=>have:=Zx.o;have:=Wy L;omega
     case rel=>exact⟨G,ch,rfl,YB.o,R.o,fun hc=>by have:=T.yes hc;have:=Zx.o;omega,fun hc=>⟨by have h1:=(T.no hc).1;rw[h1];have:=Zx.o;omega,fun j hj n=>by have h1:=(T.no hc).1;rw[h1];exact(T.no hc).2 j hj n⟩⟩
def nu (W:World) (B0:Nat) (v0:Value) (gB gH:Nat) (v:Value) (o:Option BrD):Prop:=
 match o with
 |none=>v=.pointer δ
 |some b=>∃(g k:Nat) (bv:BrV),v=.pointer (γ (aM g k))/\B0<=g/\v0.ownBlock≠γ g/\g≠gB/\g≠gH/\g<W.heap.size/\(∀t u,bv.cs[t]? =γ u->W.cell? (aM g (k+t))=γ u)/\sN W bv b
section
variable {W W':World} {B0:Nat} {v0 v1:Value} {gB gH:Nat} {v:Value} {o:Option BrD}
def nu.ext(h:nu W B0 v0 gB gH v o)(x:Ext W W'):nu W' B0 v0 gB gH v o:=by
 cases o with
 |none=>exact h
 |some b=>
  obtain⟨g,k,bv,F,C,J,D,H,j,G,B⟩:=h;exact⟨g,k,bv,F,C,J,D,H,ο j x.size,fun t u I=>x.cell_ (G t u I),B.ext x⟩
def xU{S}(m:Mod S W W'){g i u}(Z:g<W.heap.size)(hS:¬S g)(h:W.cell? (aM g i)=γ u):W'.cell? (aM g i)=γ u:=BG (m.block g Z hS) h
def nu.mod{S}(h:nu W B0 v0 gB gH v o)(m:Mod S W W')(I:iB S W)(hS:∀g,S g->g<B0\/v0.ownBlock=γ g\/g=gB\/g=gH):nu W' B0 v0 gB gH v o:=by
 cases o with
 |none=>exact h
 |some b=>
  obtain⟨g,k,bv,G,F,C,j,B,D,H,J⟩:=h;have hn:¬S g:=fun e=>by
   rcases hS g e with e|e|e|e
   .omega
   .exact C e
   .exact j e
   .exact B e
  exact⟨g,k,bv,G,F,C,j,B,ο D m.size,fun t u K=>xU m D hn (H t u K),J.fQ m I⟩
def nu.own(h:nu W B0 v0 gB gH v o)(hv:∀g,v1.ownBlock=γ g->v0.ownBlock=γ g\/W.heap.size<=g):nu W B0 v1 gB gH v o:=by
 cases o with
 |none=>exact h
 |some b=>
  obtain⟨g,k,bv,F,B,I,C,H,j,G,D⟩:=h;refine⟨g,k,bv,F,B,fun e=> ?_,C,H,j,G,D⟩;rcases hv g e with e|e
  .exact I e
  .omega
def nu.Yt(h:nu W B0 v0 gB gB v o)(x:Ext W W'){g}(K:W.heap.size<=g):nu W' B0 v0 gB g v o:=by
 cases o with
 |none=>exact h
 |some b=>
  obtain⟨g',k,bv,F,C,I,D,J,j,G,B⟩:=h;exact⟨g',k,bv,F,C,I,D,aa,ο j x.size,fun t u H=>x.cell_ (G t u H),B.ext x⟩
def nu.is(h:nu W B0 v0 gB gH v o){X}(L:X<B0):oN W X v o:=by
 cases o with
 |none=>exact h
 |some b=>
  obtain⟨g,k,bv,C,F,I,G,H,B,D,j⟩:=h;exact⟨g,k,bv,C,aa,B,D,j.pa,j.pb,j.z0,j.z1,j.e⟩
def nu.low(h:nu W B0 v0 gB gH v o){g k}(e:v=.pointer (γ (aM g k))):B0<=g:=by
 cases o with
 |none=>have h:v=.pointer δ:=h;rw[h] at e;injection e with e;cases e
 |some b=>
  obtain⟨g',C,bv,j,B,_⟩:=h;rw[j] at e;injection e with e;injection e with e;injection e with e _ _;omega
def af1{g bv b}(hb:Blk W g 167 bv.cs.toArray)(hi:sN W bv b)(D:B0<=g)(B:v0.ownBlock≠γ g)(j:g≠gB)(F:g≠gH):nu W B0 v0 gB gH (.pointer (γ (aM g 0))) (γ b):=
 ⟨g,0,bv,rfl,D,B,j,F,hb.lt,fun t u C=>by rw[aaC,hb.cell,Γ];exact C,hi⟩
end
structure Gs (w W:World) (gx gf gB gH:Nat) (C:Nat->Value) (Bv:Nat->BrV) (brs:List BrD) (n:Nat) (wv:Nat->Value) (wd:Nat->Option BrD):Prop where
 r:Gr0 w W gx gf C brs.length Bv brs
 c13:C 13=.slice (γ (aM gB 0)) n n
 bB:fU W gB 165 n wv
 lB:w.heap.size<=gB
 wy:∀j,j<n->nu W w.heap.size (C 0) gB gH (wv j) (wd j)
section
variable {w W W':World} {gx gf gB gH n:Nat} {C:Nat->Value} {Bv:Nat->BrV} {brs:List BrD} {wv:Nat->Value} {wd:Nat->Option BrD}
def Gs.ext(h:Gs w W gx gf gB gH C Bv brs n wv wd)(x:Ext W W'):Gs w W' gx gf gB gH C Bv brs n wv wd:=
 ⟨h.r.ext x,h.c13,h.bB.ext x,h.lB,fun j B=>(h.wy j B).ext x⟩
def oD.ne{v k B0}(h:oD W B0 v k Bv){g t cs}(hb:Blk W g t cs)(B:t≠167):v.ownBlock≠γ g:=fun e=>by
 rcases h with ⟨rfl,_⟩|⟨g',N,B',rfl,_,_,j,_⟩
 .cases e
 .have:g'=g:=by simpa[Value.ownBlock] using e
  subst this;exact Blk.fw hb j B rfl
def Gs.set(h:Gs w W gx gf gB gH C Bv brs n wv wd){i v}(hi:i<33)(F:i≠0)(B:i≠13)(hv:nX v=ε)(H:W'=W.setCell ⟨gx,i,δ⟩ v):Gs w W' gx gf gB gH (upd C i v) Bv brs n wv wd/\Mod (fun k=>k=gx) W W':=by
 subst H;obtain⟨I,D⟩:=h.r.set v hi F hv;have lx:=h.r.lx;have lB:=h.lB;refine⟨⟨I,by rw[upd_ne (abk B)];exact h.c13,h.bB.mod D aa,lB,fun j J=> ?_⟩,D⟩;rw[upd_ne (abk F)];exact(h.wy j J).mod D h.r.far (fun g G=> .inl (by have G:g=gx:=G;omega))
def Gs.XY(h:Gs w W gx gf gB gH C Bv brs n wv wd)(hn:∀j,j<n->nX (wv j)=ε):iB (fun k=>k=gB) W:=afm h.bB (fun k B=>hn k B) (fun k B=>B)
def nu.nX{B0:Nat}{v0:Value}{v:Value}{o:Option BrD}(h:nu W B0 v0 gB gH v o):nX v=ε:=by
 cases o with
 |none=>have h:v=.pointer δ:=h;rw[h];rfl
 |some b=>obtain⟨g,k,bv,j,_⟩:=h;rw[j];rfl
def Gs.ptr(h:Gs w W gx gf gB gH C Bv brs n wv wd){i v}{o:Option BrD}(hi:i<n)(hv:nu W w.heap.size (C 0) gB gH v o)(I:W'=W.setCell ⟨gB,i,δ⟩ v):Gs w W' gx gf gB gH C Bv brs n (upd wv i v) (upd wd i o)/\Mod (fun k=>k=gB) W W'/\iB (fun k=>k=gB) W:=by
 subst I;have D:Mod (fun k=>k=gB) W (W.setCell ⟨gB,i,δ⟩ v):=Mod.set _ _ _ _ rfl;have F:=h.XY (fun j G=>(h.wy j G).nX);have lB:=h.lB;refine⟨⟨h.r.mod D (fun k H=>by have H:k=gB:=H;omega) F (fun g B e=> ?_),h.c13,h.bB.set v hi,lB,fun j G=> ?_⟩,D,F⟩
 .have e:g=gB:=e;subst e;exact h.r.own.ne h.bB aj B
 .by_cases e:j=i
  .subst e;rw[upd_same,upd_same];exact hv.mod D F (fun g B=> .inr (.inr (.inl B)))
  .rw[upd_ne e,upd_ne e];exact(h.wy j G).mod D F (fun g B=> .inr (.inr (.inl B)))
def Gs.push{W2}(h:Gs w W gx gf gB gH C Bv brs n wv wd){r b G}(U:sN W r b)(T:oD W' w.heap.size G (brs.length+1) (upd Bv brs.length r))(hm:Mod (fun g=>(C 0).ownBlock=γ g) W W')(hv:∀g,G.ownBlock=γ g->(C 0).ownBlock=γ g\/g=W.heap.size)(S:W2=W'.setCell ⟨gx,0,δ⟩ G):
  Gs w W2 gx gf gB gH (upd C 0 G) (upd Bv brs.length r) (brs++[b]) n wv wd/\Mod (fun g=>g=gx\/(C 0).ownBlock=γ g) W W2/\iB (fun g=>g=gx\/(C 0).ownBlock=γ g) W:=by
 obtain⟨P,D,L⟩:=h.r.push U T hm S;have lx:=h.r.lx;have lB:=h.lB;have Z:(brs++[b]).length=brs.length+1:=ag;refine⟨⟨by rw[Z];exact P,by rw[upd_ne aj];exact h.c13,h.bB.mod D (fun e=> ?_),lB,fun j I=> ?_⟩,D,L⟩
 .rcases e with e|e
  .omega
  .exact h.r.own.ne h.bB aj e
 .rw[upd_same];have K:=((h.wy j I).own (v1:=G) (fun g O=>(hv g O).imp id (fun e=>aa)));cases F:wd j with
  |none=>have H:=h.wy j I;rw[F] at H;exact H
  |some d=>
   have H:=h.wy j I;rw[F] at K H;obtain⟨g,k,bv,e1,R,e3,e4,M,J,N,V⟩:=K;obtain⟨g',k',B,q1,q2,Q,_⟩:=H;rw[e1] at q1;injection q1 with q1;injection q1 with q1;injection q1 with q1 _ _;subst q1;have hn:¬(g=gx\/(C 0).ownBlock=γ g):=fun e=>by
    rcases e with e|e
    .omega
    .exact Q e
   exact⟨g,k,bv,e1,R,e3,e4,M,ο J D.size,fun t u Y=>xU D J hn (N t u Y),V.fQ D L⟩
def Gs.older(h:Gs w W gx gf gB gH C Bv brs n wv wd){wa}(x:Ext wa w)(Z:wa.heap.size<=gx):Ext wa W:=fG x h.r.m (fun k j=>by have j:k=gx:=j;omega)
end
theorem SH{s p}(h:jG s p=0):jG s (resolve 0 p)=0:=by
 have Z:∀i,((resolve 0 p).links.getD i [])=(p.links.getD i []).map (mv 0):=fun i=>vY 0 p i;have j:(resolve 0 p).links.length=p.links.length:=by simp[resolve]
 have B:(resolve 0 p).closed=p.closed:=rfl;unfold jG at h⊢;rw[j,B];split at h
 .rename_i H
  rw[ι H];split at h
  .rename_i C
   rw[ι (by
    rw[q8] at C⊢;intro i hi;have:=C i hi;rw[Z,aaB];exact this)]
   split at h
   .rename_i G
    rw[ι (by
     rw[q8] at G⊢;intro i hi;have D:=G i hi;rw[q8] at D⊢;rw[Z];intro x J;obtain⟨y,R,rfl⟩:=aab.1 J;have F:=D y R;unfold mv;split
     .unfold lW at F⊢;simp_all
     .exact F)]
   .exact absurd h aj
  .exact absurd h aj
 .exact absurd h aj
def Jz{s p i b}(h:iq s p i=γ b):gm s p (i+1)=gm s p i++[b]:=by
 show gm s p i++(iq s p i).toList=_;rw[h];rfl
def zT{s p i}(h:iq s p i=δ):gm s p (i+1)=gm s p i:=by
 show gm s p i++(iq s p i).toList=_;rw[h];simp
theorem Cu{s p i}(h:nN s p i=ζ):iq s p i=δ:=by
 unfold iq;simp only[];rw[θ (by rw[h];decide)]
theorem Du{s p i l e}(h:nN s p i=ζ):oh s p l e i=ζ:=by
 unfold oh;rw[h];rfl
theorem sU{s p i l e}(h:(s.bays.getD i η).kind≠1):oh s p l e i=ζ:=by
 unfold oh;rw[ρ h];simp
def wd0 (s:StD) (p:dM) (k j:Nat):Option BrD:=if j<k then iq s p j else δ
structure Bt (w W:World) (gx gf gB g7 g8 g9:Nat) (ST PO FL:Array Value) (C:Nat->Value) (Bv:Nat->BrV) (wv:Nat->Value) (s:StD) (p:dM) (i k:Nat):Prop where
 g:Gs w W gx gf gB gB C Bv (gm s p i) s.bays.length wv (wd0 s p k)
 b7:Blk W g7 27 ST
 b8:Blk W g8 31 PO
 b9:Blk W g9 33 FL
 ends:∀l e,l<6->e<2->C (1+2*l+e)=.int .i64 (wZ s p l e i:Nat)
 c14:C 14=.int .i64 0
 liv:∀k,k<18->C (15+k)=.bool ζ
section
variable {w W W' W2:World} {gx gf gB g7 g8 g9:Nat} {ST PO FL:Array Value} {C:Nat->Value} {Bv:Nat->BrV} {wv:Nat->Value} {s:StD} {p:dM} {i k:Nat}
def Bt.ext(h:Bt w W gx gf gB g7 g8 g9 ST PO FL C Bv wv s p i k)(x:Ext W W'):Bt w W' gx gf gB g7 g8 g9 ST PO FL C Bv wv s p i k:=
 ⟨h.g.ext x,h.b7.ext x,h.b8.ext x,h.b9.ext x,h.ends,h.c14,h.liv⟩
def Gs.congr{n gH brs}{wd B:Nat->Option BrD}(h:Gs w W gx gf gB gH C Bv brs n wv wd)(e:∀j,j<n->wd j=B j):Gs w W gx gf gB gH C Bv brs n wv B:=
 ⟨h.r,h.c13,h.bB,h.lB,fun j D=>by rw[<-e j D];exact h.wy j D⟩
theorem IA{j}(hb:iq s p k=δ):wd0 s p k j=wd0 s p (k+1) j:=by
 unfold wd0;by_cases B:j<k
 .rw[ι B,ι aa]
 .by_cases C:j=k
  .subst C;rw[θ B,ι aa,hb]
  .rw[θ B,θ aa]
theorem Q3{j b}(hb:iq s p k=γ b):upd (wd0 s p k) k (γ b) j=wd0 s p (k+1) j:=by
 by_cases B:j=k
 .subst B;rw[upd_same];unfold wd0;rw[ι aa,hb]
 .rw[upd_ne B];unfold wd0;by_cases C:j<k
  .rw[ι C,ι aa]
  .rw[θ C,θ aa]
def yS{l e}(h:oh s p l e i=ζ):wZ s p l e (i+1)=wZ s p l e i:=by
 show(if oh s p l e i=ε then jg s p i else wZ s p l e i)=_;rw[h,θ aj]
def Bt.skip(h:Bt w W gx gf gB g7 g8 g9 ST PO FL C Bv wv s p i i)(hb:iq s p i=δ)(O:∀l e,oh s p l e i=ζ):Bt w W gx gf gB g7 g8 g9 ST PO FL C Bv wv s p (i+1) (i+1):=
 ⟨by rw[zT hb];exact h.g.congr fun j _=>IA hb,h.b7,h.b8,h.b9,fun l e Z B=>by rw[yS (O l e)];exact h.ends l e Z B,h.c14,h.liv⟩
theorem Bt.line(h:Bt w W gx gf gB g7 g8 g9 ST PO FL C Bv wv s p i i)(I:nN s p i=ε){x:iA}(J:s.bays.getD i η=x)(H:x.kind=1){l e:Nat}(N:x.obj=(l:Int))(L:x.en=(e:Int))(Z:l<6)(O:e<2){a:Nat}(ha:a=1+2*l+e)(M:W'=W.setCell ⟨gx,a,δ⟩ (.int .i64 (jg s p i:Nat))):Bt w W' gx gf gB g7 g8 g9 ST PO FL (upd C a (.int .i64 (jg s p i:Nat))) Bv wv s p (i+1) (i+1):=by
 subst ha;have hb:iq s p i=δ:=by
  unfold iq;simp only[];rw[J,ι I,θ aa,θ (fun e=>aa)]
 obtain⟨K,F⟩:=h.g.set (i:=1+2*l+e) (v:=.int .i64 (jg s p i:Nat)) aa aa aa rfl M;refine⟨by rw[zT hb];exact K.congr fun j _=>IA hb,h.b7.mod F (Blk.fw h.b7 h.g.r.g aj),h.b8.mod F (Blk.fw h.b8 h.g.r.g aj),h.b9.mod F (Blk.fw h.b9 h.g.r.g aj),fun G T B D=> ?_,?_,fun k H=> ?_⟩
 .have hi:oh s p G T i=(decide (l=G)&&decide (e=T)):=by
   unfold oh;rw[I,J,H,N,L];simp only[acF,abw,Int.natCast_inj]
  by_cases P:G=l/\T=e
  .obtain⟨rfl,rfl⟩:=P;rw[upd_same];show _=Value.int .i64 ((if oh s p G T i=ε then jg s p i else wZ s p G T i:Nat):Int);rw[hi,ι ag]
  .rw[upd_ne aa,yS (by rw[hi];simp;omega)];exact h.ends G T B D
 .rw[upd_ne aa];exact h.c14
 .rw[upd_ne aa];exact h.liv k H
def Bt.ptr(h:Bt w W gx gf gB g7 g8 g9 ST PO FL C Bv wv s p i i)(hi:i<s.bays.length){b}(hb:iq s p i=γ b){v}(hv:nu W w.heap.size (C 0) gB gB v (γ b))(D:W'=W.setCell ⟨gB,i,δ⟩ v):Bt w W' gx gf gB g7 g8 g9 ST PO FL C Bv (upd wv i v) s p i (i+1)/\Mod (fun k=>k=gB) W W'/\iB (fun k=>k=gB) W:=by
 obtain⟨F,B,G⟩:=h.g.ptr hi hv D;exact⟨⟨F.congr fun j _=>Q3 hb,h.b7.mod B (Blk.fw h.b7 h.g.bB aj),h.b8.mod B (Blk.fw h.b8 h.g.bB aj),h.b9.mod B (Blk.fw h.b9 h.g.bB aj),h.ends,h.c14,h.liv⟩,B,G⟩
def Bt.push(h:Bt w W gx gf gB g7 g8 g9 ST PO FL C Bv wv s p i (i+1)){b}(hb:iq s p i=γ b)(O:∀l e,oh s p l e i=ζ){r G}(I:sN W r b)(H:oD W' w.heap.size G ((gm s p i).length+1) (upd Bv (gm s p i).length r))(J:Mod (fun g=>(C 0).ownBlock=γ g) W W')(hv:∀g,G.ownBlock=γ g->(C 0).ownBlock=γ g\/g=W.heap.size)(F:W2=W'.setCell ⟨gx,0,δ⟩ G):
  Bt w W2 gx gf gB g7 g8 g9 ST PO FL (upd C 0 G) (upd Bv (gm s p i).length r) wv s p (i+1) (i+1):=by
 obtain⟨D,j,K⟩:=h.g.push I H J hv F;refine⟨by rw[Jz hb];exact D,h.b7.mod j ?_,h.b8.mod j ?_,h.b9.mod j ?_,fun l e Z j=> ?_,?_,fun k B=> ?_⟩
 .exact AbE
 .rintro(e|e)
  .exact Blk.fw h.b8 h.g.r.g aj e
  .exact h.g.r.own.ne h.b8 aj e
 .rintro(e|e)
  .exact Blk.fw h.b9 h.g.r.g aj e
  .exact h.g.r.own.ne h.b9 aj e
 .rw[upd_ne aa,yS (O l e)];exact h.ends l e Z j
 .rw[upd_ne aa];exact h.c14
 .rw[upd_ne aa];exact h.liv k B
end
structure Dw (w W:World) (gx gf:Nat) (C:Nat->Value) (Bv:Nat->BrV) (s:StD) (p:dM) (f:eD):Prop where
 r:Gr0 w W gx gf C (bU s p f).length Bv (bU s p f)
 ends:∀l e,l<6->e<2->C (1+2*l+e)=.int .i64 (eF s p l e:Nat)
 c14:C 14=.int .i64 (eO s p f:Nat)
 liv:∀k,k<18->C (15+k)=.bool ζ
 bays:∃(gB:Nat) (wv:Nat->Value),C 13=.slice (γ (aM gB 0)) s.bays.length s.bays.length/\w.heap.size<=gB/\fU W gB 165 s.bays.length wv/\∀i,i<s.bays.length->oN W gx (wv i) (way s p f i)/\∀g k,wv i=.pointer (γ (aM g k))->w.heap.size<=g
def Rh:(prog.info? 165).map (fun i=>(i.zero,i.size,i.bytes))=γ (γ (.pointer δ),1,8):=ah
theorem OY(n:Nat)(hn:n<=1000)(W:World):(Instr.makeSlice 98 (.int .i64 n) (.int .i64 n)).run prog W=.ok (.slice (γ (aM W.heap.size 0)) n n) (W.alloc (.cells (ofC n fun _=> .pointer δ) 165)):=by
 obtain⟨i0,O,B,C,j⟩:=abM Rh;have h:=ac7 (P:=prog) W 98 165 i0 (.pointer δ) underlying98 O B .i64 .i64 n n aa aa Abq aa;rw[h,C];have e:=qY [Value.pointer δ] aj n;have D:(oI n [Value.pointer δ]).toArray=ofC n fun _=>Value.pointer δ:=by
  apply Array.ext';unfold oI ofC;simp[List.flatMap,List.map_const']
 rw[D] at e;simp only[Hu];rw[show(Value.pointer δ).cells=[Value.pointer δ].toArray from rfl];exact congrArg (fun c=>Result.ok (Value.slice (γ (aM W.heap.size 0)) n n) (W.alloc (.cells c 165))) e
def qi:Op->Bool
 | .nilCheck _=>ε
 |o=>jf o
def Az{P w w'}{n:Next}(h:Sem.run P (runtimePanic (α:=Next) .nilDeref) w=.ok n w'):False:=by
 simp[runtimePanic,aaD] at h
theorem XE{P}{ev:Operand->Value}{o}{x:Operand}{w w'}{n:Next}(j:o.op=.nilCheck x)(h:(execOp ev o).run P w=.ok n w'):∃v,n=.value v:=by
 unfold execOp at h;simp only[j] at h;split at h
 .exact(Az h).elim
 .exact(Az h).elim
 .exact(Az h).elim
 .split at h
  .exact(Az h).elim
  .simp only[aaD] at h;generalize Sem.run P program w=r1 at h;cases r1 with
   |halt x w=>simp[Result.andThen] at h
   |ok p w1=>
    simp only[aaw] at h;generalize Sem.run P (nilAhead _ _ _ _) w1=r2 at h;cases r2 with
    |halt x w=>simp[Result.andThen] at h
    |ok b w2=>
     simp only[aaw] at h;split at h
     .simp[unsupported,Result.andThen] at h
     .simp at h;exact⟨_,h.1.symm⟩
  .simp at h;exact⟨_,h.1.symm⟩
 .simp at h;exact⟨_,h.1.symm⟩
def BZ{P}{ev:Operand->Value}{o w w'}(hp:qi o.op=ε)(h:(execOp ev o).run P w=.ok .skip w'):False:=by
 by_cases hn:∃x,o.op=.nilCheck x
 .obtain⟨x,J⟩:=hn;obtain⟨v,hv⟩:=XE J h;cases hv
 .refine vO (o:=o) ?_ h;exact Abz
def Ak{P}{ev:Operand->Value}{o w w' f args}(hp:qi o.op=ε)(h:(execOp ev o).run P w=.ok (.enter f args) w'):False:=by
 by_cases hn:∃x,o.op=.nilCheck x
 .obtain⟨x,J⟩:=hn;obtain⟨v,hv⟩:=XE J h;cases hv
 .refine mK (o:=o) ?_ h;exact Abz
section
variable {P:Program} {ops:Array Oper} {Q Q':Exit->Act->World->Prop} {S:World->Prop}
theorem DN{o a v}(hp:qi o.op=ε)(D:Region.wanted o (yielded ops a.tmps)=ε)(h:∀w,S w->o.quietAt P a S w v):YieldsIf P ops S o v a:=by
 refine .inl ⟨D,fun w hS=> ?_⟩;have j:=h w hS;unfold Oper.quietAt at j;generalize B:(execOp a.eval o).run P w=C at*
 cases C with
 |ok nx w'=>
  cases nx<;>simp only[Oper.quietUpon] at j
  case value u=>obtain⟨rfl,rfl⟩:=j;rfl
  case skip=>exact(BZ hp B).elim
  case enter f args=>exact(Ak hp B).elim
 |halt x w'=>simp only[Oper.quietUpon] at j
def xw (ops:Array Oper) (n:Nat):List (Bool×Nat)->Array Bool->Bool
 |[],listed=>Region.seqB .any ops (ops.size-n) n listed
 |(ε,i)::rest,listed=>((ops[i]?).map fun o=>qi o.op).getD ζ&&Region.free .any ops listed i&&(Region.ready .any ops listed).contains i&&decide (i<n)&&xw ops n rest (listed.setIfInBounds i ε)
 |(ζ,i)::rest,listed=>decide (Region.ready .any ops listed=[i])&&decide (i<n)&&xw ops n rest (listed.setIfInBounds i ε)
theorem pg{n}{L:Act->World->Prop}(C:Region.noSelect ops=ε)(hs:Region.sinkB .any ops n=ε)(hc:Region.chainB .any ops n=ε)(hn:n<ops.size):
  ∀(ord:List (Bool×Nat)) (B:Array Bool) (a:Act) (w:World),HeadInv .any ops n B->xw ops n ord B=ε->S w->dh P ops S L ord a w->
  sW P ops S n (fun K a' w'=>Region.seqB .any ops (ops.size-n) n K=ε/\L a' w') ord.length B a w
 |[],B,a,w,_,hB,_,h=>⟨by simpa[xw] using hB,h⟩
 |(ε,i)::rest,B,a,w,inv,hB,hS,h=>by
  simp only[xw,υ,Δ] at hB;obtain⟨⟨⟨⟨hp,Q⟩,U⟩,I⟩,M⟩:=hB;have G:i∈Region.ready .any ops B:=by simpa using U
  unfold dh at h;cases F:ops[i]? with
  |none=>simp[F] at h
  |some o=>
   simp only[F] at h;have D:qi o.op=ε:=by simpa[F] using hp
   by_cases H:Region.wanted o (yielded ops a.tmps)=ε
   .rw[ι H] at h;obtain⟨v,T,R⟩:=h;exact jZ (v:=v) F (aaF C) hs hc hn I (fun _ _ _ J=>ab1 J.1) _ _ _ _ inv (aa2 F Q) G (DN D H T) hS (pg C hs hc hn rest _ _ _ (inv.set G I) M hS R)
   .rw[θ H] at h;exact jZ (v:=undef) F (aaF C) hs hc hn I (fun _ _ _ J=>ab1 J.1) _ _ _ _ inv (aa2 F Q) G (.inr ⟨by simpa using H,rfl⟩) hS (pg C hs hc hn rest _ _ _ (inv.set G I) M hS h)
 |(ζ,i)::rest,B,a,w,inv,hB,hS,h=>by
  simp only[xw,υ,Δ] at hB;unfold dh at h;refine⟨by rw[hB.1.1];simp,fun j O=> ?_⟩;have N:=O;rw[hB.1.1] at O;obtain rfl:j=i:=by simpa using O
  exact⟨hB.1.2,acJ (fun a' w' h=>⟨h.1,pg C hs hc hn rest _ _ _ (inv.set N hB.1.2) hB.2 h.1 h.2⟩) h⟩
def jE{J a}{w:World}{l:List Oper}(n S)(ord:List (Bool×Nat))(R:P.follows .mixedOrders=ε)(N:(Region.noSelect l.toArray&&Region.sinkB .any l.toArray n&&Region.chainB .any l.toArray n&&decide (n<l.length)&&decide (ord.length=n)&&xw l.toArray n ord (Array.replicate l.length ζ))=ε)(hS:S w.drew)(h:dh P l.toArray S (fun a' w'=>wpList P l.toArray Q (l.drop n) a' w') ord a w.drew):(Code.region J l.toArray ε).wp P Q a w:=by
 simp only[υ,Δ] at N;obtain⟨⟨⟨⟨⟨C,hs⟩,hc⟩,hn⟩,Y⟩,F⟩:=N;have G:n<l.toArray.size:=by simpa using hn
 have D:HeadInv .any l.toArray n (Array.replicate l.length ζ):=
  ⟨ag,fun j M _ Z=>AaY,fun t _ O=>aen (by simpa using O) (aaU _ _)⟩
 have H:=pg (P:=P) C hs hc G ord _ a w.drew D F hS h;have I:(l.drop n).length=l.toArray.size-n:=ag;have K:=nS (P:=P) (Q:=Q) (n:=n) (g:=l.toArray.size-n) (fun B a' w' L=>by
  have:=aco (P:=P) (ops:=l.toArray) (md:=.any) (Q':=Q) (l.drop n) n B a' w' (fun j=>ag) (by rw[I];exact L.1) L.2;rwa[I] at this) _ _ _ _ H
 exact Ab7
end
def hfs (s:StD) (p:dM) (f:eD) (k:Nat):BrD:=half s p f (k/2) (k%2)
structure Li (w W:World) (gx gf gB gH g6 g7:Nat) (ST FL:Array Value) (C:Nat->Value) (Bv:Nat->BrV) (wv:Nat->Value) (H:Nat->BrV) (s:StD) (p:dM) (f:eD) (n1:Nat) (brs:List BrD) (fv m:Nat):Prop where
 g:Gs w W gx gf gB gH C Bv brs s.bays.length wv (wd0 s p s.bays.length)
 bH:Blk W gH 221 (brc (n1*2) H).toArray
 lH:w.heap.size<=gH
 b6:Blk W g6 27 ST
 b7:Blk W g7 33 FL
 hv:∀k,k<m->sN W (H k) (hfs s p f k)
 ends:∀l e,l<6->e<2->C (1+2*l+e)=.int .i64 (eF s p l e:Nat)
 c14:C 14=.int .i64 (fv:Int)
 liv:∀k,k<18->C (15+k)=.bool ζ
section
variable {w W W' W2:World} {gx gf gB gH g6 g7 n1 fv m:Nat} {ST FL:Array Value} {C:Nat->Value} {Bv:Nat->BrV} {wv:Nat->Value} {H:Nat->BrV} {s:StD} {p:dM} {f:eD} {brs:List BrD}
def Li.ext(h:Li w W gx gf gB gH g6 g7 ST FL C Bv wv H s p f n1 brs fv m)(x:Ext W W'):Li w W' gx gf gB gH g6 g7 ST FL C Bv wv H s p f n1 brs fv m:=
 ⟨h.g.ext x,h.bH.ext x,h.lH,h.b6.ext x,h.b7.ext x,fun k j=>(h.hv k j).ext x,h.ends,h.c14,h.liv⟩
def Li.set(h:Li w W gx gf gB gH g6 g7 ST FL C Bv wv H s p f n1 brs fv m)(j:Nat)(F:W'=W.setCell ⟨gx,14,δ⟩ (.int .i64 (j:Int))):Li w W' gx gf gB gH g6 g7 ST FL (upd C 14 (.int .i64 (j:Int))) Bv wv H s p f n1 brs j m:=by
 obtain⟨G,B⟩:=h.g.set (i:=14) (v:=.int .i64 (j:Int)) aa aa aa rfl F;exact⟨G,h.bH.mod B (Blk.fw h.bH h.g.r.g aj),h.lH,h.b6.mod B (Blk.fw h.b6 h.g.r.g aj),h.b7.mod B (Blk.fw h.b7 h.g.r.g aj),fun k D=>(h.hv k D).fQ B h.g.r.far,fun l e Z O=>by rw[upd_ne aa];exact h.ends l e Z O,upd_same ..,fun k D=>by rw[upd_ne aa];exact h.liv k D⟩
def Li.XA(h:Li w W gx gf gB gH g6 g7 ST FL C Bv wv H s p f n1 brs fv m):iB (fun k=>k=gH) W:=fun k B _=>by
 have B:k=gH:=B;rw[B];exact⟨_,_,h.bH,fun j v hv=>Hr j v (by rwa[Γ] at hv)⟩
def Li.half(h:Li w W gx gf gB gH g6 g7 ST FL C Bv wv H s p f n1 brs fv m){r}(L:sN W r (hfs s p f m))(O:m<n1*2)(K:W'=puts W gH (m*20) r.cs):Li w W' gx gf gB gH g6 g7 ST FL C Bv wv (upd H m r) s p f n1 brs fv (m+1):=by
 have D:Mod (fun k=>k=gH) W W':=by rw[K];exact Mod.puts _ _ _ _ rfl
 have F:=h.XA;have lH:=h.lH;have lx:=h.g.r.lx;have lB:=h.g.lB;have M:∀g,(C 0).ownBlock=γ g->¬g=gH:=fun g I e=>by
  subst e;exact h.g.r.own.ne h.bH aj I
 refine⟨⟨h.g.r.mod D (fun k J=>by have J:k=gH:=J;omega) F M,h.g.c13,h.g.bB.mod D (Blk.fw h.g.bB h.bH aj),lB,fun j P=>(h.g.wy j P).mod D F (fun g I=> .inr (.inr (.inr I)))⟩,?_,lH,h.b6.mod D (Blk.fw h.b6 h.bH aj),h.b7.mod D (Blk.fw h.b7 h.bH aj),fun k J=> ?_,h.ends,h.c14,h.liv⟩
 .have G:=dm (m*20) r.cs h.bH;rw[jR,iU,χ (l:=r.cs) (by rw[iU,jQ];omega)] at G;rw[K];have N:=NT (B:=H) (k:=m) (n:=n1*2) r O;rw[N] at G;exact G
 .by_cases e:k=m
  .subst e;rw[upd_same];exact L.fQ D F
  .rw[upd_ne e];exact(h.hv k aa).fQ D F
def Li.push(h:Li w W gx gf gB gH g6 g7 ST FL C Bv wv H s p f n1 brs fv m){b r G}(J:sN W r b)(I:oD W' w.heap.size G (brs.length+1) (upd Bv brs.length r))(F:Mod (fun g=>(C 0).ownBlock=γ g) W W')(hv:∀g,G.ownBlock=γ g->(C 0).ownBlock=γ g\/g=W.heap.size)(D:W2=W'.setCell ⟨gx,0,δ⟩ G):
  Li w W2 gx gf gB gH g6 g7 ST FL (upd C 0 G) (upd Bv brs.length r) wv H s p f n1 (brs++[b]) fv m:=by
 obtain⟨K,j,L⟩:=h.g.push J I F hv D;refine⟨K,h.bH.mod j ?_,h.lH,h.b6.mod j ?_,h.b7.mod j ?_,fun k B=>(h.hv k B).fQ j L,fun l e Z j=> ?_,?_,fun k B=> ?_⟩
 .rintro(e|e)
  .exact Blk.fw h.bH h.g.r.g aj e
  .exact h.g.r.own.ne h.bH aj e
 .rintro(e|e)
  .exact Blk.fw h.b6 h.g.r.g aj e
  .exact h.g.r.own.ne h.b6 aj e
 .exact AbE
 .rw[upd_ne aa];exact h.ends l e Z j
 .rw[upd_ne aa];exact h.c14
 .rw[upd_ne aa];exact h.liv k B
def afV(G:Gs w W gx gf gB gB C Bv brs s.bays.length wv (wd0 s p s.bays.length))(O:∀l e,l<6->e<2->C (1+2*l+e)=.int .i64 (eF s p l e:Nat))(F:C 14=.int .i64 (fv:Int))(Z:∀k,k<18->C (15+k)=.bool ζ)(x:Ext W W2)(b6:Blk W2 g6 27 ST)(b7:Blk W2 g7 33 FL):
  Li w (W2.alloc (.cells (brc (n1*2) fun _=>lu).toArray 221)) gx gf gB W2.heap.size g6 g7 ST FL C Bv wv (fun _=>lu) s p f n1 brs fv 0:=by
 have D:Ext W2 (W2.alloc (.cells (brc (n1*2) fun _=>lu).toArray 221)):=Ext.new _ _;have B:=(G.ext x).ext D;have hs:=(G.ext x).r.m.size;exact⟨⟨B.r,B.c13,B.bB,B.lB,fun j I=>((G.wy j I).ext x).Yt D (κ _)⟩,Blk.new _ _ _,hs,b6.ext D,b7.ext D,fun k H=>absurd H aa,O,F,Z⟩
end
def Pw:(prog.info? 221).map (fun i=>(i.zero,i.size,i.bytes))=γ (γ (.agg (brc 2 fun _=>lu).toArray),40,608):=ah
def zL:∀n:Nat,oI n (brc 2 fun _=>lu)=brc (n*2) fun _=>lu
 |0=>rfl
 |n+1=>by
  rw[qN,zL n,Ap,show(n+1)*2=n*2+2 by omega];simp only[acD]
def JP(n:Nat)(hn:n<=1000)(W:World):(Instr.makeSlice 220 (.int .i64 n) (.int .i64 n)).run prog W=.ok (.slice (γ (aM W.heap.size 0)) n n) (W.alloc (.cells (brc (n*2) fun _=>lu).toArray 221)):=by
 obtain⟨i0,O,B,C,j⟩:=abM Pw;have h:=ac7 (P:=prog) W 220 221 i0 (.agg (brc 2 fun _=>lu).toArray) underlying220 O B .i64 .i64 n n aa aa Abq aa;rw[h,C];have e:=qY (brc 2 fun _=>lu) AdU n;rw[jQ,zL] at e;simp only[Hu];rw[show(Value.agg (brc 2 fun _=>lu).toArray).cells=(brc 2 fun _=>lu).toArray from rfl,e]
def xD{w wd j:World}{t}{z cs:List Value}(Z:z.length=cs.length)(hd:wd=w.alloc (.cells z.toArray t))(O:j=puts wd w.heap.size 0 cs):Blk j w.heap.size t cs.toArray/\Ext w j:=by
 have B:Blk wd w.heap.size t z.toArray:=by rw[hd];exact Blk.new _ _ _
 have H:Ext w wd:=by rw[hd];exact Ext.new _ _
 refine⟨?_,by rw[O];exact fO (κ _:Own w w.heap.size) 0 _ H⟩;have C:Blk (puts wd w.heap.size 0 cs) w.heap.size t (gJ z.toArray 0 cs):=dm 0 cs B;rw[iF z cs Z] at C;rw[O];exact C
def twC (a b:Int):List Value:=[.int .i64 a,.int .i64 b]
def Gr(a b):(prog.info? 64).map (·.size)=γ (twC a b).length:=ah
theorem Rs(a b):∀v∈twC a b,v.oneCell'=ε:=by
 intro v hv;unfold twC at hv;simp only[kC,Ha,aaH] at hv;rcases hv with rfl|rfl<;>rfl
def oD.form{w B0 k v B}(h:oD w B0 v k B)(j:0<k):∃g c,v=.slice (γ (aM g 0)) k c:=by
 rcases h with ⟨_,h⟩|⟨g,N,_,h,_⟩
 .omega
 .exact⟨g,N,h⟩
def sM(s p):∀i,(gm s p i).length<=i
 |0=>κ _
 |i+1=>by
  show(gm s p i++(iq s p i).toList).length<=i+1;have:=sM s p i;cases iq s p i<;>simp<;>omega
def TG:(prog.info? 42).map (·.zero)=γ (γ (.agg zEn.cells.toArray)):=ah
def UL(a:En):(prog.info? 42).map (·.size)=γ a.cells.length:=ah
def WA{w W W':World}{g}{a:En}(hb:Blk W g 42 zEn.cells.toArray)(J:Ext w W)(Z:w.heap.size<=g)(C:W'=puts W g 0 a.cells):Blk W' g 42 a.cells.toArray/\Ext w W'/\∀(v:Value) (q:GQ) (n:Nat),GV W v q n->GV W' v q n:=by
 have D:Mod (fun k=>k=g) W W':=by rw[C];exact Mod.puts _ _ _ _ rfl
 have F:Far (fun k=>k=g) W:=fun k j _=>by
  have j:k=g:=j;rw[j];exact⟨_,_,hb,dD 1 (fun _=>zEn)⟩
 refine⟨?_,fG J D (fun k j=>by have j:k=g:=j;omega),fun v q n h=>h.mod D F⟩;have B:=dm 0 a.cells hb;rw[iF _ _ rf] at B;rw[C];exact B
def FJ(a b:En):(prog.info? 103).map (·.size)=γ (a.cells++b.cells).length:=ah
def Gl(a b:En):∀v∈a.cells++b.cells,v.oneCell'=ε:=by
 intro v hv;rcases aae.1 hv with h|h
 .exact eP a v h
 .exact eP b v h
def ul(b:BrV):(prog.info? 167).map (·.size)=γ b.cs.length:=by rw[iU];kernel_rfl
def Kt{w W W':World}{g}{a b:En}(hb:Blk W g 103 (bz 2 fun _=>zEn).toArray)(J:Ext w W)(Z:w.heap.size<=g)(C:W'=puts W g 0 (a.cells++b.cells)):Blk W' g 103 (a.cells++b.cells).toArray/\Ext w W'/\∀(v:Value) (q:GQ) (n:Nat),GV W v q n->GV W' v q n:=by
 have D:Mod (fun k=>k=g) W W':=by rw[C];exact Mod.puts _ _ _ _ rfl
 have F:Far (fun k=>k=g) W:=fun k j _=>by
  have j:k=g:=j;rw[j];exact⟨_,_,hb,dD 2 _⟩
 refine⟨?_,fG J D (fun k j=>by have j:k=g:=j;omega),fun v q n h=>h.mod D F⟩;have B:=dm 0 (a.cells++b.cells) hb;rw[iF _ _ rf] at B;rw[C];exact B
def wY:List Value:=[.string ByteArray.empty,.int .i64 0,.int .i64 0,.int .i64 0,.int .i64 0]
def Ez:(prog.info? 63).map (·.zero)=γ (γ (.agg wY.toArray)):=ah
def vM(g):(prog.info? 63).map (·.size)=γ (mr g).length:=ah
theorem Io(b):∀v∈mr b,v.oneCell'=ε:=by
 intro v hv;unfold mr at hv;simp only[kC,Ha,aaH] at hv;rcases hv with rfl|rfl|rfl|rfl|rfl<;>rfl
theorem Ac(s p f):∀l,(fE s p f l).length<=2*l
 |0=>κ _
 |l+1=>by
  show(fE s p f l++jP s p f l).length<=2*(l+1);have:=Ac s p f l;unfold jP;split<;>simp<;>omega
def IU:∀(a b:List Value) (w:World) (g k:Nat),puts w g k (a++b)=puts (puts w g k a) g (k+a.length) b
 |[],b,w,g,k=>rfl
 |x::a,b,w,g,k=>by
  show puts (w.setCell ⟨g,k,δ⟩ x) g (k+1) (a++b)=puts (puts (w.setCell ⟨g,k,δ⟩ x) g (k+1) a) g (k+(a.length+1)) b;rw[IU a b,show k+(a.length+1)=k+1+a.length by omega]
def Li.rng{w W gx gf gB gH g6 g7 n1 fv m ST FL C Bv wv H s p f brs}(h:Li w W gx gf gB gH g6 g7 ST FL C Bv wv H s p f n1 brs fv m){k o}(B:k<n1*2)(D:o=k*20):W.rangeAt gH o (H k).cs:=fun t v hv=>by
 have j:t<20:=by have:=(μ.1 hv).1;rwa[iU] at this
 subst D;rw[h.bH.cell,Γ,wI j B];exact hv
def Py(a b:BrV):(prog.info? 221).map (·.size)=γ (a.cs++b.cs).length:=by rw[pz,iU,iU];kernel_rfl
def PT(a b:BrV):∀v∈a.cs++b.cs,v.oneCell'=ε:=by
 intro v hv;rcases aae.1 hv with h|h
 .exact yY a v h
 .exact yY b v h
theorem Li.fin{w W W' gx gf gB gH g6 g7 ST FL C Bv wv J H s p f fv}(h:Li w W gx gf gB gH g6 g7 ST FL C Bv wv H s p f s.lines.length (bU s p f) fv (2*s.lines.length))(P:fv=eO s p f)(K:jC s)(M:Mod (fun k=>k=gB) W W')(hb:fU W' gB 165 s.bays.length J)(S:∀j,j<s.bays.length->J j=if (s.bays.getD j η).kind=1 then .pointer (γ (aM gH ((s.bays.getD j η).obj.toNat*40+(s.bays.getD j η).en.toNat*20))) else wv j):Dw w W' gx gf C Bv s p f:=by
 have R:=h.g.XY (fun j I=>(h.g.wy j I).nX);have lB:=h.g.lB;have lx:=h.g.r.lx;have lH:=h.lH;have D:gH≠gB:=Blk.fw h.bH h.g.bB aj;refine⟨h.g.r.mod M (fun k G=>by have G:k=gB:=G;omega) R (fun g N e=> ?_),h.ends,by rw[<-P];exact h.c14,h.liv,gB,J,h.g.c13,lB,hb,fun j I=> ?_⟩
 .have e:g=gB:=e;subst e;exact h.g.r.own.ne h.g.bB aj N
 .rw[S j I];by_cases G:(s.bays.getD j η).kind=1
  .rw[ι G];have Y:=O8 (K.obj j I) G;have O:=QP (K.rng j I);obtain⟨l,Z⟩:∃l:Nat,(s.bays.getD j η).obj.toNat=l:=⟨_,rfl⟩;obtain⟨e,B⟩:∃e:Nat,(s.bays.getD j η).en.toNat=e:=⟨_,rfl⟩;have T:l<s.lines.length:=aa;have U:e<2:=aa;have L:way s p f j=γ (hfs s p f (2*l+e)):=by
    unfold way hfs;rw[ι G,Z,B,show(2*l+e)/2=l by omega,show(2*l+e)%2=e by omega]
   rw[L,Z,B];have F:=(h.hv (2*l+e) aa).fQ M R;have Q:=h.rng (k:=2*l+e) (o:=l*40+e*20) aa aa;exact⟨⟨gH,l*40+e*20,H (2*l+e),rfl,aa,ο h.bH.lt M.size,fun t u V=>xU M h.bH.lt D (Q t u V),F.pa,F.pb,F.z0,F.z1,F.e⟩,fun g k e1=>by injection e1 with e1;injection e1 with e1;injection e1 with e1 _ _;omega⟩
  .rw[θ G];have L:way s p f j=wd0 s p s.bays.length j:=by unfold way wd0;rw[θ G,ι I]
   rw[L];exact⟨((h.g.wy j I).mod M R (fun g N=> .inr (.inr (.inl N)))).is lx,fun g k e1=>(h.g.wy j I).low e1⟩
def ix0(a b V):Sem.run prog (Instr.index 64 (.agg #[.int .i64 a,.int .i64 b]) (.int .i64 0)) V=.ok (.int .i64 a) V:=ah
def ix1(a b V):Sem.run prog (Instr.index 64 (.agg #[.int .i64 a,.int .i64 b]) (.int .i64 1)) V=.ok (.int .i64 b) V:=ah
def UB:(prog.info? 64).map (·.zero)=γ (γ (.agg (twC 0 0).toArray)):=ah
theorem FD{A0 n0 c0 A1 n1 c1 A2 n2 c2 A3 n3 c3 LH s p C Bv wv}(f gx gf gB wa w W)(ZG:Ext wa w)(ZC:wa.heap.size<=gx)(hs:lI wa A0 n0 c0 A1 n1 c1 A2 n2 c2 A3 n3 c3 LH s)(YG:jC s)(ZF:mR s.buses.length s.lines.length f)(hG:Gs w W gx gf gB gB C Bv (gm s p s.bays.length) s.bays.length wv (wd0 s p s.bays.length))(O:∀l e,l<6->e<2->C (1+2*l+e)=.int .i64 (eF s p l e:Nat))(ZP:C 14=.int .i64 ((if f.kind≠0/\f.line=ζ then 13+((groups s p).getD f.obj.toNat 0).toNat else 17:Nat):Int))(Z:∀k,k<18->C (15+k)=.bool ζ):
  Calls prog 122 #[aN gx 0,aN gf 0,stV s.name A0 n0 c0 A1 n1 c1 A2 n2 c2 A3 n3 c3,nU f] W fun r W'=>r=.returned (.tuple #[])/\∃C' c6,Dw w W' gx gf C' c6 s p f:=by
 obtain rfl:=hs.l1;obtain rfl:=hs.l3;obtain⟨f0,cb⟩:∃n:Nat,(if f.kind≠0/\f.line=ζ then 13+((groups s p).getD f.obj.toNat 0).toNat else 17)=n:=⟨_,rfl⟩;rw[cb] at ZP;have cM:=aW cb;have Zx:=aW ZG;have ZE:=aW ZC;have Yz:=aW hs;have YM:=aW YG;have ZR:=aW ZF;obtain⟨P,YX,Zg⟩:=an2 W 27 #[s.name,aO A0 n0 c0,aO A1 s.lines.length c1,aO A2 n2 c2,aO A3 s.bays.length c3] 33 #[f.kind,f.line,f.obj,f.num,f.den,f.r];have YJ:=aW (afV (f:=f) (n1:=s.lines.length) (W2:=(aL (aL W #[s.name,aO A0 n0 c0,aO A1 s.lines.length c1,aO A2 n2 c2,aO A3 s.bays.length c3] 27) #[f.kind,f.line,f.obj,f.num,f.den,f.r] 33)) hG O ZP Z P YX Zg);have k6:=YX.cell;have cU:=YJ.b6.cell;have Zj:=fun V=>JP s.lines.length (by have:=YM.nl;omega) V;clear ZG ZC hs YG ZF hG O ZP Z cb P;unfold stV nU;go_enter func122,ntmps122;go_wp2_with fail;clear k6 cU Zj YX Zg;(try simp only[eU] at YJ⊢);generalize aU _ _=W0 at YJ⊢;generalize W.heap.size+1+1=gH at YJ⊢;generalize W.heap.size+1=g7 at YJ⊢;generalize W.heap.size=g6 at YJ⊢;go_loopw [25] (fun iv wr=>∃l:Nat,l<=s.lines.length/\iv=.int .i64 l/\∃C Bv H,Li w wr gx gf gB gH g6 g7 #[s.name,aO A0 n0 c0,aO A1 s.lines.length c1,aO A2 n2 c2,aO A3 s.bays.length c3] #[f.kind,f.line,f.obj,f.num,f.den,f.r] C Bv wv H s p f s.lines.length (gm s p s.bays.length++fE s p f l) (if f.line=ε/\f.obj<(l:Int) then 12 else f0) (2*l)) (aT s.lines.length)
 case atStart=>
  refine⟨0,aa,rfl,C,Bv,fun _=>lu,?_⟩;have e1:(if f.line=ε/\f.obj<((0:Nat):Int) then 12 else f0)=f0:=θ (fun e=>by have:=(ZR.line e.1).1.1;omega);rw[e1,show fE s p f 0=[] from rfl,Z6];exact YJ.o
 case round=>
  clear YJ;obtain⟨l,Z,rfl,C,Bv,H,hR⟩:=hrel;have Q:=aW hR;clear hR;rename World=>wr;by_cases Yu:l<s.lines.length
  .have hd:decide ((l:Int)<s.lines.length)=ε:=ae;have q1:(0:Int)<=l:=aa;have q2:(l:Int)<s.lines.length:=aa;have cx:l<6:=by have:=YM.nl;omega
   have q3:(l:Int)<6:=aa;have ZM:wrap64 ((l:Int)+1)=(l:Int)+1:=Ab _ aa;have Zk:=aW ZM;clear ZM;have Zo:=sM s p s.bays.length;have ZN:=Ac s p f l;have cy:=YM.nq;obtain⟨bb,YI⟩:∃x,gm s p s.bays.length++fE s p f l=x:=⟨_,rfl⟩;have ZY:Hid (bb.length<=28):=aW (by rw[<-YI,pz];omega);rw[YI] at Q;have Zc:=aW YI;clear YI;clear Zo ZN cy;have cD:=Yz.ext (Q.g.older Zx.o ZE.o);obtain⟨b,Ze⟩:∃b,s.lines.getD l η=b:=⟨_,rfl⟩;obtain⟨gl,ol,cY,ZO,ZX⟩:=cD.lines.at_ Yu;rw[Ze] at ZX;subst cY;have bo:=YM.line l Yu;rw[Ze] at bo;have YK:=qW.1 bo.1;have YP:=qW.1 bo.2;have YU:=aW YK;have YS:=aW YP;have YV:=aW Ze;clear Ze bo YK YP cD;have YE:=aW (show wr.rangeAt gl (ol+l*5) (mr b) from ZX);clear ZX ZO;(go_wp2_with (refine σ rfl 63 _ rfl gl (ol+l*5) rf (mr b) _ YE.o acX rfl (vM _) (Hid.o ?_)));refine Qz ?_;(go_wp2_with (refine bF rfl 63 rfl _ Ez (fun ch G=>Hid.o ?_)));refine Qz ?_;replace G:=Hid.o G;have Zt:=aW G;clear G;have N:Hid (ch.there wr.heap.size 0 (mr b).length):=aW (by rw[Zt.o];exact(Blk.new wr 63 wY.toArray).there (show 0+(mr b).length<=wY.toArray.size from κ 5));(go_wp2_with (refine aY rfl 63 (.tmp 10) (.tmp 29) rfl wr.heap.size (0) (mr b) rf rf N.o (vM _) (Io _) (fun ZQ G=>Hid.o ?_)));refine Qz ?_;replace G:=Hid.o G;have T:=xD (z:=wY) (cs:=mr b) rfl Zt.o G;have Yv:Hid (Blk ZQ wr.heap.size 63 #[b.name,b.z1.r,b.z1.x,b.z0.r,b.z0.x]):=aW T.1;replace Q:=Q.aA T.2;clear T Zt G N YE;generalize wr.heap.size=g10 at Yv⊢;obtain⟨ea,cC⟩:∃n:Nat,eF s p l 0=n:=⟨_,rfl⟩;obtain⟨eb,cw⟩:∃n:Nat,eF s p l 1=n:=⟨_,rfl⟩;have bq:=aW cC;have bx:=aW cw;clear cC cw;have YE:Hid (ZQ.rangeAt gx (1+l*2) (twC (ea:Int) (eb:Int))):=aW (Q.g.r.g.rangeAt (by show 1+l*2+2<=393;omega) (fun j v hv=>by
    have hj:j<2:=(μ.1 hv).1;have h2:j=0\/j=1:=aa;rcases h2 with rfl|rfl
    .have h3:=Q.ends l 0 cx aa;rw[bq.o] at h3;rw[dU aa,show 1+l*2+0=1+2*l+0 by omega,h3];simpa[twC] using hv
    .have h3:=Q.ends l 1 cx aa;rw[bx.o] at h3;rw[dU aa,show 1+l*2+1=1+2*l+1 by omega,h3];simpa[twC] using hv))
   (go_wp2_with (refine σ rfl 64 _ rfl gx (1+l*2) rf (twC (ea:Int) (eb:Int)) _ YE.o underlying64 rfl (Gr _ _) (Hid.o ?_)));refine Qz ?_;(go_wp2_with (refine bF rfl 64 rfl _ UB (fun cN G=>Hid.o ?_)));refine Qz ?_;replace G:=Hid.o G;have ce:=aW G;clear G;have N:Hid (cN.there ZQ.heap.size 0 (twC (ea:Int) (eb:Int)).length):=aW (by rw[ce.o];exact(Blk.new ZQ 64 (twC 0 0).toArray).there (show 0+(twC (ea:Int) (eb:Int)).length<=(twC 0 0).toArray.size from κ 2));(go_wp2_with (refine aY rfl 64 (.tmp 11) (.tmp 35) rfl ZQ.heap.size (0) (twC (ea:Int) (eb:Int)) rf rf N.o (Gr _ _) (Rs _ _) (fun ZI G=>Hid.o ?_)));refine Qz ?_;replace G:=Hid.o G;have T:=xD (z:=twC 0 0) (cs:=twC (ea:Int) (eb:Int)) rfl ce.o G;have B:Hid (Blk ZI ZQ.heap.size 64 #[ea,eb]):=aW T.1;replace Q:=Q.aA T.2;replace Yv:=Yv.aA T.2;clear T ce G N YE;generalize ZQ.heap.size=ZZ at B⊢;by_cases Zd:f.line=ε/\f.obj=(l:Int)
   .obtain⟨Zy,aE⟩:=Zd;have bw:=aW Zy;have a9:=aW aE;have Zz:=ZR.line Zy;have YQ:=aW Zz;have ao:iC f l=ε:=by unfold iC;rw[Zy,aE];simp
    have Zf:=aW ao;clear ao Zy aE;have Yx:hfs s p f (2*l+0)=⟨ea,12,b.z0,b.z1,f.num,f.den,0⟩:=by unfold hfs;rw[show(2*l+0)/2=l by omega,show(2*l+0)%2=0 by omega];unfold half;simp only[];rw[Zf.o,ι rfl,bq.o,YV.o]<;>simp
    have a2:hfs s p f (2*l+1)=⟨eb,12,b.z0,b.z1,f.den-f.num,f.den,0⟩:=by unfold hfs;rw[show(2*l+1)/2=l by omega,show(2*l+1)%2=1 by omega];unfold half;simp only[];rw[Zf.o,ι rfl,bx.o,YV.o]<;>simp
    have Zq:fE s p f (l+1)=fE s p f l++([⟨ea,12,b.z0,b.z1,f.num,f.den,0⟩]++[⟨eb,12,b.z0,b.z1,f.den-f.num,f.den,0⟩]):=by show fE s p f l++jP s p f l=_;rw[<-Yx,<-a2];unfold jP hfs;rw[Zf.o,ι rfl,show(2*l+0)/2=l by omega,show(2*l+0)%2=0 by omega,show(2*l+1)/2=l by omega,show(2*l+1)%2=1 by omega];rfl
    have a6:(12:Nat)=(if f.line=ε/\f.obj<((l+1:Nat):Int) then 12 else f0):=by rw[ι ⟨bw.o,by have:=a9.o;omega⟩]
    have bA:=aW Yx;have cd:=aW a2;have Za:=aW Zq;have ca:=aW a6;clear Yx a2 Zq a6;have Zg:=Q.b7;rw[bw.o,a9.o] at Zg;have k7:=Zg.cell;clear Zg;have kx:=Q.g.r.g.cell (k:=14) aa;have fx:=Q.g.r.g.frozen 14;have HQ:=aW (Q.set (W':=(ZI.setCell ⟨gx,14,δ⟩ (.int .i64 12))) 12 rfl);have cg:Mod (fun k=>k=gx) ZI (ZI.setCell ⟨gx,14,δ⟩ (.int .i64 12)):=Mod.set _ _ _ _ rfl;have ai:=Yv.mod cg (Blk.fw Yv.o Q.g.r.g aj);have am:=B.mod cg (Blk.fw B.o Q.g.r.g aj);replace Yv:=aW ai;replace B:=aW am;clear cg ai am;have db:=HQ.b7.cell;have bg:wrap64 (f.den-f.num)=f.den-f.num:=Ab _ aa;have dp:=aW bg;go_wp2_with fail;clear k7 db kx fx bg Zz Q;generalize (ZI.setCell ⟨gx,14,δ⟩ (.int .i64 12))=ds at HQ Yv B⊢;go_loopw [55] (fun iv wq=>∃e:Nat,e<=2/\iv=.int .i64 e/\Blk wq g10 63 #[b.name,b.z1.r,b.z1.x,b.z0.r,b.z0.x]/\Blk wq ZZ 64 #[ea,eb]/\∃C Bv H bc,bc=bb++(if e=0 then [] else if e=1 then [⟨ea,12,b.z0,b.z1,f.num,f.den,0⟩] else [⟨ea,12,b.z0,b.z1,f.num,f.den,0⟩]++[⟨eb,12,b.z0,b.z1,f.den-f.num,f.den,0⟩])/\Li w wq gx gf gB gH g6 g7 #[s.name,aO A0 n0 c0,aO (γ (aM gl ol)) s.lines.length c1,aO A2 n2 c2,aO A3 s.bays.length c3] #[f.kind,f.line,f.obj,f.num,f.den,f.r] C Bv wv H s p f s.lines.length bc 12 (2*l+e)) (aT 2)
    case atStart=>exact⟨0,aa,rfl,Yv.o,B.o,_,_,_,_,(by rw[ι rfl,Z6]),HQ.o⟩
    case round=>
     clear HQ Yv B;obtain⟨e,O,rfl,be,bh,C,Bv,H,bc,Zh,hR⟩:=hrel;have Q:=aW hR;have Yv:=aW be;have B:=aW bh;clear hR be bh;have h3:e=0\/e=1\/e=2:=aa;clear O;rcases h3 with rfl|rfl|rfl
     case' inr.inr=>
      rw[θ aj,θ aj] at Zh;have bV:=aW Zh;clear Zh;go_wp2_with fail
      go_roundw
      case rel=>exact⟨l+1,aa,rf,_,_,_,by rw[Za.o,<-I5,Zc.o,<-bV.o,<-ca.o,show 2*(l+1)=2*l+2 by omega];exact Q.o⟩
      case measure=>exact aV
     case' inl=>
      rw[ι rfl,Z6] at Zh;subst Zh;have cA:=fun a b V=>ix0 a b V;obtain⟨ee,rfl⟩:∃x,x=ea:=⟨_,rfl⟩;obtain⟨k2,YN⟩:∃x,x=2*l+0:=⟨_,rfl⟩;obtain⟨mm,Zn⟩:∃x,f.num=x:=⟨_,rfl⟩;have HH:Hid (hfs s p f k2=⟨ee,12,b.z0,b.z1,mm,f.den,0⟩):=aW (by rw[YN,<-Zn];exact bA.o)
     case' inr.inl=>
      rw[θ aj,ι rfl] at Zh;have bV:=aW Zh;clear Zh;have bk:=ZY;clear ZY;have ZY:Hid (bc.length<=29):=aW (by rw[bV.o,pz];have:=bk.o;simp;omega);have cA:=fun a b V=>ix1 a b V;obtain⟨ee,rfl⟩:∃x,x=eb:=⟨_,rfl⟩;obtain⟨k2,YN⟩:∃x,x=2*l+1:=⟨_,rfl⟩;obtain⟨mm,Zn⟩:∃x,f.den-f.num=x:=⟨_,rfl⟩;have HH:Hid (hfs s p f k2=⟨ee,12,b.z0,b.z1,mm,f.den,0⟩):=aW (by rw[YN,<-Zn];exact cd.o)
     all_goals
      have a5:=aW YN;have bl:=aW Zn;rw[<-YN] at Q;clear YN Zn;have aG:=aX.blk Yv.o;have cX:=aX.blk Q.b7;go_wp2_with fail;clear cA;refine tR 16 [(6,.gv (zq b.z0 mm f.den) (64)),(13,.gv (zq b.z1 mm f.den) (64)),(15,.box 103 (bz 2 fun _=>zEn).toArray)] ?_;refine Qs ?_;refine dL rf rf rf ?_ ?_
      .intro R I;have hW:=I.1;clear I;go_simp;exact⟨rfl,(CX gf b.z0 _ f.den _ (dz.ext Q.g.r.c hW) AcI AcI Adp Adp).mono fun e w' ⟨v,O,hv,J⟩=>⟨v,O,J,uh (by rw[<-bl.o];exact hv)⟩⟩
      intro v_ cj cr YD;obtain⟨R,YC⟩:=YD;obtain⟨e0,rfl,-⟩:NR.holds (.gv (zq b.z0 mm f.den) (64)) cj cr v_ R:=YC.get;clear YC R;refine Qp ?_;refine Qs ?_;refine dL rf rf rf ?_ ?_
      .intro R I;have hW:=I.1;clear I;go_simp;exact⟨rfl,(CX gf b.z1 _ f.den _ (dz.ext Q.g.r.c hW) Ac8 Ac8 Adp Adp).mono fun e w' ⟨v,O,hv,J⟩=>⟨v,O,J,uh (by rw[<-bl.o];exact hv)⟩⟩
      intro v_ bi bj YD;obtain⟨R,YC⟩:=YD;obtain⟨e1,rfl,-⟩:NR.holds (.gv (zq b.z1 mm f.den) (64)) bi bj v_ R:=YC.get;clear YC R;refine Qp ?_;simp only[En.v,gv];refine Qs ?_;refine Eb ?_;intro YY cG a0;refine bN ?_;intro wE I;have F:=I.ext;have ac:=I.hR 6;have Z9:=I.hR 13;have ZL:=I.hB 15;have aq:=aW (I.low 15 _ rf);clear a0;have YA:=aW F;clear I F;have N:=aW (ZL.there (o:=0) (n:=(e0.cells++e1.cells).length) Acb);refine aY rfl 103 (.tmp 14) (.tmp 73) rfl YY (0) (e0.cells++e1.cells) rf rf N.o (FJ _ _) (Gl _ _) (fun b0 G=> ?_);refine Qp ?_;replace G:=Hid.o G;obtain⟨Z8,aw,aB⟩:=Kt ZL.o YA.o aq.o G;have ba:Hid (Blk b0 YY 103 #[e0.s1,aO e0.A1 e0.n1 e0.c1,e0.s2,aO e0.A2 e0.n2 e0.c2,e0.s3,aO e0.A3 e0.n3 e0.c3,e1.s1,aO e1.A1 e1.n1 e1.c1,e1.s2,aO e1.A2 e1.n2 e1.c2,e1.s3,aO e1.A3 e1.n3 e1.c3]):=aW Z8;have D:=aW (aB _ _ _ ac.o);have Zr:=aW (aB _ _ _ Z9.o);replace Q:=Q.aA aw;replace B:=B.aA aw;replace Yv:=Yv.aA aw;clear Z8 aw aB G N YA ac Z9 ZL aq aG cX;have aI:=aX.blk B.o;have cn:=aX.blk ba.o;go_wp2_with fail;refine tR 12 [(8,.gv (GQ.i 0 0) (64))] ?_;refine Qs ?_;refine Ee (fun R I=>dR gf 0 _ (dz.ext Q.g.r.c I.1) aa aa) ?_;intro e2 ck cl;simp only[En.v,gv];refine Qs ?_;refine bN ?_;intro wE I;have F:=I.ext;have ad:=I.hR 8;have YA:=aW F;clear I F;have a7:sN wE (⟨ee,12,e0,e1,e2⟩:BrV) (hfs s p f k2):=by rw[HH.o];exact⟨rfl,rfl,D.ext YA.o,Zr.ext YA.o,ad.o⟩
      have a8:=aW a7;clear a7;replace Q:=Q.aA YA.o;replace B:=B.aA YA.o;replace Yv:=Yv.aA YA.o;have HT:=aW (fun(o:Nat) (h:o+20<=s.lines.length*40)=>Q.bH.there (o:=o) (n:=(⟨ee,12,e0,e1,e2⟩:BrV).cs.length) (by rw[xx,jQ,iU];omega));refine aY rfl 167 (.tmp 85) (.tmp 83) rfl gH (_) ((⟨ee,12,e0,e1,e2⟩:BrV).cs) rf rf (HT.o _ aa) (ul _) (yY _) (fun YF G=> ?_);refine Qp ?_;replace G:=Hid.o G;have hW:YF=puts wE gH (k2*20) (⟨ee,12,e0,e1,e2⟩:BrV).cs:=by rw[G];exact congrArg (fun o=>puts wE gH o _) Ady
      have ZK:=Q.half a8.o Ady hW;have cc:Mod (fun k=>k=gH) wE YF:=by rw[hW];exact Mod.puts _ _ _ _ rfl
      have ai:=Yv.mod cc (Blk.fw Yv.o Q.bH aj);have am:=B.mod cc (Blk.fw B.o Q.bH aj);replace Yv:=aW ai;replace B:=aW am;clear cc ai am;obtain⟨H2,ay⟩:∃h,upd H k2 (⟨ee,12,e0,e1,e2⟩:BrV)=h:=⟨_,rfl⟩;rw[ay] at ZK;have az:H2 k2=(⟨ee,12,e0,e1,e2⟩:BrV):=by rw[<-ay,upd_same]
      have Zi:∀o,o=k2*20->YF.rangeAt gH o (⟨ee,12,e0,e1,e2⟩:BrV).cs:=fun o ho=>by have h:=ZK.rng (k:=k2) (o:=o) Ady aa;rwa[az] at h
      have Zl:=ZK.hv k2 aa;rw[az,HH.o] at Zl;have L:=aW ZK;have YE:=aW Zi;have Zm:=aW Zl;clear hW ZK ay az Zi Zl G HT Q a8 YA ba D Zr ad aI cn;go_wp2_with fail;have cf:=fun x=>Kp3.a (b:=gx) (c:=gx) (L.g.r.g.cell_ (k:=0) aa (dU aa)) x;refine jE 13 (fun w'=>∃x:Kp3 YF gx gx gx,w'=x.val) [(ε,0),(ε,1),(ε,2),(ε,3),(ε,4),(ε,5),(ε,6),(ε,7),(ε,8),(ε,9),(ζ,10),(ζ,11),(ζ,12)] ah ah ⟨⟨YF.drew,rfl,rfl,rfl⟩,rfl⟩ ?_;refine bD [0,1,2,3,4,5,6,7,8,9] [(ζ,10),(ζ,11),(ζ,12)] _ ah ?_;refine Gq ?_;clear cf;refine bC 10 [(ζ,11),(ζ,12)] ah ?_;intro K I;simp only[bJ];(go_wp2_with (refine σ rfl 167 _ rfl gH (_) rf ((⟨ee,12,e0,e1,e2⟩:BrV).cs) _ (YE.o _ Ady) aaT rfl (ul _) (Hid.o ?_)));refine Qz ?_;go_wp2_with fail;refine I _ _ ⟨⟨YF.drew,rfl,rfl,rfl⟩,rfl⟩ ?_;clear I K YE;simp only[BrV.cs];refine bC 11 [(ζ,12)] ah ?_;intro K I;simp only[bJ];go_wp2_with fail;have a3:Hid (Blk (YF.drew.alloc (.cells (⟨ee,12,e0,e1,e2⟩:BrV).cs.toArray 167)) YF.heap.size 167 (⟨ee,12,e0,e1,e2⟩:BrV).cs.toArray):=aW (Blk.new YF.drew _ _);have Zv:Hid (Ext YF (YF.drew.alloc (.cells (⟨ee,12,e0,e1,e2⟩:BrV).cs.toArray 167))):=aW ((Ext.refl YF).drew.trans (Ext.new _ _));refine I _ _ (Kp3.of (S:=fun _=>False) (ae0 Zv.o) L.g.r.g.lt L.g.r.g.lt L.g.r.g.lt id id id) ?_;clear I K;have Yw:=aW (L.ext Zv.o);have YR:=L.g.r.m.size;refine bC 12 [] ah ?_;intro K I;simp only[bJ];(go_wp2_with (at_builtin;refine nQ rfl (.tmp 90) (.tmp 97) rfl rf rf Yw.g.r.own AdK (Θ YR Zv.size) a3.o (fun v2 w2 YH ZT M=> ?_)));obtain⟨bt,av,ZV⟩:=YH.form aa;subst ZV;refine Qp ?_;go_wp2;refine I _ _ (Kp3.of ((ae0 Zv.o).trans ZT) L.g.r.g.lt L.g.r.g.lt L.g.r.g.lt (Yw.g.r.own.ne Yw.g.r.g aj) (Yw.g.r.own.ne Yw.g.r.g aj) (Yw.g.r.own.ne Yw.g.r.g aj)) ?_;clear I K;simp only[dh,ξ,τ];have ZH:=Yw.g.r.g.mod ZT (Yw.g.r.own.ne Yw.g.r.g aj);have kx:=ZH.cell (k:=0) aa;have fx:=ZH.frozen 0;have ZA:=aW (Yw.push (W2:=w2.setCell ⟨gx,0,δ⟩ (.slice (γ (aM bt 0)) (bc.length+1) av)) (Zm.ext Zv.o) YH ZT M rfl);have aP:=(Yw.g.push (W2:=w2.setCell ⟨gx,0,δ⟩ (.slice (γ (aM bt 0)) (bc.length+1) av)) (Zm.ext Zv.o) YH ZT M rfl).2.1;have ar:=Yv.ext Zv.o;replace Yv:=aW (ar.mod aP Abn);clear ar;have ar:=B.ext Zv.o;replace B:=aW (ar.mod aP Abn);clear ar;clear aP;clear Yw L Zm a3 Zv ZH YH ZT M YR;go_wp2_with fail
      go_roundw
      case rel=>
       have YW:=ZA.o;rw[a5.o] at YW
       first
       |exact⟨1,aa,rfl,Yv.o,B.o,_,_,_,_,(by rw[θ aj,ι rfl,bl.o]),YW⟩
       |exact⟨2,aa,rfl,Yv.o,B.o,_,_,_,_,(by rw[θ aj,θ aj,bV.o,I5,bl.o]),YW⟩
      case measure=>simp[aT,intOf]
   .have bn:=aW Zd;clear Zd;have ao:iC f l=ζ:=by unfold iC;cases hq:f.line<;>simp;exact fun e=>bn.o ⟨hq,e⟩
    have Zf:=aW ao;clear ao;have Yx:hfs s p f (2*l)=⟨ea,eb,b.z0,b.z1,1,1,0⟩:=by unfold hfs;rw[show 2*l/2=l by omega,show 2*l%2=0 by omega];unfold half;simp only[];rw[Zf.o,θ aj,bq.o,show(1-0:Nat)=1 from rfl,bx.o,YV.o]
    have a2:hfs s p f (2*l+1)=⟨eb,ea,b.z0,b.z1,1,1,0⟩:=by unfold hfs;rw[show(2*l+1)/2=l by omega,show(2*l+1)%2=1 by omega];unfold half;simp only[];rw[Zf.o,θ aj,bx.o,show(1-1:Nat)=0 from rfl,bq.o,YV.o]
    have Zq:fE s p f (l+1)=fE s p f l++[⟨ea,eb,b.z0,b.z1,1,1,0⟩]:=by show fE s p f l++jP s p f l=_;rw[<-Yx];unfold jP hfs;rw[Zf.o,θ aj,show 2*l/2=l by omega,show 2*l%2=0 by omega]
    have a6:(if f.line=ε/\f.obj<(l:Int) then 12 else f0)=(if f.line=ε/\f.obj<((l+1:Nat):Int) then 12 else f0):=by
     by_cases h1:f.line=ε
     .have h2:f.obj≠(l:Int):=fun e=>bn.o ⟨h1,e⟩;by_cases h3:f.obj<(l:Int)
      .rw[ι ⟨h1,h3⟩,ι ⟨h1,aa⟩]
      .rw[θ (fun e=>h3 e.2),θ (fun e=>by have:=e.2;omega)]
     .rw[θ (fun e=>h1 e.1),θ (fun e=>h1 e.1)]
    have bA:=aW Yx;have cd:=aW a2;have Za:=aW Zq;have ca:=aW a6;clear Yx a2 Zq a6;by_cases bm:f.line=ε
    case' neg=>
     have Zy:f.line=ζ:=by simpa using bm
     clear bm
    case' pos=>
     have Zy:=bm;clear bm;have bp:(f.obj==(l:Int))=ζ:=by have:f.obj≠(l:Int):=fun e=>bn.o ⟨Zy,e⟩;simpa using this
     have dk:¬f.obj=(l:Int):=fun e=>bn.o ⟨Zy,e⟩
    all_goals
     have bw:=aW Zy;clear Zy;have Zg:=Q.b7;rw[bw.o] at Zg;have k7:=Zg.cell;clear Zg;have aG:=aX.blk Yv.o;go_wp2_with fail;clear k7;refine tR 10 [(3,.gv (zq b.z0 1 1) (64)),(7,.gv (zq b.z1 1 1) (64)),(9,.box 103 (bz 2 fun _=>zEn).toArray)] ?_;refine Qs ?_;refine Ee (fun R I=>lG gf b.z0 _ (dz.ext Q.g.r.c I.1) AcI AcI) ?_;intro e0 df de;refine Qs ?_;refine Ee (fun R I=>lG gf b.z1 _ (dz.ext Q.g.r.c I.1) Ac8 Ac8) ?_;intro e1 di dq;simp only[En.v,gv];refine Qs ?_;refine Eb ?_;intro Zw dl a1;refine bN ?_;intro wE I;have F:=I.ext;have ac:=I.hR 3;have Z9:=I.hR 7;have af:=I.hB 9;have ap:=aW (I.low 9 _ rf);clear a1;have YA:=aW F;clear I F;have N:=aW (af.there (o:=0) (n:=(e0.cells++e1.cells).length) Acb);refine aY rfl 103 (.tmp 15) (.tmp 110) rfl Zw (0) (e0.cells++e1.cells) rf rf N.o (FJ _ _) (Gl _ _) (fun b0 G=> ?_);refine Qp ?_;replace G:=Hid.o G;obtain⟨Z8,aw,aB⟩:=Kt af.o YA.o ap.o G;have ZJ:Hid (Blk b0 Zw 103 #[e0.s1,aO e0.A1 e0.n1 e0.c1,e0.s2,aO e0.A2 e0.n2 e0.c2,e0.s3,aO e0.A3 e0.n3 e0.c3,e1.s1,aO e1.A1 e1.n1 e1.c1,e1.s2,aO e1.A2 e1.n2 e1.c2,e1.s3,aO e1.A3 e1.n3 e1.c3]):=aW Z8;have D:=aW (aB _ _ _ ac.o);have Zr:=aW (aB _ _ _ Z9.o);replace Q:=Q.aA aw;replace B:=B.aA aw;clear Z8 aw aB G N YA ac Z9 af ap aG;have aI:=aX.blk B.o;have cp:=aX.blk ZJ.o;go_wp2_with fail;refine tR 20 [(8,.gv (GQ.i 0 0) (64)),(16,.gv (GQ.i 0 0) (64))] ?_;refine Qs ?_;refine Ee (fun R I=>dR gf 0 _ (dz.ext Q.g.r.c I.1) aa aa) ?_;intro e2 ck cl;simp only[En.v,gv];refine Qs ?_;refine Ee (fun R I=>dR gf 0 _ (dz.ext Q.g.r.c I.1) aa aa) ?_;intro e3 cH cI;simp only[En.v,gv];refine Qs ?_;refine bN ?_;intro wE I;have F:=I.ext;have ad:=I.hR 8;have ax:=I.hR 16;have YA:=aW F;clear I F;have a7:sN wE (⟨ea,eb,e0,e1,e2⟩:BrV) (hfs s p f (2*l)):=by rw[bA.o];exact⟨rfl,rfl,D.ext YA.o,Zr.ext YA.o,ad.o⟩
     have cF:sN wE (⟨eb,ea,e0,e1,e3⟩:BrV) (hfs s p f (2*l+1)):=by rw[cd.o];exact⟨rfl,rfl,D.ext YA.o,Zr.ext YA.o,ax.o⟩
     have a8:=aW a7;have cB:=aW cF;clear a7 cF;replace Q:=Q.aA YA.o;have N:Hid (wE.there gH (l*40) ((⟨ea,eb,e0,e1,e2⟩:BrV).cs++(⟨eb,ea,e0,e1,e3⟩:BrV).cs).length):=aW (Q.bH.there (by rw[xx,jQ,pz,iU,iU];omega));refine aY rfl 221 (.tmp 130) (.tmp 129) rfl gH (l*40) ((⟨ea,eb,e0,e1,e2⟩:BrV).cs++(⟨eb,ea,e0,e1,e3⟩:BrV).cs) rf rf N.o (Py _ _) (PT _ _) (fun YF G=> ?_);refine Qp ?_;replace G:=Hid.o G;have hW:YF=puts (puts wE gH (2*l*20) (⟨ea,eb,e0,e1,e2⟩:BrV).cs) gH ((2*l+1)*20) (⟨eb,ea,e0,e1,e3⟩:BrV).cs:=by rw[G,IU,iU,show l*40=2*l*20 by omega,show 2*l*20+20=(2*l+1)*20 by omega]
     have cv:=Q.half a8.o aa rfl;have ZK:=cv.half (cB.fQ (S:=fun k=>k=gH) (Mod.puts wE gH (2*l*20) (⟨ea,eb,e0,e1,e2⟩:BrV).cs rfl) Q.XA) aa hW;obtain⟨H2,ay⟩:∃h,upd (upd H (2*l) (⟨ea,eb,e0,e1,e2⟩:BrV)) (2*l+1) (⟨eb,ea,e0,e1,e3⟩:BrV)=h:=⟨_,rfl⟩;rw[ay] at ZK;have az:H2 (2*l)=(⟨ea,eb,e0,e1,e2⟩:BrV):=by rw[<-ay,upd_ne aa,upd_same]
     have Zi:=ZK.rng (k:=2*l) (o:=l*40) aa aa;rw[az] at Zi;have Zl:=ZK.hv (2*l) aa;rw[az,bA.o] at Zl;have L:=aW ZK;have YE:=aW Zi;have Zm:=aW Zl;clear hW cv ZK ay az Zi Zl G N Q a8 cB YA ZJ Yv B D Zr ad ax aI cp;go_wp2_with fail;have cf:=fun x=>Kp3.a (b:=gx) (c:=gx) (L.g.r.g.cell_ (k:=0) aa (dU aa)) x;refine jE 12 (fun w'=>∃x:Kp3 YF gx gx gx,w'=x.val) [(ε,0),(ε,1),(ε,2),(ε,3),(ε,4),(ε,5),(ε,6),(ε,7),(ε,8),(ζ,9),(ζ,10),(ζ,11)] ah ah ⟨⟨YF.drew,rfl,rfl,rfl⟩,rfl⟩ ?_;refine bD [0,1,2,3,4,5,6,7,8] [(ζ,9),(ζ,10),(ζ,11)] _ ah ?_;refine Gq ?_;clear cf;refine bC 9 [(ζ,10),(ζ,11)] ah ?_;intro K I;simp only[bJ];(go_wp2_with (refine σ rfl 167 _ rfl gH (l*40) rf ((⟨ea,eb,e0,e1,e2⟩:BrV).cs) _ YE.o aaT rfl (ul _) (Hid.o ?_)));refine Qz ?_;go_wp2_with fail;refine I _ _ ⟨⟨YF.drew,rfl,rfl,rfl⟩,rfl⟩ ?_;clear I K YE;simp only[BrV.cs];refine bC 10 [(ζ,11)] ah ?_;intro K I;simp only[bJ];go_wp2_with fail;have a3:Hid (Blk (YF.drew.alloc (.cells (⟨ea,eb,e0,e1,e2⟩:BrV).cs.toArray 167)) YF.heap.size 167 (⟨ea,eb,e0,e1,e2⟩:BrV).cs.toArray):=aW (Blk.new YF.drew _ _);have Zv:Hid (Ext YF (YF.drew.alloc (.cells (⟨ea,eb,e0,e1,e2⟩:BrV).cs.toArray 167))):=aW ((Ext.refl YF).drew.trans (Ext.new _ _));refine I _ _ (Kp3.of (S:=fun _=>False) (ae0 Zv.o) L.g.r.g.lt L.g.r.g.lt L.g.r.g.lt id id id) ?_;clear I K;have Yw:=aW (L.ext Zv.o);have YR:=L.g.r.m.size;refine bC 11 [] ah ?_;intro K I;simp only[bJ];(go_wp2_with (at_builtin;refine nQ rfl (.tmp 135) (.tmp 141) rfl rf rf Yw.g.r.own AdK (Θ YR Zv.size) a3.o (fun v2 w2 YH ZT M=> ?_)));obtain⟨bt,av,ZV⟩:=YH.form aa;subst ZV;refine Qp ?_;go_wp2;refine I _ _ (Kp3.of ((ae0 Zv.o).trans ZT) L.g.r.g.lt L.g.r.g.lt L.g.r.g.lt (Yw.g.r.own.ne Yw.g.r.g aj) (Yw.g.r.own.ne Yw.g.r.g aj) (Yw.g.r.own.ne Yw.g.r.g aj)) ?_;clear I K;simp only[dh,ξ,τ];have ZH:=Yw.g.r.g.mod ZT (Yw.g.r.own.ne Yw.g.r.g aj);have kx:=ZH.cell (k:=0) aa;have fx:=ZH.frozen 0;have ZA:=aW (Yw.push (W2:=w2.setCell ⟨gx,0,δ⟩ (.slice (γ (aM bt 0)) (bb.length+1) av)) (Zm.ext Zv.o) YH ZT M rfl);clear Yw L Zm a3 Zv ZH YH ZT M YR;have YB:=ZA;go_wp2_with fail
     go_roundw
     case rel=>exact⟨l+1,aa,rf,_,_,_,by rw[Za.o,<-I5,Zc.o,<-ca.o,show 2*(l+1)=2*l+1+1 by omega];exact YB.o⟩
     case measure=>exact aV
  .obtain rfl:l=s.lines.length:=aa;have hd:decide ((s.lines.length:Int)<(s.lines.length:Int))=ζ:=ag;have ZW:(if f.line=ε/\f.obj<((s.lines.length:Nat):Int) then 12 else f0)=eO s p f:=by
    unfold eO;cases hq:f.line with
    |true=>rw[ι ⟨rfl,(ZR.o.line hq).1.2⟩,ι rfl]
    |false=>
     rw[θ (fun e=>by cases e.1),θ aj,<-cM.o];by_cases h0:f.kind=0
     .rw[θ (fun e=>e.1 h0),ι h0]
     .rw[ι ⟨h0,hq⟩,θ h0]
   have Zp:=aW ZW;clear ZW Yu Z;have k6:=Q.b6.cell;have cT:=aW YM.nq;have c7:w.heap.size<=gB:=Q.g.lB;have cQ:=Zx.size;have cR:Hid (wa.heap.size<=gB):=aW aa;clear c7 cQ;go_wp2_with fail;clear k6;go_loopw [149] (fun iv wq=>∃i:Nat,i<=s.bays.length/\iv=.int .i64 i/\∃a4,fU wq gB 165 s.bays.length a4/\(∀j,j<s.bays.length->a4 j=if j<i/\(s.bays.getD j η).kind=1 then .pointer (γ (aM gH ((s.bays.getD j η).obj.toNat*40+(s.bays.getD j η).en.toNat*20))) else wv j)/\Mod (fun k=>k=gB) wr wq) (aT s.bays.length)
   case atStart=>exact⟨0,aa,rfl,wv,Q.g.bB,fun j hj=>by rw[θ aa],Mod.refl _ _⟩
   case round=>
    rename World=>wq;obtain⟨i,hi,rfl,a4,hb,hw,hm⟩:=hrel;have HB:=aW hb;have HW:=aW hw;have HM:=aW hm;clear hb hw hm;by_cases Yu:i<s.bays.length
    .have cL:decide ((i:Int)<s.bays.length)=ε:=ae;have q1:(0:Int)<=i:=aa;have q2:(i:Int)<s.bays.length:=aa;have cy:=cT.o;have cE:Ext wa wq:=fG (Q.g.older Zx.o ZE.o) HM.o (fun k hk=>by have hk:k=gB:=hk;have:=cR.o;omega);obtain⟨b,Ze⟩:∃b,s.bays.getD i η=b:=⟨_,rfl⟩;have bp:=YM.obj i Yu;have Zi:=YM.rng i Yu;rw[Ze] at bp Zi;obtain⟨gb,ob,Z7,Zo,Zh⟩:=(Yz.ext cE).bays.at_ Yu;rw[Ze] at Zh;have YV:=aW Ze;have cJ:=aW bp;have ci:=aW Zi;clear Ze bp Zi cE;subst Z7;have YE:=aW (show wq.rangeAt gb (ob+i*12) (ji b (LH i)) from Zh);clear Zh Zo;(go_wp2_with (refine σ rfl 57 _ rfl gb (ob+i*12) rf (ji b (LH i)) _ YE.o abg rfl lF (Hid.o ?_)));refine Qz ?_;(go_wp2_with (refine bF rfl 57 rfl _ uF (fun ch G=>Hid.o ?_)));refine Qz ?_;replace G:=Hid.o G;have Zt:=aW G;clear G;have N:Hid (ch.there wq.heap.size 0 (ji b (LH i)).length):=aW (by rw[Zt.o];exact(Blk.new wq 57 oP.toArray).there (show 0+(ji b (LH i)).length<=oP.toArray.size from κ 12));(go_wp2_with (refine aY rfl 57 (.tmp 17) (.tmp 153) rfl wq.heap.size (0) (ji b (LH i)) rf rf N.o lF (xS _ _) (fun ZQ G=>Hid.o ?_)));refine Qz ?_;replace G:=Hid.o G;have T:=xN Zt.o G;have U:=aW T.1;replace HM:=HM.aC (ae0 T.2);replace HB:=HB.aA T.2;clear T Zt G YE N;generalize wq.heap.size=YZ at U⊢;have kk:ZQ.cell? (aM YZ 1)=γ (.int .i64 b.kind):=(U.cell 1).trans rfl;by_cases h1:b.kind=1
     .have ZB:(b.kind==1)=ε:=by rw[h1];rfl
      have H1:=aW h1;clear h1;have ho:=O8 cJ.o H1.o;have O:=QP ci.o;have h6:=YM.nl;obtain⟨l,Z⟩:∃l:Nat,b.obj=(l:Int):=⟨b.obj.toNat,aa⟩;obtain⟨e,YT⟩:∃e:Nat,b.en=(e:Int):=⟨b.en.toNat,aa⟩;have ko:ZQ.cell? (aM YZ 2)=γ (.int .i64 (l:Int)):=(U.cell 2).trans (by rw[<-Z];rfl);have ke:ZQ.cell? (aM YZ 3)=γ (.int .i64 (e:Int)):=(U.cell 3).trans (by rw[<-YT];rfl);have Zz:l<s.lines.length:=aa;have dr:e<2:=aa;have YL:=aW (And.intro Z YT);clear Z YT ho O h6;have cS:=aX.cell ko;have da:=aX.cell ke;have cW:=Q.g.r.lx;have cV:=Q.g.lB;have c8:=aX.cell ((Q.g.r.g.mod HM.o (show ¬gx=gB by omega)).cell_ (k:=13) aa ((dU aa).trans Q.g.c13));have p1:(0:Int)<=l:=aa;have p2:(l:Int)<s.lines.length:=aa;have p3:(0:Int)<=e:=aa;have p4:(e:Int)<2:=aa;clear cW cV ko ke;go_wp2_with fail;refine tR 13 [(1,.eq (.pointer (γ (aM gx 0))))] ?_;refine Qs ?_;refine En_ ?_;intro dn dc;refine Qs ?_;refine bN ?_;intro wE I;have F:=I.ext;have YA:=aW F;clear I F;replace HM:=HM.aC (ae0 YA.o);replace HB:=HB.aA YA.o;have kx:=HB.cell Yu;have fx:=HB.frozen i;have ZU:Mod (fun k=>k=gB) wE (wE.setCell ⟨gB,i,δ⟩ (.pointer (γ (aM gH (l*40+e*20))))):=Mod.set _ _ _ _ rfl;have cP:=aW (HM.trans ZU);have Yy:=aW (HB.set (.pointer (γ (aM gH (l*40+e*20)))) Yu);clear ZU;clear cS da c8 kk;go_wp2_with fail
      go_roundw
      case rel=>
       refine⟨i+1,aa,rf,upd a4 i (.pointer (γ (aM gH (l*40+e*20)))),Yy.o,fun j hj=> ?_,cP.o⟩;by_cases e1:j=i
       .subst e1;rw[upd_same,ι ⟨aa,by rw[YV.o];exact H1.o⟩,YV.o,YL.o.1,YL.o.2,Hu,Hu]
       .rw[upd_ne e1,HW.o j hj];by_cases h2:j<i
        .by_cases h3:(s.bays.getD j η).kind=1
         .rw[ι ⟨h2,h3⟩,ι ⟨aa,h3⟩]
         .rw[θ (fun e=>h3 e.2),θ (fun e=>h3 e.2)]
        .rw[θ (fun e=>h2 e.1),θ (fun e=>by have:=e.1;omega)]
      case measure=>exact aV
     .have ZB:(b.kind==1)=ζ:=by simpa using h1
      have H1:=aW h1;clear h1;go_wp2_with fail
      go_roundw
      case rel=>
       refine⟨i+1,aa,rf,a4,HB.o,fun j hj=> ?_,HM.o⟩;rw[HW.o j hj];by_cases h3:(s.bays.getD j η).kind=1
       .have h4:j≠i:=fun e=>H1.o (by rw[<-YV.o,<-e];exact h3);by_cases h2:j<i
        .rw[ι ⟨h2,h3⟩,ι ⟨aa,h3⟩]
        .rw[θ (fun e=>h2 e.1),θ (fun e=>by have:=e.1;omega)]
       .rw[θ (fun e=>h3 e.2),θ (fun e=>h3 e.2)]
      case measure=>exact aV
    .obtain rfl:i=s.bays.length:=aa;have cL:decide ((s.bays.length:Int)<(s.bays.length:Int))=ζ:=ag;have Y:=Q.fin Zp.o YM.o HM.o HB.o (fun j hj=>by rw[HW.o j hj];by_cases hk:(s.bays.getD j η).kind=1;rw[ι ⟨hj,hk⟩,ι hk];rw[θ (fun e=>hk e.2),θ hk]);have YO:=aW Y;clear Y;go_wp2_with fail;refine aaY (aas rfl _ _ _) rfl ⟨rfl,_,_,YO.o⟩
def zNd:List Value:=[.int .i64 0,.int .i64 0,.int .i64 0,.int .i64 0]
def Vu:(prog.info? 187).map (·.zero)=γ (γ (.agg zNd.toArray)):=ah
def ndC (a b c d:Int):List Value:=[.int .i64 a,.int .i64 b,.int .i64 c,.int .i64 d]
def U6(a b c d):(prog.info? 187).map (·.size)=γ (ndC a b c d).length:=ah
theorem Xk(a b c d):∀v∈ndC a b c d,v.oneCell'=ε:=by
 intro v hv;unfold ndC at hv;simp only[kC,Ha,aaH] at hv;rcases hv with rfl|rfl|rfl|rfl<;>rfl
def NN:List Value:=[.string ByteArray.empty,.int .i64 0,.int .i64 0,.int .i64 0,.int .i64 0,.int .i64 0]
def P9:(prog.info? 83).map (·.zero)=γ (γ (.agg NN.toArray)):=ah
def Jt(g):(prog.info? 83).map (·.size)=γ (yn g).length:=ah
theorem TB(b):∀v∈yn b,v.oneCell'=ε:=by
 intro v hv;unfold yn at hv;simp only[kC,Ha,aaH] at hv;rcases hv with rfl|rfl|rfl|rfl|rfl|rfl<;>rfl
structure Bz (w W:World) (gx gf gB g7 g8 g9:Nat) (ST PO FL:Array Value) (C:Nat->Value) (Bv:Nat->BrV) (wv:Nat->Value) (s:StD) (p:dM) (fn:Nat):Prop where
 g:Gs w W gx gf gB gB C Bv (gm s p s.bays.length) s.bays.length wv (wd0 s p s.bays.length)
 b7:Blk W g7 27 ST
 b8:Blk W g8 31 PO
 b9:Blk W g9 33 FL
 ends:∀l e,l<6->e<2->C (1+2*l+e)=.int .i64 (eF s p l e:Nat)
 c14:C 14=.int .i64 (fn:Int)
 liv:∀k,k<18->C (15+k)=.bool ζ
section
variable {w W W' W2:World} {gx gf gB g7 g8 g9 fn:Nat} {ST PO FL:Array Value} {C:Nat->Value} {Bv:Nat->BrV} {wv:Nat->Value} {s:StD} {p:dM}
def agE(h:Bt w W gx gf gB g7 g8 g9 ST PO FL C Bv wv s p s.bays.length s.bays.length):Bz w W gx gf gB g7 g8 g9 ST PO FL C Bv wv s p 0:=⟨h.g,h.b7,h.b8,h.b9,h.ends,h.c14,h.liv⟩
def Bz.ext(h:Bz w W gx gf gB g7 g8 g9 ST PO FL C Bv wv s p fn)(x:Ext W W'):Bz w W' gx gf gB g7 g8 g9 ST PO FL C Bv wv s p fn:=⟨h.g.ext x,h.b7.ext x,h.b8.ext x,h.b9.ext x,h.ends,h.c14,h.liv⟩
def Bz.set(h:Bz w W gx gf gB g7 g8 g9 ST PO FL C Bv wv s p fn)(j:Nat)(D:W'=W.setCell ⟨gx,14,δ⟩ (.int .i64 (j:Int))):Bz w W' gx gf gB g7 g8 g9 ST PO FL (upd C 14 (.int .i64 (j:Int))) Bv wv s p j:=by
 obtain⟨G,B⟩:=h.g.set (i:=14) (v:=.int .i64 (j:Int)) aa aa aa rfl D;exact⟨G,h.b7.mod B (Blk.fw h.b7 h.g.r.g aj),h.b8.mod B (Blk.fw h.b8 h.g.r.g aj),h.b9.mod B (Blk.fw h.b9 h.g.r.g aj),fun l e Z O=>by rw[upd_ne aa];exact h.ends l e Z O,upd_same ..,fun k F=>by rw[upd_ne aa];exact h.liv k F⟩
end
structure Bl (w W:World) (gx gf g7 g8 g9:Nat) (ST PO FL:Array Value) (C:Nat->Value) (l:Nat):Prop where
 g:Gr0 w W gx gf C 0 (fun _=>lu) []
 b7:Blk W g7 27 ST
 b8:Blk W g8 31 PO
 b9:Blk W g9 33 FL
 ends:∀j e,j<l->e<2->C (1+2*j+e)=.int .i64 (2*j+e:Nat)
 hi:∀k,13<=k->C k=zC k
section
variable {w W W':World} {gx gf g7 g8 g9 l:Nat} {ST PO FL:Array Value} {C:Nat->Value}
def Bl.put(h:Bl w W gx gf g7 g8 g9 ST PO FL C l)(Z:l<6)(D:W'=puts W gx (1+l*2) (twC ((2*l:Nat):Int) ((2*l+1:Nat):Int))):∃C',Bl w W' gx gf g7 g8 g9 ST PO FL C' (l+1):=by
 obtain⟨H,m1⟩:=h.g.set (i:=1+l*2) (.int .i64 ((2*l:Nat):Int)) aa aa rfl;obtain⟨G,m2⟩:=H.set (i:=1+l*2+1) (.int .i64 ((2*l+1:Nat):Int)) aa aa rfl;have B:Mod (fun k=>k=gx) W W':=by rw[D];exact m1.trans m2
 refine⟨_,by rw[D];exact G,h.b7.mod B (Blk.fw h.b7 h.g.g aj),h.b8.mod B (Blk.fw h.b8 h.g.g aj),h.b9.mod B (Blk.fw h.b9 h.g.g aj),fun j e K O=> ?_,fun k F=> ?_⟩
 .by_cases J:j=l
  .subst J;have I:e=0\/e=1:=aa;rcases I with rfl|rfl
   .rw[show 1+2*j+0=1+j*2 by omega,upd_ne aa,upd_same,I6]
   .rw[show 1+2*j+1=1+j*2+1 by omega,upd_same]
  .rw[upd_ne aa,upd_ne aa];exact h.ends j e aa O
 .rw[upd_ne aa,upd_ne aa];exact h.hi k F
theorem Bl.made{s p}(h:Bl w W gx gf g7 g8 g9 ST PO FL C 6)(H:W'=(W.alloc (.cells (ofC s.bays.length fun _=> .pointer δ) 165)).setCell ⟨gx,13,δ⟩ (.slice (γ (aM W.heap.size 0)) s.bays.length s.bays.length))(F:w.heap.size<=W.heap.size):
  Bt w W' gx gf W.heap.size g7 g8 g9 ST PO FL (upd C 13 (.slice (γ (aM W.heap.size 0)) s.bays.length s.bays.length)) (fun _=>lu) (fun _=> .pointer δ) s p 0 0:=by
 have J:Ext W (W.alloc (.cells (ofC s.bays.length fun _=> .pointer δ) 165)):=Ext.new _ _;obtain⟨G,D⟩:=(h.g.ext J).set (i:=13) (.slice (γ (aM W.heap.size 0)) s.bays.length s.bays.length) aa aa rfl;subst H;have B:fU (W.alloc (.cells (ofC s.bays.length fun _=> .pointer δ) 165)) W.heap.size 165 s.bays.length (fun _=> .pointer δ):=Blk.new _ _ _;have lx:=h.g.lx;refine⟨⟨G,by rw[upd_same],B.mod D aa,F,fun j K=>rfl⟩,(h.b7.ext J).mod D (Blk.fw h.b7 h.g.g aj),(h.b8.ext J).mod D (Blk.fw h.b8 h.g.g aj),(h.b9.ext J).mod D (Blk.fw h.b9 h.g.g aj),fun l e Z O=> ?_,?_,fun k I=> ?_⟩
 .rw[upd_ne aa];exact h.ends l e Z O
 .rw[upd_ne aa,h.hi 14 aa];rfl
 .rw[upd_ne aa,h.hi (15+k) aa];unfold zC;rw[θ aa,θ aa,θ aa,θ aa]
end
theorem Ub{s p}(h:jC s){i}(hi:i<s.bays.length)(j:(sides s p i).1.1=1):0<=(sides s p i).1.2/\(sides s p i).1.2<4:=by
 have D:=Mt h p hi j;have G:=h.link hi;have F:0<=(sides s p i).1.2:=by
  unfold sides at j⊢;by_cases B:(s.bays.getD i η).kind=3
  .rw[ι B];exact(lC h p (h.bus hi (k:=0) aa).2).1
  .rw[θ B] at j⊢;simp only[] at j⊢;unfold sD at j⊢;split
   .exact(lC h p (h.bus hi (k:=0) aa).2).1
   .split
    .rename_i C
     exact(lC h p (h.bus hi (k:=1) C.1).2).1
    .decide
 omega
theorem Rp{s p}(h:jC s){i}(hi:i<s.bays.length)(j:(s.bays.getD i η).kind=3):0<=(sides s p i).2.2/\(sides s p i).2.2<4/\(sides s p i).1.1=1/\(sides s p i).2.1=1:=by
 have G:=h.link hi;unfold sides;rw[ι j];have C:=G.2.1 j;have B:=lC h p (h.bus hi (k:=1) aa).2;exact⟨B.1,by show(groups s p).getD (ic s i 1) 0<4;omega,rfl,rfl⟩
theorem U4{A0 n0 c0 A1 n1 c1 A2 n2 c2 A3 n3 c3 LH s PA pn pc PB V qc K p}(f gx gf B wa w)(ZG:Ext wa w)(ZC:wa.heap.size<=gx)(hs:lI wa A0 n0 c0 A1 n1 c1 A2 n2 c2 A3 n3 c3 LH s)(hp:iR w PA pn PB V K p)(dr:Fp B PA PB V K)(hB:gx<B)(hc:chk s=0)(ZY:jG s p=0)(hf:fD s.buses.length s.lines.length f=0)(hg:Blk w gx 105 (gl zC fun _=>zEn).toArray)(bk:dz w gf):
  Calls prog 81 #[aN gx 0,aN gf 0,stV s.name A0 n0 c0 A1 n1 c1 A2 n2 c2 A3 n3 c3,lK PA pn pc PB V qc,nU f] w fun r W'=>r=.returned (.tuple #[])/\∃C' bb,Dw w W' gx gf C' bb s p f:=by
 obtain rfl:=hs.l3;have YG:=vZ hc;have ZF:=afz hf;have da:=YG.nq;have Zx:=aW ZG;have ZE:=aW ZC;have Yz:=aW hs;have ZL:=aW hp;have dl:=aW dr;have Zc:=aW hB;have YY:=aW hc;have cG:=aW ZY;have YM:=aW YG;have ZR:=aW ZF;have cr:=aW da;have dp:=hg.lt;have de:=bk.lt;have H:Hid (Ext w (aL (aL (aL w #[s.name,aO A0 n0 c0,aO A1 n1 c1,aO A2 n2 c2,aO A3 s.bays.length c3] 27) #[aO PA pn pc,aO PB V qc] 31) #[f.kind,f.line,f.obj,f.num,f.den,f.r] 33)):=aW (((Ext.new _ _).alloc _).alloc _);have Q:Hid (Bl w (aL (aL (aL w #[s.name,aO A0 n0 c0,aO A1 n1 c1,aO A2 n2 c2,aO A3 s.bays.length c3] 27) #[aO PA pn pc,aO PB V qc] 31) #[f.kind,f.line,f.obj,f.num,f.den,f.r] 33) gx gf w.heap.size (w.heap.size+1) (w.heap.size+2) #[s.name,aO A0 n0 c0,aO A1 n1 c1,aO A2 n2 c2,aO A3 s.bays.length c3] #[aO PA pn pc,aO PB V qc] #[f.kind,f.line,f.obj,f.num,f.den,f.r] zC 0):=aW ⟨⟨(Rk hg).ext H.o,dz.ext bk H.o,ae0 H.o,.inl ⟨rfl,rfl⟩,rfl,fun i hi=>absurd hi aa,fun i hi=>by unfold zC;split<;>(try split)<;>(try split)<;>(try split)<;>rfl,dp,de⟩,((Blk.new _ _ _).alloc _).alloc _,(aeV _ _ (eU _ _)).alloc _,aeV _ _ ag,fun j e hj=>absurd hj aa,fun k hk=>rfl⟩;clear ZG ZC hs hp dr hB hc ZY hf hg bk YG ZF da dp de;unfold stV lK nU;go_enter func81,ntmps81;go_wp2_with fail;generalize aU _ _=w0 at H Q⊢;generalize w.heap.size+2=g9 at Q⊢;generalize w.heap.size+1=g8 at Q⊢;obtain⟨g7,ZA⟩:∃g,w.heap.size=g:=⟨_,rfl⟩;rw[ZA] at Q⊢;have ey:=aW ZA;clear ZA;go_loopw [18] (fun iv wr=>∃l:Nat,l<=6/\iv=.int .i64 l/\∃C,Bl w wr gx gf g7 g8 g9 #[s.name,aO A0 n0 c0,aO A1 n1 c1,aO A2 n2 c2,aO A3 s.bays.length c3] #[aO PA pn pc,aO PB V qc] #[f.kind,f.line,f.obj,f.num,f.den,f.r] C l) (aT 6)
 case atStart=>exact⟨0,aa,rfl,_,Q.o⟩
 case round=>
  clear Q;obtain⟨l,Z,rfl,C,hR⟩:=hrel;have Q:=aW hR;clear hR;obtain⟨aq,cV⟩:∃aq,aq=wr:=⟨_,rfl⟩;subst cV;by_cases Yu:l<6
  .have hd:decide ((l:Int)<6)=ε:=ae;have YI:wrap64 (2*(l:Int))=((2*l:Nat):Int):=by rw[Ab _ aa];omega
   have eI:wrap64 (((2*l:Nat):Int)+1)=((2*l+1:Nat):Int):=by rw[Ab _ aa];omega
   have ZM:wrap64 ((l:Int)+1)=(l:Int)+1:=Ab _ aa;have Zk:=aW ZM;have q1:(0:Int)<=l:=aa;have q2:(l:Int)<6:=aa;have N:Hid (aq.there gx (1+l*2) 2):=aW (fU.there Q.g.g aa);(go_wp2_with (refine aY rfl 64 (.tmp 31) (.tmp 28) rfl gx (1+l*2) (twC ((2*l:Nat):Int) ((2*l+1:Nat):Int)) rf rf N.o (Gr _ _) (Rs _ _) (fun w1 G=>Hid.o ?_)));refine Qz ?_;replace G:=Hid.o G;obtain⟨C2,ZZ⟩:=Q.put Yu G;have YB:=aW ZZ;clear ZZ G N Q;go_wp2_with fail
   go_roundw
   case rel=>exact⟨l+1,aa,rf,C2,YB.o⟩
   case measure=>exact aV
  .obtain rfl:l=6:=aa;have hd:decide (((6:Nat):Int)<6)=ζ:=aj;clear Yu Z;have YW:fU (aq.alloc (.cells (ofC s.bays.length fun _=> .pointer δ) 165)) gx 105 393 (fT C fun _=>zEn):=Q.g.g.ext (Ext.new _ _);have kx:=YW.cell_ (k:=13) aa rfl;have fx:=YW.frozen 13;have k7:=Q.b7.cell;have eh:=(Q.b7.ext (Ext.new aq (.cells (ofC s.bays.length fun _=> .pointer δ) 165))).cell;have Zj:=fun W=>OY s.bays.length Adz W;have b0:Hid (w.heap.size<=aq.heap.size):=aW Q.g.m.size;have HT:=aW (Q.made (s:=s) (p:=p) (W':=((aq.alloc (.cells (ofC s.bays.length fun _=> .pointer δ) 165)).setCell ⟨gx,13,δ⟩ (.slice (γ (aM aq.heap.size 0)) s.bays.length s.bays.length))) rfl b0.o);clear YW;have d9:=HT.b7.cell;go_wp2_with fail;clear kx fx k7 eh Zj d9 Q;generalize ((aq.alloc (.cells (ofC s.bays.length fun _=> .pointer δ) 165)).setCell ⟨gx,13,δ⟩ (.slice (γ (aM aq.heap.size 0)) s.bays.length s.bays.length))=wb at HT⊢;have d5:=b0;generalize aq.heap.size=gB at HT d5⊢;clear b0;go_loopw [43] (fun iv wr=>∃i:Nat,i<=s.bays.length/\iv=.int .i64 i/\∃C Bv wv,Bt w wr gx gf gB g7 g8 g9 #[s.name,aO A0 n0 c0,aO A1 n1 c1,aO A2 n2 c2,aO A3 s.bays.length c3] #[aO PA pn pc,aO PB V qc] #[f.kind,f.line,f.obj,f.num,f.den,f.r] C Bv wv s p i i) (aT s.bays.length)
   case atStart=>exact⟨0,aa,rfl,_,_,_,HT.o⟩
   case round=>
    clear HT;rename World=>wr;obtain⟨i,hi,rfl,C,Bv,wv,hR⟩:=hrel;have Q:=aW hR;clear hR;by_cases Yu:i<s.bays.length
    .have hd:decide ((i:Int)<s.bays.length)=ε:=ae;have q1:(0:Int)<=i:=aa;have q2:(i:Int)<s.bays.length:=aa;have ZM:wrap64 ((i:Int)+1)=(i:Int)+1:=Ab _ Adz;have Zk:=aW ZM;clear ZM;have ad:=aW (Yz.ext (Q.g.older Zx.o ZE.o));have J:=aW (ZL.mod dl.o Q.g.r.m (fun g hg=>by have hg:g=gx:=hg;have:=Zc.o;omega));obtain⟨b,Ze⟩:∃b,s.bays.getD i η=b:=⟨_,rfl⟩;have bA:=YM.obj i Yu;have Zi:=YM.rng i Yu;rw[Ze] at bA Zi;have c7:=aW bA;have ce:=aW Zi;clear bA Zi;obtain⟨gb,ob,Z7,Zo,Zh⟩:=ad.bays.at_ Yu;rw[Ze] at Zh;have YV:=aW Ze;clear Ze;subst Z7;have YE:=aW (show wr.rangeAt gb (ob+i*12) (ji b (LH i)) from Zh);clear Zh Zo;have Zl:=aW J.lc;(go_wp2_with (refine σ rfl 57 _ rfl gb (ob+i*12) rf (ji b (LH i)) _ YE.o abg rfl lF (Hid.o ?_)));refine Qz ?_;(go_wp2_with (refine bF rfl 57 rfl _ uF (fun eg G=>Hid.o ?_)));refine Qz ?_;replace G:=Hid.o G;have Zt:=aW G;clear G;have N:Hid (eg.there wr.heap.size 0 (ji b (LH i)).length):=aW (by rw[Zt.o];exact(Blk.new wr 57 oP.toArray).there (show 0+(ji b (LH i)).length<=oP.toArray.size from κ 12));(go_wp2_with (refine aY rfl 57 (.tmp 12) (.tmp 47) rfl wr.heap.size (0) (ji b (LH i)) rf rf N.o lF (xS _ _) (fun ZQ G=>Hid.o ?_)));refine Qz ?_;replace G:=Hid.o G;clear N;have T:=xN Zt.o G;have HX:=aW T.2;have Za:=aW T.1;replace Q:=Q.aA T.2;replace ad:=ad.aA T.2;replace J:=J.aA T.2;clear T Zt G YE;generalize wr.heap.size=g12 at Za⊢;have k7:=Q.b7.cell;have k8:=Q.b8.cell;go_wp2_with fail;refine(IM i _ ad.o J.o YY.o cG.o Yu).mono ?_;rintro _ w1 ⟨rfl,F⟩;obtain⟨na,ma,nb,mb,cB⟩:∃na ma nb mb,sides s p i=((na,ma),(nb,mb)):=⟨_,_,_,_,rfl⟩;have YF:=aW cB;rw[cB];clear cB k7 k8;replace HX:=HX.aC F;replace Za:=Za.aA F;replace Q:=Q.aA F;replace ad:=ad.aA F;replace J:=J.aA F;clear F;simp only[wM];(go_wp2_with (refine bF rfl 187 rfl _ Vu (fun eB G=>Hid.o ?_)));refine Qz ?_;replace G:=Hid.o G;have cJ:=aW G;clear G;refine aY rfl 187 (.tmp 13) (.tmp 51) rfl w1.heap.size 0 (ndC na ma nb mb) rf rf (by rw[cJ.o];exact(Blk.new w1 187 zNd.toArray).there (show 0+(ndC na ma nb mb).length<=zNd.toArray.size from κ 4)) (U6 _ _ _ _) (Xk _ _ _ _) (fun ZI G=> ?_);refine Qp ?_;replace G:=Hid.o G;have T:=xD (z:=zNd) (cs:=ndC na ma nb mb) rfl cJ.o G;have ac:=aW T.1;replace HX:=HX.aC T.2;replace Za:=Za.aA T.2;replace Q:=Q.aA T.2;replace ad:=ad.aA T.2;replace J:=J.aA T.2;clear T cJ G;generalize w1.heap.size=ZW at ac⊢;have k8:=Q.b8.cell;have c8:ZI.cell? (aM ZW 0)=γ (.int .i64 na):=(ac.cell 0).trans rfl;have db:i<pn:=by have h1:=J.lc;have h2:=cG.o;unfold jG at h2;split at h2;(rename_i h3;omega);exact absurd h2 aj
     obtain⟨gp,op,d2,Zg,kp⟩:=J.closed.one db;subst d2;have q3:(i:Int)<pn:=aa;obtain⟨cb,cC⟩:∃c,p.closed.getD i ζ=c:=⟨_,rfl⟩;rw[cC] at kp;have dx:=aW cC;clear cC Zg db;have HJ:Hid (nN s p i=(cb&&decide (na=1))):=aW (by unfold nN;rw[dx.o,YF.o]);cases cb with
     |false=>
      have YB:=aW (Q.skip (Cu (by rw[HJ.o];simp)) (fun l e=>Du (by rw[HJ.o];simp)));clear Q;go_wp2_with fail
      exact Aau
     |true=>
      by_cases cl:na=1
      .obtain rfl:na=1:=cl;have bt:Hid (nN s p i=ε):=aW (by rw[HJ.o];rfl);have cn:=Ub YM.o Yu (by rw[YF.o]);rw[YF.o] at cn;obtain⟨bn,cv⟩:∃n,jg s p i=n:=⟨_,rfl⟩;have dc:(13:Int)+ma=(bn:Int):=by have h1:13+ma.toNat=bn:=(by rw[<-cv];unfold jg;rw[YF.o]);have h2:0<=ma:=cn.1;omega
       have bj:=wO YM.o p Yu bt.o;rw[cv] at bj;have er:wrap64 (13+ma)=(bn:Int):=by rw[dc];exact Ab _ aa
       have a3:=aW cv;have eA:=aW cn;have U:=aW bj;clear cv cn bj dc;have c6:ZI.cell? (aM ZW 1)=γ (.int .i64 ma):=(ac.cell 1).trans rfl;have kk:ZI.cell? (aM g12 1)=γ (.int .i64 b.kind):=(Za.cell 1).trans rfl;have ko:ZI.cell? (aM g12 2)=γ (.int .i64 b.obj):=(Za.cell 2).trans rfl;have ke:ZI.cell? (aM g12 3)=γ (.int .i64 b.en):=(Za.cell 3).trans rfl;by_cases h1:b.kind=1
       .have ZB:(b.kind==1)=ε:=by rw[h1];rfl
        have H1:=aW h1;clear h1;have ho:=O8 c7.o H1.o;have O:=QP ce.o;have h6:=YM.nl;obtain⟨l,Z⟩:∃l:Nat,b.obj=(l:Int):=⟨b.obj.toNat,aa⟩;obtain⟨e,YT⟩:∃e:Nat,b.en=(e:Int):=⟨b.en.toNat,aa⟩;rw[Z] at ko;rw[YT] at ke;have dT:l<6:=aa;have d8:e<2:=aa;have YL:=aW (And.intro Z YT);clear Z YT ho O h6;have eC:=aX.cell ko;have eJ:=aX.cell ke;have p1:(0:Int)<=l:=aa;have p2:(l:Int)<6:=aa;have p3:(0:Int)<=e:=aa;have p4:(e:Int)<2:=aa;go_wp2_with fail;refine tR 10 [(6,.eq (.pointer (γ (aM gx 0))))] ?_;refine Qs ?_;refine En_ ?_;intro ep et;refine Qs ?_;refine bN ?_;intro wE I;have F:=I.ext;have YA:=aW F;clear I F;replace Q:=Q.aA YA.o;have kx:=Q.g.r.g.cell (k:=1+l*2+e) aa;have fx:=Q.g.r.g.frozen (1+l*2+e);have YB:=aW (Q.line (a:=1+l*2+e) (W':=wE.setCell ⟨gx,1+l*2+e,δ⟩ (.int .i64 (bn:Int))) bt.o YV.o H1.o YL.o.1 YL.o.2 dT d8 aa (by rw[a3.o]));clear Q;go_wp2_with fail
        exact Aau
       .have ZB:(b.kind==1)=ζ:=by simpa using h1
        have H1:=aW h1;clear h1;by_cases h2:b.kind=2
        .have YN:(b.kind==2)=ε:=by rw[h2];rfl
         have H2:=aW h2;clear h2;have ho:=Tm c7.o H2.o;obtain⟨l,Z⟩:∃l:Nat,b.obj=(l:Int):=⟨b.obj.toNat,aa⟩;rw[Z] at ko;have ZN:l<s.srcs.length:=aa;have Zz:l<n2:=by have:=Yz.l2;omega
         obtain⟨gs,os,d4,ee,cD⟩:=ad.srcs.at_ Zz;subst d4;obtain⟨sr,bw⟩:∃m,s.srcs.getD l η=m:=⟨_,rfl⟩;rw[bw] at cD;have ZX:=YM.src l ZN;rw[bw] at ZX;unfold ky at ZX;simp only[υ] at ZX;have ds:=fJ.1 ZX.1.1;have YP:=qW.1 ZX.2;have YK:=qW.1 ZX.1.2;have bx:Hid (iq s p i=γ ⟨bn,17,sr.z0,sr.z1,1,1,sr.emf⟩):=aW (by unfold iq;simp only[];rw[YV.o,ι bt.o,ι H2.o,Z,Hu,bw,a3.o]);have di:=aW ds;have YS:=aW YP;have YU:=aW YK;have eE:=aW (And.intro Z bw);clear Z bw ho ZX ds YP YK;have YE:=aW (show ZI.rangeAt gs (os+l*6) (yn sr) from cD);clear cD ee;have p1:(0:Int)<=l:=aa;have p2:(l:Int)<n2:=aa;have k7:=Q.b7.cell;(go_wp2_with (refine σ rfl 83 _ rfl gs (os+l*6) rf (yn sr) _ YE.o underlying83 rfl (Jt _) (Hid.o ?_)));refine Qz ?_;(go_wp2_with (refine bF rfl 83 rfl _ P9 (fun ca G=>Hid.o ?_)));refine Qz ?_;replace G:=Hid.o G;have cQ:=aW G;clear G;have N:Hid (ca.there ZI.heap.size 0 (yn sr).length):=aW (by rw[cQ.o];exact(Blk.new ZI 83 NN.toArray).there (show 0+(yn sr).length<=NN.toArray.size from κ 6));(go_wp2_with (refine aY rfl 83 (.tmp 15) (.tmp 89) rfl ZI.heap.size (0) (yn sr) rf rf N.o (Jt _) (TB _) (fun cp G=>Hid.o ?_)));refine Qz ?_;replace G:=Hid.o G;have T:=xD (z:=NN) (cs:=yn sr) rfl cQ.o G;have ZJ:=aW T.1;replace HX:=HX.aC T.2;replace Q:=Q.aA T.2;clear T cQ G N YE k7 k8 c8 c6 kk ko ke kp Za ac ad J;generalize ZI.heap.size=Zw at ZJ⊢;have bl:=aX.blk (show Blk cp Zw 83 #[sr.name,sr.emf,sr.z1.r,sr.z1.x,sr.z0.r,sr.z0.x] from ZJ.o);go_wp2_with fail;refine tR 10 [(3,.gv (zq sr.z0 1 1) (64)),(7,.gv (zq sr.z1 1 1) (64)),(9,.box 103 (bz 2 fun _=>zEn).toArray)] ?_;refine Qs ?_;refine Ee (fun R I=>lG gf sr.z0 _ (dz.ext Q.g.r.c I.1) AcI AcI) ?_;intro e0 ek ej;refine Qs ?_;refine Ee (fun R I=>lG gf sr.z1 _ (dz.ext Q.g.r.c I.1) Ac8 Ac8) ?_;intro e1 eo ew;simp only[En.v,gv];refine Qs ?_;refine Eb ?_;intro dv es bm;refine bN ?_;intro wE I;have F:=I.ext;have a8:=I.hR 3;have Z9:=I.hR 7;have ap:=I.hB 9;have aP:=aW (I.low 9 _ rf);clear bm;have YA:=aW F;clear I F;have N:=aW (ap.there (o:=0) (n:=(e0.cells++e1.cells).length) Acb);refine aY rfl 103 (.tmp 16) (.tmp 98) rfl dv (0) (e0.cells++e1.cells) rf rf N.o (FJ _ _) (Gl _ _) (fun a9 G=> ?_);refine Qp ?_;replace G:=Hid.o G;obtain⟨Z8,be,bq⟩:=Kt ap.o YA.o aP.o G;have cS:Hid (Blk a9 dv 103 #[e0.s1,aO e0.A1 e0.n1 e0.c1,e0.s2,aO e0.A2 e0.n2 e0.c2,e0.s3,aO e0.A3 e0.n3 e0.c3,e1.s1,aO e1.A1 e1.n1 e1.c1,e1.s2,aO e1.A2 e1.n2 e1.c2,e1.s3,aO e1.A3 e1.n3 e1.c3]):=aW Z8;have D:=aW (bq _ _ _ a8.o);have Zr:=aW (bq _ _ _ Z9.o);replace Q:=Q.aA be;replace ZJ:=ZJ.aA be;clear Z8 be bq G N YA a8 Z9 ap aP bl;have bl:=aX.blk (show Blk a9 Zw 83 #[sr.name,sr.emf,sr.z1.r,sr.z1.x,sr.z0.r,sr.z0.x] from ZJ.o);have cX:=aX.blk cS.o;have cN:=aX.cell (Q.g.r.g.cell_ (k:=13) aa ((dU aa).trans Q.g.c13));go_wp2_with fail;refine tR 14 [(1,.eq (.pointer (γ (aM gx 0)))),(10,.gv (GQ.i sr.emf 0) (64)),(12,.br ⟨bn,17,sr.z0,sr.z1,1,1,sr.emf⟩)] ?_;refine Qs ?_;refine En_ ?_;intro cY cR;refine Qs ?_;refine Ee (fun R I=>dR gf sr.emf _ (dz.ext Q.g.r.c I.1) (by have:=di.o;omega) (by have:=di.o;omega)) ?_;intro e2 cg cj;simp only[En.v,gv];refine Qs ?_;refine dL rf rf rf ?_ ?_
         .intro R I;have hW:=I.1;have cH:GV R e2.v (GQ.i sr.emf 0) 64:=afG (I.2 10 (e2.v,cg,cj) rf ah);clear I;go_simp;exact⟨Ext.new _ _,rfl,ag,⟨bn,17,e0,e1,e2⟩,Blk.new _ _ _,⟨rfl,rfl,(D.ext hW).ext (Ext.new _ _),(Zr.ext hW).ext (Ext.new _ _),cH.ext (Ext.new _ _)⟩⟩
         intro v_ YZ av YD;obtain⟨R,YC⟩:=YD;obtain⟨rfl,bp,-⟩:NR.holds (.br ⟨bn,17,sr.z0,sr.z1,1,1,sr.emf⟩) YZ av v_ R:=YC.get;clear YC R;refine Qp ?_;refine Qs ?_;refine bN ?_;intro wE I;have F:=I.ext;have ch:=I.hR 10;have cx:NR.holds (.br ⟨bn,17,sr.z0,sr.z1,1,1,sr.emf⟩) YZ av (.pointer (γ (aM YZ 0))) wE:=I.at_ 12 (e:=(.pointer (γ (aM YZ 0)),YZ,av)) rf;obtain⟨-,-,ai,aG,ay⟩:=cx;have a0:=aW aG;have aE:=aW ay;clear aG ay;have aB:=aW (I.low 12 _ rf);clear bp;have YA:=aW F;clear I F;have U:=a0;have ao:=aE;have ar:=aB;clear a0 aE aB;have bg:a9.heap.size<=YZ:=ar.o;have YR:=Q.g.r.m.size;have cA:=Q.g.bB.lt;have bV:Hid (nu wE w.heap.size (C 0) gB gB (.pointer (γ (aM YZ 0))) (γ _)):=aW (af1 U.o ao.o aa (fun e=>by have:=(Q.g.r.own.low e).2;omega) aa aa);clear bg YR cA;replace Q:=Q.aA YA.o;have kx:=Q.g.bB.cell Yu;have fx:=Q.g.bB.frozen i;obtain⟨cc,ba,cd⟩:=Q.ptr (W':=(wE.setCell ⟨gB,i,δ⟩ (.pointer (γ (aM YZ 0))))) Yu bx.o bV.o rfl;have L:=aW cc;have af:Hid (Blk (wE.setCell ⟨gB,i,δ⟩ (.pointer (γ (aM YZ 0)))) YZ 167 ai.cs.toArray):=aW (U.mod ba (Blk.fw U.o Q.g.bB aj));have Zm:=aW (ao.fQ ba cd);clear cc ba cd U ao ar bV Q YA;clear bl cX cN;go_wp2_with fail;clear kx fx;generalize (wE.setCell ⟨gB,i,δ⟩ (.pointer (γ (aM YZ 0))))=wA at L af Zm⊢;have k0:=L.g.r.g.cell (k:=0) aa;have cL:=fun x=>Kp3.a (b:=gB) (c:=gB) (L.g.r.g.cell_ (k:=0) aa (dU aa)) x;have bh:=fun x=>Kp3.a (b:=gB) (c:=gB) (L.g.r.g.cell_ (k:=13) aa ((dU aa).trans L.g.c13)) x;have cI:=fun x=>Kp3.b (a:=gx) (c:=gB) (L.g.bB.cell_ Yu (upd_same ..)) x;clear k0;refine jE 16 (fun w'=>∃x:Kp3 wA gx gB gB,w'=x.val) [(ε,0),(ε,1),(ε,2),(ε,3),(ε,4),(ε,5),(ε,6),(ε,7),(ε,8),(ε,9),(ε,10),(ε,11),(ε,12),(ζ,13),(ζ,14),(ζ,15)] ah ah ⟨⟨wA.drew,rfl,rfl,rfl⟩,rfl⟩ ?_;refine bD [0,1,2,3,4,5,6,7,8,9,10,11,12] [(ζ,13),(ζ,14),(ζ,15)] _ ah ?_;refine Gq ?_;clear cL bh cI;have YE:=aW (af.ext (Ext.refl wA).drew).rng;refine bC 13 [(ζ,14),(ζ,15)] ah ?_;intro K I;simp only[bJ];(go_wp2_with (refine σ rfl 167 _ rfl YZ (0) rf (ai.cs) _ YE.o aaT rfl (ul _) (Hid.o ?_)));refine Qz ?_;go_wp2_with fail;refine I _ _ ⟨⟨wA.drew,rfl,rfl,rfl⟩,rfl⟩ ?_;clear I K YE;unfold BrV.cs;refine bC 14 [(ζ,15)] ah ?_;intro K I;simp only[bJ];go_wp2_with fail;have a3:Hid (Blk (wA.drew.alloc (.cells ai.cs.toArray 167)) wA.heap.size 167 ai.cs.toArray):=aW (Blk.new wA.drew _ _);have Zv:Hid (Ext wA (wA.drew.alloc (.cells ai.cs.toArray 167))):=aW ((Ext.refl wA).drew.trans (Ext.new _ _));refine I _ _ (Kp3.of (S:=fun _=>False) (ae0 Zv.o) L.g.r.g.lt L.g.bB.lt L.g.bB.lt id id id) ?_;clear I K;have Yw:=aW (L.ext Zv.o);have YR:=L.g.r.m.size;have Zo:=sM s p i;refine bC 15 [] ah ?_;intro K I;simp only[bJ];(go_wp2_with (at_builtin;refine nQ rfl (.tmp 117) (.tmp 127) rfl rf rf Yw.g.r.own Adz (Θ YR Zv.size) a3.o (fun v2 w2 YH ZT M=> ?_)));obtain⟨cE,bi,ZV⟩:=YH.form aa;subst ZV;refine Qp ?_;go_wp2;refine I _ _ (Kp3.of ((ae0 Zv.o).trans ZT) L.g.r.g.lt L.g.bB.lt L.g.bB.lt (Yw.g.r.own.ne Yw.g.r.g aj) (Yw.g.r.own.ne Yw.g.bB aj) (Yw.g.r.own.ne Yw.g.bB aj)) ?_;clear I K;simp only[dh,ξ,τ];have ZH:=Yw.g.r.g.mod ZT (Yw.g.r.own.ne Yw.g.r.g aj);have kx:=ZH.cell (k:=0) aa;have fx:=ZH.frozen 0;have YB:=aW (Yw.push (W2:=w2.setCell ⟨gx,0,δ⟩ (.slice (γ (aM cE 0)) ((gm s p i).length+1) bi)) bx.o (fun l e=>sU Adn) (Zm.ext Zv.o) YH ZT M rfl);clear Yw L Zm af a3 Zv ZH YH ZT M YR Zo;go_wp2_with fail
         exact Aau
        .have YN:(b.kind==2)=ζ:=by simpa using h2
         have H2:=aW h2;clear h2;by_cases h3:b.kind=3
         .have YQ:(b.kind==3)=ε:=by rw[h3];rfl
          have H3:=aW h3;clear h3;have ZU:=Rp YM.o Yu (p:=p) (by rw[YV.o];exact H3.o);rw[YF.o] at ZU;obtain⟨a5,a6,-,Zn⟩:=ZU;have Zn:nb=1:=Zn;subst Zn;have a5:0<=mb:=a5;have a6:mb<4:=a6;obtain⟨m,rfl⟩:∃m:Nat,mb=(m:Int):=⟨mb.toNat,aa⟩;have ev:wrap64 (13+(m:Int))=((13+m:Nat):Int):=by rw[Ab _ aa];omega
          have d1:ZI.cell? (aM ZW 2)=γ (.int .i64 1):=(ac.cell 2).trans rfl;have ef:ZI.cell? (aM ZW 3)=γ (.int .i64 (m:Int)):=(ac.cell 3).trans rfl;have ez:=aW (And.intro a5 a6);clear a5 a6;by_cases Yx:ma=(m:Int)
          .subst Yx;have YB:=aW (Q.skip (by unfold iq;simp only[];rw[YV.o,ι bt.o,θ H2.o,θ (fun e=>e.2 (by rw[YF.o]))]) (fun l e=>sU Adn));clear Q;go_wp2_with fail
           exact Aau
          .have Zq:(ma==(m:Int))=ζ:=by simpa using Yx
           have Zp:(ma !=(m:Int))=ε:=by simpa using Yx
           have YX:=aW Yx;clear Yx;have bx:Hid (iq s p i=γ ⟨bn,13+m,b.z,b.z,1,1,0⟩):=aW (by unfold iq;simp only[];rw[YV.o,ι bt.o,θ H2.o,ι ⟨H3.o,by rw[YF.o];simp;exact YX.o⟩,a3.o,YF.o];rfl);have d0:ZI.cell? (aM g12 4)=γ (.int .i64 b.z.r):=(Za.cell 4).trans rfl;have ea:ZI.cell? (aM g12 5)=γ (.int .i64 b.z.x):=(Za.cell 5).trans rfl;have df:=qW.1 (QH ce.o H3.o);have dq:=aW df;clear df;go_wp2_with fail;clear d0 ea c8 c6 d1 ef kk ko ke kp k8;refine(lG gf b.z _ Q.g.r.c (by have:=dq.o;omega) (by have:=dq.o;omega)).mono ?_;rintro _ ca ⟨_,rfl,M,F⟩;obtain⟨e0,rfl⟩:=M.en;have D:=aW M;replace Q:=Q.aA F;replace ac:=ac.aA F;clear M F Za ad J;simp only[En.v,gv];(go_wp2_with (refine bF rfl 42 rfl _ TG (fun cp G=>Hid.o ?_)));refine Qz ?_;replace G:=Hid.o G;have F:Ext ca cp:=by rw[G];exact Ext.new _ _
           have Yy:Blk cp ca.heap.size 42 zEn.cells.toArray:=by rw[G];exact Blk.new _ _ _
           clear G;generalize cW:ca.heap.size=YZ at Yy⊢;have N:=aW (Yy.there (o:=0) (n:=e0.cells.length) (κ 6));(go_wp2_with (refine aY rfl 42 (.tmp 17) (.tmp 141) rfl YZ (0) (e0.cells) rf rf N.o (UL _) (eP _) (fun a9 G=>Hid.o ?_)));refine Qz ?_;replace G:=Hid.o G;obtain⟨Z8,be,bq⟩:=WA Yy F aa G;have ci:Hid (Blk a9 YZ 42 #[e0.s1,aO e0.A1 e0.n1 e0.c1,e0.s2,aO e0.A2 e0.n2 e0.c2,e0.s3,aO e0.A3 e0.n3 e0.c3]):=aW Z8;replace D:=aW (bq _ _ _ (D.ext F));replace Q:=Q.aA be;replace ac:=ac.aA be;clear Z8 be bq G N Yy F cW;have cU:=aX.blk ci.o;have ec:=aX.cell (show a9.cell? (aM ZW 3)=γ (.int .i64 (m:Int)) from (ac.cell 3).trans rfl);have cN:=aX.cell (Q.g.r.g.cell_ (k:=13) aa ((dU aa).trans Q.g.c13));go_wp2_with fail;refine tR 18 [(1,.eq (.pointer (γ (aM gx 0)))),(14,.gv (GQ.i 0 0) (64)),(16,.br ⟨bn,13+m,b.z,b.z,1,1,0⟩)] ?_;refine Qs ?_;refine En_ ?_;intro cY cR;refine Qs ?_;refine Ee (fun R I=>dR gf 0 _ (dz.ext Q.g.r.c I.1) aa aa) ?_;intro e2 cf ck;simp only[En.v,gv];refine Qs ?_;refine dL rf rf rf ?_ ?_
           .intro R I;have hW:=I.1;have cH:GV R e2.v (GQ.i 0 0) 64:=afG (I.2 14 (e2.v,cf,ck) rf ah);clear I;go_simp;exact⟨Ext.new _ _,rfl,ag,⟨bn,13+m,e0,e0,e2⟩,Blk.new _ _ _,⟨rfl,rfl,(D.ext hW).ext (Ext.new _ _),(D.ext hW).ext (Ext.new _ _),cH.ext (Ext.new _ _)⟩⟩
           intro v_ ZK aw YD;obtain⟨R,YC⟩:=YD;obtain⟨rfl,bo,-⟩:NR.holds (.br ⟨bn,13+m,b.z,b.z,1,1,0⟩) ZK aw v_ R:=YC.get;clear YC R;refine Qp ?_;refine Qs ?_;refine bN ?_;intro wE I;have F:=I.ext;have ch:=I.hR 14;have cx:NR.holds (.br ⟨bn,13+m,b.z,b.z,1,1,0⟩) ZK aw (.pointer (γ (aM ZK 0))) wE:=I.at_ 16 (e:=(.pointer (γ (aM ZK 0)),ZK,aw)) rf;obtain⟨-,-,am,ax,a1⟩:=cx;have aI:=aW ax;have az:=aW a1;clear ax a1;have a2:=aW (I.low 16 _ rf);clear bo;have YA:=aW F;clear I F;have U:=aI;have ao:=az;have ar:=a2;clear aI az a2;have bg:a9.heap.size<=ZK:=ar.o;have YR:=Q.g.r.m.size;have cA:=Q.g.bB.lt;have bV:Hid (nu wE w.heap.size (C 0) gB gB (.pointer (γ (aM ZK 0))) (γ _)):=aW (af1 U.o ao.o aa (fun e=>by have:=(Q.g.r.own.low e).2;omega) aa aa);clear bg YR cA;replace Q:=Q.aA YA.o;have kx:=Q.g.bB.cell Yu;have fx:=Q.g.bB.frozen i;obtain⟨cc,ba,cd⟩:=Q.ptr (W':=(wE.setCell ⟨gB,i,δ⟩ (.pointer (γ (aM ZK 0))))) Yu bx.o bV.o rfl;have L:=aW cc;have af:Hid (Blk (wE.setCell ⟨gB,i,δ⟩ (.pointer (γ (aM ZK 0)))) ZK 167 am.cs.toArray):=aW (U.mod ba (Blk.fw U.o Q.g.bB aj));have Zm:=aW (ao.fQ ba cd);clear cc ba cd U ao ar bV Q YA;clear cU ec cN;go_wp2_with fail;clear kx fx;generalize (wE.setCell ⟨gB,i,δ⟩ (.pointer (γ (aM ZK 0))))=wA at L af Zm⊢;have k0:=L.g.r.g.cell (k:=0) aa;have cL:=fun x=>Kp3.a (b:=gB) (c:=gB) (L.g.r.g.cell_ (k:=0) aa (dU aa)) x;have bh:=fun x=>Kp3.a (b:=gB) (c:=gB) (L.g.r.g.cell_ (k:=13) aa ((dU aa).trans L.g.c13)) x;have cI:=fun x=>Kp3.b (a:=gx) (c:=gB) (L.g.bB.cell_ Yu (upd_same ..)) x;clear k0;refine jE 16 (fun w'=>∃x:Kp3 wA gx gB gB,w'=x.val) [(ε,0),(ε,1),(ε,2),(ε,3),(ε,4),(ε,5),(ε,6),(ε,7),(ε,8),(ε,9),(ε,10),(ε,11),(ε,12),(ζ,13),(ζ,14),(ζ,15)] ah ah ⟨⟨wA.drew,rfl,rfl,rfl⟩,rfl⟩ ?_;refine bD [0,1,2,3,4,5,6,7,8,9,10,11,12] [(ζ,13),(ζ,14),(ζ,15)] _ ah ?_;refine Gq ?_;clear cL bh cI;have YE:=aW (af.ext (Ext.refl wA).drew).rng;refine bC 13 [(ζ,14),(ζ,15)] ah ?_;intro K I;simp only[bJ];(go_wp2_with (refine σ rfl 167 _ rfl ZK (0) rf (am.cs) _ YE.o aaT rfl (ul _) (Hid.o ?_)));refine Qz ?_;go_wp2_with fail;refine I _ _ ⟨⟨wA.drew,rfl,rfl,rfl⟩,rfl⟩ ?_;clear I K YE;unfold BrV.cs;refine bC 14 [(ζ,15)] ah ?_;intro K I;simp only[bJ];go_wp2_with fail;have a3:Hid (Blk (wA.drew.alloc (.cells am.cs.toArray 167)) wA.heap.size 167 am.cs.toArray):=aW (Blk.new wA.drew _ _);have Zv:Hid (Ext wA (wA.drew.alloc (.cells am.cs.toArray 167))):=aW ((Ext.refl wA).drew.trans (Ext.new _ _));refine I _ _ (Kp3.of (S:=fun _=>False) (ae0 Zv.o) L.g.r.g.lt L.g.bB.lt L.g.bB.lt id id id) ?_;clear I K;have Yw:=aW (L.ext Zv.o);have YR:=L.g.r.m.size;have Zo:=sM s p i;refine bC 15 [] ah ?_;intro K I;simp only[bJ];(go_wp2_with (at_builtin;refine nQ rfl (.tmp 164) (.tmp 174) rfl rf rf Yw.g.r.own Adz (Θ YR Zv.size) a3.o (fun v2 w2 YH ZT M=> ?_)));obtain⟨cE,bi,ZV⟩:=YH.form aa;subst ZV;refine Qp ?_;go_wp2;refine I _ _ (Kp3.of ((ae0 Zv.o).trans ZT) L.g.r.g.lt L.g.bB.lt L.g.bB.lt (Yw.g.r.own.ne Yw.g.r.g aj) (Yw.g.r.own.ne Yw.g.bB aj) (Yw.g.r.own.ne Yw.g.bB aj)) ?_;clear I K;simp only[dh,ξ,τ];have ZH:=Yw.g.r.g.mod ZT (Yw.g.r.own.ne Yw.g.r.g aj);have kx:=ZH.cell (k:=0) aa;have fx:=ZH.frozen 0;have YB:=aW (Yw.push (W2:=w2.setCell ⟨gx,0,δ⟩ (.slice (γ (aM cE 0)) ((gm s p i).length+1) bi)) bx.o (fun l e=>sU Adn) (Zm.ext Zv.o) YH ZT M rfl);clear Yw L Zm af a3 Zv ZH YH ZT M YR Zo;go_wp2_with fail
           exact Aau
         .have YQ:(b.kind==3)=ζ:=by simpa using h3
          have H3:=aW h3;clear h3;have YB:=aW (Q.skip (by unfold iq;simp only[];rw[YV.o,ι bt.o,θ H2.o,θ (fun e=>H3.o e.1)]) (fun l e=>sU Adn));clear Q;go_wp2_with fail
          exact Aau
      .have YJ:(na !=1)=ε:=by simpa using cl
       have dk:=aW cl;clear cl;have YB:=aW (Q.skip (Cu (by rw[HJ.o,ρ dk.o];rfl)) (fun l e=>Du (by rw[HJ.o,ρ dk.o];rfl)));clear Q;go_wp2_with fail
       exact Aau
    .obtain rfl:i=s.bays.length:=aa;have hd:decide ((s.bays.length:Int)<(s.bays.length:Int))=ζ:=ag;have YS:=aW (agE Q.o);clear Q hi Yu;have kx:=YS.g.r.g.cell (k:=14) aa;have fx:=YS.g.r.g.frozen 14;have HZ:=aW (YS.set (W':=(wr.setCell ⟨gx,14,δ⟩ (.int .i64 17))) 17 rfl);clear YS;have k9:=HZ.b9.cell;have k7:=HZ.b7.cell;by_cases Yv:f.kind=0
     .have ZB:(f.kind !=0)=ζ:=by rw[Yv];rfl
      have cw:=aW Yv;clear Yv;go_wp2_with fail;have ZP:upd C 14 (.int .i64 ((17:Nat):Int)) 14=.int .i64 ((if f.kind≠0/\f.line=ζ then 13+((groups s p).getD f.obj.toNat 0).toNat else 17:Nat):Int):=by rw[θ (fun e=>e.1 cw.o)];exact HZ.c14
      have hh:=FD f gx gf gB wa w _ Zx.o ZE.o Yz.o YM.o ZR.o HZ.g HZ.ends ZP HZ.liv;clear ZP kx fx k9 k7 HZ;refine hh.mono ?_;clear hh;rintro _ w4 ⟨rfl,C',bb,Y⟩;have YO:=aW Y;clear Y;go_wp2_with fail;refine aaY (aas rfl _ _ _) rfl ⟨rfl,C',bb,YO.o⟩
     .have ZB:(f.kind !=0)=ε:=by simpa using Yv
      have cw:=aW Yv;clear Yv;cases Zy:f.line with
      |true=>
       rw[Zy] at k9;have a7:=aW Zy;clear Zy;go_wp2_with fail;have ZP:upd C 14 (.int .i64 ((17:Nat):Int)) 14=.int .i64 ((if f.kind≠0/\f.line=ζ then 13+((groups s p).getD f.obj.toNat 0).toNat else 17:Nat):Int):=by rw[θ (fun e=>by have:=e.2;rw[a7.o] at this;exact absurd this aj)];exact HZ.c14
       have hh:=FD f gx gf gB wa w _ Zx.o ZE.o Yz.o YM.o ZR.o HZ.g HZ.ends ZP HZ.liv;unfold nU at hh;rw[a7.o] at hh;clear ZP kx fx k9 k7 HZ;refine hh.mono ?_;clear hh;rintro _ w4 ⟨rfl,C',bb,Y⟩;have YO:=aW Y;clear Y;go_wp2_with fail;refine aaY (aas rfl _ _ _) rfl ⟨rfl,C',bb,YO.o⟩
      |false=>
       rw[Zy] at k9;have a7:=aW Zy;clear Zy;have bA:=ZR.bus a7.o (by have:=cw.o;have:=ZR.kind.1;omega);obtain⟨o,ZF⟩:∃o:Nat,f.obj=(o:Int):=⟨f.obj.toNat,aa⟩;have Zd:o<s.buses.length:=aa;rw[ZF] at k9;have a4:=aW ZF;clear ZF bA;have Zo:=(Yz.ext (HZ.g.older Zx.o ZE.o)).buses.len;have cT:o<n0:=aa;have d6:=aW (lC YM.o p Zd);have q1:(0:Int)<=o:=aa;have q2:(o:Int)<n0:=aa;have k8:=HZ.b8.cell;go_wp2_with fail;clear kx fx k7 k8 k9 Zo;generalize (wr.setCell ⟨gx,14,δ⟩ (.int .i64 17))=wz at HZ⊢;have b0:=aW (Yz.ext (HZ.g.older Zx.o ZE.o));have dy:=aW (ZL.mod dl.o HZ.g.r.m (fun g hg=>by have hg:g=gx:=hg;have:=Zc.o;omega));have cy:=HZ.b9;rw[a7.o,a4.o] at cy;have eb:=aX.blk HZ.b7;have ed:=aX.blk HZ.b8;have d7:=aX.blk cy;clear cy;refine jE 9 (fun w'=>∃x:aX wz,w'=x.val) [(ε,0),(ε,1),(ε,2),(ε,4),(ε,5),(ζ,3),(ζ,6),(ζ,7),(ζ,8)] ah ah ⟨⟨_,(Ext.refl wz).drew⟩,rfl⟩ ?_;refine bD [0,1,2,4,5] [(ζ,3),(ζ,6),(ζ,7),(ζ,8)] _ ah ?_;refine Gq ?_;clear eb ed d7;have P:Ext wz wz.drew:=(Ext.refl _).drew;refine bC 3 [(ζ,6),(ζ,7),(ζ,8)] ah ?_;intro K I;simp only[bJ];go_wp2_with fail;refine(GG _ (b0.ext P) (dy.ext P) YY.o cG.o).mono ?_;rintro _ w2 ⟨GA,gc,rfl,cM,F⟩;replace P:=P.trans F;clear F;have Zf:=cM.2;obtain⟨gg,og,dw,ZO,dn⟩:=cM.2.at_ cT;subst dw;obtain⟨gr,cP⟩:∃g,(groups s p).getD o 0=g:=⟨_,rfl⟩;have kg:w2.cell? (aM gg (og+o))=γ (.int .i64 gr):=by have h1:=dn 0 _ rfl;rw[cP] at h1;simpa using h1
       have du:=aW cP;clear cP cM Zf ZO dn;have ZO:=d6.o;rw[du.o] at ZO;obtain⟨gn,rfl⟩:∃g:Nat,gr=(g:Int):=⟨gr.toNat,aa⟩;have ei:wrap64 (13+(gn:Int))=((13+gn:Nat):Int):=by rw[Ab _ aa];omega
       clear ZO;go_wp2;refine I _ _ ⟨⟨_,P⟩,rfl⟩ ?_;clear I K;refine bC 6 [(ζ,7),(ζ,8)] ah ?_;intro K I;simp only[bJ];go_wp2_with fail;refine I _ _ ⟨⟨_,P⟩,rfl⟩ ?_;clear I K;refine bC 7 [(ζ,8)] ah ?_;intro K I;simp only[bJ];go_wp2_with fail;refine I _ _ ⟨⟨_,P⟩,rfl⟩ ?_;clear I K;refine bC 8 [] ah ?_;intro K I;simp only[bJ];go_wp2_with fail;refine I _ _ ⟨⟨_,P⟩,rfl⟩ ?_;clear I K;simp only[dh,ξ,τ];replace HZ:=HZ.aA P;have kx:=HZ.g.r.g.cell (k:=14) aa;have fx:=HZ.g.r.g.frozen 14;replace HZ:=aW (HZ.set (W':=w2.setCell ⟨gx,14,δ⟩ (.int .i64 (13+(gn:Int)))) (13+gn) (by rw[show((13+gn:Nat):Int)=13+(gn:Int) by omega]));have cF:=HZ.b9;rw[a7.o,a4.o] at cF;have k9:=cF.cell;clear cF;have k7:=HZ.b7.cell;go_wp2_with fail;have ZP:upd (upd C 14 (.int .i64 ((17:Nat):Int))) 14 (.int .i64 ((13+gn:Nat):Int)) 14=.int .i64 ((if f.kind≠0/\f.line=ζ then 13+((groups s p).getD f.obj.toNat 0).toNat else 17:Nat):Int):=by rw[ι ⟨cw.o,a7.o⟩,a4.o,Hu,du.o,Hu];exact HZ.c14
       have hh:=FD f gx gf gB wa w _ Zx.o ZE.o Yz.o YM.o ZR.o HZ.g HZ.ends ZP HZ.liv;unfold nU at hh;rw[a7.o,a4.o] at hh;clear ZP kx fx k9 k7 HZ;refine hh.mono ?_;clear hh;rintro _ w4 ⟨rfl,C',bb,Y⟩;have YO:=aW Y;clear Y;go_wp2_with fail;refine aaY (aas rfl _ _ _) rfl ⟨rfl,C',bb,YO.o⟩
theorem EQ(gx gf sq nb cb:Nat)(un C A Bv brs)(fN:Nat)(w)(hc:dz w gf)(hg:fU w gx 105 393 C)(hn:tY w C A nb cb Bv brs (lv brs))(hf:C 14=.int .i64 (fN:Int))(ZW:fN<=17)(hu:un=ε->lv brs fN=ε)(Zz:sq<=1):
  Calls prog 125 #[aN gx 0,aN gf 0,(sq:Int),.bool un] w fun e w'=>∃f:Nat->En,e=.returned (.agg (bz 18 f).toArray)/\
   (∀k,k<18->GV w' (f k).v (nE (lv brs) (rwx (lv brs)) (cnt (lv brs) 18) (usd (lv brs) sq brs) (if un=ε then unit (rwx (lv brs) fN) else feed (rwx (lv brs)) (usd (lv brs) sq brs)) k) 841)/\Ext w w':=by
 have HN:=aW hn;have HU:=aW hu;have aw:=aW hf;have Zp:=aW ZW;have ZT:=aW Zz;have HC:=aW hc;have HG:=aW hg;clear hn hu hf ZW Zz hc hg;go_enter func125,ntmps125;(iterate 3 (try (first|go_values|go_skip|go_guarded|go_step|go_upon|go_in|go_back|go_simp)));refine gD rfl 100 rfl _ Dz ?_;intro w1 B;refine Qp ?_;have YK:Hid (Blk w1 w.heap.size 100 (bz 18 fun _=>zEn).toArray):=aW Adq;have HX:Hid (Ext w w1):=aW (by rw[B];exact Ext.new _ _);clear B;generalize Zq:w.heap.size=g8 at YK⊢;have Zc:Hid (w.heap.size<=g8):=aW aa;clear Zq;(iterate 5 (try (first|go_values|go_skip|go_guarded|go_step|go_upon|go_in|go_back|go_simp)));refine gD rfl 100 rfl _ Dz ?_;intro w2 B;refine Qp ?_;have F:Ext w1 w2:=by rw[B];exact Ext.new _ _
 have D:Hid (Blk w2 w1.heap.size 100 (bz 18 fun _=>zEn).toArray):=aW Adq;have ZG:Hid (w.heap.size<=w1.heap.size/\g8<w1.heap.size):=aW ⟨HX.size,YK.lt⟩;replace YK:=YK.aA F;replace HX:=HX.aC F;clear F B;generalize w1.heap.size=g9 at D ZG⊢;(iterate 5 (try (first|go_values|go_skip|go_guarded|go_step|go_upon|go_in|go_back|go_simp)));refine gD rfl 222 rfl _ KL ?_;intro w3 B;refine Qp ?_;have F:Ext w2 w3:=by rw[B];exact Ext.new _ _
 have Yv:Hid (fU w3 w2.heap.size 222 18 fun _=> .int .i64 0):=aW Adq;have Zj:Hid (w.heap.size<=w2.heap.size/\g9<w2.heap.size):=aW ⟨HX.size,D.lt⟩;replace YK:=YK.aA F;replace D:=D.aA F;replace HX:=HX.aC F;clear F B;generalize w2.heap.size=g10 at Yv Zj⊢;have Zi:w3.rangeAt gx 15 (jM (lv brs)):=(HG.ext HX.o).rangeAt (by simp[jM]) (fun j v hv=>vk HN.o hv);have YE:=aW Zi;clear Zi;(go_wp2_with (refine σ rfl 99 _ rfl gx 15 rf (jM (lv brs)) _ YE.o abG rfl vK ?_));clear YE;go_loopw [11,26] (fun nv iv wr=>∃i:Nat,i<=18/\iv=.int .i64 i/\nv=.int .i64 (cnt (lv brs) i:Nat)/\Lp1 w wr g8 g9 g10 (lv brs) i i) (fun _ iv _=>18-(intOf iv).toNat)
 case atStart=>exact⟨0,aa,rfl,rfl,YK.o,⟨_,D.o,by intros;omega⟩,Yv.congr (fun k hk=>by rw[θ aa]),HX.o,Zc.o,ZG.o,Zj.o⟩
 case round=>
  clear YK D Yv HX Zc ZG Zj;obtain⟨i,hi,rfl,rfl,hR⟩:=hrel;have Q:=aW hR;clear hR;by_cases Yu:i<18
  .have hd:decide ((i:Int)<18)=ε:=ae;have YV:=RN (L:=lv brs) Yu wr;have q1:(0:Int)<=i:=aa;have q2:(i:Int)<18:=aa;go_wp2_with fail;refine(dR gf 0 _ (HC.ext Q.x) aa aa).mono ?_;rintro _ wa ⟨_,rfl,M,F⟩;obtain⟨eN,rfl⟩:=M.en;have HV:=aW M;replace Q:=Q.aA F;clear M F YV;(iterate 5 (try (first|go_values|go_skip|go_guarded|go_step|go_upon|go_in|go_back|go_simp)));have N:=aW (Q.there Yu);refine bG rfl 42 (.tmp 33) (.tmp 32) rfl g9 (i*6) eN.cells rf rf N.o cO (eP eN) ?_;intro wb B;refine Qp ?_;have YB:=aW (Q.put Yu HV.o B);clear Q HV N B;have ZC:cnt (lv brs) i<=18:=Θ (LM i) hi;cases hL:lv brs i with
   |false=>
    have HL:=aW hL;have ZZ:=aW (Tk hL);go_wp2_with fail
    go_roundw
    case rel=>exact⟨i+1,aa,au,by rw[ZZ.o],YB.skip HL.o⟩
    case measure=>exact aV
   |true=>
    have HL:=aW hL;have ZZ:=aW (Xf hL);have Zv:=YB.b10.cell (k:=i) aa;have aB:=YB.b10.frozen;go_wp2_with fail
    go_roundw
    case rel=>exact⟨i+1,aa,au,by rw[ZZ.o],YB.row Yu HL.o⟩
    case measure=>exact aV
  .obtain rfl:i=18:=aa;have ZC:cnt (lv brs) 18<=17:=GR (yG HN.ok).none;have S:∃n,cnt (lv brs) 18=n:=⟨_,rfl⟩;obtain⟨n,S⟩:=S;have Zy:=aW S;rw[S] at ZC⊢;clear S;have hd:decide ((18:Int)<18)=ζ:=aj;go_wp2_with fail;refine(Fq gf n n _ (HC.ext Q.x) aa aa).mono ?_;rintro _ wB ⟨Ga,Ra,rfl,ap⟩;have ZX:=aW ap;clear ap;go_wp2_with fail;refine(Fq gf n 1 _ ((HC.ext Q.x).ext ZX.ext) aa aa).mono ?_;rintro _ wC ⟨Gb,Rb,rfl,ZN⟩;have YB:=aW (agu Q.o ZX.o ZN);clear Q ZX ZN;have k0:=HG.ext YB.p1.x;have Zm:=k0.cell_ (k:=0) aa HN.br;have av:=aW k0;clear k0;go_wp2_with fail;clear Zm;have ar:=aW ZC;go_loopw [53] (fun iv wz=>∃i:Nat,i<=nb/\iv=.int .i64 i/\Lp2 w wz g8 g9 g10 Ga Gb (lv brs) n Ra Rb (eqA (lv brs) sq brs i) (eqB (lv brs) sq brs i)) (aT nb)
   case atStart=>exact⟨0,aa,rfl,YB.o⟩
   case round=>
    clear YB av hd;rename World=>wz;obtain⟨i,hi,rfl,hR⟩:=hrel;have Q:=aW hR;clear hR;by_cases Yu:i<nb
    .have hd:decide ((i:Int)<nb)=ε:=ae;obtain⟨bA,oA,hA,Zo,Zt⟩:=HN.arr aa;subst hA;have ZU:=aW (show wz.rangeAt bA (oA+i*20) (Bv i).cs from fun j v hv=>Q.p1.x.cell_ (Zt i Yu j v hv));clear Zt;(iterate 21 (try (first|go_values|go_skip|go_guarded|go_step|go_upon|go_in|go_back|go_simp)));refine σ rfl 167 _ rfl bA (oA+i*20) rf (Bv i).cs _ ZU.o aaT rfl x9 ?_;refine gD rfl 167 rfl _ MN ?_;intro wd YQ;refine bG rfl 167 (.tmp 17) (.tmp 56) rfl wz.heap.size 0 (Bv i).cs rf rf AcE x9 (yY _) ?_;intro we Ze;refine Qp ?_;have YJ:Blk wd wz.heap.size 167 zBr:=by rw[YQ];exact Blk.new _ _ _
     have H:Ext wz wd:=by rw[YQ];exact Ext.new _ _
     have P:Ext wz we:=by rw[Ze];exact fO (κ _:Own wz wz.heap.size) 0 _ H
     have YF:Blk we wz.heap.size 167 (Bv i).cs.toArray:=by rw[Ze];exact Rz YJ
     have U:=aW YF;have W:=aW P;replace Q:=Q.aA P;clear YQ Ze YJ H P YF;generalize wz.heap.size=YZ at U⊢;have Zk:wrap64 ((i:Int)+1)=(i:Int)+1:=Ab _ (by have:=HN.len;have:=HN.l23;omega);have O:=aW Zk;clear Zk;have hm:brs.getD i η∈brs:=CP (by have:=HN.len;omega);have YG:=HN.ok _ hm;have Yx:=HN.ab i Yu;have Y:=HN.len;have YM:=aW YG;have YN:=aW Yx;have ZY:=aW Y;clear YG Yx Y hm;have ZE:(Bv i).a<17:=by rw[YN.o.1];exact YM.a
     have YD:we.cell? (aM YZ 0)=γ (.int .i64 ((Bv i).a:Int)):=(U.cell 0).trans rfl;have Yz:we.cell? (aM YZ 1)=γ (.int .i64 ((Bv i).b:Int)):=(U.cell 1).trans rfl;have kc:we.cell? (aM gf 0)=γ (.int .i64 0):=((Blk.ext HC.o Q.p1.x).cell 0).trans rfl;have kl:=(HG.ext Q.p1.x).cell_ (k:=15+(Bv i).a) aa (HN.live (Bv i).a aa);cases hL:lv brs (Bv i).a with
     |false=>
      rw[hL] at kl;have Yw:used (lv brs) (brs.getD i η)=ζ:=by unfold used;rw[<-YN.o.1,hL];rfl
      have Zx:=aW Yw;clear Yw;go_wp2_with fail;go_quiet (fail);go_wp2_with fail
      exact AaS
     |true=>
      rw[hL] at kl;by_cases YY:(Bv i).a=(Bv i).b
      .have Yw:used (lv brs) (brs.getD i η)=ζ:=by unfold used;rw[<-YN.o.1,<-YN.o.2,hL,YY];simp
       have Zx:=aW Yw;clear Yw;have ZO:(((Bv i).a:Int) !=((Bv i).b:Int))=ζ:=by rw[YY];simp
       clear YY;go_wp2_with fail;go_quiet (fail);go_wp2_with fail
       exact AaS
      .have Yw:used (lv brs) (brs.getD i η)=ε:=by unfold used;rw[<-YN.o.1,<-YN.o.2,hL];simp[YY]
       have Zx:=aW Yw;clear Yw;have ZO:(((Bv i).a:Int) !=((Bv i).b:Int))=ε:=ae;have az:=aW YY;have HL:=aW hL;clear YY;go_wp2_with fail;go_quiet (fail);generalize J:we.drewN nq=wq;have YO:Ext we wq:=by rw[<-J];exact(Ext.refl _).drewN _
       have ZI:=aW YO;replace Q:=Q.aA YO;replace U:=U.aA YO;clear YO J YD Yz kc kl ZO;have ZL:wq.rangeAt g10 0 ((List.range 18).map fun k=>Value.int .i64 (rwx (lv brs) k:Nat)):=Q.p1.rng;have ZP:wq.rangeAt YZ 0 (Bv i).cs:=fun j v hv=>(U.cell (0+j)).trans (by rw[aaC,Γ];exact hv);have ZM:=aW ZL;have ZR:=aW ZP;clear ZL ZP;(go_wp2_with (first|refine σ rfl 222 _ rfl g10 0 rf _ _ ZM.o underlying222 rfl Lp ?_|refine σ rfl 167 _ rfl YZ 0 rf _ _ ZR.o aaT rfl x9 ?_));clear ZM ZR;refine(PU HN.o (dz.ext HC.o Q.p1.x) Q.o Zy.o AdK Zx.o ZT.o (HC.lt)).mono ?_;rintro _ wf ⟨rfl,V⟩;have K:=aW V;clear V;go_wp2_with fail
       go_roundw
       case rel=>exact⟨i+1,aa,by rw[O.o];rfl,K.o⟩
       case measure=>rw[O.o];exact AdW
    .obtain rfl:i=nb:=aa;have hd:decide ((i:Int)<i)=ζ:=ag;have ZK:brs.length=i:=HN.len;have ZV:=Q.a;rw[<-ZK,U9] at ZV;have HA:=aW ZV;have YL:=aW Q.p1;clear ZV;cases un
     case' false=>
      have Yy:=Q.b;rw[<-ZK,Vs] at Yy;have ac:=aW Yy;clear Yy Q ZK;have ZJ:Hid (D6 (rwx (lv brs)) (usd (lv brs) sq brs) (feed (rwx (lv brs)) (usd (lv brs) sq brs))):=aW (Or.inl rfl);have kc:wz.cell? (aM gf 0)=γ (.int .i64 0):=((Blk.ext HC.o YL.x).cell 0).trans rfl;go_wp2_with fail;clear kc;refine(EU HN.ok HN.l23 ZJ.o Zy.o HA.o ac.o).mono ?_;rintro _ wS ⟨G,RX,rfl,YH,F⟩;have T:=aW YH;replace YL:=YL.aA F;clear YH F HA ac;go_wp2_with fail;refine(EA gf _ _ _ _ (dz.ext HC.o YL.x)).mono ?_;rintro _ wK ⟨rfl,F⟩;replace T:=T.aA F;replace YL:=YL.aA F;clear F;have kc:wK.cell? (aM gf 0)=γ (.int .i64 0):=((Blk.ext HC.o YL.x).cell 0).trans rfl;have Zi:wK.rangeAt gx 15 (jM (lv brs)):=(HG.ext YL.x).rangeAt (by simp[jM]) (fun j v hv=>vk HN.o hv);have YE:=aW Zi;clear Zi;(go_wp2_with (refine σ rfl 99 _ rfl gx 15 rf (jM (lv brs)) _ YE.o abG rfl vK ?_));clear YE kc;have Z:=aW (afP YL.o T.o);clear YL T;go_loopw [129] (fun iv wr=>∃i:Nat,i<=18/\iv=.int .i64 i/\Lp3 w wr g8 g9 g10 G (lv brs) n RX (sol n (fM zmx ((usd (lv brs) sq brs).map (Nb.br (rwx (lv brs))))) (col (feed (rwx (lv brs)) (usd (lv brs) sq brs)))) i) (aT 18)
     case' true=>
      clear ZK;have YS:∃r,rwx (lv brs) fN=r:=⟨_,rfl⟩;obtain⟨r,YS⟩:=YS;have ad:lv brs fN=ε:=HU.o rfl;have ZB:r<n:=by rw[<-YS,<-Zy.o];exact(afe (fun k hk=>vP HN.ok hk)).lt _ ad
      have Z7:=aW ad;clear ad;have ZC:n<=17:=ar.o;go_wp2_with fail;refine(Fq gf n 1 _ (dz.ext HC.o YL.x) aa aa).mono ?_;rintro _ wD ⟨Gc,Rc,rfl,Z8⟩;have Zw:=aW Z8;clear Z8;go_wp2_with fail;have aq:=aW (HG.ext (YL.x.trans Zw.ext));have ZF:=aX.cell (aq.cell_ (k:=14) aa aw.o);have ay:=aX.cell ((YL.ext Zw.ext).b10.cell_ (k:=fN) (v:=.int .i64 (r:Int)) Ac7 (by simp only[ι (show fN<18 by have:=Zp.o;omega),YS]));have ax:=aX.cell ((Zw.mx (Ext.refl _)).hd ZB aa);have ZW:=Zp.o;have q1:(0:Int)<=fN:=aa;have q2:(fN:Int)<18:=aa;have q3:(0:Int)<=r:=aa;have q4:(r:Int)<n:=aa;have YP:=aW YS;clear YS;refine tN 12 [(2,.eq (.pointer (γ (aM gx 0)))),(10,.gv (GQ.i 1 0) 64)] ?_;refine Qs ?_;refine En_ ?_;intro lo YT;refine Qs ?_;refine Ee (fun R I=>dR gf 1 _ (dz.ext HC.o ((YL.x.trans Zw.ext).trans I.1)) aa aa) ?_;intro e1 Zf YU;refine Qs ?_;refine bN ?_;intro wE I;have F:=I.ext;have YI:GV wE e1.v (GQ.i 1 0) 64:=ae5 (I.at_ 10 (e:=(e1.v,Zf,YU)) rf);have YC:=aW YI;have YA:=aW F;clear I F YI ZF ay ax;have N:=aW (LA Zw.o YA.o ZB);refine bG rfl 42 (.tmp 102) (.tmp 101) rfl (Rc r).b 0 e1.cells rf rf N.o cO (eP e1) ?_;intro wF B;refine Qp ?_;have Zn:=SE YL.o HA.o Zw.o YA.o ZB YC.o B;clear N B YC YA Zw aq Q;replace YL:=aW Zn.1;replace HA:=aW Zn.2.1;have ac:=aW Zn.2.2;clear Zn;have ZJ:Hid (D6 (rwx (lv brs)) (usd (lv brs) sq brs) (unit r)):=aW (Or.inr ⟨_,rfl⟩);have YS:=YP.o;subst YS;have kc:wF.cell? (aM gf 0)=γ (.int .i64 0):=((Blk.ext HC.o YL.x).cell 0).trans rfl;go_wp2_with fail;clear kc;refine(EU HN.ok HN.l23 ZJ.o Zy.o HA.o ac.o).mono ?_;rintro _ wS ⟨G,RX,rfl,YH,F⟩;have T:=aW YH;replace YL:=YL.aA F;clear YH F HA ac;go_wp2_with fail;refine(EA gf _ _ _ _ (dz.ext HC.o YL.x)).mono ?_;rintro _ wK ⟨rfl,F⟩;replace T:=T.aA F;replace YL:=YL.aA F;clear F;have kc:wK.cell? (aM gf 0)=γ (.int .i64 0):=((Blk.ext HC.o YL.x).cell 0).trans rfl;have Zi:wK.rangeAt gx 15 (jM (lv brs)):=(HG.ext YL.x).rangeAt (by simp[jM]) (fun j v hv=>vk HN.o hv);have YE:=aW Zi;clear Zi;(go_wp2_with (refine σ rfl 99 _ rfl gx 15 rf (jM (lv brs)) _ YE.o abG rfl vK ?_));clear YE kc;have Z:=aW (afP YL.o T.o);clear YL T;go_loopw [129] (fun iv wr=>∃i:Nat,i<=18/\iv=.int .i64 i/\Lp3 w wr g8 g9 g10 G (lv brs) n RX (sol n (fM zmx ((usd (lv brs) sq brs).map (Nb.br (rwx (lv brs))))) (col (unit (rwx (lv brs) fN)))) i) (aT 18)
     all_goals
      first
      |exact⟨0,aa,rfl,Z.o⟩
      |
       skip;clear Z;rename World=>wr;obtain⟨i3,YR,rfl,hR⟩:=hrel;have Q:=aW hR;clear hR;by_cases Zd:i3<18
       .have Zr:decide ((i3:Int)<18)=ε:=ae;have YV:=RN (L:=lv brs) Zd wr;have q1:(0:Int)<=i3:=aa;have q2:(i3:Int)<18:=aa;cases hL:lv brs i3 with
        |false=>
         rw[hL] at YV;have HL:=aW hL;go_wp2_with fail
         go_roundw
         case rel=>exact⟨i3+1,aa,au,Q.skip HL.o⟩
         case measure=>exact aV
        |true=>
         rw[hL] at YV;have HL:=aW hL;have YS:∃r,rwx (lv brs) i3=r:=⟨_,rfl⟩;obtain⟨r3,Zh⟩:=YS;have ZQ:r3<n:=by rw[<-Zh,<-Zy.o];exact(afe (fun k hk=>vP HN.ok hk)).lt _ HL.o
         have Zv:wr.cell? (aM g10 i3)=γ (.int .i64 (r3:Int)):=Q.b10.cell_ (k:=i3) aa (by simp only[ι Zd,Zh]);have K:=aW Zh;clear Zh;have kh:=Q.hd ZQ;obtain⟨e3,ai,ZH⟩:=Q.en ZQ;have ZA:wr.rangeAt (RX r3).b 0 e3.cells:=fun t v hv=>(by rw[aaC];exact ZH t v hv);have Za:=aW ai;have Zg:=aW ZA;clear ai ZH ZA;have N:=aW (Q.there Zd);have q3:(0:Int)<=r3:=aa;have q4:(r3:Int)<n:=aa;(go_wp2_with (refine σ rfl 42 _ rfl (RX r3).b 0 rf e3.cells _ Zg.o abH rfl cO (Hid.o ?_)));refine Qz ?_;(go_wp2_with (refine bG rfl 42 (.tmp 143) (.tmp 142) rfl g9 (i3*6) e3.cells rf rf N.o cO (eP e3) (fun wb B=>Hid.o ?_)));refine Qz ?_;have YB:=aW (Q.put Zd HL.o (by rw[K.o];exact Za.o) (wr':=puts wr g9 (i3*6) e3.cells) rfl);clear Q Za Zg N Zv kh YV;go_wp2_with fail
         go_roundw
         case rel=>exact⟨i3+1,aa,au,YB.o⟩
         case measure=>exact aV
       .obtain rfl:i3=18:=aa;have Zr:decide ((18:Int)<18)=ζ:=aj;obtain⟨f9,af,YW⟩:=Q.b9;have ao:wr.rangeAt g9 0 (bz 18 f9):=fun t v hv=>(by rw[aaC];exact(af.cell t).trans (by rw[Γ];exact hv));have am:wr.there g8 0 (bz 18 f9).length:=Q.b8.there AbQ;have D:=aW af;have Zl:=aW YW;have Z9:=aW ao;have N:=aW am;clear af YW ao am;(go_wp2_with (refine σ rfl 100 _ rfl g9 0 rf (bz 18 f9) _ Z9.o underlying100 rfl (uo f9) (Hid.o ?_)));refine Qz ?_;refine bG rfl 100 (.tmp 8) (.tmp 145) rfl g8 0 (bz 18 f9) rf rf N.o (uo f9) (dN 18 f9) ?_;intro wb B;refine Qp ?_;have YX:=aW (Q.fin D.o Zl.o B);clear Q D Zl Z9 N B;go_wp2_with fail;refine jo rfl rfl rf YX.o.1 underlying100 rfl (N9 f9) ⟨f9,rfl,fun k hk=> ?_,YX.o.2.1⟩;have h1:=YX.o.2.2 k hk;unfold nE;rw[Zy.o];(try simp only[NK,abA,aad]);exact h1.to (TT HN.ok HN.l23 ZJ.o Zy.o (k:=k) hk)
def uu(g):∀(xs j:List Value) (k:Nat) (w:World),puts w g k (xs++j)=puts (puts w g k xs) g (k+xs.length) j
 |[],_,_,_=>rfl
 |x::xs,j,k,w=>by
  show puts (w.setCell ⟨g,k,δ⟩ x) g (k+1) (xs++j)=puts (puts (w.setCell ⟨g,k,δ⟩ x) g (k+1) xs) g (k+(xs.length+1)) j;rw[uu g xs j (k+1),show k+(xs.length+1)=k+1+xs.length by omega]
structure Sv (w0 w:World) (gx gf g5 g7:Nat) (C:Nat->Value) (E:Nat->En) (D:Nat->Prop) (Q:Nat->GQ) (f:eD) (f7:Nat->En) (bs:List BrD):Prop where
 g:GrS w0 w gx gf C E D Q 4400
 b5:Blk w g5 33 #[f.kind,f.line,f.obj,f.num,f.den,f.r]
 b7:Blk w g7 100 (bz 18 f7).toArray
 v7:∀k,k<18->GV w (f7 k).v (bef bs k) 841
 l5:w0.heap.size<=g5
 l7:w0.heap.size<=g7
 lx:gx<w0.heap.size
section
variable {w0 w w':World} {gx gf g5 g7:Nat} {C:Nat->Value} {E:Nat->En} {D D':Nat->Prop} {Q Q':Nat->GQ} {f:eD} {f7:Nat->En} {bs:List BrD}
def Sv.ext(h:Sv w0 w gx gf g5 g7 C E D Q f f7 bs)(x:Ext w w'):Sv w0 w' gx gf g5 g7 C E D Q f f7 bs:=⟨h.g.ext x,h.b5.ext x,h.b7.ext x,fun k j=>(h.v7 k j).ext x,h.l5,h.l7,h.lx⟩
def Sv.to(h:Sv w0 w gx gf g5 g7 C E D Q f f7 bs)(hd:∀e,e<60->D' e->D e/\Q e=Q' e):Sv w0 w gx gf g5 g7 C E D' Q' f f7 bs:=⟨h.g.to hd,h.b5,h.b7,h.v7,h.l5,h.l7,h.lx⟩
def Sv.put(h:Sv w0 w gx gf g5 g7 C E D Q f f7 bs){e a x q n}(O:e<60)(hn:n<=4400)(J:GV w x.v q n)(ha:a=33+e*6)(B:w'=puts w gx a x.cells):
  Sv w0 w' gx gf g5 g7 C (upd E e x) (fun k=>k=e\/D k) (upd Q e q) f f7 bs:=by
 subst ha;obtain⟨G,j⟩:=h.g.put O (J.up hn) B;have l5:=h.l5;have l7:=h.l7;have lx:=h.lx;exact⟨G,h.b5.mod j (by show ¬g5=gx;omega),h.b7.mod j (by show ¬g7=gx;omega),fun k F=>h.g.Jk j (h.v7 k F),h.l5,h.l7,h.lx⟩
def Sv.net{A nb j Bv}(h:Sv w0 w gx gf g5 g7 C E D Q f f7 bs)(hn:tY w0 C A nb j Bv bs (lv bs))(B:iB (fun k=>k=gx) w0)(F:∀b o,A=γ ⟨b,o,δ⟩->b≠gx):tY w (fT C E) A nb j Bv bs (lv bs):=
 hn.mod h.g.m B F (fun i hi=>dU hi)
end
noncomputable def yR (bs:List BrD) (fN:Nat) (f:eD) (e:Nat):GQ:=
 if f.kind≠0/\lv bs fN=ε then
  if e<54 then vlt bs fN f.kind f.r (e/18) (e%18) else if e<57 then fcu bs fN f.kind f.r (e-54) else if e=57 then bef bs fN else drp bs fN (e-58) fN
 else if e<54 then vbe bs (e/18) (e%18) else GQ.i 0 0
def afW{w wq w2 G F:World}{gx gf g5 C K}{f:eD}{f7 bs}(hc:dz w gf)(M:fU w gx 105 393 (fT C K))(H:∀i,i<33->nX (C i)=ε)(J:Ext w w2)(b5:Blk w2 g5 33 #[f.kind,f.line,f.obj,f.num,f.den,f.r])(hv:∀k,k<18->GV w2 (f7 k).v (bef bs k) 841)(l5:w.heap.size<=g5)(lx:gx<w.heap.size)(L:G=w2.alloc (.cells (bz 18 fun _=>zEn).toArray 100))(I:F=puts G w2.heap.size 0 (bz 18 f7))(D Q)(N:∀e,¬D e):
  Sv w F gx gf g5 w2.heap.size C K D Q f f7 bs:=by
 have B:Ext w2 G:=by rw[L];exact Ext.new _ _
 have b7:Blk G w2.heap.size 100 (bz 18 fun _=>zEn).toArray:=by rw[L];exact Blk.new _ _ _
 have j:Ext w2 F:=by rw[I];exact fO (κ _:Own w2 w2.heap.size) 0 _ B
 have b8:Blk F w2.heap.size 100 (bz 18 f7).toArray:=by
  have:=dm 0 (bz 18 f7) b7;rw[iF _ _ (by rw[bM,bM])] at this;rw[I];exact this
 exact⟨⟨(M.ext J).ext j,fun e _ hd=>absurd hd (N e),ae0 (J.trans j),(dz.ext hc J).ext j,H⟩,b5.ext j,b8,fun k O=>(hv k O).ext j,l5,J.size,lx⟩
def Pg:(prog.info? 194).map (·.zero)=γ (γ (.agg (bz 36 fun _=>zEn).toArray)):=ah
structure Sw (w0 w:World) (gx gf g5 g7 g9:Nat) (C:Nat->Value) (E:Nat->En) (D:Nat->Prop) (Q:Nat->GQ) (f:eD) (f7:Nat->En) (bs:List BrD) (fN:Nat) (f9:Nat->En) (i:Nat):Prop where
 s:Sv w0 w gx gf g5 g7 C E D Q f f7 bs
 b9:Blk w g9 194 (bz 36 f9).toArray
 v9:∀e,e<i*18->GV w (f9 e).v (drp bs fN (e/18) (e%18)) 841
 l9:w0.heap.size<=g9
section
variable {w0 w w':World} {gx gf g5 g7 g9 fN i:Nat} {C:Nat->Value} {E:Nat->En} {D D':Nat->Prop} {Q Q':Nat->GQ} {f:eD} {f7 f9:Nat->En} {bs:List BrD}
def afT(h:Sv w0 w gx gf g5 g7 C E D Q f f7 bs)(j:w'=w.alloc (.cells (bz 36 fun _=>zEn).toArray 194)):Sw w0 w' gx gf g5 g7 w.heap.size C E D Q f f7 bs fN (fun _=>zEn) 0:=by
 subst j;exact⟨h.ext (Ext.new _ _),Blk.new _ _ _,fun e O=>aa,h.g.m.size⟩
def Sw.ext(h:Sw w0 w gx gf g5 g7 g9 C E D Q f f7 bs fN f9 i)(x:Ext w w'):Sw w0 w' gx gf g5 g7 g9 C E D Q f f7 bs fN f9 i:=⟨h.s.ext x,h.b9.ext x,fun e O=>(h.v9 e O).ext x,h.l9⟩
def Sw.to(h:Sw w0 w gx gf g5 g7 g9 C E D Q f f7 bs fN f9 i)(hd:∀e,e<60->D' e->D e/\Q e=Q' e):Sw w0 w gx gf g5 g7 g9 C E D' Q' f f7 bs fN f9 i:=⟨h.s.to hd,h.b9,h.v9,h.l9⟩
def Sw.put(h:Sw w0 w gx gf g5 g7 g9 C E D Q f f7 bs fN f9 i){e a x q n}(O:e<60)(hn:n<=4400)(J:GV w x.v q n)(ha:a=33+e*6)(j:w'=puts w gx a x.cells):
  Sw w0 w' gx gf g5 g7 g9 C (upd E e x) (fun k=>k=e\/D k) (upd Q e q) f f7 bs fN f9 i:=by
 have B:Mod (fun k=>k=gx) w w':=by rw[j];exact Mod.puts _ _ _ _ rfl
 have lx:=h.s.lx;have l9:=h.l9;exact⟨h.s.put O hn J ha j,h.b9.mod B (by show ¬g9=gx;omega),fun k F=>h.s.g.Jk B (h.v9 k F),h.l9⟩
def KR{i}(hi:i<2)(f x):gJ (bz 36 f).toArray (i*108) (bz 18 x)=(bz 36 fun e=>if e/18=i then x (e%18) else f e).toArray:=by
 rw[jR];congr 1;have I:(bz 36 f).length=216:=bM _ _;have C:(bz 18 x).length=108:=bM _ _;rw[I,C,χ (l:=bz 18 x) aa];apply aal;intro p;by_cases hp:p<216
 .obtain⟨j,t,rfl,D⟩:∃j t,p=j*6+t/\t<6:=⟨p/6,p%6,aa,aa⟩;have F:j<36:=aa;rw[dY (f:=fun e=>if e/18=i then x (e%18) else f e) D F];have B:((bz 36 f).take (i*108)).length=i*108:=by rw[Bn,I];omega
  by_cases G:j/18=i
  .simp only[ι G];rw[Ω AaV,nG (by rw[B];omega),B,show j*6+t-i*108=j%18*6+t by omega,dY D aa]
  .simp only[θ G];by_cases H:j/18<i
   .rw[Ω AaV,Ω (by rw[B];omega),PI aa,dY D F]
   .rw[nG AaV,pz,B,C,Zb,show i*108+108+(j*6+t-(i*108+108))=j*6+t by omega,dY D F]
 .rw[qb AcN,qb Ab5]
def Sw.drops(h:Sw w0 w gx gf g5 g7 g9 C E D Q f f7 bs fN f9 i)(hi:i<2){x}(J:∀k,k<18->GV w (x k).v (drp bs fN i k) 841)(H:w'=puts w g9 (i*108) (bz 18 x)):
  Sw w0 w' gx gf g5 g7 g9 C E D Q f f7 bs fN (fun e=>if e/18=i then x (e%18) else f9 e) (i+1):=by
 have B:Mod (fun k=>k=g9) w w':=by rw[H];exact Mod.puts _ _ _ _ rfl
 have hS:Far (fun k=>k=g9) w:=fun k F _=>by
  obtain rfl:k=g9:=F;exact⟨_,_,h.b9,dD _ _⟩
 have n5:¬g5=g9:=h.s.b5.fw h.b9 aj;have I:¬g7=g9:=h.s.b7.fw h.b9 aj;have nf:¬gf=g9:=Blk.fw h.s.g.f h.b9 aj;have j:¬gx=g9:=Blk.fw h.s.g.b h.b9 aj;have l9:=h.l9;have m:=h.s.g.m;refine⟨⟨⟨h.s.g.b.mod B j,fun e O hd=>(h.s.g.v e O hd).mod B hS,⟨B.os.trans m.os,B.tape.trans m.tape,B.output.trans m.output,Θ m.size B.size,fun k F hn=>(B.block k (ο F m.size) (fun e=>by have e:k=g9:=e;omega)).trans (m.block k F hn)⟩,Blk.mod h.s.g.f B nf,h.s.g.n⟩,h.s.b5.mod B n5,h.s.b7.mod B I,fun k F=>(h.s.v7 k F).mod B hS,h.s.l5,h.s.l7,h.s.lx⟩,?_,fun e O=> ?_,h.l9⟩
 .have:=dm (i*108) (bz 18 x) h.b9;rw[KR hi] at this;rw[H];exact this
 .by_cases G:e/18=i
  .simp only[ι G];rw[G];exact(J _ (pu _ aa)).mod B hS
  .simp only[θ G];exact(h.v9 e aa).mod B hS
def Sw.WP(h:Sw w0 w gx gf g5 g7 g9 C E D Q f f7 bs fN f9 i)(hi:i<2)(x):w.there g9 (i*108) (bz 18 x).length:=h.b9.there AbQ
def Sw.c9(h:Sw w0 w gx gf g5 g7 g9 C E D Q f f7 bs fN f9 i){j k t u x}(H:j<2)(G:k<18)(J:f9 (j*18+k)=x)(B:x.cells[t]? =γ u):w.cell? (aM g9 (j*108+k*6+t))=γ u:=by
 have F:t<6:=(μ.1 B).1;subst J;rw[h.b9.cell,Γ,show j*108+k*6+t=(j*18+k)*6+t by omega,dY F aa];exact B
def Sw.gx_(h:Sw w0 w gx gf g5 g7 g9 C E D Q f f7 bs fN f9 i){e a t x u}(O:e<60)(ha:a=33+e*6)(J:E e=x)(j:x.cells[t]? =γ u):w.cell? (aM gx (a+t))=γ u:=by
 have B:t<6:=(μ.1 j).1;subst J;subst ha;exact h.s.g.b.cell_ aa (rE j)
def Sw.at9(h:Sw w0 w gx gf g5 g7 g9 C E D Q f f7 bs fN f9 i){j k x}(F:j*18+k<i*18)(G:k<18)(J:f9 (j*18+k)=x):GV w x.v (drp bs fN j k) 841:=by
 have B:=h.v9 _ F;rw[J,show(j*18+k)/18=j by omega,show(j*18+k)%18=k by omega] at B;exact B
noncomputable def rC (bs:List BrD) (fN:Nat) (e:Nat):GQ:=if e<54 then vbe bs (e/18) (e%18) else if e<57 then GQ.i 0 0 else if e=57 then bef bs fN else drp bs fN (e-58) fN
theorem Oc{bs fN e}(O:e<57\/58<=e/\e<58+0):(e=56\/e=55\/e=54\/e<54)/\upd (upd (upd (fun e=>vbe bs (e/18) (e%18)) 54 (GQ.i 0 0)) 55 (GQ.i 0 0)) 56 (GQ.i 0 0) e=rC bs fN e:=by
 refine⟨aa,?_⟩;unfold rC;by_cases j:e<54
 .rw[ι j,upd_ne aa,upd_ne aa,upd_ne aa]
 .rw[θ j,ι aa];have B:e=54\/e=55\/e=56:=aa;rcases B with rfl|rfl|rfl<;>rfl
theorem mid_step{bs fN e i}(hi:i<2)(O:e<57\/58<=e/\e<58+(i+1)):(e=58+i\/(e<57\/58<=e/\e<58+i))/\upd (rC bs fN) (58+i) (drp bs fN i fN) e=rC bs fN e:=by
 refine⟨aa,?_⟩;by_cases j:e=58+i
 .subst j;rw[upd_same];unfold rC;rw[θ aa,θ aa,θ aa,show 58+i-58=i by omega]
 .rw[upd_ne j]
end
theorem Ui{bs fN e}(O:e<60):(e=57\/(e<57\/58<=e/\e<58+2))/\upd (rC bs fN) 57 (bef bs fN) e=rC bs fN e:=by
 refine⟨aa,?_⟩;by_cases j:e=57
 .subst j;rw[upd_same];unfold rC;rw[θ aa,θ aa,ι rfl]
 .rw[upd_ne j]
theorem Sw.short{w0 w gx gf g5 g7 g9 fN i C E f f7 f9 bs}(h:Sw w0 w gx gf g5 g7 g9 C E (fun e=>e<60) (rC bs fN) f f7 bs fN f9 i)(hb:∀b∈bs,iD b)(Z:bs.length<=23)(L:lv bs fN=ε)(K:0<=f.r/\f.r<=1000):
  Calls prog 126 #[aN gx 0,aN gf 0,nU f] w fun e w'=>∃a:Nat->En,e=.returned (.agg (bz 3 a).toArray)/\(∀k,k<3->GV w' (a k).v (fcu bs fN f.kind f.r k) 2600)/\Ext w w':=by
 obtain⟨M0,M1,hS,_⟩:=FT hb Z L;have F:rC bs fN 57=bef bs fN:=by unfold rC;rw[θ aa,θ aa,ι rfl]
 have H:rC bs fN 58=drp bs fN 0 fN:=by unfold rC;rw[θ aa,θ aa,θ aa]
 have G:rC bs fN 59=drp bs fN 1 fN:=by unfold rC;rw[θ aa,θ aa,θ aa]
 have j:=h.s.g.v 57 aa aa;have B:=h.s.g.v 58 aa aa;have D:=h.s.g.v 59 aa aa;rw[F] at j;rw[H] at B;rw[G] at D;refine(Vn gx gf (fT C E) f (E 57) (E 59) (E 58) (bef bs fN) (drp bs fN 1 fN) (drp bs fN 0 fN) M0 M1 w h.s.g.f h.s.g.b (fun t u I=>rE (e:=57) I) (fun t u I=>rE (e:=58) I) (fun t u I=>rE (e:=59) I)
  (j.to (PY hb Z fN)) (D.to (QT hb Z 1 fN)) (B.to (QT hb Z 0 fN)) hS K).mono ?_
 rintro e w' ⟨a,O,hv,J⟩;exact⟨a,O,fun k M=>(hv k M).to (RQ hb Z L f.kind K.1 K.2 k),J⟩
noncomputable def Kc (bs:List BrD) (fN:Nat) (f:eD) (e:Nat):GQ:=if e<54 then vbe bs (e/18) (e%18) else if e<57 then fcu bs fN f.kind f.r (e-54) else rC bs fN e
theorem Sw.faults{w0 w w' gx gf g5 g7 g9 fN i C E f f7 f9 bs}(h:Sw w0 w gx gf g5 g7 g9 C E (fun e=>e<60) (rC bs fN) f f7 bs fN f9 i){a}(ha:∀k,k<3->GV w (a k).v (fcu bs fN f.kind f.r k) 2600)(B:w'=puts w gx 357 (bz 3 a)):Sw w0 w' gx gf g5 g7 g9 C (upd (upd (upd E 54 (a 0)) 55 (a 1)) 56 (a 2)) (fun e=>e<60) (Kc bs fN f) f f7 bs fN f9 i:=by
 rw[jr,jr,jr] at B;replace B:w'=puts w gx 357 ((([]++(a 0).cells)++(a 1).cells)++(a 2).cells):=B;rw[aa8,uu,uu] at B;have m1:Mod (fun k=>k=gx) w (puts w gx 357 (a 0).cells):=Mod.puts _ _ _ _ rfl;have j:=h.put (e:=54) (a:=357) aa aa (ha 0 aa) aa rfl;have m2:Mod (fun k=>k=gx) (puts w gx 357 (a 0).cells) (puts (puts w gx 357 (a 0).cells) gx 363 (a 1).cells):=Mod.puts _ _ _ _ rfl;have D:=j.put (e:=55) (a:=363) aa aa (h.s.g.Jk m1 (ha 1 aa)) aa rfl;have G:=D.put (e:=56) (a:=369) aa aa (j.s.g.Jk m2 (h.s.g.Jk m1 (ha 2 aa))) aa B;refine G.to (fun e _ O=>⟨aa,?_⟩);unfold Kc;by_cases j:e<54
 .rw[ι j,upd_ne aa,upd_ne aa,upd_ne aa];unfold rC;rw[ι j]
 .rw[θ j];by_cases D:e<57
  .rw[ι D];have F:e=54\/e=55\/e=56:=aa;rcases F with rfl|rfl|rfl<;>rfl
  .rw[θ D,upd_ne aa,upd_ne aa,upd_ne aa]
noncomputable def qE (bs:List BrD) (fN:Nat) (f:eD) (i j e:Nat):GQ:=
 if e<54 then (if e%18<i\/e%18=i/\e/18<j then vlt bs fN f.kind f.r (e/18) (e%18) else vbe bs (e/18) (e%18)) else Kc bs fN f e
theorem XL{bs fN e f}:Kc bs fN f e=qE bs fN f 0 0 e:=by
 unfold qE;by_cases h:e<54
 .rw[ι h,θ aa];unfold Kc;rw[ι h]
 .rw[θ h]
theorem TK{bs fN e f}(B:f.kind≠0/\lv bs fN=ε)(O:e<60):qE bs fN f 18 0 e=yR bs fN f e:=by
 unfold qE yR;rw[ι B];by_cases h:e<54
 .rw[ι h,ι h,ι (Or.inl (pu _ aa))]
 .rw[θ h,θ h];unfold Kc;rw[θ h];by_cases j:e<57
  .rw[ι j,ι j]
  .rw[θ j,θ j];unfold rC;rw[θ h,θ j]
theorem Ut{bs fN n k kd r}(h:lv bs k=ζ):vlt bs fN kd r n k=vbe bs n k:=by
 unfold vlt;have:drp bs fN (min n 1) k=GQ.i 0 0:=by unfold drp;exact mG h
 rw[this,GQ.bY];ext<;>simp only[GQ.dJ,GQ.dK,GQ.dH,GQ.dC]<;>grind
theorem UZ{bs fN e i j f}(h:lv bs i=ζ)(O:e<60):qE bs fN f i j e=qE bs fN f i (j+1) e:=by
 unfold qE;by_cases B:e<54
 .rw[ι B,ι B];by_cases D:e%18=i
  .rw[D,Ut h,acD,acD]
  .by_cases C:e%18<i
   .rw[ι (Or.inl C),ι (Or.inl C)]
   .rw[θ aa,θ aa]
 .rw[θ B,θ B]
theorem Ir{bs fN e i f}(O:e<60):qE bs fN f i 3 e=qE bs fN f (i+1) 0 e:=by
 unfold qE;by_cases j:e<54
 .rw[ι j,ι j];by_cases B:e%18<i+1
  .rw[ι aa,ι (Or.inl B)]
  .rw[θ aa,θ aa]
 .rw[θ j,θ j]
theorem Wo{bs}(hb:∀b∈bs,iD b)(Z:bs.length<=23)(n k):Bd (vbe bs n k) 841:=by
 unfold vbe;split
 .exact PY hb Z k
 .exact Aa7
theorem Uo{bs fN e i j m f}(F:min j 1=m)(G:j<3)(hi:i<18)(O:e<60):(e=j*18+i\/e<60)/\upd (qE bs fN f i j) (j*18+i) (vbe bs j i-fcu bs fN f.kind f.r j*drp bs fN m i) e=qE bs fN f i (j+1) e:=by
 refine⟨Or.inr O,?_⟩;by_cases C:e=j*18+i
 .subst C;rw[upd_same];unfold qE;rw[ι aa,ι (Or.inr ⟨aa,aa⟩),show(j*18+i)/18=j by omega,show(j*18+i)%18=i by omega,<-F];rfl
 .rw[upd_ne C];unfold qE;by_cases B:e<54
  .rw[ι B,ι B];by_cases D:e%18<i\/e%18=i/\e/18<j
   .rw[ι D,ι aa]
   .rw[θ D,θ aa]
  .rw[θ B,θ B]
theorem Qa{bs fN e f}(h:¬(f.kind≠0/\lv bs fN=ε))(O:e<60)(hd:e<57\/f.kind≠0/\lv bs fN=ε):
  (e=56\/e=55\/e=54\/e<54)/\upd (upd (upd (fun e=>vbe bs (e/18) (e%18)) 54 (GQ.i 0 0)) 55 (GQ.i 0 0)) 56 (GQ.i 0 0) e=yR bs fN f e:=by
 have j:e<57:=hd.resolve_right h;refine⟨aa,?_⟩;unfold yR;rw[θ h];by_cases B:e<54
 .rw[ι B,upd_ne aa,upd_ne aa,upd_ne aa]
 .rw[θ B];have C:e=54\/e=55\/e=56:=aa;rcases C with rfl|rfl|rfl<;>rfl
def Sv.Yo{w0 w w' gx gf g5 g7 N C E D Q f f7 bs}(h:Sv w0 w gx gf g5 g7 C E D Q f f7 bs){a b c B j qc}(ha:GV w a.v B N)(hb:GV w b.v j N)(hc:GV w c.v qc N)(H:N<=4400)(J:w'=puts w gx 357 (a.cells++(b.cells++c.cells))):Sv w0 w' gx gf g5 g7 C (upd (upd (upd E 54 a) 55 b) 56 c) (fun k=>k=56\/k=55\/k=54\/D k) (upd (upd (upd Q 54 B) 55 j) 56 qc) f f7 bs:=by
 rw[uu,uu] at J;have m1:Mod (fun k=>k=gx) w (puts w gx 357 a.cells):=Mod.puts _ _ _ _ rfl;have I:=h.put (e:=54) (a:=357) aa H ha aa rfl;have G:=h.g.Jk m1 hb;have O:=h.g.Jk m1 hc;have m2:Mod (fun k=>k=gx) (puts w gx 357 a.cells) (puts (puts w gx 357 a.cells) gx 363 b.cells):=Mod.puts _ _ _ _ rfl;have K:=I.put (e:=55) (a:=363) aa H G aa rfl;have F:=I.g.Jk m2 O;exact K.put (e:=56) (a:=369) aa H F aa J
theorem Ow{bs i e}(hi:i<18)(O:e<60)(hd:e<54/\e%18<i+1):
  (e=i\/e=36+i\/e=18+i\/e<54/\e%18<i)/\upd (upd (upd (fun e=>vbe bs (e/18) (e%18)) (18+i) (bef bs i)) (36+i) (GQ.i 0 0)) i (GQ.i 0 0) e=vbe bs (e/18) (e%18):=by
 refine⟨aa,?_⟩;by_cases B:e=i
 .subst B;rw[upd_same];unfold vbe;rw[θ aa]
 .rw[upd_ne B];by_cases j:e=36+i
  .subst j;rw[upd_same];unfold vbe;rw[θ aa]
  .rw[upd_ne j];by_cases C:e=18+i
   .subst C;rw[upd_same];unfold vbe;rw[ι aa,show(18+i)%18=i by omega]
   .rw[upd_ne C]
def Bg{w0 w gx gf g5 g7 i t C E D Q f f7 bs x u}(h:Sv w0 w gx gf g5 g7 C E D Q f f7 bs)(J:f7 i=x)(hi:i<18)(j:x.cells[t]? =γ u):w.cell? (aM g7 (i*6+t))=γ u:=by
 have B:t<6:=(μ.1 j).1;subst J;rw[h.b7.cell,Γ,dY B hi];exact j
theorem Vp(gx gf nb cb:Nat)(C E0 A Bv bs)(fN:Nat)(f:eD)(w)(hc:dz w gf)(hg:fU w gx 105 393 (fT C E0))(hn:tY w C A nb cb Bv bs (lv bs))(hf:C 14=.int .i64 (fN:Int))(ZW:fN<=17)(YU:∀i,i<33->nX (C i)=ε)(hA:∀b o,A=γ ⟨b,o,δ⟩->b≠gx)(hr:0<=f.r/\f.r<=1000):
  Calls prog 84 #[aN gx 0,aN gf 0,nU f] w fun e w'=>e=.returned (.tuple #[])/\∃E,GrS w w' gx gf C E (fun e=>e<57\/f.kind≠0/\lv bs fN=ε) (yR bs fN f) 4400:=by
 have U:=aW hn;have Zg:=aW hf;have Zp:=aW ZW;have HC:=aW hc;have HG:=aW hg;have ZG:=aW YU;have Y:=aW hA;have YP:=aW hr;have YJ:Hid (iB (fun k=>k=gx) w):=aW (afm hg (fun k _=>p9 YU k) (fun k hk=>hk));have ZH:Hid (gx<w.heap.size):=aW hg.lt;clear hn hf ZW hc hg YU hA hr;obtain⟨x1,b5⟩:=an1 w 33 #[f.kind,f.line,f.obj,f.num,f.den,f.r];have HX:=aW x1;have YF:=aW b5;clear x1 b5;have YK:fT C E0 14=.int .i64 (fN:Int):=(dU aa).trans Zg.o;have Zj:fT C E0 (15+fN)=.bool (lv bs fN):=(dU Ac7).trans (U.live fN Ac7);have Yw:=aW YK;have Zn:=aW Zj;clear YK Zj;unfold nU;go_enter func84,ntmps84;go_wp2_with fail;generalize aU _ _=w1 at HX YF⊢;generalize YZ:w.heap.size=g5 at YF⊢;have ZI:Hid (w.heap.size<=g5):=aW aa;clear YZ;by_cases hk:f.kind=0
 case' pos=>
  have hd:(f.kind !=0)=ζ:=by simp[hk]
  have kf:=Blk.cell YF.o;have V:Hid (¬(f.kind≠0/\lv bs fN=ε)):=aW (fun h=>h.1 hk);clear hk;go_quiet (fail)
 case' neg=>
  have hd:(f.kind !=0)=ε:=by simp[hk]
  cases hL:lv bs fN
  case' false=>
   have kf:=Blk.cell YF.o;have V:Hid (¬(f.kind≠0/\lv bs fN=ε)):=aW (fun h=>by rw[hL] at h;exact absurd h.2 aj);have av:=(HG.ext HX.o).cell_ (k:=14) aa Yw.o;have Zo:=(HG.ext HX.o).cell_ (k:=15+fN) Ac7 Zn.o;rw[hL] at Zo;have q1:(0:Int)<=fN:=aa;have q2:(fN:Int)<18:=by have:=Zp.o;omega
   go_quiet (fail)
  case' true=>
   have kf:=Blk.cell YF.o;have V:Hid (f.kind≠0/\lv bs fN=ε):=aW ⟨hk,hL⟩;have av:=(HG.ext HX.o).cell_ (k:=14) aa Yw.o;have Zo:=(HG.ext HX.o).cell_ (k:=15+fN) Ac7 Zn.o;rw[hL] at Zo;have q1:(0:Int)<=fN:=aa;have q2:(fN:Int)<18:=by have:=Zp.o;omega
   go_quiet (fail)
 all_goals
  generalize J:w1.drewN nq=wq;have YO:Ext w1 wq:=by rw[<-J];exact(Ext.refl _).drewN _
  replace YF:=YF.aA YO;replace HX:=HX.aC YO;clear YO J kf;go_wp2_with fail;have Zq:=U.mod (ae0 HX.o) YJ.o Y.o (C':=fT C E0) (fun i hi=>dU hi);refine(EQ gx gf 1 nb cb ζ (fT C E0) A Bv bs fN wq (dz.ext HC.o HX.o) (HG.ext HX.o) Zq Yw.o Zp.o (fun h=>absurd h aj) aa).mono ?_;rintro _ w2 ⟨f7,rfl,M,F⟩;clear Zq;have S:∀k,k<18->GV w2 (f7 k).v (bef bs k) 841:=M;have YG:=aW S;replace YF:=YF.aA F;replace HX:=HX.aC F;clear M F S;(iterate 2 (try (first|go_values|go_skip|go_guarded|go_step|go_upon|go_in|go_back|go_simp)));refine gD rfl 100 rfl _ Dz ?_;intro w3 B;refine bG rfl 100 (.tmp 7) (.tmp 31) rfl w2.heap.size 0 (bz 18 f7) rf rf (by rw[B];exact(Blk.new w2 100 _).there AbQ) (uo f7) (dN 18 f7) ?_;intro w4 Ze;refine Qp ?_;have ZA:=afW (wq:=wq) HC.o HG.o ZG.o HX.o YF.o YG.o ZI.o ZH.o B Ze (fun e=>e<54/\e%18<0) (fun e=>vbe bs (e/18) (e%18)) (fun e=>aa);have HS:=aW ZA;clear ZA B Ze YF YG HX;generalize w2.heap.size=g7 at HS⊢;go_wp2_with fail
  go_loopw [32] (fun iv wr=>∃i:Nat,i<=18/\iv=.int .i64 i/\∃E,Sv w wr gx gf g5 g7 C E (fun e=>e<54/\e%18<i) (fun e=>vbe bs (e/18) (e%18)) f f7 bs) (aT 18)
  case atStart=>exact⟨0,aa,rfl,E0,HS.o⟩
  case round=>
   clear HS;rename World=>wr;obtain⟨i,hi,rfl,E,hR⟩:=hrel;have Q:=aW hR;clear hR;by_cases Yu:i<18
   .have hd:decide ((i:Int)<18)=ε:=ae;have q1:(0:Int)<=i:=aa;have q2:(i:Int)<18:=aa;obtain⟨e7,YH⟩:∃e,f7 i=e:=⟨_,rfl⟩;have YL:=aW YH;clear YH;go_wp2_with fail;have Zy:=six (w:=wr) (g:=g7) (a:=i*6) (e:=e7) (fun t u hu=>Bg Q.o YL.o Yu (t:=t) (u:=u) hu);refine tN 9 [(5,.eq (.pointer (γ (aM gx 0))))] ?_;refine Qs ?_;refine En_ ?_;intro Zw Zx;refine Qs ?_;refine bN ?_;intro wE I;have F:=I.ext;have YA:=aW F;clear I F;have S:=Q.v7 i Yu;rw[YL.o] at S;have YG:=aW (S.ext YA.o);clear S Zy;have N:Hid (wE.there gx (141+i*6) 6):=aW (by have h:=(Q.ext YA.o).g.there (e:=18+i) aa;rw[show 33+(18+i)*6=141+i*6 by omega] at h;exact h);refine bG rfl 42 (.tmp 43) (.tmp 39) rfl gx (141+i*6) e7.cells rf rf N.o cO (eP e7) ?_;intro ZO B;refine Qp ?_;replace Q:=aW ((Q.ext YA.o).put (e:=18+i) (q:=bef bs i) (n:=841) aa aa YG.o aa B);clear B N YA YG;go_wp2_with fail;refine tN 8 [(3,.gv (GQ.i 0 0) (64)),(4,.eq (.pointer (γ (aM gx 0))))] ?_;refine Qs ?_;refine Ee (fun R I=>dR gf 0 _ (dz.ext Q.g.f I.1) aa aa) ?_;intro ea af ad;refine En_ ?_;intro Zt Zr;refine Qs ?_;refine bN ?_;intro wE I;have F:=I.ext;have Yv:GV wE ea.v (GQ.i 0 0) (64):=ae5 (I.at_ 3 (e:=(ea.v,af,ad)) rf);have Yx:=aW Yv;clear Yv;have YA:=aW F;clear I F;have N:Hid (wE.there gx (249+i*6) 6):=aW (by have h:=(Q.ext YA.o).g.there (e:=36+i) aa;rw[show 33+(36+i)*6=249+i*6 by omega] at h;exact h);refine bG rfl 42 (.tmp 51) (.tmp 47) rfl gx (249+i*6) ea.cells rf rf N.o cO (eP ea) ?_;intro ZR B;refine Qp ?_;replace Q:=aW ((Q.ext YA.o).put (e:=36+i) (q:=GQ.i 0 0) (n:=64) aa aa Yx.o aa B);clear B N YA Yx;go_wp2_with fail;refine tN 8 [(3,.gv (GQ.i 0 0) (64)),(4,.eq (.pointer (γ (aM gx 0))))] ?_;refine Qs ?_;refine Ee (fun R I=>dR gf 0 _ (dz.ext Q.g.f I.1) aa aa) ?_;intro eb af ad;refine En_ ?_;intro Zt Zr;refine Qs ?_;refine bN ?_;intro wE I;have F:=I.ext;have YI:GV wE eb.v (GQ.i 0 0) (64):=ae5 (I.at_ 3 (e:=(eb.v,af,ad)) rf);have YQ:=aW YI;clear YI;have YA:=aW F;clear I F;have N:Hid (wE.there gx (33+i*6) 6):=aW (by have h:=(Q.ext YA.o).g.there (e:=i) aa;rw[show 33+(i)*6=33+i*6 by omega] at h;exact h);refine bG rfl 42 (.tmp 59) (.tmp 55) rfl gx (33+i*6) eb.cells rf rf N.o cO (eP eb) ?_;intro ZP B;refine Qp ?_;replace Q:=aW ((Q.ext YA.o).put (e:=i) (q:=GQ.i 0 0) (n:=64) aa aa YQ.o aa B);clear B N YA YQ;go_wp2_with fail
    go_roundw
    case rel=>exact⟨i+1,aa,au,_,Q.to (fun e O hd=>Ow Yu O hd)⟩
    case measure=>exact aV
   .obtain rfl:i=18:=aa;have hd:decide ((18:Int)<18)=ζ:=aj;replace Q:=aW (Q.to (D':=fun e=>e<54) (Q':=fun e=>vbe bs (e/18) (e%18)) (fun e _ O=>⟨⟨O,pu _ aa⟩,rfl⟩));go_wp2_with fail;refine(dR gf 0 _ (Q.g.f) aa aa).mono ?_;rintro _ wa ⟨_,rfl,M,F⟩;obtain⟨P,rfl⟩:=M.en;replace Q:=Q.aA F;have H:=aW M;clear M F;go_wp2_with fail;refine(dR gf 0 _ (Q.g.f) aa aa).mono ?_;rintro _ wb ⟨_,rfl,M,F⟩;obtain⟨fb,rfl⟩:=M.en;replace Q:=Q.aA F;replace H:=H.aA F;have W:=aW M;clear M F;go_wp2_with fail;refine(dR gf 0 _ (Q.g.f) aa aa).mono ?_;rintro _ wc ⟨_,rfl,M,F⟩;obtain⟨fc,rfl⟩:=M.en;replace Q:=Q.aA F;replace H:=H.aA F;replace W:=W.aA F;have YX:=aW M;clear M F;(iterate 2 (try (first|go_values|go_skip|go_guarded|go_step|go_upon|go_in|go_back|go_simp)));simp only[En.v,gv];(iterate 9 (try (first|go_values|go_skip|go_guarded|go_step|go_upon|go_in|go_back|go_simp)));have N:Hid (wc.there gx 357 18):=aW (Q.g.b.there aa);refine bG rfl 102 (.tmp 70) (.tmp 68) rfl gx 357 (P.cells++(fb.cells++fc.cells)) rf rf N.o pJ (sV _ _ _) ?_;intro wd B;refine Qp ?_;replace Q:=aW (Q.Yo H.o W.o YX.o aa B);clear B N H W YX
    first
     |
      have Zf:¬(f.kind≠0/\lv bs fN=ε):=V.o;go_wp2_with fail;refine aai (v:=.tuple #[]) (aas rfl _ _ _) rfl ⟨rfl,_,Q.g.to (fun e O hd=>Qa V.o O hd)⟩
     |
      have kc:wd.cell? (aM gf 0)=γ (.int .i64 0):=(Q.g.f.cell 0).trans rfl;(iterate 42 (try (first|go_values|go_skip|go_guarded|go_step|go_upon|go_in|go_back|go_simp)));refine gD rfl 194 rfl _ Pg ?_;intro we B;refine Qp ?_;have hz:=(afT (fN:=fN) Q.o B).to (fun e _ O=>Oc (bs:=bs) (fN:=fN) O);have HZ:=aW hz;clear kc B Q hz;generalize wd.heap.size=g9 at HZ⊢;go_wp2_with fail
      go_loopw [80] (fun iv wr=>∃i:Nat,i<=2/\iv=.int .i64 i/\∃E f9,Sw w wr gx gf g5 g7 g9 C E (fun e=>e<57\/58<=e/\e<58+i) (rC bs fN) f f7 bs fN f9 i) (aT 2)
      case atStart=>exact⟨0,aa,rfl,_,_,HZ.o⟩
      case round=>
       clear HZ;rename World=>wr;obtain⟨i,hi,rfl,E,f9,hR⟩:=hrel;have Q:=aW hR;clear hR;by_cases Yu:i<2
       .have hd:decide ((i:Int)<2)=ε:=ae;have q1:(0:Int)<=i:=aa;have q2:(i:Int)<2:=aa;go_wp2_with fail;refine(EQ gx gf i nb cb ε (fT C E) A Bv bs fN wr Q.s.g.f Q.s.g.b (Q.s.net U.o YJ.o Y.o) ((dU aa).trans Zg.o) Zp.o (fun _=>V.o.2) aa).mono ?_;rintro _ w9 ⟨D,rfl,M,F⟩;have YW:∀k,k<18->GV w9 (D k).v (drp bs fN i k) 841:=M;replace Q:=Q.aA F;have Zl:=aW YW;clear M YW F;(iterate 5 (try (first|go_values|go_skip|go_guarded|go_step|go_upon|go_in|go_back|go_simp)));have N:=aW (Q.WP Yu D);refine bG rfl 100 (.tmp 88) (.tmp 87) rfl g9 (i*108) (bz 18 D) rf rf N.o (uo D) (dN 18 D) ?_;intro wz B;refine Qp ?_;replace Q:=aW (Q.drops Yu Zl.o B);clear B N Zl;go_wp2_with fail;obtain⟨e9,ZB⟩:∃e,D fN=e:=⟨_,rfl⟩;have T:(fun e=>if e/18=i then D (e%18) else f9 e) (i*18+fN)=e9:=by have:=Zp.o;show(if (i*18+fN)/18=i then D ((i*18+fN)%18) else f9 _)=e9;rw[ι aa,show(i*18+fN)%18=fN by omega,ZB]
        have Zm:=aW T;have ZW:=Zp.o;clear T ZB;have q3:(0:Int)<=fN:=aa;have q4:(fN:Int)<18:=aa;have ZF:=aX.cell (Q.s.g.b.cell_ (k:=14) aa ((dU aa).trans Zg.o));have Zy:=six (w:=wz) (g:=g9) (a:=i*108+fN*6) (e:=e9) (fun t u hu=>Q.c9 (j:=i) (k:=fN) Yu aa Zm.o (t:=t) (u:=u) hu);refine tN 13 [(4,.eq (.pointer (γ (aM gx 0)))),(10,.eq (.pointer (γ (aM gx 0))))] ?_;refine Qs ?_;refine En_ ?_;intro Zt Zr;refine Qs ?_;refine En_ ?_;intro az aE;refine Qs ?_;refine bN ?_;intro wE I;have F:=I.ext;have YA:=aW F;clear I F;have YW:=Q.at9 (j:=i) (k:=fN) aa aa Zm.o;have Zl:=aW (YW.ext YA.o);clear YW Zy ZF;have N:Hid (wE.there gx (381+i*6) 6):=aW (by have h:=(Q.ext YA.o).s.g.there (e:=58+i) aa;rw[show 33+(58+i)*6=381+i*6 by omega] at h;exact h);refine bG rfl 42 (.tmp 101) (.tmp 98) rfl gx (381+i*6) e9.cells rf rf N.o cO (eP e9) ?_;intro ZM B;refine Qp ?_;replace Q:=aW ((Q.ext YA.o).put (e:=58+i) (q:=drp bs fN i fN) (n:=841) aa aa Zl.o aa B);clear B N YA Zl;go_wp2_with fail
        go_roundw
        case rel=>exact⟨i+1,aa,au,_,_,Q.to (fun e _ hd=>mid_step Yu hd)⟩
        case measure=>exact aV
       .obtain rfl:i=2:=aa;have hd:decide ((2:Int)<2)=ζ:=aj;obtain⟨e7,YH⟩:∃e,f7 fN=e:=⟨_,rfl⟩;have YL:=aW YH;clear YH;have ZW:=Zp.o;have q3:(0:Int)<=fN:=aa;have q4:(fN:Int)<18:=aa;have av:=Q.s.g.b.cell_ (k:=14) aa ((dU aa).trans Zg.o);have ZK:wr.cell? (aM g7 (fN*6))=γ (.bool e7.s1):=Bg (i:=fN) Q.s YL.o aa (t:=0) rfl;have YN:wr.cell? (aM g7 (fN*6+1))=γ (aO e7.A1 e7.n1 e7.c1):=Bg (i:=fN) Q.s YL.o aa (t:=1) rfl;have YM:wr.cell? (aM g7 (fN*6+2))=γ (.bool e7.s2):=Bg (i:=fN) Q.s YL.o aa (t:=2) rfl;have YR:wr.cell? (aM g7 (fN*6+3))=γ (aO e7.A2 e7.n2 e7.c2):=Bg (i:=fN) Q.s YL.o aa (t:=3) rfl;have YS:wr.cell? (aM g7 (fN*6+4))=γ (.bool e7.s3):=Bg (i:=fN) Q.s YL.o aa (t:=4) rfl;have Zh:wr.cell? (aM g7 (fN*6+5))=γ (aO e7.A3 e7.n3 e7.c3):=Bg (i:=fN) Q.s YL.o aa (t:=5) rfl;have N:Hid (wr.there gx 375 6):=aW (Q.s.g.b.there aa);(iterate 45 (try (first|go_values|go_skip|go_guarded|go_step|go_upon|go_in|go_back|go_simp)));refine bG rfl 42 (.tmp 111) (.tmp 109) rfl gx 375 e7.cells rf rf N.o cO (eP e7) ?_;intro ws B;refine Qp ?_;have S:=Q.s.v7 fN aa;rw[YL.o] at S;replace Q:=aW (Q.put (e:=57) (q:=bef bs fN) (n:=841) aa aa S aa B);clear B N S ZK YN YM YR YS Zh av;have kc:ws.cell? (aM gf 0)=γ (.int .i64 0):=(Q.s.g.f.cell 0).trans rfl;replace Q:=aW (Q.to (D':=fun e=>e<60) (Q':=rC bs fN) (fun e O _=>Ui O));have kf:=Blk.cell Q.s.b5;go_wp2_with fail;clear kf kc;refine(Q.short U.ok U.l23 V.o.2 YP.o).mono ?_;rintro _ wt ⟨P,rfl,M,F⟩;replace Q:=Q.aA F;have HV:=aW M;clear M F;(iterate 8 (try (first|go_values|go_skip|go_guarded|go_step|go_upon|go_in|go_back|go_simp)));have N:Hid (wt.there gx 357 18):=aW (Q.s.g.b.there aa);refine bG rfl 102 (.tmp 123) (.tmp 121) rfl gx 357 (bz 3 P) rf rf N.o pJ (dN 3 P) ?_;intro wu B;refine Qp ?_;replace Q:=aW (Q.faults HV.o B);clear B N HV;have Zi:wu.rangeAt gx 15 (jM (lv bs)):=Q.s.g.b.rangeAt (by simp[jM]) (fun j v hv=>vk (Q.s.net U.o YJ.o Y.o) hv);have YE:=aW Zi;clear Zi;(go_wp2_with (refine σ rfl 99 _ rfl gx 15 rf (jM (lv bs)) _ YE.o abG rfl vK ?_));clear YE;replace Q:=aW (Q.to (D':=fun e=>e<60) (Q':=qE bs fN f 0 0) (fun e _ O=>⟨O,XL⟩));go_loopw [128] (fun iv wr=>∃i:Nat,i<=18/\iv=.int .i64 i/\∃E,Sw w wr gx gf g5 g7 g9 C E (fun e=>e<60) (qE bs fN f i 0) f f7 bs fN f9 2) (aT 18)
        case atStart=>exact⟨0,aa,rfl,_,Q.o⟩
        case round=>
         clear Q;rename World=>wr;obtain⟨i,hi,rfl,E,hR⟩:=hrel;have Q:=aW hR;clear hR;by_cases Yu:i<18
         .have hd:decide ((i:Int)<18)=ε:=ae;have YV:=RN (L:=lv bs) Yu wr;have q1:(0:Int)<=i:=aa;have q2:(i:Int)<18:=aa;cases hL:lv bs i with
          |false=>
           rw[hL] at YV;have HL:=aW hL;go_wp2_with fail
           go_loopw [132] (fun iv wq=>∃j:Nat,j<=3/\iv=.int .i64 j/\∃E,Sw w wq gx gf g5 g7 g9 C E (fun e=>e<60) (qE bs fN f i j) f f7 bs fN f9 2) (aT 3)
           case atStart=>exact⟨0,aa,rfl,_,Q.o⟩
           case round=>
            clear Q YV;rename World=>wq;obtain⟨j,hj,rfl,E2,hR⟩:=hrel;have Q:=aW hR;clear hR;by_cases Yz:j<3
            .have hd:decide ((j:Int)<3)=ε:=ae;have p1:(0:Int)<=j:=aa;have p2:(j:Int)<3:=aa
             go_wp2_with fail
             go_roundw
             case rel=>exact⟨j+1,aa,au,_,Q.to (fun e O _=>⟨O,UZ HL.o O⟩)⟩
             case measure=>exact aV
            .obtain rfl:j=3:=aa;have hd:decide ((3:Int)<3)=ζ:=aj
             go_wp2_with fail
             go_roundw
             case rel=>exact⟨i+1,aa,au,_,Q.to (fun e O _=>⟨O,Ir O⟩)⟩
             case measure=>exact aV
          |true=>
           rw[hL] at YV;have HL:=aW hL;go_wp2_with fail
           go_loopw [132] (fun iv wq=>∃j:Nat,j<=3/\iv=.int .i64 j/\∃E,Sw w wq gx gf g5 g7 g9 C E (fun e=>e<60) (qE bs fN f i j) f f7 bs fN f9 2) (aT 3)
           case atStart=>exact⟨0,aa,rfl,_,Q.o⟩
           case round=>
            clear Q YV;rename World=>wq;obtain⟨j,hj,rfl,E2,hR⟩:=hrel;have Q:=aW hR;clear hR;by_cases Yz:j<3
            .have hd:decide ((j:Int)<3)=ε:=ae;have p1:(0:Int)<=j:=aa;have p2:(j:Int)<3:=aa;go_wp2_with fail;obtain⟨m,Zk⟩:∃m:Nat,min j 1=m:=⟨_,rfl⟩;have Za:(min (j:Int) 1)=(m:Int):=aa;have YT:m<2:=aa;have p3:(0:Int)<=m:=aa;have p4:(m:Int)<2:=aa;obtain⟨ea,ay⟩:∃e,E2 (54+j)=e:=⟨_,rfl⟩;obtain⟨eb,ax⟩:∃e,f9 (m*18+i)=e:=⟨_,rfl⟩;have ar:=aW ay;have aw:=aW ax;have ZN:=aW Zk;clear ay ax Zk;have ZQ:=six (w:=wq) (g:=gx) (a:=357+j*6) (e:=ea) (fun t u hu=>Q.gx_ (e:=54+j) (a:=357+j*6) aa aa ar.o (t:=t) (u:=u) hu);have ZU:=six (w:=wq) (g:=g9) (a:=m*108+i*6) (e:=eb) (fun t u hu=>Q.c9 (j:=m) (k:=i) YT aa aw.o (t:=t) (u:=u) hu);have ZJ:Hid (GV wq ea.v (fcu bs fN f.kind f.r j) 2600):=aW (by have h:=Q.s.g.v (54+j) aa aa;rw[ar.o] at h;have e1:qE bs fN f i j (54+j)=fcu bs fN f.kind f.r j:=(by unfold qE Kc;rw[θ aa,θ aa,ι aa,show 54+j-54=j by omega]);rw[e1] at h;exact h.to (RQ U.ok U.l23 V.o.2 f.kind YP.o.1 YP.o.2 j));have ZC:=aW (Q.at9 (j:=m) (k:=i) aa aa aw.o);refine tN 15 [(3,.eq (.pointer (γ (aM gx 0)))),(8,.eq (.int .i64 (m:Int))),(13,.gv (fcu bs fN f.kind f.r j*drp bs fN m i) (3442)),(14,.box 42 aQ3)] ?_;refine Qs ?_;refine En_ ?_;intro af ad;refine Qs ?_;refine dL rf rf rf ?_ ?_
             .exact AcG
             intro v_ aI aP YD;obtain⟨R,YC⟩:=YD;obtain rfl:v_=_:=YC.get;clear YC R;refine Qp ?_;refine Qs ?_;refine Ee (fun R I=>(vo gf ea.v eb.v (fcu bs fN f.kind f.r j) (drp bs fN m i) 2600 841 _ (dz.ext Q.s.g.f I.1) (ZJ.ext I.1) (ZC.ext I.1) aa)) ?_;intro em ao ap;refine Eb ?_;intro YY aq ai;refine bN ?_;intro wE I;have F:=I.ext;have Zc:=I.hV 13;have ZL:=I.hB 14;have ac:=aW (I.low 14 _ rf);clear ai;have YA:=aW F;clear I F;have HM:=aW Zc.o;have N:=aW (ZL.there (o:=0) (n:=6) ag);refine bG rfl 42 (.tmp 14) (.tmp 149) rfl YY 0 em.cells rf rf N.o cO (eP em) ?_;intro wf B;refine Qp ?_;obtain⟨F,Yy,M,-⟩:=ni em YA.o ac.o ZL.o B;have am:=aW Yy;replace HM:=aW (M _ _ _ HM.o);have YB:=aW (Q.ext F);clear B N F Yy M YA ZL ac Zc ZJ ZC ar aw ZQ ZU;obtain⟨eg,ZE⟩:∃e,E2 (j*18+i)=e:=⟨_,rfl⟩;have Zz:=aW ZE;clear ZE;go_wp2_with fail;have aG:=six (w:=wf) (g:=gx) (a:=33+j*108+i*6) (e:=eg) (fun t u hu=>YB.gx_ (e:=j*18+i) (a:=33+j*108+i*6) aa aa Zz.o (t:=t) (u:=u) hu);have Zv:=aX.blk am.o;have Z:Hid (GV wf eg.v (vbe bs j i) 841):=aW (by have h:=YB.s.g.v (j*18+i) aa aa;rw[Zz.o] at h;have e1:qE bs fN f i j (j*18+i)=vbe bs j i:=(by unfold qE;rw[ι aa,θ aa,show(j*18+i)/18=j by omega,show(j*18+i)%18=i by omega]);rw[e1] at h;exact h.to (Wo U.ok U.l23 j i));refine tN 18 [(7,.eq (.pointer (γ (aM gx 0)))),(13,.gv (vbe bs j i-fcu bs fN f.kind f.r j*drp bs fN m i) (4348)),(14,.eq (.pointer (γ (aM gx 0))))] ?_;refine Qs ?_;refine En_ ?_;intro a1 a0;refine Qs ?_;refine Ee (fun R I=>(uX gf eg.v em.v (vbe bs j i) (fcu bs fN f.kind f.r j*drp bs fN m i) 841 3442 _ (dz.ext YB.s.g.f I.1) (Z.ext I.1) (HM.ext I.1) aa)) ?_;intro G ao ap;refine En_ ?_;intro aB aq;refine Qs ?_;refine bN ?_;intro wE I;have F:=I.ext;have Zd:=I.hV 13;have YA:=aW F;clear I F;have N:Hid (wE.there gx (33+j*108+i*6) 6):=aW (by have h:=(YB.ext YA.o).s.g.there (e:=j*18+i) aa;rw[show 33+(j*18+i)*6=33+j*108+i*6 by omega] at h;exact h);refine bG rfl 42 (.tmp 167) (.tmp 163) rfl gx (33+j*108+i*6) G.cells rf rf N.o cO (eP G) ?_;intro wh B;refine Qp ?_;have K:=aW ((YB.ext YA.o).put (e:=j*18+i) (q:=vbe bs j i-fcu bs fN f.kind f.r j*drp bs fN m i) (n:=4348) aa aa Zd.o aa B);clear B N YA Zd Z HM Zz Zv am Q YB aG;go_wp2_with fail
             go_roundw
             case rel=>exact⟨j+1,aa,au,_,K.to (fun e O _=>Uo (m:=m) ZN.o Yz Yu O)⟩
             case measure=>exact aV
            .obtain rfl:j=3:=aa;have hd:decide ((3:Int)<3)=ζ:=aj
             go_wp2_with fail
             go_roundw
             case rel=>exact⟨i+1,aa,au,_,Q.to (fun e O _=>⟨O,Ir O⟩)⟩
             case measure=>exact aV
         .obtain rfl:i=18:=aa;have hd:decide ((18:Int)<18)=ζ:=aj;go_wp2_with fail;refine aaY (aas rfl _ _ _) rfl ⟨rfl,_,Q.s.g.to (fun e O _=>⟨O,TK V.o O⟩)⟩
section
variable {w W W1 W2:World} {gx gf:Nat} {C:Nat->Value} {Bv:Nat->BrV} {s:StD} {p:dM} {f:eD}
def Dw.net(h:Dw w W gx gf C Bv s p f)(D:jC s)(B:mR s.buses.length s.lines.length f):∃A I,tY W C A (bU s p f).length I Bv (bU s p f) (fun _=>ζ)/\∀b o,A=γ ⟨b,o,δ⟩->b≠gx:=by
 obtain⟨A,c,H,F,J⟩:=h.r.own.arr;have j:=r9 (p:=p) D B;have lx:=h.r.lx;refine⟨A,c,⟨H,F,rfl,fun i hi=>⟨(h.r.br i hi).pa,(h.r.br i hi).pb⟩,fun i hi=>(h.r.br i hi).z0,fun i hi=>(h.r.br i hi).z1,fun i hi=>(h.r.br i hi).e,fun k G=>h.liv k G,j.2,j.1⟩,fun b o e=> ?_⟩;have:=J b o e;omega
theorem Xo(n k)(hn:n<3)(j:k<18):yR (bU s p f) (eO s p f) f (n*18+k)=kE (bU s p f) (eO s p f) f n k:=by
 unfold yR kE;rw[ι (by omega:n*18+k<54),ι (by omega:n*18+k<54),show(n*18+k)/18=n by omega,show(n*18+k)%18=k by omega]
theorem XF(n)(hn:n<3):yR (bU s p f) (eO s p f) f (54+n)=xE (bU s p f) (eO s p f) f n:=by
 unfold yR xE;rw[θ (by omega:¬54+n<54),ι (by omega:54+n<57),θ (by omega:¬54+n<54),show 54+n-54=n by omega]
def oN.old{W W' X Y v}{o:Option BrD}(h:oN W X v o)(m:Mod (fun k=>k=Y) W W')(j:iB (fun k=>k=Y) W)(Z:∀g k,v=.pointer (γ (aM g k))->Y<g):oN W' X v o:=by
 cases o with
 |none=>exact h
 |some b=>
  obtain⟨g,k,bv,B,D,C,F,H,K,G,I,L⟩:=h;have:=Z g k B;exact⟨g,k,bv,B,D,ο C m.size,fun t u J=>xU m C aa (F t u J),H,K,G.fQ m j,I.fQ m j,L.fQ m j⟩
def oO.old{W W'}{X Y B:Nat}{C E}{s:StD}{p f}(h:oO W X C E s p f)(m:Mod (fun k=>k=Y) W W')(D:iB (fun k=>k=Y) W)(Z:∀(gB:Nat) (wv:Nat->Value),C 13=.slice (γ (aM gB 0)) s.bays.length s.bays.length->Arr W (γ ⟨gB,0,δ⟩) s.bays.length 1 (fun i=>[wv i])->Y<gB/\∀i,i<s.bays.length->∀g k,wv i=.pointer (γ (aM g k))->Y<g)(H:∃gB,C 13=.slice (γ (aM gB 0)) s.bays.length s.bays.length):oO W' X C E s p f:=by
 refine⟨fun n k hn I=>(h.v n k hn I).fQ m D,fun n hn=>(h.i n hn).fQ m D,fun G F=> ?_,h.live,h.ends,h.faulty,h.c0,?_⟩
 .obtain⟨a,b,c⟩:=h.seen G F;exact⟨a.fQ m D,b.fQ m D,c.fQ m D⟩
 .obtain⟨K,bc,wv,G,F,J⟩:=h.bays;obtain⟨gB,j⟩:=H;have e:=G.symm.trans j;injection e with e1 L M;subst e1;obtain⟨q1,q2⟩:=Z gB wv j F;exact⟨_,bc,wv,G,F.mod m (fun b o e hb=>by injection e with e;injection e with e _ _;have hb:b=Y:=hb;omega),fun i hi=>(J i hi).old m D (q2 i hi)⟩
def Dw.Ma(h:Dw w W gx gf C Bv s p f)(M:jC s)(F:Mod (fun k=>k=gx) W W1){E}(hs:GrS W1 W2 gx gf (kz C (lv (bU s p f))) E (fun e=>e<57\/f.kind≠0/\lv (bU s p f) (eO s p f)=ε) (yR (bU s p f) (eO s p f) f) 4400):oO W2 gx (kz C (lv (bU s p f))) E s p f:=by
 have H:Mod (fun k=>k=gx) W W2:=F.trans hs.m;have K:=h.r.far;refine⟨fun n k hn D=> ?_,fun n hn=> ?_,fun j B=>⟨?_,?_,?_⟩,fun k D=>nZ D,fun l e Z O=> ?_,?_,?_,?_⟩
 .have:=hs.v (n*18+k) aa (.inl aa);rwa[Xo n k hn D] at this
 .have:=hs.v (54+n) aa (.inl aa);rwa[XF n hn] at this
 .have:=hs.v 57 aa (.inr ⟨j,B⟩);exact Abg
 .have:=hs.v 58 aa (.inr ⟨j,B⟩);exact Abg
 .have:=hs.v 59 aa (.inr ⟨j,B⟩);exact Abg
 .rw[mD aa];exact h.ends l e Z O
 .rw[mD aa];exact h.c14
 .obtain⟨A,c,j,_⟩:=h.r.own.arr;exact⟨A,_,c,by rw[mD aa];exact j⟩
 .obtain⟨gB,wv,j,B,L,J⟩:=h.bays;have lx:=h.r.lx;have hb:fU W2 gB 165 s.bays.length wv:=L.mod H aa;refine⟨γ ⟨gB,0,δ⟩,s.bays.length,wv,by rw[mD aa];exact j,fun hn=>⟨gB,0,rfl,hb.lt,fun i hi t u G=> ?_⟩,fun i hi=>(J i hi).1.mod H K⟩;have I:t=0:=by have:=(μ.1 G).1;simp at this;omega
  subst I;have e1:wv i=u:=by simpa using G
  rw[show 0+i*1+0=i by omega];exact hb.cell_ hi e1
end
theorem Lu{s p}(h:jG s p=0):p.closed.length=s.bays.length/\p.links.length=s.bays.length/\∀i,i<s.bays.length->(p.links.getD i []).length=(s.bays.getD i η).links.length:=by
 unfold jG at h;split at h
 .rename_i B
  split at h
  .rename_i j
   rw[q8] at j;exact⟨B.1,B.2,fun i hi=>by have:=j i (aau.2 hi);simpa using this⟩
  .exact absurd h aj
 .exact absurd h aj
theorem UT{s f}(h:chk s=0)(j:fD s.buses.length s.lines.length f=0):xL s f=0:=by
 unfold xL;rw[h,j];rfl
theorem Oq{A0 n0 c0 A1 n1 c1 A2 n2 c2 A3 n3 c3 LH s PA pn pc PB V qc K p}(f w)(hs:lI w A0 n0 c0 A1 n1 c1 A2 n2 c2 A3 n3 c3 LH s)(hp:iR w PA pn PB V K p)(hc:chk s=0)(ZY:jG s p=0)(hf:fD s.buses.length s.lines.length f=0):
  Calls prog 42 #[stV s.name A0 n0 c0 A1 n1 c1 A2 n2 c2 A3 n3 c3,lK PA pn pc PB V qc,nU f] w fun r w'=>∃C E gx,r=.returned (.tuple #[.agg (gl C E).toArray,aJ])/\oO w' gx C E s (resolve 0 p) f/\Ext w w':=by
 have YG:=vZ hc;have ZF:=afz hf;have YV:=UT hc hf;have Yz:=aW hs;have ZL:=aW hp;have YY:=aW hc;have ac:=aW ZY;have Z7:=aW hf;have YM:=aW YG;have ZR:=aW ZF;have Zg:=aW YV;clear hs hp hc ZY hf YG ZF YV;unfold stV lK nU;go_enter func42,ntmps42;(go_wp2_with (refine bF rfl 105 rfl _ zt (fun w_ G=>Hid.o ?_)));refine Qz ?_;replace G:=Hid.o G;have HX:Hid (Ext w w_):=aW Acp;have Yy:Hid (Blk w_ w.heap.size 27 #[s.name,aO A0 n0 c0,aO A1 n1 c1,aO A2 n2 c2,aO A3 n3 c3]):=aW AcX;have YI:Hid (Blk w_ (w.heap.size+1) 31 #[aO PA pn pc,aO PB V qc]):=aW Adr;have YF:Hid (Blk w_ (w.heap.size+2) 33 #[f.kind,f.line,f.obj,f.num,f.den,f.r]):=aW (by rw[G];exact(aeV _ _ ag).alloc _);have S:Hid (Blk w_ (w.heap.size+3) 105 (gl zC fun _=>zEn).toArray):=aW (by rw[G];exact aeV _ _ ag);clear G;(try simp only[eU]);have Zf:Hid (w.heap.size<=w.heap.size+3):=aW aa;generalize w.heap.size+3=g6 at S Zf⊢;generalize w.heap.size+2=g5 at YF⊢;generalize w.heap.size+1=g4 at YI⊢;generalize L:w.heap.size=g3 at Yy⊢;clear L;(go_wp2_with (refine bF rfl 105 rfl _ zt (fun YQ G=>Hid.o ?_)));refine Qz ?_;replace G:=Hid.o G;have F:Ext w_ YQ:=by rw[G];exact Ext.new _ _
 have YK:Hid (Blk YQ w_.heap.size 105 (gl zC fun _=>zEn).toArray):=aW (by rw[G];exact Blk.new _ _ _);clear G;have aq:Hid (w_.heap.size<=w_.heap.size):=aW (κ _);have Zk:=aW (Yz.ext HX.o);generalize Zq:w_.heap.size=g8 at YK⊢;have YO:=aW Zq;clear Zq aq;have Zx:=aW F;have H:=aW (HX.trans F);replace Yy:=Yy.aA F;replace YI:=YI.aA F;replace YF:=YF.aA F;have YC:=S;replace S:=S.aA F;clear F;have k3:=Yy.cell;have k5:=YF.cell;go_wp2_with fail;clear k3 k5;refine(Ji _ (Yz.ext H.o) f).mono ?_;rintro _ w2 ⟨rfl,F⟩;rw[Zg.o];replace Yy:=Yy.aA F;replace YI:=YI.aA F;replace YF:=YF.aA F;replace S:=S.aA F;replace YK:=YK.aA F;replace Zx:=Zx.aC F;replace H:=H.aC F;clear F;have k3:=Yy.cell;have k4:=YI.cell;go_wp2_with fail;clear k3 k4;refine(Ae _ _ (Yz.ext H.o) (ZL.ext H.o)).mono ?_;rintro _ w3 ⟨rfl,F⟩;rw[ac.o];replace Yy:=Yy.aA F;replace YI:=YI.aA F;replace YF:=YF.aA F;replace S:=S.aA F;replace YK:=YK.aA F;replace Zx:=Zx.aC F;replace H:=H.aC F;clear F;go_wp2_with fail;have F:Ext w3 (aL w3 #[aJ] 109):=Ext.new _ _;have HC:Hid (dz (aL w3 #[aJ] 109) w3.heap.size):=aW (Blk.new _ _ _);replace Yy:=Yy.aA F;replace YI:=YI.aA F;replace YF:=YF.aA F;replace S:=S.aA F;replace YK:=YK.aA F;replace Zx:=Zx.aC F;replace H:=H.aC F;clear F;generalize aU _ _=w4 at HC Yy YI YF S YK Zx H⊢;generalize w3.heap.size=ZZ at HC⊢;have Zz:=Lu ac.o;have am:pn<=16:=by have:=ZL.lc;have:=YM.nq;omega
 have Zn:V<=16:=by have:=ZL.ll;have:=YM.nq;omega
 have O:∀i,i<V->(K i).n<=1000:=fun i hi=>by have h1:=ZL.lens i hi;have h2:=Zz.2.2 i (by have:=ZL.ll;omega);have h3:=(YM.link (i:=i) (by have:=ZL.ll;omega)).1.2;omega
 have Zl:=aW O;have ap:=aW am;have YB:=aW Zn;clear Zz am Zn O;have Zo:=aX.blk Yy.o;have Zw:=aX.blk YI.o;have Zv:=aX.blk YF.o;refine jE 4 (fun w'=>∃x:aX w4,w'=x.val) [(ε,0),(ε,1),(ε,3),(ζ,2)] ah ah ⟨⟨_,(Ext.refl w4).drew⟩,rfl⟩ ?_;refine bD [0,1,3] [(ζ,2)] _ ah ?_;refine Gq ?_;clear Zo Zw Zv;have P:Ext w4 w4.drew:=(Ext.refl _).drew;refine bC 2 [] ah ?_;intro K I;simp only[bJ];go_wp2_with fail;refine(DY _ (ZL.ext (H.trans P)) (by have:=ap.o;omega) (by have:=YB.o;omega) Zl.o).mono ?_;rintro _ w5 ⟨YP,YZ,YT,Ze,R,rfl,W,YU,YW,F⟩;have Zp:=aW W;have YR:w4.heap.size<=w4.drew.heap.size:=κ _;have Zj:=aW YW;clear YW W YU;replace P:=P.trans F;clear F;go_wp2;refine I _ _ ⟨⟨_,P⟩,rfl⟩ ?_;clear I;simp only[dh,ξ,τ];have YJ:g8<w4.heap.size:=YK.lt;have Zc:=aW YJ;have af:=YC.lt;have YL:g6<g8:=by have:=YO.o;omega
 have j:=aW YL;clear YJ af YL;replace Yy:=Yy.aA P;replace YI:=YI.aA P;replace YF:=YF.aA P;replace S:=S.aA P;replace YK:=YK.aA P;replace Zx:=Zx.aC P;replace H:=H.aC P;replace HC:=aW (dz.ext HC.o P);clear P;go_wp2_with fail;have ai:w_.heap.size<=g8:=by have:=YO.o;omega
 refine(U4 f g8 ZZ w4.drew.heap.size w_ w5 Zx.o ai Zk.o Zp.o Zj.o Zc.o YY.o (SH ac.o) Z7.o YK.o HC.o).mono ?_;rintro _ w6 ⟨rfl,C1,Bv,hG⟩;have HG:=aW hG;clear hG ai YR;go_wp2_with fail;have Q:=YF.mod HG.r.m (Blk.fw YF.o YK.o aj);have YX:=S.mod HG.r.m (show ¬g6=g8 by have:=j.o;omega);have Z:=aW Q;have J:=aW YX;clear Q YX Yy YI YF S YK HC;obtain⟨A,cb,Yu,hA⟩:=HG.net YM.o ZR.o;have Yv:=aW Yu;have Y:=aW hA;clear Yu hA;refine(QZ g8 _ cb C1 (fun _=>zEn) A Bv (bU s (resolve 0 p) f) _ HG.r.g Yv.o HG.r.n32 Y.o).mono ?_;rintro _ w7 ⟨rfl,ZA,Zi⟩;have ao:=aW ZA;have Zh:=aW Zi;have Q:=Z.mod Zi (Blk.fw Z.o HG.r.g aj);have YX:=J.mod Zi (show ¬g6=g8 by have:=j.o;omega);have YD:dz w7 ZZ:=Blk.mod HG.r.c Zi HG.r.ne;have M:=Yv.mod (C':=C1) Zi HG.r.far Y.o (fun i hi=>rfl);have Zd:tY w7 (kz C1 (lv (bU s (resolve 0 p) f))) A _ cb Bv (bU s (resolve 0 p) f) (lv (bU s (resolve 0 p) f)):=⟨(mD aa).trans M.br,M.arr,M.len,M.ab,M.z0,M.z1,M.e,fun k hk=>nZ hk,M.ok,M.l23⟩;have YF:=aW Q;have S:=aW YX;have Zr:=aW YD;have Zt:=aW Zd;clear ZA Zi Q YX YD M Zd Z J;have k5:=YF.cell;go_wp2_with fail;clear k5;refine(Vp g8 ZZ _ cb (kz C1 (lv (bU s (resolve 0 p) f))) _ A Bv (bU s (resolve 0 p) f) (eO s (resolve 0 p) f) f _ Zr.o ao.o Zt.o ((mD aa).trans HG.c14) (Hw YM.o ZR.o (resolve 0 p)).1 (Kb HG.r.n32) Y.o ZR.r).mono ?_;rintro _ w8 ⟨rfl,E,Za⟩;have HS:=aW Za;clear Za;have YX:=S.mod HS.m (show ¬g6=g8 by have:=j.o;omega);have J:=aW YX;clear YX;have YN:=aW (HG.Ma YM.o Zh.o HS.o);have kc:w8.cell? (aM ZZ 0)=γ (.int .i64 0):=HS.f.cell 0;have YE:Hid (w8.rangeAt g8 0 (gl (kz C1 (lv (bU s (resolve 0 p) f))) E)):=aW (Blk.rng (show Blk w8 g8 105 (gl (kz C1 (lv (bU s (resolve 0 p) f))) E).toArray from HS.b));(go_wp2_with (refine σ rfl 105 _ rfl g8 (0) rf (gl (kz C1 (lv (bU s (resolve 0 p) f))) E) _ YE.o underlying105 rfl (uU _ _) (Hid.o ?_)));refine Qz ?_;have N:=aW (JA (C':=kz C1 (lv (bU s (resolve 0 p) f))) (E':=E) J.o);(go_wp2_with (refine aY rfl 105 (.tmp 6) (.tmp 40) rfl g6 (0) (gl (kz C1 (lv (bU s (resolve 0 p) f))) E) rf rf N.o (uU _ _) (Qm YN.one) (fun w9 G=>Hid.o ?_)));refine Qz ?_;replace G:=Hid.o G;have Yw:Mod (fun k=>k=g6) w8 w9:=by rw[G];exact Mod.puts _ _ _ _ rfl
 have ad:Blk w9 g6 105 (gl (kz C1 (lv (bU s (resolve 0 p) f))) E).toArray:=by have:=dm 0 (gl (kz C1 (lv (bU s (resolve 0 p) f))) E) J.o;rw[iF _ _ (by rw[xk,xk])] at this;rw[G];exact this
 have Yx:iB (fun k=>k=g6) w8:=afm (Rk J.o) (fun k _=>p9 (fun i hi=>by unfold zC;split<;>(try split)<;>(try split)<;>(try split)<;>rfl) k) (fun k hk=>hk);have YS:oO w9 g8 (kz C1 (lv (bU s (resolve 0 p) f))) E s (resolve 0 p) f:=by
  obtain⟨gB,wv,h1,h2,h3,h4⟩:=HG.bays;have YR:g6<w5.heap.size:=by have:=j.o;have:=Zc.o;have:=HG.r.lx;omega
  have Zy:=Zh.trans HS.m;have lx:=HG.r.lx;have YH:=h3.mod Zy (show ¬gB=g8 by omega);refine YN.old (B:=0) Yw Yx (fun ZB ar e1 e2=> ?_) ⟨gB,(mD aa).trans h1⟩;have e3:=((mD aa).trans h1).symm.trans e1;injection e3 with e3;injection e3 with e3;injection e3 with e3 _ _;subst e3;refine⟨aa,fun i hi g k e=> ?_⟩;obtain⟨b',U,q1,q2,q3⟩:=e2 aa;injection q1 with q1;injection q1 with q1 q4 _;subst q1;subst q4;have q5:=q3 i hi 0 _ rfl;have q6:=YH.cell hi;rw[show 0+i*1+0=i by omega,q6] at q5;injection q5 with q5;have:=(h4 i hi).2 g k (by rw[q5];exact e);omega
 have af:=Zf.o;have T:Ext w w9:=fG (fG (fG (fG H.o HG.r.m (fun k hk=>by have hk:k=g8:=hk;have:=j.o;omega)) Zh.o (fun k hk=>by have hk:k=g8:=hk;have:=j.o;omega)) HS.m (fun k hk=>by have hk:k=g8:=hk;have:=j.o;omega)) Yw (fun k hk=>by have hk:k=g6:=hk;omega);have YA:=aW YS;have Zm:=aW T;have D:=aW ad;clear YS T ad Yw Yx G kc;go_wp2_with fail;exact G6 rfl rfl rf D.o underlying105 rfl (uU _ _) ⟨_,_,g8,rfl,YA.o,Zm.o⟩
end Go.Proofs.YtbfnfkppkmpieaaGreat
