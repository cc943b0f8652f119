import Derived.Test.YtbfnfkppkmpieaaGreatQda
set_option linter.unusedVariables false
set_option linter.unusedSimpArgs false
set_option maxHeartbeats 25600000
set_option maxRecDepth 200000
set_option linter.defProp false
namespace Go.Proofs.YtbfnfkppkmpieaaGreat
open Go.RowKit
open Go.Proofs.Tryz
open Option renaming some->γ,none->δ
open Bool renaming true->ε,false->ζ
open Inhabited renaming default->η
def Ph{cs:Array Value}{i v}(h:cs[i]? =γ v):cs.setIfInBounds i v=cs:=by
 apply Array.ext';simp only[Array.toList_setIfInBounds];have l:cs.toList[i]? =γ v:=by simpa using h
 obtain⟨j,e⟩:=μ.1 l;rw[<-e];exact List.set_getElem_self j
def Ext.stay{w0 w g i t cs v}(l:Ext w0 w)(hb:Blk w g t cs)(h:cs[i]? =γ v):Ext w0 (w.setCell ⟨g,i,δ⟩ v):=by
 refine⟨l.os,l.tape,l.output,by have:=l.size;simpa[World.setCell] using this,fun k B=> ?_⟩;by_cases j:k=g
 .subst j;have C:=hb.qg i v;rw[Ph h] at C;have D:=l.block k B;rw[<-D];exact(show(w.setCell ⟨k,i,δ⟩ v).heap[k]? =γ (.cells cs t (0,0)) from C).trans (show w.heap[k]? =γ (.cells cs t (0,0)) from hb).symm
 .rw[ab1 w ⟨g,i,δ⟩ v k j];exact l.block k B
def RI.opn{w v z}(h:RI w v z):∃s A n c,v=iv s A n c/\RI w (iv s A n c) z:=by
 obtain⟨A,n,c,rfl,G⟩:=h;exact⟨_,A,n,c,rfl,A,n,c,rfl,G⟩
def qJ{w w' g B A0 n0 c0}(G:Ext w w')(l:w.heap.size<=g)(hb:Blk w' g 40 #[.bool B,.slice A0 n0 c0])(b A n c):
  Ext w ((w'.setCell ⟨g,0,δ⟩ (.bool b)).setCell ⟨g,1,δ⟩ (.slice A n c))/\Blk ((w'.setCell ⟨g,0,δ⟩ (.bool b)).setCell ⟨g,1,δ⟩ (.slice A n c)) g 40 #[.bool b,.slice A n c]/\∀v z,RI w' v z->RI ((w'.setCell ⟨g,0,δ⟩ (.bool b)).setCell ⟨g,1,δ⟩ (.slice A n c)) v z:=by
 obtain⟨C,H,D⟩:=ou G l hb b A n c;exact⟨C,H,fun v z ⟨A',n',c',F,j⟩=>⟨A',n',c',F,D _ _ _ _ j⟩⟩
abbrev gv (s1:Bool) (A1:Option Addr) (n1 c1:Nat) (s2:Bool) (A2:Option Addr) (n2 c2:Nat) (s3:Bool) (A3:Option Addr) (n3 c3:Nat):Value:=
 .agg #[.bool s1,.slice A1 n1 c1,.bool s2,.slice A2 n2 c2,.bool s3,.slice A3 n3 c3]
def RG (w:World) (v:Value) (a b d:Int):Prop:=
 ∃s1 A1 n1 c1 s2 A2 n2 c2 s3 A3 n3 c3,v=gv s1 A1 n1 c1 s2 A2 n2 c2 s3 A3 n3 c3/\RI w (iv s1 A1 n1 c1) a/\RI w (iv s2 A2 n2 c2) b/\RI w (iv s3 A3 n3 c3) d
def RG.ext{w w' v a b d}(h:RG w v a b d)(x:Ext w w'):RG w' v a b d:=by
 obtain⟨s1,A1,n1,c1,s2,A2,n2,c2,s3,A3,n3,c3,e,l,j,B⟩:=h;exact⟨s1,A1,n1,c1,s2,A2,n2,c2,s3,A3,n3,c3,e,l.ext x,j.ext x,B.ext x⟩
def Calm (w:World) (g:Nat):Prop:=Blk w g 197 #[.int .i64 0]
def Calm.ext{w w' g}(h:Calm w g)(x:Ext w w'):Calm w' g:=Blk.ext h x
def uw(g v z w)(hc:Calm w g)(F:RI w v z):
  CV 176 #[.pointer (γ ⟨g,0,δ⟩),v,.int .i64 0] w fun v w'=>RI w' v z:=by
 obtain⟨s,A,n,c,rfl,F⟩:=F.opn;have G:=Blk.cell hc;have l:=Blk.frozen hc;have j:Ext w (w.setCell ⟨g,0,δ⟩ (.int .i64 0)):=(Ext.refl w).stay hc rfl;have I:=hc.ext j;have C:=Blk.cell I;have D:g<w.heap.size:=Blk.lt hc;have B:=F.ext j;go_enter func176,ntmps176;(go_wp2_with fail);exact jf rfl rfl rfl (aeE _ _ Aa9) ⟨_,rfl,B.ext ((Ext.new _ _).alloc _),j.trans ((Ext.new _ _).alloc _)⟩
def wW(v z w)(F:RI w v z):
  CE 144 #[v] w (.bool (decide (z=1))):=by
 obtain⟨A,n,c,rfl,L⟩:=F;have V:=L.len;generalize hs:decide (z<0)=s at*
 have c0:=(Blk.new w 40 #[.bool s,.slice A n c]).cell;cases s
 .by_cases N:n=1
  .subst N;obtain⟨R,x,rfl,hb,l,D,K⟩:=L.at_ (k:=0) aa;have C:z=(x:Int):=by
    have hd:dV z.natAbs=[x]:=by
     cases hq:dV z.natAbs with
     |nil=>rw[hq] at V;simp at V
     |cons a m=>
      rw[hq] at V l;simp at V l;rw[V,l]
    have hv:=bD z.natAbs;rw[hd] at hv;simp[val] at hv;have:=of_decide_eq_false hs;omega
   have j:=(Ext.new w (.cells #[.bool ζ,.slice (γ R) 1 c] 40)).cell_ K;have G:(w.alloc (.cells #[.bool ζ,.slice (γ R) 1 c] 40)).cell? R=γ (.int .u32 (x:Int)):=by
    have e:R.add 0=R:=by simp[Addr.add]
    rw[e] at j;exact j
   have B:=aJ C;clear C hs V;by_cases H:x=1
   .subst H;go_enter adz,adp;go_wp2;go_ret;exact⟨aU (by rw[B.o];rfl),Ext.new _ _⟩
   .have O:((x:Int)==1)=ζ:=ae;have M:¬(x:Int)=1:=aa;go_enter adz,adp;go_wp2;go_ret;exact⟨aU (by rw[B.o];simp;omega),Ext.new _ _⟩
  .have I:z≠1:=by
    intro e;subst e;have:dV (1:Int).natAbs=[1]:=by
     have e:(1:Int).natAbs=val [1]:=rfl;rw[e];exact EU (Dig.one aj) (by intro x h;simp at h;omega)
    rw[this] at V;simp at V;omega
   have O:((n:Int)==1)=ζ:=ae;have M:¬(n:Int)=1:=aa;exact Aa3
 .have I:z≠1:=by have:=abf hs;omega
  exact Aa3
def lG(v z w)(F:RI w v z)(N:z.natAbs<lim):
  CV 169 #[v] w fun v w'=>RI w' v z:=by
 obtain⟨A,n,c,rfl,B⟩:=F;have hn:=B.uF N;have P:Hid (∀w' A' n' c',RM w' A' n' c' (dV z.natAbs)->RI w' (iv (decide (z<0)) A' n' c') z):=aJ (fun w' A' n' c' h=>⟨A',n',c',rfl,h⟩);generalize decide (z<0)=s at*
 have Y:=(Ext.new w (.cells #[.bool s,.slice A n c] 40)).alloc (.cells #[.bool ζ,.slice δ 0 0] 40);have I:=aK.blk ((Blk.new w 40 #[.bool s,.slice A n c]).alloc (.cells #[.bool ζ,.slice δ 0 0] 40));go_enter func169,ntmps169;(go_wp2_with fail);refine bQ 6 [(ε,0),(ε,1),(ε,2),(ε,3),(ζ,4),(ε,5)] ah ah ?_;refine aV [0,1,2,3] [(ζ,4),(ε,5)] _ ah ?_;simp only[cZ,aZ,ξ,ο];(repeat (go_big_quiet_step (fail)));refine τ ?_;refine aT 4 [(ε,5)] ah ?_;intro K J;simp only[aZ];(go_wp2_with fail);refine(uh A n c _ _ ((B.ext Y).ext (Ext.refl _).drew) aa).mono ?_;rintro e G ⟨v1,rfl,⟨A1,n1,c1,rfl,O⟩,j⟩;have j:=Ext.qm j;go_wp2;refine J _ _ ⟨⟨G,j⟩,rfl⟩ ?_;clear J K;refine aV [5] [] _ ah ?_;simp only[cZ,aZ,ξ,ο];(repeat (go_big_quiet_step (fail)));refine τ ?_;clear I;simp only[bT,ρ,χ];have b4:=Gq j;have c4:=b4.cell;have Q:=b4.frozen;obtain⟨C,D,l⟩:=ou (xI j) aa b4 s A1 n1 c1;have L:=aJ C;have H:=aJ D;have M:=aJ (l _ _ _ _ O);clear C D l;go_wp2;exact jf rfl rfl rfl H.o ⟨_,rfl,P.o _ _ _ _ M.o,L.o⟩
def wJ(g a b x y z w)(hc:Calm w g)(F:RI w a x)(l:RI w b y)(D:x.natAbs<lim)(L:y.natAbs<lim)(K:z=x+y)(N:z.natAbs<lim):
  CV 167 #[.pointer (γ ⟨g,0,δ⟩),a,b] w fun v w'=>RI w' v z:=by
 obtain⟨s,A,n,c,rfl,F⟩:=F.opn;obtain⟨t,B,m,d,rfl,l⟩:=l.opn;have I:Hid (uC (x+y)=(z,0)):=aJ (by rw[<-K];exact uy N);clear K;have Y:=((Ext.new w (.cells #[.bool s,.slice A n c] 40)).alloc (.cells #[.bool t,.slice B m d] 40)).alloc (.cells #[.bool ζ,.slice δ 0 0] 40);go_enter func167,ntmps167;(go_wp2_with fail);refine(UW _ _ x y _ (F.ext Y) (l.ext Y) D L).mono ?_;exact Aax
def KM(g a b x y z w)(hc:Calm w g)(F:RI w a x)(l:RI w b y)(D:x.natAbs<lim)(L:y.natAbs<lim)(K:z=x-y)(N:z.natAbs<lim):
  CV 175 #[.pointer (γ ⟨g,0,δ⟩),a,b] w fun v w'=>RI w' v z:=by
 obtain⟨s,A,n,c,rfl,F⟩:=F.opn;obtain⟨t,B,m,d,rfl,l⟩:=l.opn;have I:Hid (uC (x-y)=(z,0)):=aJ (by rw[<-K];exact uy N);clear K;have Y:=((Ext.new w (.cells #[.bool s,.slice A n c] 40)).alloc (.cells #[.bool t,.slice B m d] 40)).alloc (.cells #[.bool ζ,.slice δ 0 0] 40);go_enter func175,ntmps175;(go_wp2_with fail);refine(Ub _ _ x y _ (F.ext Y) (l.ext Y) D L).mono ?_;exact Aax
def KP(g a x z w)(hc:Calm w g)(F:RI w a x)(D:x.natAbs<lim)(B:z= -x):
  CV 170 #[.pointer (γ ⟨g,0,δ⟩),a] w fun v w'=>RI w' v z:=by
 obtain⟨s,A,n,c,rfl,F⟩:=F.opn;have N:=aJ B;clear B;have Y:=(Ext.new w (.cells #[.bool s,.slice A n c] 40)).alloc (.cells #[.bool ζ,.slice δ 0 0] 40);go_enter func170,ntmps170;(go_wp2_with fail);refine(Un _ x z _ (F.ext Y) D N.o).mono ?_;rintro e w1 ⟨v1,rfl,⟨u1,rfl,L⟩,H⟩;(go_wp2_with fail);refine(uw g u1 z _ ((hc.ext Y).ext H) L).mono ?_;rintro e w2 ⟨O,rfl,M,P⟩;obtain⟨s2,A2,n2,c2,rfl,M⟩:=M.opn;have j:=H.trans P;have b4:=Gq j;have c4:=b4.cell;have Q:=b4.frozen;obtain⟨C,G,l⟩:=qJ (xI j) aa b4 s2 A2 n2 c2;have J:=aJ C;have I:=aJ G;have K:=aJ (l _ _ M);clear C G l;go_wp2;exact jf rfl rfl rfl I.o ⟨_,rfl,K.o,J.o⟩
def iy(g a b x y z w)(hc:Calm w g)(F:RI w a x)(l:RI w b y)(D:x.natAbs<lim)(L:y.natAbs<lim)(hz:z=x*y)(N:z.natAbs<lim):
  CV 168 #[.pointer (γ ⟨g,0,δ⟩),a,b] w fun v w'=>RI w' v z:=by
 obtain⟨s,A,n,c,rfl,F⟩:=F.opn;obtain⟨t,B,m,d,rfl,l⟩:=l.opn;have I:Hid (uC (x*y)=(z,0)):=aJ (by rw[<-hz];exact uy N);have HZ:=aJ hz;clear hz;have Y:=((Ext.new w (.cells #[.bool s,.slice A n c] 40)).alloc (.cells #[.bool t,.slice B m d] 40)).alloc (.cells #[.bool ζ,.slice δ 0 0] 40);go_enter func168,ntmps168;(go_wp2_with fail);refine(wW _ x _ (F.ext Y)).mono ?_;rintro e w1 ⟨rfl,H⟩;have c0:=(mX H).cell;have c1:=(ni H).cell;by_cases T:x=1
 .have K:decide (x=1)=ε:=by simpa using T
  have G:y=z:=by rw[HZ.o,T];omega
  have J:=aJ G;have H1:=aJ T;clear G T;rw[K];clear K;(go_wp2_with fail);refine(lG _ y _ (l.ext (jH H)) L).mono ?_;rintro e w2 ⟨v2,rfl,M,P⟩;rw[J.o] at M;exact Aaw
 .have K:decide (x=1)=ζ:=by simpa using T
  have H1:=aJ T;clear T;rw[K];clear K;(go_wp2_with fail);refine(wW _ y _ (l.ext (jH H))).mono ?_;rintro e w3 ⟨rfl,Wl⟩;have H:=H.trans Wl;clear c0 c1;have c0:=(mX H).cell;have c1:=(ni H).cell;by_cases U:y=1
  .have K:decide (y=1)=ε:=by simpa using U
   have G:x=z:=by rw[HZ.o,U];omega
   have J:=aJ G;clear G U;rw[K];clear K;(go_wp2_with fail);refine(lG _ x _ (F.ext (jH H)) D).mono ?_;rintro e w2 ⟨v2,rfl,M,P⟩;rw[J.o] at M;exact Aaw
  .have K:decide (y=1)=ζ:=by simpa using U
   have H2:=aJ U;clear U;rw[K];clear K;(go_wp2_with fail);refine(T9 _ _ x y _ (F.ext (jH H)) (l.ext (jH H)) D L).mono ?_;rintro e w4 ⟨v4,rfl,j,Q⟩;rw[I.o] at j;obtain⟨u4,rfl,hI⟩:=j;have H:=H.trans Q;(go_wp2_with fail);refine(uw g u4 z _ (hc.ext (jH H)) hI).mono ?_;rintro e w2 ⟨v2,rfl,M,P⟩;exact Aaw
def Own (w:World) (g:Nat):Prop:=w.heap.size<=g
def aeH{w w' g}(h:Ext w w')(j:w'.heap.size<=g):Own w g:=nk h.size j
abbrev pv (s1:Bool) (A1:Option Addr) (n1 c1:Nat) (s2:Bool) (A2:Option Addr) (n2 c2:Nat) (s3:Bool) (A3:Option Addr) (n3 c3:Nat) (s4:Bool) (A4:Option Addr) (n4 c4:Nat) (s5:Bool) (A5:Option Addr) (n5 c5:Nat) (s6:Bool) (A6:Option Addr) (n6 c6:Nat):Value:=
 .agg #[.bool s1,.slice A1 n1 c1,.bool s2,.slice A2 n2 c2,.bool s3,.slice A3 n3 c3,.bool s4,.slice A4 n4 c4,.bool s5,.slice A5 n5 c5,.bool s6,.slice A6 n6 c6]
def RP (w:World) (v:Value) (a b d x y z:Int):Prop:=
 ∃s1 A1 n1 c1 s2 A2 n2 c2 s3 A3 n3 c3 s4 A4 n4 c4 s5 A5 n5 c5 s6 A6 n6 c6,v=pv s1 A1 n1 c1 s2 A2 n2 c2 s3 A3 n3 c3 s4 A4 n4 c4 s5 A5 n5 c5 s6 A6 n6 c6/\RI w (iv s1 A1 n1 c1) a/\RI w (iv s2 A2 n2 c2) b/\RI w (iv s3 A3 n3 c3) d/\RI w (iv s4 A4 n4 c4) x/\RI w (iv s5 A5 n5 c5) y/\RI w (iv s6 A6 n6 c6) z
def RP.ext{w w' v a b d x y z}(h:RP w v a b d x y z)(e:Ext w w'):RP w' v a b d x y z:=by
 obtain⟨s1,A1,n1,c1,s2,A2,n2,c2,s3,A3,n3,c3,s4,A4,n4,c4,s5,A5,n5,c5,s6,A6,n6,c6,j,C,l,D,B,H,F⟩:=h;exact⟨s1,A1,n1,c1,s2,A2,n2,c2,s3,A3,n3,c3,s4,A4,n4,c4,s5,A5,n5,c5,s6,A6,n6,c6,j,C.ext e,l.ext e,D.ext e,B.ext e,H.ext e,F.ext e⟩
def RG.mk{w s1 s2 s3 A1 A2 A3 n1 c1 n2 c2 n3 c3 a b d}(l:RI w (iv s1 A1 n1 c1) a)(j:RI w (iv s2 A2 n2 c2) b)(B:RI w (iv s3 A3 n3 c3) d):RG w (gv s1 A1 n1 c1 s2 A2 n2 c2 s3 A3 n3 c3) a b d:=
 ⟨_,_,_,_,_,_,_,_,_,_,_,_,rfl,l,j,B⟩
def RP.mk{w s1 s2 s3 s4 s5 s6 A1 A2 A3 A4 A5 A6 n1 c1 n2 c2 n3 c3 n4 c4 n5 c5 n6 c6 a b d x y z}(B:RI w (iv s1 A1 n1 c1) a)(j:RI w (iv s2 A2 n2 c2) b)(C:RI w (iv s3 A3 n3 c3) d)(l:RI w (iv s4 A4 n4 c4) x)(H:RI w (iv s5 A5 n5 c5) y)(D:RI w (iv s6 A6 n6 c6) z):
  RP w (pv s1 A1 n1 c1 s2 A2 n2 c2 s3 A3 n3 c3 s4 A4 n4 c4 s5 A5 n5 c5 s6 A6 n6 c6) a b d x y z:=
 ⟨_,_,_,_,_,_,_,_,_,_,_,_,_,_,_,_,_,_,_,_,_,_,_,_,rfl,B,j,C,l,H,D⟩
inductive Fc where
 |any
 |ri (z:Int)
 |rg (a b d:Int)
 |rp (a b d x y z:Int)
 |reti (p:Int×Int)
 |retd (q r e:Int)
 |retg (a b d e:Int)
 |retp (a b d x y z e:Int)
 |box (t:TypeId) (cs:Array Value)
 |sl (t:TypeId) (n:Nat) (cs:Array Value)
 |eq (u:Value)
def Fc.holds:Fc->Nat->Nat->Value->World->Prop
 | .any,_,_,_,_=>True
 | .ri z,_,_,v,w=>RI w v z
 | .rg a b d,_,_,v,w=>RG w v a b d
 | .rp a b d x y z,_,_,v,w=>RP w v a b d x y z
 | .reti p,_,_,v,w=>vE p v w
 | .retd q r e,_,_,v,w=>UQ q r e v w
 | .retg a b d e,_,_,v,w=>∃u,v=.tuple #[u,.int .i64 e]/\RG w u a b d
 | .retp a b d x y z e,_,_,v,w=>∃u,v=.tuple #[u,.int .i64 e]/\RP w u a b d x y z
 | .box t cs,lo,hi,v,w=>v=.pointer (γ ⟨lo,0,δ⟩)/\lo<hi/\Blk w lo t cs
 | .sl t n cs,lo,hi,v,w=>v=.slice (γ ⟨lo,0,δ⟩) n n/\lo<hi/\Blk w lo t cs
 | .eq u,_,_,v,_=>v=u
def agq(f:Fc){lo hi v w w'}(h:f.holds lo hi v w)(x:Ext w w'):f.holds lo hi v w':=by
 cases f with
 |any=>trivial
 |ri z=>exact RI.ext h x
 |rg a b d=>exact RG.ext h x
 |rp a b d p q r=>exact RP.ext h x
 |reti p=>exact vE.ext h x
 |retd q r e=>obtain⟨a,b,l,j,B⟩:=h;exact⟨a,b,l,RI.ext j x,RI.ext B x⟩
 |retg a b d e=>obtain⟨u,l,j⟩:=h;exact⟨u,l,j.ext x⟩
 |retp a b d p q r e=>obtain⟨u,l,j⟩:=h;exact⟨u,l,j.ext x⟩
 |box t cs=>exact⟨h.1,h.2.1,h.2.2.ext x⟩
 |sl t n cs=>exact⟨h.1,h.2.1,h.2.2.ext x⟩
 |eq u=>exact h
def TF:List (Nat×Fc)->Nat->Fc
 |[],_=> .any
 |p::r,i=>bif Nat.beq p.1 i then p.2 else TF r i
def UD:List (Nat×Fc)->Nat->Bool
 |[],_=>ζ
 |p::r,i=>Nat.beq p.1 i||UD r i
def Fcs (l:List (Nat×Fc)):Nat->Nat->Nat->Value->World->Prop:=fun i lo hi v w=>(TF l i).holds lo hi v w
def PD(l):∀i lo hi v w w',Fcs l i lo hi v w->Ext w w'->Fcs l i lo hi v w':=fun _ _ _ _ _ _ h x=>agq _ h x
def puts (w:World) (g:Nat):Nat->List Value->World
 |_,[]=>w
 |i,v::r=>puts (w.setCell ⟨g,i,δ⟩ v) g (i+1) r
def fI (cs:Array Value):Nat->List Value->Array Value
 |_,[]=>cs
 |i,v::r=>fI (cs.setIfInBounds i v) (i+1) r
def kD (cs:Array Value):Bool:=cs.toList.all fun v=>match v with| .int _ _=>ζ|_=>ε
def sG{cs}(h:kD cs=ε):∀(j:Nat) (k:IntKind) (x:Int),cs[j]?≠γ (.int k x):=by
 intro j k x e;have l:(Value.int k x)∈cs.toList:=by
  have:cs.toList[j]? =γ (.int k x):=by simpa using e
  exact xx this
 have:=wo.1 h _ l;simp at this
def fD(w g):∀(i:Nat) (B:List Value),Only g w (puts w g i B)
 |_,[]=>Only.refl _ _
 |i,v::r=>(Only.set w g i v).trans (fD _ g (i+1) r)
def fw{w0 g}(j:Own w0 g):∀(i:Nat) (B:List Value) {w:World},Ext w0 w->Ext w0 (puts w g i B)
 |_,[],_,h=>h
 |i,v::r,w,h=>fw j (i+1) r (show Ext w0 (w.setCell ⟨g,i,δ⟩ v) from h.setCell (by exact j) _)
def bR{g t}:∀(i:Nat) (B:List Value) {w:World} {cs:Array Value},Blk w g t cs->Blk (puts w g i B) g t (fI cs i B)
 |_,[],_,_,h=>h
 |i,v::r,_,_,h=>bR (i+1) r (h.qg i v)
def OH{w w' w'' g t cs cs'}(i B)(H:Ext w w')(G:Own w g)(hb:Blk w' g t cs)(hn:kD cs=ε)(e:w''=puts w' g i B)(ec:fI cs i B=cs'):
  Ext w w''/\Blk w'' g t cs'/\(∀g2 t cs,g2≠g->Blk w' g2 t cs->Blk w'' g2 t cs)/\(∀v s l,RX w' v s l->RX w'' v s l)/\∀v z,RI w' v z->RI w'' v z:=by
 subst e;subst ec;have F:∀v s l,RX w' v s l->RX (puts w' g i B) v s l:=fun v s l ⟨A',n',c',D,C⟩=>⟨A',n',c',D,C.only (fD _ _ _ _) hb (sG hn)⟩;exact⟨fw G _ _ H,bR _ _ hb,fun g2 t cs j h=>(fD w' g i B).blk h j,F,fun v z h=>F _ _ _ h⟩
def BC{w g s1 s2 s3 A1 A2 A3 n1 c1 n2 c2 n3 c3}(hb:Blk w g 42 #[.bool s1,.slice A1 n1 c1,.bool s2,.slice A2 n2 c2,.bool s3,.slice A3 n3 c3]):(loadVar 42 ⟨g,0,δ⟩).run prog w=.ok (gv s1 A1 n1 c1 s2 A2 n2 c2 s3 A3 n3 c3) w:=by
 have hc:=hb.cell;simp[go_sem,hc,gv]
def GK{w g s1 s2 s3 s4 s5 s6 A1 A2 A3 A4 A5 A6 n1 c1 n2 c2 n3 c3 n4 c4 n5 c5 n6 c6}(hb:Blk w g 44 #[.bool s1,.slice A1 n1 c1,.bool s2,.slice A2 n2 c2,.bool s3,.slice A3 n3 c3,.bool s4,.slice A4 n4 c4,.bool s5,.slice A5 n5 c5,.bool s6,.slice A6 n6 c6]):(loadVar 44 ⟨g,0,δ⟩).run prog w=.ok (pv s1 A1 n1 c1 s2 A2 n2 c2 s3 A3 n3 c3 s4 A4 n4 c4 s5 A5 n5 c5 s6 A6 n6 c6) w:=by
 have hc:=hb.cell;simp[go_sem,hc,pv]
section
variable {fn:Func} {R:Ending->World->Prop} {a:Act} {w:World} {t u g:Nat} {s1 s2 s3 s4 s5 s6:Bool} {A1 A2 A3 A4 A5 A6:Option Addr} {n1 c1 n2 c2 n3 c3 n4 c4 n5 c5 n6 c6:Nat}
def dE(l:fn.results= #[.cell t 42])(hd:a.defers=[])(hp:a.tmps[t]?.getD undef=.pointer (γ ⟨g,0,δ⟩))(hb:Blk w g 42 #[.bool s1,.slice A1 n1 c1,.bool s2,.slice A2 n2 c2,.bool s3,.slice A3 n3 c3])(j:R (.returned (gv s1 A1 n1 c1 s2 A2 n2 c2 s3 A3 n3 c3)) w):bodyPost prog fn R .ret a w:=aak (by simp[results,l,hp,asAddr,BC hb]) hd j
def lQ(l:fn.results= #[.cell t 42,.tmp u])(hd:a.defers=[])(hp:a.tmps[t]?.getD undef=.pointer (γ ⟨g,0,δ⟩))(hb:Blk w g 42 #[.bool s1,.slice A1 n1 c1,.bool s2,.slice A2 n2 c2,.bool s3,.slice A3 n3 c3])(j:R (.returned (.tuple #[gv s1 A1 n1 c1 s2 A2 n2 c2 s3 A3 n3 c3,a.tmps.getD u undef])) w):bodyPost prog fn R .ret a w:=aak (v:=.tuple #[gv s1 A1 n1 c1 s2 A2 n2 c2 s3 A3 n3 c3,a.tmps.getD u undef]) (by simp[results,l,hp,asAddr,BC hb]) hd j
def lS(l:fn.results= #[.cell t 44,.tmp u])(hd:a.defers=[])(hp:a.tmps[t]?.getD undef=.pointer (γ ⟨g,0,δ⟩))(hb:Blk w g 44 #[.bool s1,.slice A1 n1 c1,.bool s2,.slice A2 n2 c2,.bool s3,.slice A3 n3 c3,.bool s4,.slice A4 n4 c4,.bool s5,.slice A5 n5 c5,.bool s6,.slice A6 n6 c6])(j:R (.returned (.tuple #[pv s1 A1 n1 c1 s2 A2 n2 c2 s3 A3 n3 c3 s4 A4 n4 c4 s5 A5 n5 c5 s6 A6 n6 c6,a.tmps.getD u undef])) w):bodyPost prog fn R .ret a w:=aak (v:=.tuple #[pv s1 A1 n1 c1 s2 A2 n2 c2 s3 A3 n3 c3 s4 A4 n4 c4 s5 A5 n5 c5 s6 A6 n6 c6,a.tmps.getD u undef]) (by simp[results,l,hp,asAddr,GK hb]) hd j
end
def Km{lo hi G j:Nat}(B:lo<hi)(l:G<j)(h:hi<=G\/j<=lo):lo≠G:=aa
section
variable {w:World} {s1 s2 s3 s4 s5 s6:Bool} {A1 A2 A3 A4 A5 A6:Option Addr} {n1 c1 n2 c2 n3 c3 n4 c4 n5 c5 n6 c6:Nat} {a b d x y z e:Int}
def RG.inj(h:RG w (gv s1 A1 n1 c1 s2 A2 n2 c2 s3 A3 n3 c3) a b d):RI w (iv s1 A1 n1 c1) a/\RI w (iv s2 A2 n2 c2) b/\RI w (iv s3 A3 n3 c3) d:=by
 obtain⟨H,L,m1,J,D,B2,m2,F,G,K,I,d3,j,B,l,C⟩:=h;simp[gv] at j;obtain⟨rfl,⟨rfl,rfl,rfl⟩,rfl,⟨rfl,rfl,rfl⟩,rfl,rfl,rfl,rfl⟩:=j;exact⟨B,l,C⟩
def RG.at1(h:RG w (gv s1 A1 n1 c1 s2 A2 n2 c2 s3 A3 n3 c3) a b d):RI w (iv s1 A1 n1 c1) a:=h.inj.1
def RG.at2(h:RG w (gv s1 A1 n1 c1 s2 A2 n2 c2 s3 A3 n3 c3) a b d):RI w (iv s2 A2 n2 c2) b:=h.inj.2.1
def RG.at3(h:RG w (gv s1 A1 n1 c1 s2 A2 n2 c2 s3 A3 n3 c3) a b d):RI w (iv s3 A3 n3 c3) d:=h.inj.2.2
def RP.inj(h:RP w (pv s1 A1 n1 c1 s2 A2 n2 c2 s3 A3 n3 c3 s4 A4 n4 c4 s5 A5 n5 c5 s6 A6 n6 c6) a b d x y z):RI w (iv s1 A1 n1 c1) a/\RI w (iv s2 A2 n2 c2) b/\RI w (iv s3 A3 n3 c3) d/\RI w (iv s4 A4 n4 c4) x/\RI w (iv s5 A5 n5 c5) y/\RI w (iv s6 A6 n6 c6) z:=by
 obtain⟨R,V,m1,Q,J,B2,m2,K,L,S,N,d3,O,B4,Z,W,t5,Y,U,T,P,j,M,l,B,F,C,G,D,H,I⟩:=h;simp[pv] at B;obtain⟨rfl,⟨rfl,rfl,rfl⟩,rfl,⟨rfl,rfl,rfl⟩,rfl,⟨rfl,rfl,rfl⟩,rfl,⟨rfl,rfl,rfl⟩,rfl,⟨rfl,rfl,rfl⟩,rfl,rfl,rfl,rfl⟩:=B;exact⟨F,C,G,D,H,I⟩
def RP.at1(h:RP w (pv s1 A1 n1 c1 s2 A2 n2 c2 s3 A3 n3 c3 s4 A4 n4 c4 s5 A5 n5 c5 s6 A6 n6 c6) a b d x y z):RI w (iv s1 A1 n1 c1) a:=h.inj.1
def RP.at2(h:RP w (pv s1 A1 n1 c1 s2 A2 n2 c2 s3 A3 n3 c3 s4 A4 n4 c4 s5 A5 n5 c5 s6 A6 n6 c6) a b d x y z):RI w (iv s2 A2 n2 c2) b:=h.inj.2.1
def RP.at3(h:RP w (pv s1 A1 n1 c1 s2 A2 n2 c2 s3 A3 n3 c3 s4 A4 n4 c4 s5 A5 n5 c5 s6 A6 n6 c6) a b d x y z):RI w (iv s3 A3 n3 c3) d:=h.inj.2.2.1
def RP.at4(h:RP w (pv s1 A1 n1 c1 s2 A2 n2 c2 s3 A3 n3 c3 s4 A4 n4 c4 s5 A5 n5 c5 s6 A6 n6 c6) a b d x y z):RI w (iv s4 A4 n4 c4) x:=h.inj.2.2.2.1
def RP.at5(h:RP w (pv s1 A1 n1 c1 s2 A2 n2 c2 s3 A3 n3 c3 s4 A4 n4 c4 s5 A5 n5 c5 s6 A6 n6 c6) a b d x y z):RI w (iv s5 A5 n5 c5) y:=h.inj.2.2.2.2.1
def RP.at6(h:RP w (pv s1 A1 n1 c1 s2 A2 n2 c2 s3 A3 n3 c3 s4 A4 n4 c4 s5 A5 n5 c5 s6 A6 n6 c6) a b d x y z):RI w (iv s6 A6 n6 c6) z:=h.inj.2.2.2.2.2
def ae7(h:∃u,Value.tuple #[pv s1 A1 n1 c1 s2 A2 n2 c2 s3 A3 n3 c3 s4 A4 n4 c4 s5 A5 n5 c5 s6 A6 n6 c6,.int .i64 e]=.tuple #[u,.int .i64 e]/\RP w u a b d x y z):RP w (pv s1 A1 n1 c1 s2 A2 n2 c2 s3 A3 n3 c3 s4 A4 n4 c4 s5 A5 n5 c5 s6 A6 n6 c6) a b d x y z:=by
 obtain⟨u,j,l⟩:=h;simp at j;exact j ▸ l
def agE(h:∃u,Value.tuple #[pv s1 A1 n1 c1 s2 A2 n2 c2 s3 A3 n3 c3 s4 A4 n4 c4 s5 A5 n5 c5 s6 A6 n6 c6,.int .i64 e]=.tuple #[u,.int .i64 e]/\RP w u a b d x y z):RI w (iv s1 A1 n1 c1) a:=(ae7 h).at1
def agB(h:∃u,Value.tuple #[pv s1 A1 n1 c1 s2 A2 n2 c2 s3 A3 n3 c3 s4 A4 n4 c4 s5 A5 n5 c5 s6 A6 n6 c6,.int .i64 e]=.tuple #[u,.int .i64 e]/\RP w u a b d x y z):RI w (iv s2 A2 n2 c2) b:=(ae7 h).at2
def agA(h:∃u,Value.tuple #[pv s1 A1 n1 c1 s2 A2 n2 c2 s3 A3 n3 c3 s4 A4 n4 c4 s5 A5 n5 c5 s6 A6 n6 c6,.int .i64 e]=.tuple #[u,.int .i64 e]/\RP w u a b d x y z):RI w (iv s3 A3 n3 c3) d:=(ae7 h).at3
def agD(h:∃u,Value.tuple #[pv s1 A1 n1 c1 s2 A2 n2 c2 s3 A3 n3 c3 s4 A4 n4 c4 s5 A5 n5 c5 s6 A6 n6 c6,.int .i64 e]=.tuple #[u,.int .i64 e]/\RP w u a b d x y z):RI w (iv s4 A4 n4 c4) x:=(ae7 h).at4
def agF(h:∃u,Value.tuple #[pv s1 A1 n1 c1 s2 A2 n2 c2 s3 A3 n3 c3 s4 A4 n4 c4 s5 A5 n5 c5 s6 A6 n6 c6,.int .i64 e]=.tuple #[u,.int .i64 e]/\RP w u a b d x y z):RI w (iv s5 A5 n5 c5) y:=(ae7 h).at5
def agC(h:∃u,Value.tuple #[pv s1 A1 n1 c1 s2 A2 n2 c2 s3 A3 n3 c3 s4 A4 n4 c4 s5 A5 n5 c5 s6 A6 n6 c6,.int .i64 e]=.tuple #[u,.int .i64 e]/\RP w u a b d x y z):RI w (iv s6 A6 n6 c6) z:=(ae7 h).at6
end
def sH{z}(j: -9223372036854775808<=z)(l:z<=9223372036854775807):z.natAbs<lim:=Qb (k:=2) aa aj
theorem VR:(0:Int).natAbs<lim:=by
 have:0<lim:=by unfold lim;exact aah aj
 simpa using this
abbrev Bk:Type:=Nat×TypeId×Array Value
abbrev Nm:Type:=Value×Bool×List Nat
abbrev nz (v:Value) (z:Int):Nm:=(v,decide (z<0),dV z.natAbs)
def apart (g:Nat):List Bk->Prop
 |[]=>True
 |p::r=>p.1≠g/\apart g r
def tV:List Bk->Prop
 |[]=>True
 |p::r=>apart p.1 r/\tV r
structure St (w W:World) (bs:List Bk) (fs:List Nm):Prop where
 ext:Ext w W
 blks:∀p∈bs,Blk W p.1 p.2.1 p.2.2
 nd:tV bs
 nums:∀q∈fs,RX W q.1 q.2.1 q.2.2
def Bw{g}:∀{bs:List Bk},(∀p∈bs,p.1≠g)->apart g bs
 |[],_=>trivial
 |p::r,h=>⟨h p ag,Bw (fun q hq=>h q (by simp[hq]))⟩
def xY{g}:∀{bs:List Bk},apart g bs->∀p∈bs,p.1≠g
 |[],_,p,hp=>by cases hp
 |q::r,h,p,hp=>by
  rcases ψ.1 hp with e|e
  .subst e;exact h.1
  .exact xY h.2 p e
section
variable {w W W':World} {bs:List Bk} {fs:List Nm}
def aeK(w):St w w [] []:=⟨Ext.refl w,ag,trivial,ag⟩
def St.mv(h:St w W bs fs)(x:Ext W W'):St w W' bs fs:=⟨h.ext.trans x,fun p hp=>(h.blks p hp).ext x,h.nd,fun q hq=>(h.nums q hq).ext x⟩
def St.blk(h:St w W bs fs)(i:Nat){g:Nat}{t cs}(e:bs[i]? =γ (g,t,cs)):Blk W g t cs:=h.blks _ (xx e)
def St.num(h:St w W bs fs)(i:Nat){v s l}(e:fs[i]? =γ (v,s,l)):RX W v s l:=h.nums _ (xx e)
def St.aF{w W : World}{bs : List Bk}{fs : List Nm}(h : St w W bs fs)(i : Nat){v : Value}{s : Bool}{l : List Nat}(e : fs[i]? = γ (v, s, l) := by rfl): RX W v s l := h.num i e
def St.aH{w W : World}{bs : List Bk}{fs : List Nm}(h : St w W bs fs)(i : Nat){g : Nat}{t : TypeId}{cs : Array Value}(e : bs[i]? = γ (g, t, cs) := by rfl): Blk W g t cs := h.blk i e
def St.aD{w W W' : World}{bs : List Bk}{fs : List Nm}(h : St w W bs fs)(i : Nat)(x : Ext W W'){v : Value}{z : Int}(e : fs[i]? = γ (nz v z) := by rfl): RI W' v z := RI.ext (h.num i e) x
def St.lt(h:St w W bs fs):∀p∈bs,p.1<W.heap.size:=fun p hp=>(h.blks p hp).lt
def St.addN(h:St w W bs fs){v s l}(x:RX W v s l):St w W bs ((v,s,l)::fs):=
 ⟨h.ext,h.blks,h.nd,ado.2 ⟨x,h.nums⟩⟩
def St.less{b}(h:St w W (b::bs) fs):St w W bs fs:=⟨h.ext,fun p hp=>h.blks p (ib _ hp),h.nd.2,h.nums⟩
def St.one{f}(h:St w W bs (f::fs)):St w W bs [f]:=⟨h.ext,h.blks,h.nd,fun q hq=>by
 have e:=Z6.1 hq;subst e;exact h.nums q ag⟩
def St.sel(h:St w W bs fs)(is:List Nat){j}(e:is.filterMap (fun i=>fs[i]?)=j):St w W bs j:=⟨h.ext,h.blks,h.nd,fun q hq=>by
 rw[<-e] at hq;obtain⟨i,_,hi⟩:=List.mem_filterMap.1 hq;exact h.nums q (xx hi)⟩
def St.aX(h:St w W bs fs){v z}(x:RI W v z):St w W bs (nz v z::fs):=h.addN x
def St.wY(h:St w W bs fs){g t cs}(hb:Blk W g t cs)(ha:apart g bs):St w W ((g,t,cs)::bs) fs:=
 ⟨h.ext,ado.2 ⟨hb,h.blks⟩,⟨ha,h.nd⟩,h.nums⟩
def St.al(h:St w W bs fs)(t cs){g}(j:W.heap.size=g):St w (W.alloc (.cells cs t)) ((g,t,cs)::bs) fs:=
 St.wY (h.mv (Ext.new _ _)) (aeE _ _ j) (Bw fun p hp=>by have:=h.lt p hp;omega)
def zA:∀{bs:List Bk} {i j:Nat} {p q:Bk},tV bs->i≠j->bs[i]? =γ p->bs[j]? =γ q->p.1≠q.1
 |[],i,j,p,q,_,_,hi,_=>by simp at hi
 |b::r,0,0,p,q,_,h,_,_=>absurd rfl h
 |b::r,0,j+1,p,q,h,_,hi,hj=>by
  simp at hi hj;subst hi;exact(xY h.1 q (xx hj)).symm
 |b::r,i+1,0,p,q,h,_,hi,hj=>by
  simp at hi hj;subst hj;exact xY h.1 p (xx hi)
 |b::r,i+1,j+1,p,q,h,hne,hi,hj=>zA (bs:=r) (i:=i) (j:=j) h.2 aa (by simpa using hi) (by simpa using hj)
def Ce{g}:∀{bs:List Bk} {i:Nat} {p:Bk} {cs:Array Value},bs[i]? =γ p->apart g bs->apart g (bs.set i (p.1,p.2.1,cs))
 |[],i,p,cs,h,_=>by simp at h
 |b::r,0,p,cs,h,ha=>by simp at h;subst h;exact ha
 |b::r,i+1,p,cs,h,ha=>⟨ha.1,Ce Ab6 ha.2⟩
def Il:∀{bs:List Bk} {i:Nat} {p:Bk} {cs:Array Value},bs[i]? =γ p->tV bs->tV (bs.set i (p.1,p.2.1,cs))
 |[],i,p,cs,h,_=>by simp at h
 |b::r,0,p,cs,h,ha=>by simp at h;subst h;exact ha
 |b::r,i+1,p,cs,h,ha=>⟨Ce Ab6 ha.1,Il Ab6 ha.2⟩
def St.put(h:St w W bs fs)(i k:Nat){g:Nat}{t cs cs' bs'}(B)(e:bs[i]? =γ (g,t,cs))(J:Own w g)(hn:kD cs=ε)(l:W'=puts W g k B)(ec:fI cs k B=cs')(F:bs.set i (g,t,cs')=bs'):St w W' bs' fs:=by
 have hb:=h.blk i e;obtain⟨I,G,K,H,_⟩:=OH k B h.ext J hb hn l ec;refine⟨I,fun p hp=> ?_,F ▸ Il (p:=(g,t,cs)) e h.nd,fun q hq=>H _ _ _ (h.nums q hq)⟩;obtain⟨j,C⟩:=abM hp;rw[<-F] at C;have V:i<bs.length:=(μ.1 e).1;by_cases D:i=j
 .subst D;rw[abx V] at C;injection C with C;subst C;exact G
 .rw[aav D] at C;exact K _ _ _ (fun T=>zA h.nd (fun h=>D h.symm) C e T) (h.blks p (xx C))
end
def fG (zs:List Int):Nat:=zs.foldl (fun g z=>Nat.gcd g z.natAbs) 0
theorem M9{zs:List Int}{k}{z:Int}(h:zs[k]? =γ z):fG (zs.take (k+1))=Nat.gcd (fG (zs.take k)) z.natAbs:=by
 unfold fG;rw[acL,h,acM];rfl
def Gl:∀(zs:List Int),zs.foldl (fun g z=>Nat.gcd g z.natAbs) 1=1
 |[]=>rfl
 |z::zs=>by rw[List.foldl_cons,Nat.gcd_one_left];exact Gl zs
theorem NE{zs k}(h:fG (zs.take k)=1):fG zs=1:=by
 have e:zs=zs.take k++zs.drop k:=(acg k zs).symm;rw[e];unfold fG at h⊢;rw[acM,h];exact Gl _
theorem Ko:0<lim:=by unfold lim;exact aah aj
def J6:∀(zs:List Int) (g:Nat),g<lim->(∀z∈zs,z.natAbs<lim)->zs.foldl (fun g z=>Nat.gcd g z.natAbs) g<lim
 |[],g,hg,_=>hg
 |z::zs,g,hg,h=>by
  rw[List.foldl_cons];refine J6 zs _ ?_ (fun x l=>h x (ib _ l));rcases Na g with j|j
  .subst j;rw[Nat.gcd_zero_left];exact h z ag
  .exact nH (Nat.gcd_le_left _ j) hg
def KW{zs}(h:∀z∈zs,z.natAbs<lim):fG zs<lim:=J6 zs 0 Ko h
def Am(g gs L zs cs w)(hc:Calm w g)(hb:Blk w gs 40 cs)(hL:zs.length=L)(J:L<=100)(Q:∀j z,zs[j]? =γ z->z.natAbs<lim/\∃s A n c,cs[j*2]? =γ (.bool s)/\cs[j*2+1]? =γ (.slice A n c)/\RI w (iv s A n c) z):
  CV 145 #[.pointer (γ ⟨g,0,δ⟩),.slice (γ ⟨gs,0,δ⟩) L L] w fun v w'=>RI w' v (fG zs:Nat):=by
 have HL:=aJ hL;have HZ:=aJ Q;clear hL Q;have hS:=((aeK w).wY hc trivial).al 40 #[.bool ζ,.slice δ 0 0] (g:=w.heap.size) rfl;replace hS:=hS.al 40 #[.bool ζ,.slice δ 0 0] (g:=w.heap.size+1) ag;have o4:Own w w.heap.size:=κ _;have o5:Own w (w.heap.size+1):=abT _;have C:=(hS.aH 0).cell;have P:=(hS.aH 0).frozen;go_enter func145,ntmps145;(go_wp2_with fail);clear C P;generalize ((w.alloc (.cells #[.bool ζ,.slice δ 0 0] 40)).alloc (.cells #[.bool ζ,.slice δ 0 0] 40))=w1 at hS⊢;generalize w.heap.size+1=g5 at hS o5⊢;generalize w.heap.size=g4 at hS o4⊢;go_loopw [11] (fun i wr=>∃k:Nat,k<=L/\i=.int .i64 (k:Int)/\∃s A n c,St w wr [(g5,40,#[.bool s,.slice A n c]),(g4,40,#[.bool ζ,.slice δ 0 0]),(g,197,#[.int .i64 0])] [nz (iv s A n c) (fG (zs.take k):Nat)]) (fun i _=>L-(intOf i).toNat)
 case atStart=>
  exact⟨0,aa,rfl,ζ,δ,0,0,hS.aX (RI.zero _)⟩
 case round=>
  clear hS;obtain⟨k,hk,rfl,s5,A5,n5,c5,hS⟩:=hrel;by_cases WL:k<L
  .have hq:=ν (l:=zs) (i:=k) (by rw[HL.o];exact WL);obtain⟨z,Q⟩:∃z,zs[k]? =γ z:=⟨_,hq⟩;clear hq;obtain⟨N,s6,A6,n6,c6,T,I,R⟩:=HZ.o k z Q;have B:=(hb.ext hS.ext).cell;have WT:=(B (k*2)).trans T;have Xw:=(B (k*2+1)).trans I;clear B T I;have S:=aJ (M9 Q);have gl:(fG (zs.take k):Int).natAbs<lim:=KW (fun x hx=>by
    obtain⟨j,hj⟩:=abM (adj hx);exact(HZ.o j x hj).1)
   have Xo:Hid (fG (zs.take k)=1->fG zs=1):=aJ NE;clear Q;replace hS:=hS.aX (R.ext hS.ext);generalize fG (zs.take k)=G at*
   have e1:((k:Int)*2).toNat=k*2:=aa;have o7:Own w wr.heap.size:=aeH hS.ext (κ _);have hT:=hS.al 40 #[.bool ζ,.slice δ 0 0] (g:=wr.heap.size) rfl;have C:=(hT.aH 0).cell;have P:=(hT.aH 0).frozen;clear hT;replace hS:=hS.al 40 #[.bool s6,.slice A6 n6 c6] (g:=wr.heap.size) rfl;have k3:=(hS.aH 1).cell;(go_wp2_with fail);clear C P k3 WT Xw;generalize wr.alloc (.cells #[.bool s6,.slice A6 n6 c6] 40)=w2 at hS⊢;generalize wr.heap.size=g7 at hS o7⊢;refine(wW _ _ _ (hS.aF 1)).mono ?_;rintro e w3 ⟨rfl,F⟩;replace hS:=hS.mv F;clear F;by_cases V:(G:Int)=1
   .have U:decide ((G:Int)=1)=ε:=by simpa using V
    rw[U];have H:fG zs=1:=Xo.o aa;have D:Hid ((G:Int)=(fG zs:Nat)):=aJ (by rw[H];exact V);clear U V H;have C:=(hS.aH 1).cell;have P:=(hS.aH 2).cell;have k3:=(hS.aH 2).frozen;replace hS:=hS.put (W':=((w3.setCell ⟨g4,0,δ⟩ (.bool s5)).setCell ⟨g4,1,δ⟩ (.slice A5 n5 c5))) 2 0 [.bool s5,.slice A5 n5 c5] (cs':= #[.bool s5,.slice A5 n5 c5]) rfl o4 rfl rfl rfl rfl;go_wp2;rw[<-D.o];exact jf rfl rfl rfl (hS.aH 2) ⟨_,rfl,hS.aF 1,hS.ext⟩
   .have U:decide ((G:Int)=1)=ζ:=by simpa using V
    rw[U];clear U V;have C:=(hS.aH 1).cell;have P:=(hS.aH 0).cell;(go_wp2_with fail);clear C P;refine(UG _ _ _ _ _ (hS.aF 1) (hS.aF 0) gl N).mono ?_;rintro e w4 ⟨v_,rfl,⟨K,rfl,M⟩,F⟩;replace hS:=hS.mv F;clear F;have O:RI w4 K ((Nat.gcd (G:Int).natAbs z.natAbs:Nat)):=M;have WS:Hid (Nat.gcd (G:Int).natAbs z.natAbs=fG (zs.take (k+1))):=aJ S.symm;rw[WS.o] at O;clear M;(go_wp2_with fail);refine(uw g K _ _ (hS.aH 3) O).mono ?_;rintro e w5 ⟨v_,rfl,M,F⟩;replace hS:=hS.mv F;clear F O;obtain⟨s8,Y,Z,W,rfl,O⟩:=RI.opn M;replace hS:=hS.aX O;clear M O;have C:=(hS.aH 1).cell;have P:=(hS.aH 1).frozen;replace hS:=hS.put (W':=((w5.setCell ⟨g5,0,δ⟩ (.bool s8)).setCell ⟨g5,1,δ⟩ (.slice Y Z W))) 1 0 [.bool s8,.slice Y Z W] (cs':= #[.bool s8,.slice Y Z W]) rfl o5 rfl rfl rfl rfl;go_wp2;go_roundw
    case rel=>
     refine⟨k+1,aa,au,s8,Y,Z,W,?_⟩;exact St.one (St.less hS)
    case measure=>simp[intOf]<;>omega
  .obtain rfl:k=L:=aa;have D:Hid (fG (zs.take k)=fG zs):=aJ (by rw[Λ (by rw[HL.o];exact κ _)]);rw[D.o] at hS;have C:=(hS.aH 0).cell;have P:=(hS.aH 1).cell;have k3:=(hS.aH 1).frozen;replace hS:=hS.put (W':=((wr.setCell ⟨g4,0,δ⟩ (.bool s5)).setCell ⟨g4,1,δ⟩ (.slice A5 n5 c5))) 1 0 [.bool s5,.slice A5 n5 c5] (cs':= #[.bool s5,.slice A5 n5 c5]) rfl o4 rfl rfl rfl rfl;go_wp2;exact jf rfl rfl rfl (hS.aH 1) ⟨_,rfl,hS.aF 0,hS.ext⟩
def zJ(g B)(x y z:Int)(w){s1 s2 A1 A2 n1 c1 n2 c2}(hc:Calm w g)(hb:Blk w B 40 #[.bool s1,.slice A1 n1 c1,.bool s2,.slice A2 n2 c2])(D:RI w (iv s1 A1 n1 c1) x)(C:RI w (iv s2 A2 n2 c2) y)(F:x.natAbs<lim)(G:y.natAbs<lim)(E:Hid (z=(fG [x,y]:Nat))):
  CV 145 #[.pointer (γ ⟨g,0,δ⟩),.slice (γ ⟨B,0,δ⟩) 2 2] w fun v w'=>RI w' v z:=by
 rw[E.o];refine Am g B 2 [x,y] _ w hc hb rfl aa (fun j u l=> ?_)
 match j,l with
 |0,l=>injection l with l;subst l;exact⟨F,_,_,_,_,rfl,rfl,D⟩
 |1,l=>injection l with l;subst l;exact⟨G,_,_,_,_,rfl,rfl,C⟩
def sN(g B)(x y t z:Int)(w){s1 s2 s3 A1 A2 A3 n1 c1 n2 c2 n3 c3}(hc:Calm w g)(hb:Blk w B 40 #[.bool s1,.slice A1 n1 c1,.bool s2,.slice A2 n2 c2,.bool s3,.slice A3 n3 c3])(D:RI w (iv s1 A1 n1 c1) x)(C:RI w (iv s2 A2 n2 c2) y)(G:RI w (iv s3 A3 n3 c3) t)(H:x.natAbs<lim)(I:y.natAbs<lim)(F:t.natAbs<lim)(E:Hid (z=(fG [x,y,t]:Nat))):
  CV 145 #[.pointer (γ ⟨g,0,δ⟩),.slice (γ ⟨B,0,δ⟩) 3 3] w fun v w'=>RI w' v z:=by
 rw[E.o];refine Am g B 3 [x,y,t] _ w hc hb rfl aa (fun j u l=> ?_)
 match j,l with
 |0,l=>injection l with l;subst l;exact⟨H,_,_,_,_,rfl,rfl,D⟩
 |1,l=>injection l with l;subst l;exact⟨I,_,_,_,_,rfl,rfl,C⟩
 |2,l=>injection l with l;subst l;exact⟨F,_,_,_,_,rfl,rfl,G⟩
def Oa(g B)(x y t u z:Int)(w){s1 s2 s3 s4 A1 A2 A3 A4 n1 c1 n2 c2 n3 c3 n4 c4}(hc:Calm w g)(hb:Blk w B 40 #[.bool s1,.slice A1 n1 c1,.bool s2,.slice A2 n2 c2,.bool s3,.slice A3 n3 c3,.bool s4,.slice A4 n4 c4])(F:RI w (iv s1 A1 n1 c1) x)(C:RI w (iv s2 A2 n2 c2) y)(I:RI w (iv s3 A3 n3 c3) t)(D:RI w (iv s4 A4 n4 c4) u)(J:x.natAbs<lim)(K:y.natAbs<lim)(G:t.natAbs<lim)(H:u.natAbs<lim)(E:Hid (z=(fG [x,y,t,u]:Nat))):
  CV 145 #[.pointer (γ ⟨g,0,δ⟩),.slice (γ ⟨B,0,δ⟩) 4 4] w fun v w'=>RI w' v z:=by
 rw[E.o];refine Am g B 4 [x,y,t,u] _ w hc hb rfl aa (fun j q l=> ?_)
 match j,l with
 |0,l=>injection l with l;subst l;exact⟨J,_,_,_,_,rfl,rfl,F⟩
 |1,l=>injection l with l;subst l;exact⟨K,_,_,_,_,rfl,rfl,C⟩
 |2,l=>injection l with l;subst l;exact⟨G,_,_,_,_,rfl,rfl,I⟩
 |3,l=>injection l with l;subst l;exact⟨H,_,_,_,_,rfl,rfl,D⟩
def Ei{P:Program}{ops:Array Oper}{w0:World}{E:Nat->Bool}{Φ:Nat->Nat->Nat->Value->World->Prop}{Qt:Book->Act->Prop}{o:Oper}{l:List Oper}{k:Nat}{F:Book}{a:Act}{G:Value->World->Prop}{f:FuncId}{args:Array Value}{Q:Bool->Option Addr->Nat->Nat->Nat->Nat->Prop}(x:∀W,Kn ops w0 Φ k F W->Calls P f args W (fun e w'=>∃v,e=.returned v/\G v w'/\Ext W w'))(h:∀s A n c lo hi,Q s A n c lo hi)(t:(∀W,Kn ops w0 Φ k F W->Calls P f args W (fun e w'=>∃v,e=.returned v/\G v w'/\Ext W w'))->(∀s A n c lo hi,Q s A n c lo hi)->wpT P ops w0 E Φ Qt (o::l) k F a:=by
   intro x h;refine dR (by rfl) (by rfl) (by rfl) ?_ ?_
   .intro W J;have y:=x W J;clear x h J;go_simp;exact⟨rfl,y.mono fun e w' ⟨v,U,hv,C⟩=>⟨v,U,C,hv⟩⟩
   .intro v lo hi B;obtain⟨W,j⟩:=B;obtain⟨s,A,n,c,rfl,-⟩:=RI.opn j.get;clear j W x;(try simp only[Act.put,qa,Z4,Z5]);exact h s A n c lo hi):wpT P ops w0 E Φ Qt (o::l) k F a:=t x h
def Eg{P:Program}{ops:Array Oper}{w0:World}{E:Nat->Bool}{Φ:Nat->Nat->Nat->Value->World->Prop}{Qt:Book->Act->Prop}{o:Oper}{l:List Oper}{k:Nat}{F:Book}{a:Act}{G:Value->World->Prop}{f:FuncId}{args:Array Value}{Q:Bool->Option Addr->Nat->Nat->Bool->Option Addr->Nat->Nat->Bool->Option Addr->Nat->Nat->Nat->Nat->Prop}(x:∀W,Kn ops w0 Φ k F W->Calls P f args W (fun e w'=>∃v,e=.returned v/\G v w'/\Ext W w'))(h:∀sa j na C L B nb K I D nd H lo hi,Q sa j na C L B nb K I D nd H lo hi)(t:(∀W,Kn ops w0 Φ k F W->Calls P f args W (fun e w'=>∃v,e=.returned v/\G v w'/\Ext W w'))->(∀sa j na C L B nb K I D nd H lo hi,Q sa j na C L B nb K I D nd H lo hi)->wpT P ops w0 E Φ Qt (o::l) k F a:=by
   intro x h;refine dR (by rfl) (by rfl) (by rfl) ?_ ?_
   .intro W J;have y:=x W J;clear x h J;go_simp;exact⟨rfl,y.mono fun e w' ⟨v,U,hv,O⟩=>⟨v,U,O,hv⟩⟩
   .intro v lo hi N;obtain⟨W,M⟩:=N;obtain⟨sa,j,na,C,L,B,nb,K,I,D,nd,H,rfl,-,-,-⟩:=M.get;clear M W x;(try simp only[Act.put,qa,Z4,Z5]);exact h sa j na C L B nb K I D nd H lo hi):wpT P ops w0 E Φ Qt (o::l) k F a:=t x h
section
variable {w W w0:World} {bs:List Bk} {fs:List Nm} {Φ:Nat->Nat->Nat->Value->World->Prop} {F:Book} {p:Prop}
def St.aI(h:St w W bs fs)(J:dS w0 Φ F W)(i:Nat){v:Value}{lo hi:Nat}{z:Int}(l:F i=γ (v,lo,hi):=by rfl)(j:Φ i lo hi v W=RI W v z:=by rfl):St w W bs (nz v z::fs):=h.aX (j ▸ J.at_ i l)
section
variable {s1 s2 s3 s4 s5 s6:Bool} {A1 A2 A3 A4 A5 A6:Option Addr} {n1 n2 n3 n4 n5 n6 c1 c2 c3 c4 c5 c6:Nat}
def St.aG(h:St w W bs fs)(J:dS w0 Φ F W)(i:Nat){lo hi:Nat}{a b d:Int}(l:F i=γ (gv s1 A1 n1 c1 s2 A2 n2 c2 s3 A3 n3 c3,lo,hi):=by rfl)(j:Φ i lo hi (gv s1 A1 n1 c1 s2 A2 n2 c2 s3 A3 n3 c3) W=RG W (gv s1 A1 n1 c1 s2 A2 n2 c2 s3 A3 n3 c3) a b d:=by rfl):St w W bs (nz (iv s3 A3 n3 c3) d::nz (iv s2 A2 n2 c2) b::nz (iv s1 A1 n1 c1) a::fs):=
 have x:RG W _ a b d:=j ▸ J.at_ i l
 ((h.aX x.at1).aX x.at2).aX x.at3
def St.aP(h:St w W bs fs)(J:dS w0 Φ F W)(i:Nat){lo hi:Nat}{a b d x y z e:Int}(l:F i=γ (.tuple #[pv s1 A1 n1 c1 s2 A2 n2 c2 s3 A3 n3 c3 s4 A4 n4 c4 s5 A5 n5 c5 s6 A6 n6 c6,.int .i64 e],lo,hi):=by rfl)(j:Φ i lo hi (.tuple #[pv s1 A1 n1 c1 s2 A2 n2 c2 s3 A3 n3 c3 s4 A4 n4 c4 s5 A5 n5 c5 s6 A6 n6 c6,.int .i64 e]) W=∃u,Value.tuple #[pv s1 A1 n1 c1 s2 A2 n2 c2 s3 A3 n3 c3 s4 A4 n4 c4 s5 A5 n5 c5 s6 A6 n6 c6,.int .i64 e]=.tuple #[u,.int .i64 e]/\RP W u a b d x y z:=by rfl):St w W bs (nz (iv s6 A6 n6 c6) z::nz (iv s5 A5 n5 c5) y::nz (iv s4 A4 n4 c4) x::nz (iv s3 A3 n3 c3) d::nz (iv s2 A2 n2 c2) b::nz (iv s1 A1 n1 c1) a::fs):=
 have r:=ae7 (j ▸ J.at_ i l)
 (((((h.aX r.at1).aX r.at2).aX r.at3).aX r.at4).aX r.at5).aX r.at6
end
def St.aB(h:St w W bs fs)(J:dS w0 Φ F W)(i g:Nat){hi:Nat}{v:Value}{T:TypeId}{cs:Array Value}{r q:Prop}(ha:apart g bs)(l:F i=γ (v,g,hi):=by rfl)(j:Φ i g hi v W=(r/\q/\Blk W g T cs):=by rfl):St w W ((g,T,cs)::bs) fs:=h.wY (j ▸ J.at_ i l).2.2 ha
def St.pt(h:St w W bs fs)(i k:Nat)(B:List Value){g:Nat}{T:TypeId}{cs cs':Array Value}{W':World}{bs':List Bk}(j:Own w g)(e:bs[i]? =γ (g,T,cs):=by rfl)(hn:kD cs=ε:=by kernel_rfl)(l:puts W g k B=W':=by simp only[puts];first|done|rfl)(ec:fI cs k B=cs':=by simp only[fI,qa,Z4,Z5];first|done|rfl)(C:bs.set i (g,T,cs')=bs':=by simp only[Z4,Z5];first|done|rfl):St w W' bs' fs:=h.put i k B e j hn l.symm ec C
def gW{Q:World->Prop}(x:St w W bs fs)(h:∀W,St w W bs fs->Q W)(t:(∃W',W=W'/\St w W' bs fs)->(∀W,St w W bs fs->Q W)->p:=by
  intro x h;obtain⟨W',e,y⟩:=x;rw[e];exact h W' y):p:=t ⟨_,rfl,x⟩ h
def gA1{Q:World->Nat->Prop}(x:St w W bs fs)(j:TypeId)(c1:Array Value)(h:∀W',∀g1,Own w g1->St w W' ((g1,j,c1)::bs) fs->Q W' g1)(t:(∃W' g1,(W.alloc (.cells c1 j))=W'/\W.heap.size=g1/\Own w g1/\St w W' ((g1,j,c1)::bs) fs)->(∀W',∀g1,Own w g1->St w W' ((g1,j,c1)::bs) fs->Q W' g1)->p:=by
  intro x h;obtain⟨W',g1,e,l,B,y⟩:=x;rw[e];(try rw[l]);exact h W' g1 B y):p:=
 t ⟨_,_,rfl,rfl,aeH x.ext ag,(St.al x j c1 ag)⟩ h
def gA2{Q:World->Nat->Nat->Prop}(x:St w W bs fs)(j:TypeId)(c1:Array Value)(l:TypeId)(c2:Array Value)(h:∀W',∀g1,Own w g1->∀g2,Own w g2->St w W' ((g2,l,c2)::(g1,j,c1)::bs) fs->Q W' g1 g2)(t:(∃W' g1 g2,((W.alloc (.cells c1 j)).alloc (.cells c2 l))=W'/\W.heap.size=g1/\Own w g1/\W.heap.size+1=g2/\Own w g2/\St w W' ((g2,l,c2)::(g1,j,c1)::bs) fs)->(∀W',∀g1,Own w g1->∀g2,Own w g2->St w W' ((g2,l,c2)::(g1,j,c1)::bs) fs->Q W' g1 g2)->p:=by
  intro x h;obtain⟨W',g1,g2,e,B,F,D,C,y⟩:=x;rw[e];(try rw[D]);(try rw[B]);exact h W' g1 F g2 C y):p:=
 t ⟨_,_,_,rfl,rfl,aeH x.ext ag,rfl,aeH x.ext ag,(St.al (St.al x j c1 ag) l c2 ag)⟩ h
def gA3{Q:World->Nat->Nat->Nat->Prop}(x:St w W bs fs)(j:TypeId)(c1:Array Value)(l:TypeId)(c2:Array Value)(B:TypeId)(c3:Array Value)(h:∀W',∀g1,Own w g1->∀g2,Own w g2->∀g3,Own w g3->St w W' ((g3,B,c3)::(g2,l,c2)::(g1,j,c1)::bs) fs->Q W' g1 g2 g3)(t:(∃W' g1 g2 g3,(((W.alloc (.cells c1 j)).alloc (.cells c2 l)).alloc (.cells c3 B))=W'/\W.heap.size=g1/\Own w g1/\W.heap.size+1=g2/\Own w g2/\W.heap.size+2=g3/\Own w g3/\St w W' ((g3,B,c3)::(g2,l,c2)::(g1,j,c1)::bs) fs)->(∀W',∀g1,Own w g1->∀g2,Own w g2->∀g3,Own w g3->St w W' ((g3,B,c3)::(g2,l,c2)::(g1,j,c1)::bs) fs->Q W' g1 g2 g3)->p:=by
  intro x h;obtain⟨W',g1,g2,g3,e,H,F,D,C,I,G,y⟩:=x;rw[e];(try rw[I]);(try rw[D]);(try rw[H]);exact h W' g1 F g2 C g3 G y):p:=
 t ⟨_,_,_,_,rfl,rfl,aeH x.ext ag,rfl,aeH x.ext ag,rfl,aeH x.ext ag,(St.al (St.al (St.al x j c1 ag) l c2 ag) B c3 ag)⟩ h
def gA4{Q:World->Nat->Nat->Nat->Nat->Prop}(x:St w W bs fs)(j:TypeId)(c1:Array Value)(l:TypeId)(c2:Array Value)(B:TypeId)(c3:Array Value)(C:TypeId)(c4:Array Value)(h:∀W',∀g1,Own w g1->∀g2,Own w g2->∀g3,Own w g3->∀g4,Own w g4->St w W' ((g4,C,c4)::(g3,B,c3)::(g2,l,c2)::(g1,j,c1)::bs) fs->Q W' g1 g2 g3 g4)(t:(∃W' g1 g2 g3 g4,((((W.alloc (.cells c1 j)).alloc (.cells c2 l)).alloc (.cells c3 B)).alloc (.cells c4 C))=W'/\W.heap.size=g1/\Own w g1/\W.heap.size+1=g2/\Own w g2/\W.heap.size+2=g3/\Own w g3/\W.heap.size+3=g4/\Own w g4/\St w W' ((g4,C,c4)::(g3,B,c3)::(g2,l,c2)::(g1,j,c1)::bs) fs)->(∀W',∀g1,Own w g1->∀g2,Own w g2->∀g3,Own w g3->∀g4,Own w g4->St w W' ((g4,C,c4)::(g3,B,c3)::(g2,l,c2)::(g1,j,c1)::bs) fs->Q W' g1 g2 g3 g4)->p:=by
  intro x h;obtain⟨W',g1,g2,g3,g4,e,J,G,F,D,K,H,L,I,y⟩:=x;rw[e];(try rw[L]);(try rw[K]);(try rw[F]);(try rw[J]);exact h W' g1 G g2 D g3 H g4 I y):p:=
 t ⟨_,_,_,_,_,rfl,rfl,aeH x.ext ag,rfl,aeH x.ext ag,rfl,aeH x.ext ag,rfl,aeH x.ext ag,(St.al (St.al (St.al (St.al x j c1 ag) l c2 ag) B c3 ag) C c4 ag)⟩ h
def gA5{Q:World->Nat->Nat->Nat->Nat->Nat->Prop}(x:St w W bs fs)(j:TypeId)(c1:Array Value)(l:TypeId)(c2:Array Value)(B:TypeId)(c3:Array Value)(C:TypeId)(c4:Array Value)(D:TypeId)(c5:Array Value)(h:∀W',∀g1,Own w g1->∀g2,Own w g2->∀g3,Own w g3->∀g4,Own w g4->∀g5,Own w g5->St w W' ((g5,D,c5)::(g4,C,c4)::(g3,B,c3)::(g2,l,c2)::(g1,j,c1)::bs) fs->Q W' g1 g2 g3 g4 g5)(t:(∃W' g1 g2 g3 g4 g5,(((((W.alloc (.cells c1 j)).alloc (.cells c2 l)).alloc (.cells c3 B)).alloc (.cells c4 C)).alloc (.cells c5 D))=W'/\W.heap.size=g1/\Own w g1/\W.heap.size+1=g2/\Own w g2/\W.heap.size+2=g3/\Own w g3/\W.heap.size+3=g4/\Own w g4/\W.heap.size+4=g5/\Own w g5/\St w W' ((g5,D,c5)::(g4,C,c4)::(g3,B,c3)::(g2,l,c2)::(g1,j,c1)::bs) fs)->(∀W',∀g1,Own w g1->∀g2,Own w g2->∀g3,Own w g3->∀g4,Own w g4->∀g5,Own w g5->St w W' ((g5,D,c5)::(g4,C,c4)::(g3,B,c3)::(g2,l,c2)::(g1,j,c1)::bs) fs->Q W' g1 g2 g3 g4 g5)->p:=by
  intro x h;obtain⟨W',g1,g2,g3,g4,g5,e,M,J,I,H,N,K,O,L,F,G,y⟩:=x;rw[e];(try rw[F]);(try rw[O]);(try rw[N]);(try rw[I]);(try rw[M]);exact h W' g1 J g2 H g3 K g4 L g5 G y):p:=
 t ⟨_,_,_,_,_,_,rfl,rfl,aeH x.ext ag,rfl,aeH x.ext ag,rfl,aeH x.ext ag,rfl,aeH x.ext ag,rfl,aeH x.ext ag,(St.al (St.al (St.al (St.al (St.al x j c1 ag) l c2 ag) B c3 ag) C c4 ag) D c5 ag)⟩ h
end
def an1(w:World)(j:TypeId)(c1:Array Value):Ext w (w.alloc (.cells c1 j))/\Blk (w.alloc (.cells c1 j)) w.heap.size j c1:=⟨(Ext.trans (Ext.refl w) (Ext.new _ _)),(aeE _ _ ag)⟩
def ah1(w:World)(j:TypeId)(c1:Array Value):Hid (Ext w (w.alloc (.cells c1 j)))/\Hid (Blk (w.alloc (.cells c1 j)) w.heap.size j c1):=⟨aJ (Ext.trans (Ext.refl w) (Ext.new _ _)),aJ (aeE _ _ ag)⟩
def an2(w:World)(j:TypeId)(c1:Array Value)(l:TypeId)(c2:Array Value):Ext w ((w.alloc (.cells c1 j)).alloc (.cells c2 l))/\Blk ((w.alloc (.cells c1 j)).alloc (.cells c2 l)) w.heap.size j c1/\Blk ((w.alloc (.cells c1 j)).alloc (.cells c2 l)) (w.heap.size+1) l c2:=⟨(Ext.trans (Ext.trans (Ext.refl w) (Ext.new _ _)) (Ext.new _ _)),(Blk.alloc (aeE _ _ ag) _),(aeE _ _ ag)⟩
def ah2(w:World)(j:TypeId)(c1:Array Value)(l:TypeId)(c2:Array Value):Hid (Ext w ((w.alloc (.cells c1 j)).alloc (.cells c2 l)))/\Hid (Blk ((w.alloc (.cells c1 j)).alloc (.cells c2 l)) w.heap.size j c1)/\Hid (Blk ((w.alloc (.cells c1 j)).alloc (.cells c2 l)) (w.heap.size+1) l c2):=⟨aJ (Ext.trans (Ext.trans (Ext.refl w) (Ext.new _ _)) (Ext.new _ _)),aJ (Blk.alloc (aeE _ _ ag) _),aJ (aeE _ _ ag)⟩
def an3(w:World)(j:TypeId)(c1:Array Value)(l:TypeId)(c2:Array Value)(B:TypeId)(c3:Array Value):Ext w (((w.alloc (.cells c1 j)).alloc (.cells c2 l)).alloc (.cells c3 B))/\Blk (((w.alloc (.cells c1 j)).alloc (.cells c2 l)).alloc (.cells c3 B)) w.heap.size j c1/\Blk (((w.alloc (.cells c1 j)).alloc (.cells c2 l)).alloc (.cells c3 B)) (w.heap.size+1) l c2/\Blk (((w.alloc (.cells c1 j)).alloc (.cells c2 l)).alloc (.cells c3 B)) (w.heap.size+2) B c3:=⟨(Ext.trans (Ext.trans (Ext.trans (Ext.refl w) (Ext.new _ _)) (Ext.new _ _)) (Ext.new _ _)),(Blk.alloc (Blk.alloc (aeE _ _ ag) _) _),(Blk.alloc (aeE _ _ ag) _),(aeE _ _ ag)⟩
def ah3(w:World)(j:TypeId)(c1:Array Value)(l:TypeId)(c2:Array Value)(B:TypeId)(c3:Array Value):Hid (Ext w (((w.alloc (.cells c1 j)).alloc (.cells c2 l)).alloc (.cells c3 B)))/\Hid (Blk (((w.alloc (.cells c1 j)).alloc (.cells c2 l)).alloc (.cells c3 B)) w.heap.size j c1)/\Hid (Blk (((w.alloc (.cells c1 j)).alloc (.cells c2 l)).alloc (.cells c3 B)) (w.heap.size+1) l c2)/\Hid (Blk (((w.alloc (.cells c1 j)).alloc (.cells c2 l)).alloc (.cells c3 B)) (w.heap.size+2) B c3):=⟨aJ (Ext.trans (Ext.trans (Ext.trans (Ext.refl w) (Ext.new _ _)) (Ext.new _ _)) (Ext.new _ _)),aJ (Blk.alloc (Blk.alloc (aeE _ _ ag) _) _),aJ (Blk.alloc (aeE _ _ ag) _),aJ (aeE _ _ ag)⟩
def an4(w:World)(j:TypeId)(c1:Array Value)(l:TypeId)(c2:Array Value)(B:TypeId)(c3:Array Value)(C:TypeId)(c4:Array Value):Ext w ((((w.alloc (.cells c1 j)).alloc (.cells c2 l)).alloc (.cells c3 B)).alloc (.cells c4 C))/\Blk ((((w.alloc (.cells c1 j)).alloc (.cells c2 l)).alloc (.cells c3 B)).alloc (.cells c4 C)) w.heap.size j c1/\Blk ((((w.alloc (.cells c1 j)).alloc (.cells c2 l)).alloc (.cells c3 B)).alloc (.cells c4 C)) (w.heap.size+1) l c2/\Blk ((((w.alloc (.cells c1 j)).alloc (.cells c2 l)).alloc (.cells c3 B)).alloc (.cells c4 C)) (w.heap.size+2) B c3/\Blk ((((w.alloc (.cells c1 j)).alloc (.cells c2 l)).alloc (.cells c3 B)).alloc (.cells c4 C)) (w.heap.size+3) C c4:=⟨(Ext.trans (Ext.trans (Ext.trans (Ext.trans (Ext.refl w) (Ext.new _ _)) (Ext.new _ _)) (Ext.new _ _)) (Ext.new _ _)),(Blk.alloc (Blk.alloc (Blk.alloc (aeE _ _ ag) _) _) _),(Blk.alloc (Blk.alloc (aeE _ _ ag) _) _),(Blk.alloc (aeE _ _ ag) _),(aeE _ _ ag)⟩
def ah4(w:World)(j:TypeId)(c1:Array Value)(l:TypeId)(c2:Array Value)(B:TypeId)(c3:Array Value)(C:TypeId)(c4:Array Value):Hid (Ext w ((((w.alloc (.cells c1 j)).alloc (.cells c2 l)).alloc (.cells c3 B)).alloc (.cells c4 C)))/\Hid (Blk ((((w.alloc (.cells c1 j)).alloc (.cells c2 l)).alloc (.cells c3 B)).alloc (.cells c4 C)) w.heap.size j c1)/\Hid (Blk ((((w.alloc (.cells c1 j)).alloc (.cells c2 l)).alloc (.cells c3 B)).alloc (.cells c4 C)) (w.heap.size+1) l c2)/\Hid (Blk ((((w.alloc (.cells c1 j)).alloc (.cells c2 l)).alloc (.cells c3 B)).alloc (.cells c4 C)) (w.heap.size+2) B c3)/\Hid (Blk ((((w.alloc (.cells c1 j)).alloc (.cells c2 l)).alloc (.cells c3 B)).alloc (.cells c4 C)) (w.heap.size+3) C c4):=⟨aJ (Ext.trans (Ext.trans (Ext.trans (Ext.trans (Ext.refl w) (Ext.new _ _)) (Ext.new _ _)) (Ext.new _ _)) (Ext.new _ _)),aJ (Blk.alloc (Blk.alloc (Blk.alloc (aeE _ _ ag) _) _) _),aJ (Blk.alloc (Blk.alloc (aeE _ _ ag) _) _),aJ (Blk.alloc (aeE _ _ ag) _),aJ (aeE _ _ ag)⟩
section
variable {w W:World} {Φ:Nat->Nat->Nat->Value->World->Prop} {F:Book}
def dS.lw(h:dS w Φ F W)(i:Nat){v:Value}{g hi:Nat}(j:F i=γ (v,g,hi):=by rfl):w.heap.size<=g:=h.low i _ j
def dS.hB(h:dS w Φ F W)(i:Nat){v:Value}{g hi:Nat}{T:TypeId}{cs:Array Value}{r q:Prop}(l:F i=γ (v,g,hi):=by rfl)(j:Φ i g hi v W=(r/\q/\Blk W g T cs):=by rfl):Hid (Blk W g T cs):=aJ (j ▸ h.at_ i l).2.2
def dS.nn(h:dS w Φ F W)(i j:Nat){v u:Value}{g g' hi B:Nat}(l:g<hi)(D:g'<B)(G:F i=γ (v,g,hi):=by rfl)(C:F j=γ (u,g',B):=by rfl)(hn:i≠j:=by decide):g≠g':=Km l D (h.disj i j _ _ hn G C)
end
def apF{bs:List Bk}{L g:Nat}(h:∀p∈bs,p.1<L)(l:L<=g):apart g bs:=Bw fun p hp=>adP (π (h p hp) l)
def tF{P:Program}{L:Nat}{Q:Exit->Act->World->Prop}{a:Act}{w:World}{l:List Oper}(n:Nat)(m:List (Nat×Fc)){q:Prop}(h:q)(t:q->wpT P l.toArray w (UD m) (Fcs m) (fun F a'=>∀w',dS w (Fcs m) F w'->wpList P l.toArray Q (l.drop n) a' w') (l.take n) 0 Book.none a:=by
   intro h;simp only[aao,abj,ρ,χ];exact h)(j:P.follows .mixedOrders=ε:=by kernel_rfl)(O:Region.lexTailB .any l.toArray n=ε:=by kernel_rfl):(Code.region L l.toArray ε).wp P Q a w:=iV n (UD m) (Fcs m) (PD _) j O (t h)
def KL(v z w)(F:RI w v z)(h:z=1):
  CE 144 #[v] w (.bool ε):=by
 have:=wW v z w F;rwa[show decide (z=1)=ε by simpa using h] at this
def Uv(v z w)(F:RI w v z)(h:z≠1):
  CE 144 #[v] w (.bool ζ):=by
 have:=wW v z w F;rwa[show decide (z=1)=ζ by simpa using h] at this
def LX(v u x y q r w)(F:RI w v x)(l:RI w u y)(D:x.natAbs<lim)(L:y.natAbs<lim)(j:y≠0)(hq:q=x/y)(B:r=x%y):
  CV 195 #[v,u] w fun v w'=>UQ q r 0 v w':=by
 subst hq B;exact Mq v u x y w F l D L j
def xD(V v1 Z m2 w)(hc:Calm w V)(S:RI w v1 Z)(Wj:Z.natAbs<lim)(l2: -9223372036854775808<=m2)(u2:m2<=9223372036854775807)(K)(R:Hid (K=Z*(m2)))(O:K.natAbs<lim):
  CV 165 #[.pointer (γ ⟨V,0,δ⟩),v1,.int .i64 m2] w fun v w'=>RI w' v K:=by
 have hS:=aeK w;obtain⟨G,D,H,B,rfl,Y⟩:=S.opn;replace hS:=hS.aX Y;clear S Y;replace hS:=hS.wY hc trivial;clear hc;go_enter func165,ntmps165;(go_wp2_with fail);refine gA2 hS 40 #[.bool G,.slice D H B] 40 #[.bool ζ,.slice δ 0 0] ?_;clear hS;intro w1 g4 o4 g6 o6 hS;have Y4:=aK.blk (hS.aH 1);have N:=hS.ext;refine tF 5 [(3,.ri ((m2))),(4,.ri (K))] ?_;refine Qs ?_;refine Ei (fun T J=>AJ (m2) _ l2 u2) ?_;intro P I l M W U;refine Ei (fun T J=>iy V _ _ Z (m2) K _ (Blk.ext (hS.aH 2) J.1) (hS.aD 0 J.1) (J.f 3 ((iv P I l M),W,U)) Wj (sH l2 u2) R.o O) ?_;intro L Q F C WN YA;refine bz ?_;intro w2 J;have j:=hS.lt;replace hS:=hS.mv J.ext;replace hS:=hS.aI J 3;replace hS:=hS.aI J 4;clear J j N Y4;have WH:=(hS.aH 0).cell;have WF:=(hS.aH 0).frozen;go_wp2;replace hS:=hS.pt 0 0 [.bool L,.slice Q F C] o6;exact jf rfl rfl rfl (hS.aH 0) ⟨_,rfl,(hS.aF 0),hS.ext⟩
def NH(V v1 P v2 N w)(hc:Calm w V)(j:RI w v1 P)(T:P.natAbs<lim)(J:RI w v2 N)(Wx:N.natAbs<lim)(H1:Hid (N=1)):
  CV 166 #[.pointer (γ ⟨V,0,δ⟩),v1,v2] w fun v w'=>RI w' v P:=by
 have hS:=aeK w;obtain⟨G,D,H,B,rfl,Y⟩:=j.opn;replace hS:=hS.aX Y;clear j Y;obtain⟨R,L,O,Q,rfl,K⟩:=J.opn;replace hS:=hS.aX K;clear J K;replace hS:=hS.wY hc trivial;clear hc;have l:=(St.al (St.al (St.al hS 40 #[.bool G,.slice D H B] (g:=w.heap.size) ag) 40 #[.bool R,.slice L O Q] (g:=(w.heap.size+1)) ag) 40 #[.bool ζ,.slice δ 0 0] (g:=(w.heap.size+2)) ag);have W:=(l.aH 1).cell;go_enter func166,ntmps166;(go_wp2_with fail);clear W;clear l;refine gA3 hS 40 #[.bool G,.slice D H B] 40 #[.bool R,.slice L O Q] 40 #[.bool ζ,.slice δ 0 0] ?_;clear hS;intro w1 g4 o4 g5 o5 g6 o6 hS;refine(KL _ N _ (hS.aF 0) H1.o).mono ?_;rintro e w2 ⟨rfl,F⟩;replace hS:=hS.mv F;clear F;have U:=(hS.aH 2).cell;(go_wp2_with fail);clear U;refine(lG _ P _ (hS.aF 1) T).mono ?_;rintro e w3 ⟨v_,rfl,M,F⟩;replace hS:=hS.mv F;clear F;obtain⟨S,I,Z,c13,rfl,C⟩:=RI.opn M;clear M;replace hS:=hS.aX C;clear C;have WX:=(hS.aH 0).cell;have WY:=(hS.aH 0).frozen;go_wp2;replace hS:=hS.pt 0 0 [.bool S,.slice I Z c13] o6;exact jf rfl rfl rfl (hS.aH 0) ⟨_,rfl,(hS.aF 0),hS.ext⟩
def Qv(V v1 x1 v2 x2 w)(hc:Calm w V)(Wu:RI w v1 x1)(Wj:x1.natAbs<lim)(WA:RI w v2 x2)(Wx:x2.natAbs<lim)(H1:Hid (x2≠1))(j)(Wq:Hid (j=x1/x2))(Wt:j.natAbs<lim)(Wo)(Wp:Hid (Wo=x1%x2))(Ws:Hid (x2≠0)):
  CV 166 #[.pointer (γ ⟨V,0,δ⟩),v1,v2] w fun v w'=>RI w' v j:=by
 have hS:=aeK w;obtain⟨G,D,H,B,rfl,Y⟩:=Wu.opn;replace hS:=hS.aX Y;clear Wu Y;obtain⟨R,L,O,Q,rfl,Wl⟩:=WA.opn;replace hS:=hS.aX Wl;clear WA Wl;replace hS:=hS.wY hc trivial;clear hc;have l:=(St.al (St.al (St.al hS 40 #[.bool G,.slice D H B] (g:=w.heap.size) ag) 40 #[.bool R,.slice L O Q] (g:=(w.heap.size+1)) ag) 40 #[.bool ζ,.slice δ 0 0] (g:=(w.heap.size+2)) ag);have WH:=(l.aH 1).cell;go_enter func166,ntmps166;(go_wp2_with fail);clear WH;clear l;refine gA3 hS 40 #[.bool G,.slice D H B] 40 #[.bool R,.slice L O Q] 40 #[.bool ζ,.slice δ 0 0] ?_;clear hS;intro w1 g4 o4 g5 o5 g6 o6 hS;refine(Uv _ x2 _ (hS.aF 0) H1.o).mono ?_;rintro e w2 ⟨rfl,F⟩;replace hS:=hS.mv F;clear F;have WF:=(hS.aH 2).cell;have WX:=(hS.aH 1).cell;(go_wp2_with fail);clear WF WX;refine(LX _ _ x1 x2 j Wo _ (hS.aF 1) (hS.aF 0) Wj Wx Ws.o Wq.o Wp.o).mono ?_;rintro e w3 ⟨v_,rfl,M,F⟩;replace hS:=hS.mv F;clear F;obtain⟨_,_,rfl,U,W⟩:=M;obtain⟨T,C,P,K,rfl,J⟩:=RI.opn U;obtain⟨Wm,N,Z,Wn,rfl,I⟩:=RI.opn W;clear U W;replace hS:=hS.aX J;clear J;replace hS:=hS.aX I;clear I;have Wz:=(St.al (St.al hS 40 #[.bool ζ,.slice δ 0 0] (g:=w3.heap.size) ag) 40 #[.bool ζ,.slice δ 0 0] (g:=(w3.heap.size+1)) ag);have WY:=(Wz.aH 1).cell;have WZ:=(Wz.aH 1).frozen;have Xb:=(St.al (St.al hS 40 #[.bool T,.slice C P K] (g:=w3.heap.size) ag) 40 #[.bool ζ,.slice δ 0 0] (g:=(w3.heap.size+1)) ag);have Xc:=(Xb.aH 0).cell;have Xj:=(Xb.aH 0).frozen;have Wv:=(St.al (St.al hS 40 #[.bool T,.slice C P K] (g:=w3.heap.size) ag) 40 #[.bool Wm,.slice N Z Wn] (g:=(w3.heap.size+1)) ag);have XD:=(Wv.aH 1).cell;(go_wp2_with fail);clear WY WZ Xc Xj XD;clear Wz Xb Wv;refine gA2 hS 40 #[.bool T,.slice C P K] 40 #[.bool Wm,.slice N Z Wn] ?_;clear hS;intro w4 g7 o7 g8 o8 hS;refine(uw V _ j _ (hS.aH 5) (hS.aF 1)).mono ?_;rintro e w5 ⟨v_,rfl,M,F⟩;replace hS:=hS.mv F;clear F;obtain⟨Yy,WI,Yz,YK,rfl,S⟩:=RI.opn M;clear M;replace hS:=hS.aX S;clear S;have XF:=(hS.aH 2).cell;have Xo:=(hS.aH 2).frozen;go_wp2;replace hS:=hS.pt 2 0 [.bool Yy,.slice WI Yz YK] o6;exact jf rfl rfl rfl (hS.aH 2) ⟨_,rfl,(hS.aF 0),hS.ext⟩
def rH{x y:Int}(D:x.natAbs<lim)(l:y∣x):(x/y).natAbs<lim:=by
 obtain⟨k,rfl⟩:=l;by_cases j:y=0
 .subst j;simpa using Ko
 .rw[acZ _ j];rw[Ej] at D;exact nH (abw _ aa) D
def fK(V a b x y z w)(hc:Calm w V)(F:RI w a x)(l:RI w b y)(D:x.natAbs<lim)(L:y.natAbs<lim)(C:y≠0)(hd:y∣x)(B:z=x/y):
  CV 166 #[.pointer (γ ⟨V,0,δ⟩),a,b] w fun v w'=>RI w' v z:=by
 by_cases j:y=1
 .have e:z=x:=by rw[B,j];omega
  rw[e];exact NH V a x b y w hc F D l L (aJ j)
 .subst B;exact Qv V a x b y w hc F D l L (aJ j) _ (aJ rfl) (rH D hd) _ (aJ rfl) (aJ C)
theorem Nv{x}(h:x<0):pY x 0= -1:=by unfold pY;rw[ι h]
theorem Gx{x}(h:0<x):pY x 0=1:=by unfold pY;rw[θ aa,ι h]
def Ez(v x k w)(F:RI w v x)(D:x.natAbs<lim)(h:pY x 0=k):
  CE 143 #[v] w (.int .i64 k):=by
 have:=Sl v x w F D;rwa[h] at this
def Fb(V v1)(x1:Int)(v2)(x2:Int)(v3)(x3:Int)(w)(hc:Calm w V)(Wu:RI w v1 x1)(Wj:x1.natAbs<lim)(WA:RI w v2 x2)(Wx:x2.natAbs<lim)(WC:RI w v3 x3)(WI:x3.natAbs<lim)(H1:Hid (x3<0))(I:Int)(W9:Hid (I=(fG [x3,x1,x2]:Nat)))(Ww:I.natAbs<lim)(W:Int)(Xi:Hid (W= -I))(Wt:W.natAbs<lim)(K:Int)(WS:Hid (K=x1/W))(WT:K.natAbs<lim)(Xm:Hid (W≠0))(WE:Hid (W∣x1))(Wn:Int)(Xd:Hid (Wn=x2/W))(Xh:Wn.natAbs<lim)(Xf:Hid (W≠0))(WQ:Hid (W∣x2))(C:Int)(Xr:Hid (C=x3/W))(YD:C.natAbs<lim)(XZ:Hid (W≠0))(WP:Hid (W∣x3)):
  CV 139 #[.pointer (γ ⟨V,0,δ⟩),v1,v2,v3] w fun v w'=>RG w' v K Wn C:=by
 have hS:=aeK w;obtain⟨G,D,H,B,rfl,Y⟩:=Wu.opn;replace hS:=hS.aX Y;clear Wu Y;obtain⟨R,L,O,Q,rfl,Wl⟩:=WA.opn;replace hS:=hS.aX Wl;clear WA Wl;obtain⟨S,Z,Wm,U,rfl,WL⟩:=WC.opn;replace hS:=hS.aX WL;clear WC WL;replace hS:=hS.wY hc trivial;clear hc;have l:=(St.al (St.al (St.al (St.al hS 40 #[.bool G,.slice D H B] (g:=w.heap.size) ag) 40 #[.bool R,.slice L O Q] (g:=(w.heap.size+1)) ag) 40 #[.bool S,.slice Z Wm U] (g:=(w.heap.size+2)) ag) 42 #[.bool ζ,.slice δ 0 0,.bool ζ,.slice δ 0 0,.bool ζ,.slice δ 0 0] (g:=(w.heap.size+3)) ag);have WH:=(l.aH 1).cell;have WF:=(l.aH 3).cell;have WX:=(l.aH 2).cell;go_enter func139,ntmps139;(go_wp2_with fail);clear WH WF WX;clear l;refine gA5 hS 40 #[.bool G,.slice D H B] 40 #[.bool R,.slice L O Q] 40 #[.bool S,.slice Z Wm U] 42 #[.bool ζ,.slice δ 0 0,.bool ζ,.slice δ 0 0,.bool ζ,.slice δ 0 0] 40 #[.bool S,.slice Z Wm U,.bool G,.slice D H B,.bool R,.slice L O Q] ?_;clear hS;intro w1 g5 o5 g6 o6 g7 o7 g8 o8 Xa Ym hS;refine(sN V Xa x3 x1 x2 I _ (hS.aH 5) (hS.aH 0) (hS.aF 0) (hS.aF 2) (hS.aF 1) WI Wj Wx W9).mono ?_;rintro e w2 ⟨v_,rfl,M,F⟩;replace hS:=hS.mv F;clear F;obtain⟨Wp,Ws,Wo,Wq,rfl,P⟩:=RI.opn M;clear M;replace hS:=hS.aX P;clear P;have Wz:=(St.al hS 40 #[.bool ζ,.slice δ 0 0] (g:=w2.heap.size) ag);have WY:=(Wz.aH 0).cell;have WZ:=(Wz.aH 0).frozen;have Xb:=(St.al hS 40 #[.bool Wp,.slice Ws Wo Wq] (g:=w2.heap.size) ag);have Xc:=(Xb.aH 3).cell;(go_wp2_with fail);clear WY WZ Xc;clear Wz Xb;refine gA1 hS 40 #[.bool Wp,.slice Ws Wo Wq] ?_;clear hS;intro w3 g9 o9 hS;refine(Ez _ x3 (-1) _ (hS.aF 1) WI (Nv H1.o)).mono ?_;rintro e w4 ⟨rfl,F⟩;replace hS:=hS.mv F;clear F;have Xj:=(hS.aH 0).cell;(go_wp2_with fail);clear Xj;refine(KP V _ I W _ (hS.aH 6) (hS.aF 0) Ww Xi.o).mono ?_;rintro e w5 ⟨v_,rfl,M,F⟩;replace hS:=hS.mv F;clear F;obtain⟨WG,WV,Wy,WB,rfl,WJ⟩:=RI.opn M;clear M;replace hS:=hS.aX WJ;clear WJ;have XD:=(hS.aH 0).cell;have XF:=(hS.aH 0).frozen;have Wv:=hS.pt 0 0 [.bool WG,.slice WV Wy WB] o9;have Xo:=(Wv.aH 6).cell;(go_wp2_with fail);clear XD XF Xo;clear Wv;replace hS:=hS.pt 0 0 [.bool WG,.slice WV Wy WB] o9;refine gW hS ?_;clear hS;intro w6 hS;have Y9:=aK.blk (hS.aH 0);have Y7:=aK.blk (hS.aH 3);have Y6:=aK.blk (hS.aH 4);have Y5:=aK.blk (hS.aH 5);have N:=hS.ext;refine tF 13 [(3,.ri (K)),(7,.ri (Wn)),(11,.ri (C))] ?_;refine Qs ?_;refine Ei (fun T J=>fK V _ _ x1 W K _ (Blk.ext (hS.aH 6) J.1) (hS.aD 4 J.1) (hS.aD 0 J.1) Wj Wt Xm.o WE.o WS.o) ?_;intro WN WK WO WM XP XN;refine Qs ?_;refine Ei (fun T J=>fK V _ _ x2 W Wn _ (Blk.ext (hS.aH 6) J.1) (hS.aD 3 J.1) (hS.aD 0 J.1) Wx Wt Xf.o WQ.o Xd.o) ?_;intro Xe WU WW Xg Ya X7;refine Qs ?_;refine Ei (fun T J=>fK V _ _ x3 W C _ (Blk.ext (hS.aH 6) J.1) (hS.aD 2 J.1) (hS.aD 0 J.1) WI Wt XZ.o WP.o Xr.o) ?_;intro Xw WR XG Xt XO XQ;refine Qs ?_;refine bz ?_;intro w7 J;have j:=hS.lt;replace hS:=hS.mv J.ext;replace hS:=hS.aI J 3;replace hS:=hS.aI J 7;replace hS:=hS.aI J 11;clear J j N Y9 Y7 Y6 Y5;have XH:=(hS.aH 2).cell;have XI:=(hS.aH 2).frozen;exact AaN
def FT(V v1)(x1:Int)(v2)(x2:Int)(v3)(x3:Int)(w)(hc:Calm w V)(Wu:RI w v1 x1)(Wj:x1.natAbs<lim)(WA:RI w v2 x2)(Wx:x2.natAbs<lim)(WC:RI w v3 x3)(WI:x3.natAbs<lim)(H1:Hid (0<x3))(I:Int)(W9:Hid (I=(fG [x3,x1,x2]:Nat)))(Ww:I.natAbs<lim)(K:Int)(WS:Hid (K=x1/I))(WT:K.natAbs<lim)(Xm:Hid (I≠0))(WE:Hid (I∣x1))(W:Int)(Xd:Hid (W=x2/I))(Xh:W.natAbs<lim)(Xf:Hid (I≠0))(WQ:Hid (I∣x2))(C:Int)(Xr:Hid (C=x3/I))(YD:C.natAbs<lim)(XZ:Hid (I≠0))(WP:Hid (I∣x3)):
  CV 139 #[.pointer (γ ⟨V,0,δ⟩),v1,v2,v3] w fun v w'=>RG w' v K W C:=by
 have hS:=aeK w;obtain⟨G,D,H,B,rfl,Y⟩:=Wu.opn;replace hS:=hS.aX Y;clear Wu Y;obtain⟨R,L,O,Q,rfl,Wl⟩:=WA.opn;replace hS:=hS.aX Wl;clear WA Wl;obtain⟨S,Z,Wm,U,rfl,WL⟩:=WC.opn;replace hS:=hS.aX WL;clear WC WL;replace hS:=hS.wY hc trivial;clear hc;have l:=(St.al (St.al (St.al (St.al hS 40 #[.bool G,.slice D H B] (g:=w.heap.size) ag) 40 #[.bool R,.slice L O Q] (g:=(w.heap.size+1)) ag) 40 #[.bool S,.slice Z Wm U] (g:=(w.heap.size+2)) ag) 42 #[.bool ζ,.slice δ 0 0,.bool ζ,.slice δ 0 0,.bool ζ,.slice δ 0 0] (g:=(w.heap.size+3)) ag);have WH:=(l.aH 1).cell;have WF:=(l.aH 3).cell;have WX:=(l.aH 2).cell;go_enter func139,ntmps139;(go_wp2_with fail);clear WH WF WX;clear l;refine gA5 hS 40 #[.bool G,.slice D H B] 40 #[.bool R,.slice L O Q] 40 #[.bool S,.slice Z Wm U] 42 #[.bool ζ,.slice δ 0 0,.bool ζ,.slice δ 0 0,.bool ζ,.slice δ 0 0] 40 #[.bool S,.slice Z Wm U,.bool G,.slice D H B,.bool R,.slice L O Q] ?_;clear hS;intro w1 g5 o5 g6 o6 g7 o7 g8 o8 Xa Ym hS;refine(sN V Xa x3 x1 x2 I _ (hS.aH 5) (hS.aH 0) (hS.aF 0) (hS.aF 2) (hS.aF 1) WI Wj Wx W9).mono ?_;rintro e w2 ⟨v_,rfl,M,F⟩;replace hS:=hS.mv F;clear F;obtain⟨Wp,Ws,Wo,Wq,rfl,P⟩:=RI.opn M;clear M;replace hS:=hS.aX P;clear P;have Wz:=(St.al hS 40 #[.bool ζ,.slice δ 0 0] (g:=w2.heap.size) ag);have WY:=(Wz.aH 0).cell;have WZ:=(Wz.aH 0).frozen;have Xb:=(St.al hS 40 #[.bool Wp,.slice Ws Wo Wq] (g:=w2.heap.size) ag);have Xc:=(Xb.aH 3).cell;(go_wp2_with fail);clear WY WZ Xc;clear Wz Xb;refine gA1 hS 40 #[.bool Wp,.slice Ws Wo Wq] ?_;clear hS;intro w3 g9 o9 hS;refine(Ez _ x3 (1) _ (hS.aF 1) WI (Gx H1.o)).mono ?_;rintro e w4 ⟨rfl,F⟩;replace hS:=hS.mv F;clear F;have Xj:=(hS.aH 6).cell;(go_wp2_with fail);clear Xj;have Y9:=aK.blk (hS.aH 0);have Y7:=aK.blk (hS.aH 3);have Y6:=aK.blk (hS.aH 4);have Y5:=aK.blk (hS.aH 5);have N:=hS.ext;refine tF 13 [(3,.ri (K)),(7,.ri (W)),(11,.ri (C))] ?_;refine Qs ?_;refine Ei (fun T J=>fK V _ _ x1 I K _ (Blk.ext (hS.aH 6) J.1) (hS.aD 3 J.1) (hS.aD 0 J.1) Wj Ww Xm.o WE.o WS.o) ?_;intro WN WK WO WM XP XN;refine Qs ?_;refine Ei (fun T J=>fK V _ _ x2 I W _ (Blk.ext (hS.aH 6) J.1) (hS.aD 2 J.1) (hS.aD 0 J.1) Wx Ww Xf.o WQ.o Xd.o) ?_;intro Xe WU WW Xg Ya X7;refine Qs ?_;refine Ei (fun T J=>fK V _ _ x3 I C _ (Blk.ext (hS.aH 6) J.1) (hS.aD 1 J.1) (hS.aD 0 J.1) WI Ww XZ.o WP.o Xr.o) ?_;intro Xw WR XG Xt XO XQ;refine Qs ?_;refine bz ?_;intro w5 J;have j:=hS.lt;replace hS:=hS.mv J.ext;replace hS:=hS.aI J 3;replace hS:=hS.aI J 7;replace hS:=hS.aI J 11;clear J j N Y9 Y7 Y6 Y5;have XD:=(hS.aH 2).cell;have XF:=(hS.aH 2).frozen;exact AaN
theorem DJ(a b d):fG [d,a,b]=g3 a b d:=by
 unfold fG g3;simp[aa8]
def Vz{a b d}(ha:a.natAbs<lim)(hb:b.natAbs<lim)(hd:d.natAbs<lim):g3 a b d<lim:=by
 rw[<-DJ];refine KW (fun z j=> ?_);simp at j;rcases j with rfl|rfl|rfl<;>assumption
theorem oK(V v1 M K B l j a b d w)(hc:Calm w V)(Q:RI w v1 B)(P:RI w M l)(S:RI w K j)(H:B.natAbs<lim)(I:l.natAbs<lim)(D:j.natAbs<lim)(hd:j≠0)(E:(a,b,d)=nf B l j):
  CV 139 #[.pointer (γ ⟨V,0,δ⟩),v1,M,K] w fun v w'=>RG w' v a b d:=by
 obtain⟨O,N,d3⟩:=N7 B l j;have L:=Iw (a:=B) (b:=l) hd;have C:=Vz H I D;have T:(fG [j,B,l]:Int)=g3 B l j:=by rw[DJ]
 unfold nf gZ sgZ at E;by_cases hn:j<0
 .rw[ι hn] at E;have U:(-1:Int)*(g3 B l j:Int)= -(g3 B l j:Int):=aa;rw[U] at E;injection E with J E;injection E with F G;have n1: -(g3 B l j:Int)≠0:=aa;have q1: -(g3 B l j:Int)∣B:=aep.2 O;have q2: -(g3 B l j:Int)∣l:=aep.2 N;have R: -(g3 B l j:Int)∣j:=aep.2 d3;exact Fb V v1 B M l K j w hc Q H P I S D (aJ hn) _ (aJ T.symm) (by simpa using C) _ (aJ rfl) (by simpa using C) a (aJ J) (by rw[J];exact rH H q1) (aJ n1) (aJ q1) b (aJ F) (by rw[F];exact rH I q2) (aJ n1) (aJ q2) d (aJ G) (by rw[G];exact rH D R) (aJ n1) (aJ R)
 .rw[θ hn,Int.one_mul] at E;injection E with J E;injection E with F G;have n1:(g3 B l j:Int)≠0:=aa;exact FT V v1 B M l K j w hc Q H P I S D (aJ aa) _ (aJ T.symm) (by simpa using C) a (aJ J) (by rw[J];exact rH H O) (aJ n1) (aJ O) b (aJ F) (by rw[F];exact rH I N) (aJ n1) (aJ N) d (aJ G) (by rw[G];exact rH D d3) (aJ n1) (aJ d3)
def Qj(V v1)(WW WV WJ:Int)(m2 v3)(Yb Yi R:Int)(m4 m5 w)(hc:Calm w V)(Wu:RG w v1 WW WV WJ)(Xy:WW.natAbs<lim)(Xx:WV.natAbs<lim)(Xp:WJ.natAbs<lim)(l2: -9223372036854775808<=m2)(u2:m2<=9223372036854775807)(WC:RG w v3 Yb Yi R)(Zj:Yb.natAbs<lim)(ZQ:Yi.natAbs<lim)(X5:R.natAbs<lim)(l4: -9223372036854775808<=m4)(u4:m4<=9223372036854775807)(l5: -9223372036854775808<=m5)(u5:m5<=9223372036854775807)(L:Int)(aE:Hid (L=(fG [WJ,R]:Nat)))(YK:L.natAbs<lim)(K:Int)(WS:Hid (K=R/L))(WT:K.natAbs<lim)(Xm:Hid (L≠0))(WE:Hid (L∣R))(B:Int)(YZ:Hid (B=K*(m2)))(XJ:B.natAbs<lim)(C:Int)(Xr:Hid (C=WJ/L))(YD:C.natAbs<lim)(XZ:Hid (L≠0))(WP:Hid (L∣WJ))(S:Int)(a7:Hid (S=C*(m4)))(YQ:S.natAbs<lim)(O:Int)(ay:Hid (O=WW*B))(ZL:O.natAbs<lim)(H:Int)(a2:Hid (H=Yb*S))(ZO:H.natAbs<lim)(P:Int)(YW:Hid (P=O+H))(Yp:P.natAbs<lim)(Xi:Int)(bh:Hid (Xi=WV*B))(Zi:Xi.natAbs<lim)(Xg:Int)(Z8:Hid (Xg=Yi*S))(Zd:Xg.natAbs<lim)(Xh:Int)(aw:Hid (Xh=Xi+Xg))(YR:Xh.natAbs<lim)(Xk:Int)(be:Hid (Xk=R/L))(ap:Xk.natAbs<lim)(bg:Hid (L≠0))(Zo:Hid (L∣R))(Q:Int)(ai:Hid (Q=WJ*Xk))(ZJ:Q.natAbs<lim)(U:Int)(a5:Hid (U=Q*(m5)))(Zq:U.natAbs<lim)(ar:Hid (U≠0))(Xe Xf WU:Int)(bb:Hid ((Xe,Xf,WU)=nf P Xh U))(bo:Xe.natAbs<lim)(bp:Xf.natAbs<lim)(bk:WU.natAbs<lim):
  CV 128 #[.pointer (γ ⟨V,0,δ⟩),v1,.int .i64 m2,v3,.int .i64 m4,.int .i64 m5] w fun v w'=>RG w' v Xe Xf WU:=by
 have hS:=aeK w;obtain⟨Wq,Wn,Wm,Wp,Ws,Wt,Wo,Wl,Z,Y,I,Wj,rfl,Wx,Wy,Ww⟩:=Wu;replace hS:=hS.aX Wx;clear Wx;replace hS:=hS.aX Wy;clear Wy;replace hS:=hS.aX Ww;clear Ww;obtain⟨Yj,Yx,YA,YC,Yn,Yv,Yw,Yk,Ya,X6,X8,X4,rfl,Yr,Yy,Yz⟩:=WC;replace hS:=hS.aX Yr;clear Yr;replace hS:=hS.aX Yy;clear Yy;replace hS:=hS.aX Yz;clear Yz;replace hS:=hS.wY hc trivial;clear hc;have l:=(St.al (St.al (St.al hS 42 #[.bool Wq,.slice Wn Wm Wp,.bool Ws,.slice Wt Wo Wl,.bool Z,.slice Y I Wj] (g:=w.heap.size) ag) 42 #[.bool Yj,.slice Yx YA YC,.bool Yn,.slice Yv Yw Yk,.bool Ya,.slice X6 X8 X4] (g:=(w.heap.size+1)) ag) 42 #[.bool ζ,.slice δ 0 0,.bool ζ,.slice δ 0 0,.bool ζ,.slice δ 0 0] (g:=(w.heap.size+2)) ag);have WH:=(l.aH 2).cell;have WF:=(l.aH 1).cell;go_enter func128,ntmps128;(go_wp2_with fail);clear WH WF;clear l;refine gA4 hS 42 #[.bool Wq,.slice Wn Wm Wp,.bool Ws,.slice Wt Wo Wl,.bool Z,.slice Y I Wj] 42 #[.bool Yj,.slice Yx YA YC,.bool Yn,.slice Yv Yw Yk,.bool Ya,.slice X6 X8 X4] 42 #[.bool ζ,.slice δ 0 0,.bool ζ,.slice δ 0 0,.bool ζ,.slice δ 0 0] 40 #[.bool Z,.slice Y I Wj,.bool Ya,.slice X6 X8 X4] ?_;clear hS;intro w1 g7 o7 g9 o9 g12 YB av bq hS;refine(zJ V av WJ R L _ (hS.aH 4) (hS.aH 0) (hS.aF 3) (hS.aF 0) Xp X5 aE).mono ?_;rintro e w2 ⟨v_,rfl,M,F⟩;replace hS:=hS.mv F;clear F;obtain⟨bi,ZR,az,ZW,rfl,X3⟩:=RI.opn M;clear M;replace hS:=hS.aX X3;clear X3;have Wz:=(St.al hS 40 #[.bool ζ,.slice δ 0 0] (g:=w2.heap.size) ag);have WX:=(Wz.aH 0).cell;have WY:=(Wz.aH 0).frozen;(go_wp2_with fail);clear WX WY;clear Wz;refine gA1 hS 40 #[.bool bi,.slice ZR az ZW] ?_;clear hS;intro w3 XX Zv hS;have YO:=aK.blk (hS.aH 0);have Y9:=aK.blk (hS.aH 3);have Y7:=aK.blk (hS.aH 4);have N:=hS.ext;refine tF 18 [(5,.ri (K)),(7,.ri (B)),(13,.ri (C)),(15,.ri (S)),(16,.box 40 #[.bool ζ,.slice δ 0 0]),(17,.box 40 #[.bool ζ,.slice δ 0 0])] ?_;refine Qs ?_;refine Ei (fun T J=>fK V _ _ R L K _ (Blk.ext (hS.aH 5) J.1) (hS.aD 1 J.1) (hS.aD 0 J.1) X5 YK Xm.o WE.o WS.o) ?_;intro WN WK WO WM XP XN;refine Qs ?_;refine Ei (fun T J=>xD V _ K (m2) _ (Blk.ext (hS.aH 5) J.1) (J.f 5 ((iv WN WK WO WM),XP,XN)) WT l2 u2 B YZ XJ) ?_;intro YN X7 YL YM Zt Zh;refine Qs ?_;refine Ei (fun T J=>fK V _ _ WJ L C _ (Blk.ext (hS.aH 5) J.1) (hS.aD 4 J.1) (hS.aD 0 J.1) Xp YK XZ.o WP.o Xr.o) ?_;intro Xw WR XG Xt XO XQ;refine Qs ?_;refine Ei (fun T J=>xD V _ C (m4) _ (Blk.ext (hS.aH 5) J.1) (J.f 13 ((iv Xw WR XG Xt),XO,XQ)) YD l4 u4 S a7 YQ) ?_;intro aP Zk Z9 Z7 bn bj;refine Eb ?_;intro Xa Xv WL;refine Eb ?_;intro W9 WB WG;refine bz ?_;intro w4 J;have j:=hS.lt;replace hS:=hS.mv J.ext;replace hS:=hS.aI J 5;replace hS:=hS.aI J 7;replace hS:=hS.aI J 13;replace hS:=hS.aI J 15;have D:=J.lw 16;have Ym:Own w Xa:=aeH N D;replace hS:=hS.aB J 16 Xa (apF j D);have G:=J.lw 17;have YP:Own w W9:=aeH N G;replace hS:=hS.aB J 17 W9 ⟨J.nn 16 17 WL WG,(apF j G)⟩;clear J j N YO Y9 Y7;clear D WL Xv;clear G WG WB;have WZ:=(hS.aH 1).cell;have Xc:=(hS.aH 1).frozen;have Xb:=hS.pt 1 0 [.bool YN,.slice X7 YL YM] Ym;have Xj:=(Xb.aH 0).cell;have XD:=(Xb.aH 0).frozen;(go_wp2_with fail);clear WZ Xc Xj XD;clear Xb;replace hS:=(hS.pt 1 0 [.bool YN,.slice X7 YL YM] Ym).pt 0 0 [.bool aP,.slice Zk Z9 Z7] YP;refine gW hS ?_;clear hS;intro w5 hS;have YE:=aK.blk (hS.aH 0);have YI:=aK.blk (hS.aH 1);have Y9:=aK.blk (hS.aH 5);have Y7:=aK.blk (hS.aH 6);have N:=hS.ext;refine tF 13 [(5,.ri (O)),(10,.ri (H)),(11,.ri (P)),(12,.box 40 #[.bool ζ,.slice δ 0 0])] ?_;refine Qs ?_;refine Ei (fun T J=>iy V _ _ WW B O _ (Blk.ext (hS.aH 7) J.1) (hS.aD 10 J.1) (hS.aD 2 J.1) Xy XJ ay.o ZL) ?_;intro ax ZM a9 a1 Yf Yg;refine Qs ?_;refine Ei (fun T J=>iy V _ _ Yb S H _ (Blk.ext (hS.aH 7) J.1) (hS.aD 7 J.1) (hS.aD 0 J.1) Zj YQ a2.o ZO) ?_;intro Zw Yh Zx Zy ad ac;refine Ei (fun T J=>wJ V _ _ O H P _ (Blk.ext (hS.aH 7) J.1) (J.f 5 ((iv ax ZM a9 a1),Yf,Yg)) (J.f 10 ((iv Zw Yh Zx Zy),ad,ac)) ZL ZO YW.o Yp) ?_;intro YV Yo YY YX Yq Yl;refine Eb ?_;intro WQ Xu XB;refine bz ?_;intro w6 J;have j:=hS.lt;replace hS:=hS.mv J.ext;replace hS:=hS.aI J 5;replace hS:=hS.aI J 10;replace hS:=hS.aI J 11;have XC:=J.lw 12;have am:Own w WQ:=aeH N XC;replace hS:=hS.aB J 12 WQ (apF j XC);clear J j N YE YI Y9 Y7;clear XC XB Xu;have XF:=(hS.aH 0).cell;have Xo:=(hS.aH 0).frozen;(go_wp2_with fail);clear XF Xo;replace hS:=hS.pt 0 0 [.bool YV,.slice Yo YY YX] am;refine gW hS ?_;clear hS;intro w7 hS;have YE:=aK.blk (hS.aH 1);have YI:=aK.blk (hS.aH 2);have Y9:=aK.blk (hS.aH 6);have Y7:=aK.blk (hS.aH 7);have N:=hS.ext;refine tF 13 [(5,.ri (Xi)),(10,.ri (Xg)),(11,.ri (Xh)),(12,.box 40 #[.bool ζ,.slice δ 0 0])] ?_;refine Qs ?_;refine Ei (fun T J=>iy V _ _ WV B Xi _ (Blk.ext (hS.aH 8) J.1) (hS.aD 12 J.1) (hS.aD 5 J.1) Xx XJ bh.o Zi) ?_;intro ZV Zf a0 a6 Zp Za;refine Qs ?_;refine Ei (fun T J=>iy V _ _ Yi S Xg _ (Blk.ext (hS.aH 8) J.1) (hS.aD 9 J.1) (hS.aD 3 J.1) ZQ YQ Z8.o Zd) ?_;intro a8 ZE ZY Xq XA Xz;refine Ei (fun T J=>wJ V _ _ Xi Xg Xh _ (Blk.ext (hS.aH 8) J.1) (J.f 5 ((iv ZV Zf a0 a6),Zp,Za)) (J.f 10 ((iv a8 ZE ZY Xq),XA,Xz)) Zi Zd aw.o YR) ?_;intro ZZ Ze a3 Xl bm bl;refine Eb ?_;intro WI YH Yu;refine bz ?_;intro w8 J;have j:=hS.lt;replace hS:=hS.mv J.ext;replace hS:=hS.aI J 5;replace hS:=hS.aI J 10;replace hS:=hS.aI J 11;have X9:=J.lw 12;have a4:Own w WI:=aeH N X9;replace hS:=hS.aB J 12 WI (apF j X9);clear J j N YE YI Y9 Y7;clear X9 Yu YH;have XH:=(hS.aH 0).cell;have XI:=(hS.aH 0).frozen;(go_wp2_with fail);clear XH XI;replace hS:=hS.pt 0 0 [.bool ZZ,.slice Ze a3 Xl] a4;refine gW hS ?_;clear hS;intro w9 hS;have YO:=aK.blk (hS.aH 4);have Y9:=aK.blk (hS.aH 7);have Y7:=aK.blk (hS.aH 8);have N:=hS.ext;refine tF 13 [(8,.ri (Xk)),(9,.ri (Q)),(11,.ri (U)),(12,.box 40 #[.bool ζ,.slice δ 0 0])] ?_;refine Qs ?_;refine Ei (fun T J=>fK V _ _ R L Xk _ (Blk.ext (hS.aH 9) J.1) (hS.aD 11 J.1) (hS.aD 10 J.1) X5 YK bg.o Zo.o be.o) ?_;intro ZX ZB ao aG Zn Zl;refine Ei (fun T J=>iy V _ _ WJ Xk Q _ (Blk.ext (hS.aH 9) J.1) (hS.aD 14 J.1) (J.f 8 ((iv ZX ZB ao aG),Zn,Zl)) Xp ap ai.o ZJ) ?_;intro aq ZH af ba ZI ZK;refine Qs ?_;refine Ei (fun T J=>xD V _ Q (m5) _ (Blk.ext (hS.aH 9) J.1) (J.f 9 ((iv aq ZH af ba),ZI,ZK)) ZJ l5 u5 U a5 Zq) ?_;intro Zr Yt ZC Zc ZT ZA;refine Eb ?_;intro XM ZN Yd;refine bz ?_;intro XE J;have j:=hS.lt;replace hS:=hS.mv J.ext;replace hS:=hS.aI J 8;replace hS:=hS.aI J 9;replace hS:=hS.aI J 11;have XV:=J.lw 12;have Zz:Own w XM:=aeH N XV;replace hS:=hS.aB J 12 XM (apF j XV);clear J j N YO Y9 Y7;clear XV Yd ZN;have XT:=(hS.aH 0).cell;have XK:=(hS.aH 0).frozen;have Wv:=hS.pt 0 0 [.bool Zr,.slice Yt ZC Zc] Zz;have XL:=(Wv.aH 10).cell;have XW:=(Wv.aH 2).cell;have XR:=(Wv.aH 1).cell;have XU:=(Wv.aH 0).cell;(go_wp2_with fail);clear XT XK XL XW XR XU;clear Wv;replace hS:=hS.pt 0 0 [.bool Zr,.slice Yt ZC Zc] Zz;refine gW hS ?_;clear hS;intro Xn hS;refine(oK V _ _ _ P Xh U Xe Xf WU _ (hS.aH 10) (hS.aF 6) (hS.aF 3) (hS.aF 0) Yp YR Zq ar.o bb.o).mono ?_;rintro e XY ⟨v_,rfl,M,F⟩;replace hS:=hS.mv F;clear F;obtain⟨ZP,YG,YS,Zm,YU,YF,ZU,ZG,ZF,YJ,YT,Zg,rfl,W,WA,Xd⟩:=M;replace hS:=hS.aX W;clear W;replace hS:=hS.aX WA;clear WA;replace hS:=hS.aX Xd;clear Xd;have Ye:=(hS.aH 7).cell;have Yc:=(hS.aH 7).frozen;go_wp2;replace hS:=hS.pt 7 0 [.bool ZP,.slice YG YS Zm,.bool YU,.slice YF ZU ZG,.bool ZF,.slice YJ YT Zg] YB;exact dE rfl rfl rfl (hS.aH 7) ⟨_,rfl,RG.mk (hS.aF 2) (hS.aF 1) (hS.aF 0),hS.ext⟩
theorem bJ{z:Int}{n}(h:z.natAbs<2^n)(hn:n<=12800):z.natAbs<lim:=by
 refine π h ?_;have e:lim=2^(32*M5):=by unfold lim;rw[Nat.pow_mul]
 rw[e];exact BB aa (by unfold M5;omega)
def xK{z a:Int}{n}(ha:a≠0)(h:z∣a)(hn:a.natAbs<2^n):z.natAbs<2^n:=
 nH (Nat.le_of_dvd aa (adc.2 h)) hn
def fO{a z q:Int}{n}(j:z≠0)(h:a=z*q)(hn:a.natAbs<2^n):q.natAbs<2^n:=by
 rw[h,Ej] at hn;exact nH (abw _ aa) hn
def fF{a z q:Int}(j:z≠0)(h:a=z*q):q=a/z:=by rw[h,acZ _ j]
def rU{a b}(hb:b≠0):∃z p q:Int,z=(fG [a,b]:Nat)/\z≠0/\a=z*p/\b=z*q:=by
 have e:fG [a,b]=Nat.gcd a.natAbs b.natAbs:=by simp[fG]
 have l:((fG [a,b]:Nat):Int)∣a:=by rw[e];exact aae.2 (I4 _ _)
 have j:((fG [a,b]:Nat):Int)∣b:=by rw[e];exact aae.2 (aal _ _)
 have B:0<fG [a,b]:=by rw[e];exact Nat.gcd_pos_of_pos_right _ aa
 obtain⟨p,hp⟩:=l;obtain⟨q,hq⟩:=j;exact⟨_,p,q,rfl,aa,hp,hq⟩
def rW{a b c}(ha:a≠0):∃z p q r:Int,z=(fG [a,b,c]:Nat)/\z≠0/\a=z*p/\b=z*q/\c=z*r:=by
 have e:fG [a,b,c]=Nat.gcd (Nat.gcd a.natAbs b.natAbs) c.natAbs:=by simp[fG]
 have B:((fG [a,b,c]:Nat):Int)∣a:=by rw[e];exact aae.2 (aai (I4 _ _) (I4 _ _))
 have j:((fG [a,b,c]:Nat):Int)∣b:=by rw[e];exact aae.2 (aai (I4 _ _) (aal _ _))
 have d3:((fG [a,b,c]:Nat):Int)∣c:=by rw[e];exact aae.2 (aal _ _)
 have C:0<fG [a,b,c]:=by rw[e];exact abn _ (abn _ aa)
 obtain⟨p,hp⟩:=B;obtain⟨q,hq⟩:=j;obtain⟨r,l⟩:=d3;exact⟨_,p,q,r,rfl,aa,hp,hq,l⟩
def jo{A B D a b d n}(j:D≠0)(E:(a,b,d)=nf A B D)(ha:A.natAbs<2^n)(hb:B.natAbs<2^n)(hd:D.natAbs<2^n):Sz n a b d:=by
 have h:=Kj (a:=A) (b:=B) j;rw[<-E] at h;exact⟨nH h.1 ha,nH h.2.1 hb,nH h.2.2 hd⟩
def Sz.oJ{n a b d}(h:Sz n a b d)(hn:n<=12800):a.natAbs<lim/\b.natAbs<lim/\d.natAbs<lim:=⟨bJ h.a hn,bJ h.b hn,bJ h.d hn⟩
def BM{m}(j: -9223372036854775808<=m)(l:m<=9223372036854775807):m.natAbs<2^64:=by
 have:(2:Nat)^64=18446744073709551616:=aj;omega
def Mx(V v1 v3 a b d j a' b' d' k m u v t n w)(hc:Calm w V)(F:RG w v1 a b d)(l:RG w v3 a' b' d')(sx:Sz n a b d)(sy:Sz n a' b' d')(hn:n+n+65<=12800)(hd:d≠0)(hd':d'≠0)(hm:m≠0)(B: -9223372036854775808<=j)(G:j<=9223372036854775807)(C: -9223372036854775808<=k)(k2:k<=9223372036854775807)(m1: -9223372036854775808<=m)(m2:m<=9223372036854775807)(E:(u,v,t)=nf (j*a*d'+k*a'*d) (j*b*d'+k*b'*d) (d*d'*m)):
  CV 128 #[.pointer (γ ⟨V,0,δ⟩),v1,.int .i64 j,v3,.int .i64 k,.int .i64 m] w fun x w'=>RG w' x u v t:=by
 obtain⟨g,r,p,hg,L,N,S⟩:=rU (a:=d) (b:=d') hd';have Z:p.natAbs<2^n:=fO L S sy.d;have br:r.natAbs<2^n:=fO L N sx.d;have bg:g.natAbs<2^n:=xK hd ⟨r,N⟩ sx.d;have W:=BM B G;have bk:=BM C k2;have Y:=BM m1 m2;have H:=bN Z W;have M:=bN br bk;have O:=iU (bN sx.a H) (n:=n+n+64) aa;have Q:=iU (bN sy.a M) (n:=n+n+64) aa;have P:=iU (bN sx.b H) (n:=n+n+64) aa;have J:=iU (bN sy.b M) (n:=n+n+64) aa;have U:=jh O Q;have K:=jh P J;have R:=bN sx.d Z;have T:=bN R Y;have I:d*p*m≠0:=nV (nV hd (by intro h;rw[h] at S;simp at S;exact hd' S)) hm;have E':(u,v,t)=nf (a*(p*j)+a'*(r*k)) (b*(p*j)+b'*(r*k)) (d*p*m):=by
  rw[E];refine nR (nV (nV hd hd') hm) I ?_ ?_
  .rw[S];generalize hD:d=D at*;subst N;grind
  .rw[S];generalize hD:d=D at*;subst N;grind
 have sz:=jo (n:=n+n+65) I E' U K (iU T aa);obtain⟨x1,x2,x3⟩:=sx.oJ aa;obtain⟨y1,y2,y3⟩:=sy.oJ aa;obtain⟨s1,s2,s3⟩:=sz.oJ hn;exact Qj V v1 a b d j v3 a' b' d' k m w hc F x1 x2 x3 B G l y1 y2 y3 C k2 m1 m2 g (aJ hg) (bJ bg aa)
  p (aJ (fF L S)) (bJ Z aa) (aJ L) (aJ ⟨p,S⟩) _ (aJ rfl) (bJ H aa)
  r (aJ (fF L N)) (bJ br aa) (aJ L) (aJ ⟨r,N⟩) _ (aJ rfl) (bJ M aa)
  _ (aJ rfl) (bJ O aa) _ (aJ rfl) (bJ Q aa) _ (aJ rfl) (bJ U aa)
  _ (aJ rfl) (bJ P aa) _ (aJ rfl) (bJ J aa) _ (aJ rfl) (bJ K aa)
  p (aJ (fF L S)) (bJ Z aa) (aJ L) (aJ ⟨p,S⟩) _ (aJ rfl) (bJ R aa) _ (aJ rfl) (bJ T aa) (aJ I) u v t (aJ E') s1 s2 s3
def zY(V v1)(WW WV WJ:Int)(v2)(Xk Xm Xl:Int)(w)(hc:Calm w V)(Wu:RG w v1 WW WV WJ)(Xy:WW.natAbs<lim)(Xx:WV.natAbs<lim)(Xp:WJ.natAbs<lim)(WA:RG w v2 Xk Xm Xl)(YJ:Xk.natAbs<lim)(YF:Xm.natAbs<lim)(YE:Xl.natAbs<lim)(H:Int)(b2:Hid (H=(fG [Xl,WW,WV]:Nat)))(Zf:H.natAbs<lim)(B:Int)(YZ:Hid (B=(fG [WJ,Xk,Xm]:Nat)))(XJ:B.natAbs<lim)(W:Int)(bo:Hid (W=WW/H))(ZF:W.natAbs<lim)(aG:Hid (H≠0))(af:Hid (H∣WW))(Q:Int)(a4:Hid (Q=WV/H))(Zp:Q.natAbs<lim)(be:Hid (H≠0))(Zi:Hid (H∣WV))(K:Int)(cj:Hid (K=Xk/B))(ZM:K.natAbs<lim)(b3:Hid (B≠0))(am:Hid (B∣Xk))(P:Int)(YW:Hid (P=Xm/B))(Yp:P.natAbs<lim)(cg:Hid (B≠0))(aq:Hid (B∣Xm))(Yi:Int)(b0:Hid (Yi=W*K))(ay:Yi.natAbs<lim)(C:Int)(cc:Hid (C=Q*P))(ZA:C.natAbs<lim)(Yg:Int)(ca:Hid (Yg=Yi-C))(az:Yg.natAbs<lim)(Yh:Int)(ch:Hid (Yh=W*P))(ZE:Yh.natAbs<lim)(Yk:Int)(ck:Hid (Yk=Q*K))(ZN:Yk.natAbs<lim)(Yj:Int)(a5:Hid (Yj=Yh+Yk))(Zz:Yj.natAbs<lim)(R:Int)(a1:Hid (R=WJ/B))(bb:R.natAbs<lim)(bV:Hid (B≠0))(ZY:Hid (B∣WJ))(Yf:Int)(bx:Hid (Yf=Xl/H))(bm:Yf.natAbs<lim)(a7:Hid (H≠0))(ao:Hid (H∣Xl))(L:Int)(bk:Hid (L=R*Yf))(ZQ:L.natAbs<lim)(bt:Hid (L≠0))(X8 WQ Yb:Int)(a9:Hid ((X8,WQ,Yb)=nf Yg Yj L))(cD:X8.natAbs<lim)(cG:WQ.natAbs<lim)(cF:Yb.natAbs<lim):
  CV 142 #[.pointer (γ ⟨V,0,δ⟩),v1,v2] w fun v w'=>RG w' v X8 WQ Yb:=by
 have hS:=aeK w;obtain⟨Wq,Wn,Wm,Wp,Ws,Wt,Wo,Wl,Z,Y,I,Wj,rfl,Wx,Wy,Ww⟩:=Wu;replace hS:=hS.aX Wx;clear Wx;replace hS:=hS.aX Wy;clear Wy;replace hS:=hS.aX Ww;clear Ww;obtain⟨Xg,WU,WR,WS,WM,WO,WK,WP,WT,Xi,U,WN,rfl,Xr,Xt,Xq⟩:=WA;replace hS:=hS.aX Xr;clear Xr;replace hS:=hS.aX Xt;clear Xt;replace hS:=hS.aX Xq;clear Xq;replace hS:=hS.wY hc trivial;clear hc;go_enter func142,ntmps142;(go_wp2_with fail);refine gA3 hS 42 #[.bool Wq,.slice Wn Wm Wp,.bool Ws,.slice Wt Wo Wl,.bool Z,.slice Y I Wj] 42 #[.bool Xg,.slice WU WR WS,.bool WM,.slice WO WK WP,.bool WT,.slice Xi U WN] 42 #[.bool ζ,.slice δ 0 0,.bool ζ,.slice δ 0 0,.bool ζ,.slice δ 0 0] ?_;clear hS;intro w1 g4 o4 g5 o5 g6 o6 hS;have Y5:=aK.blk (hS.aH 1);have Y4:=aK.blk (hS.aH 2);have N:=hS.ext;refine tF 20 [(7,.sl 40 3 #[.bool WT,.slice Xi U WN,.bool Wq,.slice Wn Wm Wp,.bool Ws,.slice Wt Wo Wl]),(8,.ri (H)),(16,.sl 40 3 #[.bool Z,.slice Y I Wj,.bool Xg,.slice WU WR WS,.bool WM,.slice WO WK WP]),(17,.ri (B)),(18,.box 40 #[.bool ζ,.slice δ 0 0]),(19,.box 40 #[.bool ζ,.slice δ 0 0])] ?_;refine Qs ?_;refine Eb ?_;intro Zd Xw S;refine Ei (fun T J=>sN V Zd Xl WW WV H _ (Blk.ext (hS.aH 3) J.1) ((J.2 7 _ rf ah).2.2) (hS.aD 0 J.1) (hS.aD 5 J.1) (hS.aD 4 J.1) YE Xy Xx b2) ?_;intro Yy WI Yz YK XV X6;refine Qs ?_;refine Eb ?_;intro Ze ap XM;refine Ei (fun T J=>sN V Ze WJ Xk Xm B _ (Blk.ext (hS.aH 3) J.1) ((J.2 16 _ rf ah).2.2) (hS.aD 3 J.1) (hS.aD 2 J.1) (hS.aD 1 J.1) Xp YJ YF YZ) ?_;intro YN X7 YL YM Zt Zh;refine Eb ?_;intro g7 Xf WE;refine Eb ?_;intro g8 YG WC;refine bz ?_;intro w2 J;have j:=hS.lt;replace hS:=hS.mv J.ext;replace hS:=hS.aI J 8;replace hS:=hS.aI J 17;have Yu:=J.lw 7;have cI:Own w Zd:=aeH N Yu;replace hS:=hS.aB J 7 Zd (apF j Yu);have Yt:=J.lw 16;have cJ:Own w Ze:=aeH N Yt;replace hS:=hS.aB J 16 Ze ⟨J.nn 7 16 S XM,(apF j Yt)⟩;have XO:=J.lw 18;have o7:Own w g7:=aeH N XO;replace hS:=hS.aB J 18 g7 ⟨J.nn 16 18 XM WE,⟨J.nn 7 18 S WE,(apF j XO)⟩⟩;have XZ:=J.lw 19;have o8:Own w g8:=aeH N XZ;replace hS:=hS.aB J 19 g8 ⟨J.nn 18 19 WE WC,⟨J.nn 16 19 XM WC,⟨J.nn 7 19 S WC,(apF j XZ)⟩⟩⟩;clear J j N Y5 Y4;clear Yu S Xw;clear Yt XM ap;clear XO WE Xf;clear XZ WC YG;have WH:=(hS.aH 1).cell;have WF:=(hS.aH 1).frozen;have l:=hS.pt 1 0 [.bool Yy,.slice WI Yz YK] o7;have WX:=(l.aH 0).cell;have WY:=(l.aH 0).frozen;(go_wp2_with fail);clear WH WF WX WY;clear l;replace hS:=(hS.pt 1 0 [.bool Yy,.slice WI Yz YK] o7).pt 0 0 [.bool YN,.slice X7 YL YM] o8;refine gW hS ?_;clear hS;intro w3 hS;have Y7:=aK.blk (hS.aH 1);have Y4:=aK.blk (hS.aH 6);have N:=hS.ext;refine tF 12 [(4,.ri (W)),(9,.ri (Q)),(10,.box 40 #[.bool ζ,.slice δ 0 0]),(11,.box 40 #[.bool ζ,.slice δ 0 0])] ?_;refine Qs ?_;refine Ei (fun T J=>fK V _ _ WW H W _ (Blk.ext (hS.aH 7) J.1) (hS.aD 7 J.1) (hS.aD 1 J.1) Xy Zf aG.o af.o bo.o) ?_;intro Zw YU ZG ZC cr cA;refine Qs ?_;refine Ei (fun T J=>fK V _ _ WV H Q _ (Blk.ext (hS.aH 7) J.1) (hS.aD 6 J.1) (hS.aD 1 J.1) Xx Zf be.o Zi.o a4.o) ?_;intro bj Z9 bg a0 cx cC;refine Eb ?_;intro g9 Yn XP;refine Eb ?_;intro g10 Xe Xd;refine bz ?_;intro w4 J;have j:=hS.lt;replace hS:=hS.mv J.ext;replace hS:=hS.aI J 4;replace hS:=hS.aI J 9;have YQ:=J.lw 10;have o9:Own w g9:=aeH N YQ;replace hS:=hS.aB J 10 g9 (apF j YQ);have X3:=J.lw 11;have Xz:Own w g10:=aeH N X3;replace hS:=hS.aB J 11 g10 ⟨J.nn 10 11 XP Xd,(apF j X3)⟩;clear J j N Y7 Y4;clear YQ XP Yn;clear X3 Xd Xe;have WZ:=(hS.aH 1).cell;have Xc:=(hS.aH 1).frozen;have Wz:=hS.pt 1 0 [.bool Zw,.slice YU ZG ZC] o9;have Xj:=(Wz.aH 0).cell;have XD:=(Wz.aH 0).frozen;(go_wp2_with fail);clear WZ Xc Xj XD;clear Wz;replace hS:=(hS.pt 1 0 [.bool Zw,.slice YU ZG ZC] o9).pt 0 0 [.bool bj,.slice Z9 bg a0] Xz;refine gW hS ?_;clear hS;intro w5 hS;have Y8:=aK.blk (hS.aH 2);have Y5:=aK.blk (hS.aH 7);have N:=hS.ext;refine tF 12 [(4,.ri (K)),(9,.ri (P)),(10,.box 40 #[.bool ζ,.slice δ 0 0]),(11,.box 40 #[.bool ζ,.slice δ 0 0])] ?_;refine Qs ?_;refine Ei (fun T J=>fK V _ _ Xk B K _ (Blk.ext (hS.aH 9) J.1) (hS.aD 6 J.1) (hS.aD 2 J.1) YJ XJ b3.o am.o cj.o) ?_;intro Z7 YT ZB O Yw Yx;refine Qs ?_;refine Ei (fun T J=>fK V _ _ Xm B P _ (Blk.ext (hS.aH 9) J.1) (hS.aD 5 J.1) (hS.aD 2 J.1) YF XJ cg.o aq.o YW.o) ?_;intro YV Yo YY YX Yq Yl;refine Eb ?_;intro Xh YA YH;refine Eb ?_;intro g12 Zm XA;refine bz ?_;intro w6 J;have j:=hS.lt;replace hS:=hS.mv J.ext;replace hS:=hS.aI J 4;replace hS:=hS.aI J 9;have XQ:=J.lw 10;have YC:Own w Xh:=aeH N XQ;replace hS:=hS.aB J 10 Xh (apF j XQ);have XN:=J.lw 11;have YB:Own w g12:=aeH N XN;replace hS:=hS.aB J 11 g12 ⟨J.nn 10 11 YH XA,(apF j XN)⟩;clear J j N Y8 Y5;clear XQ YH YA;clear XN XA Zm;have XF:=(hS.aH 1).cell;have Xo:=(hS.aH 1).frozen;have Xb:=hS.pt 1 0 [.bool Z7,.slice YT ZB O] YC;have XH:=(Xb.aH 0).cell;have XI:=(Xb.aH 0).frozen;(go_wp2_with fail);clear XF Xo XH XI;clear Xb;replace hS:=(hS.pt 1 0 [.bool Z7,.slice YT ZB O] YC).pt 0 0 [.bool YV,.slice Yo YY YX] YB;refine gW hS ?_;clear hS;intro w7 hS;have X4:=aK.blk (hS.aH 0);have X5:=aK.blk (hS.aH 1);have YR:=aK.blk (hS.aH 2);have Y9:=aK.blk (hS.aH 3);have N:=hS.ext;refine tF 11 [(4,.ri (Yi)),(8,.ri (C)),(9,.ri (Yg)),(10,.box 40 #[.bool ζ,.slice δ 0 0])] ?_;refine Qs ?_;refine Ei (fun T J=>iy V _ _ W K Yi _ (Blk.ext (hS.aH 11) J.1) (hS.aD 3 J.1) (hS.aD 1 J.1) ZF ZM b0.o ay) ?_;intro bA Zq aE bp ZZ ZI;refine Qs ?_;refine Ei (fun T J=>iy V _ _ Q P C _ (Blk.ext (hS.aH 11) J.1) (hS.aD 2 J.1) (hS.aD 0 J.1) Zp Yp cc.o ZA) ?_;intro bq ZP bi a6 Zy ZH;refine Ei (fun T J=>KM V _ _ Yi C Yg _ (Blk.ext (hS.aH 11) J.1) (J.f 4 ((iv bA Zq aE bp),ZZ,ZI)) (J.f 8 ((iv bq ZP bi a6),Zy,ZH)) ay ZA ca.o az) ?_;intro bw Zx ci cn cB cE;refine Eb ?_;intro XX X9 Yr;refine bz ?_;intro w8 J;have j:=hS.lt;replace hS:=hS.mv J.ext;replace hS:=hS.aI J 4;replace hS:=hS.aI J 8;replace hS:=hS.aI J 9;have Yv:=J.lw 10;have Zv:Own w XX:=aeH N Yv;replace hS:=hS.aB J 10 XX (apF j Yv);clear J j N X4 X5 YR Y9;clear Yv Yr X9;have XT:=(hS.aH 0).cell;have XK:=(hS.aH 0).frozen;(go_wp2_with fail);clear XT XK;replace hS:=hS.pt 0 0 [.bool bw,.slice Zx ci cn] Zv;refine gW hS ?_;clear hS;intro w9 hS;have X4:=aK.blk (hS.aH 1);have X5:=aK.blk (hS.aH 2);have YR:=aK.blk (hS.aH 3);have Y9:=aK.blk (hS.aH 4);have N:=hS.ext;refine tF 11 [(4,.ri (Yh)),(8,.ri (Yk)),(9,.ri (Yj)),(10,.box 40 #[.bool ζ,.slice δ 0 0])] ?_;refine Qs ?_;refine Ei (fun T J=>iy V _ _ W P Yh _ (Blk.ext (hS.aH 12) J.1) (hS.aD 6 J.1) (hS.aD 3 J.1) ZF Yp ch.o ZE) ?_;intro cf Zj ba bn XC XB;refine Qs ?_;refine Ei (fun T J=>iy V _ _ Q K Yk _ (Blk.ext (hS.aH 12) J.1) (hS.aD 5 J.1) (hS.aD 4 J.1) Zp ZM ck.o ZN) ?_;intro bl ZV a3 b1 YS YO;refine Ei (fun T J=>wJ V _ _ Yh Yk Yj _ (Blk.ext (hS.aH 12) J.1) (J.f 4 ((iv cf Zj ba bn),XC,XB)) (J.f 8 ((iv bl ZV a3 b1),YS,YO)) ZE ZN a5.o Zz) ?_;intro cl ZW cd ce cy cH;refine Eb ?_;intro Xa Xv WL;refine bz ?_;intro XE J;have j:=hS.lt;replace hS:=hS.mv J.ext;replace hS:=hS.aI J 4;replace hS:=hS.aI J 8;replace hS:=hS.aI J 9;have D:=J.lw 10;have Ym:Own w Xa:=aeH N D;replace hS:=hS.aB J 10 Xa (apF j D);clear J j N X4 X5 YR Y9;clear D WL Xv;have XL:=(hS.aH 0).cell;have XW:=(hS.aH 0).frozen;(go_wp2_with fail);clear XL XW;replace hS:=hS.pt 0 0 [.bool cl,.slice ZW cd ce] Ym;refine gW hS ?_;clear hS;intro Xn hS;have Y8:=aK.blk (hS.aH 6);have Y7:=aK.blk (hS.aH 7);have Y5:=aK.blk (hS.aH 11);have Y4:=aK.blk (hS.aH 12);have N:=hS.ext;refine tF 13 [(5,.ri (R)),(10,.ri (Yf)),(11,.ri (L)),(12,.box 40 #[.bool ζ,.slice δ 0 0])] ?_;refine Qs ?_;refine Ei (fun T J=>fK V _ _ WJ B R _ (Blk.ext (hS.aH 13) J.1) (hS.aD 15 J.1) (hS.aD 10 J.1) Xp XJ bV.o ZY.o a1.o) ?_;intro aP ZR a2 bh ZT ZU;refine Qs ?_;refine Ei (fun T J=>fK V _ _ Xl H Yf _ (Blk.ext (hS.aH 13) J.1) (hS.aD 12 J.1) (hS.aD 11 J.1) YE Zf a7.o ao.o bx.o) ?_;intro cp ar a8 cb Zk Zr;refine Ei (fun T J=>iy V _ _ R Yf L _ (Blk.ext (hS.aH 13) J.1) (J.f 5 ((iv aP ZR a2 bh),ZT,ZU)) (J.f 10 ((iv cp ar a8 cb),Zk,Zr)) bb bm bk.o ZQ) ?_;intro av Zl aw ax cw cv;refine Eb ?_;intro W9 WB WG;refine bz ?_;intro XY J;have j:=hS.lt;replace hS:=hS.mv J.ext;replace hS:=hS.aI J 5;replace hS:=hS.aI J 10;replace hS:=hS.aI J 11;have G:=J.lw 12;have YP:Own w W9:=aeH N G;replace hS:=hS.aB J 12 W9 (apF j G);clear J j N Y8 Y7 Y5 Y4;clear G WG WB;have XR:=(hS.aH 0).cell;have XU:=(hS.aH 0).frozen;have Wv:=hS.pt 0 0 [.bool av,.slice Zl aw ax] YP;have Ye:=(Wv.aH 14).cell;have Yc:=(Wv.aH 2).cell;have YI:=(Wv.aH 1).cell;have YD:=(Wv.aH 0).cell;(go_wp2_with fail);clear XR XU Ye Yc YI YD;clear Wv;replace hS:=hS.pt 0 0 [.bool av,.slice Zl aw ax] YP;refine gW hS ?_;clear hS;intro XG hS;refine(oK V _ _ _ Yg Yj L X8 WQ Yb _ (hS.aH 14) (hS.aF 6) (hS.aF 3) (hS.aF 0) az Zz ZQ bt.o a9.o).mono ?_;rintro e cL ⟨v_,rfl,M,F⟩;replace hS:=hS.mv F;clear F;obtain⟨ZL,Zc,ZO,ac,ad,Zg,ai,ZX,Z8,Za,ZK,ZJ,rfl,Ya,Yd,Xu⟩:=M;replace hS:=hS.aX Ya;clear Ya;replace hS:=hS.aX Yd;clear Yd;replace hS:=hS.aX Xu;clear Xu;have Zo:=(hS.aH 11).cell;have Zn:=(hS.aH 11).frozen;go_wp2;replace hS:=hS.pt 11 0 [.bool ZL,.slice Zc ZO ac,.bool ad,.slice Zg ai ZX,.bool Z8,.slice Za ZK ZJ] o6;exact dE rfl rfl rfl (hS.aH 11) ⟨_,rfl,RG.mk (hS.aF 2) (hS.aF 1) (hS.aF 0),hS.ext⟩
def yH(V v1 Z a b d a' b' d' u v t n w)(hc:Calm w V)(F:RG w v1 a b d)(l:RG w Z a' b' d')(sx:Sz n a b d)(sy:Sz n a' b' d')(hn:n+n+1<=12800)(hd:d≠0)(hd':d'≠0)(E:(u,v,t)=nf (a*a'-b*b') (a*b'+b*a') (d*d')):
  CV 142 #[.pointer (γ ⟨V,0,δ⟩),v1,Z] w fun x w'=>RG w' x u v t:=by
 obtain⟨g,I,a1,U,hg,L,D,T,S⟩:=rW (a:=d') (b:=a) (c:=b) hd';obtain⟨h,Y,J,K,N,P,R,B,j⟩:=rW (a:=d) (b:=a') (c:=b') hd;have M:=fO L T sx.a;have O:=fO L S sx.b;have H:=fO L D sy.d;have G:=fO P B sy.a;have C:=fO P j sy.b;have Q:=fO P R sx.d;have bg:g.natAbs<2^n:=xK hd' ⟨_,D⟩ sy.d;have bh:h.natAbs<2^n:=xK hd ⟨_,R⟩ sx.d;have p1:=bN M G;have p2:=bN O C;have p3:=bN M C;have p4:=bN O G;have p5:=bN Q H;have q1:=sF p1 p2;have q2:=jh p3 p4;have W:Y*I≠0:=nV (by intro e;rw[e] at R;simp at R;exact hd R) (by intro e;rw[e] at D;simp at D;exact hd' D);have E':(u,v,t)=nf (a1*J-U*K) (a1*K+U*J) (Y*I):=by
  rw[E];refine nR (nV hd hd') W ?_ ?_
  .rw[T,S,R,B,j,D];grind
  .rw[T,S,R,B,j,D];grind
 have sz:=jo (n:=n+n+1) W E' q1 q2 (iU p5 aa);obtain⟨x1,x2,x3⟩:=sx.oJ aa;obtain⟨y1,y2,y3⟩:=sy.oJ aa;obtain⟨s1,s2,s3⟩:=sz.oJ hn;exact zY V v1 a b d Z a' b' d' w hc F x1 x2 x3 l y1 y2 y3 g (aJ hg) (bJ bg aa) h (aJ N) (bJ bh aa)
  a1 (aJ (fF L T)) (bJ M aa) (aJ L) (aJ ⟨_,T⟩) U (aJ (fF L S)) (bJ O aa) (aJ L) (aJ ⟨_,S⟩)
  J (aJ (fF P B)) (bJ G aa) (aJ P) (aJ ⟨_,B⟩) K (aJ (fF P j)) (bJ C aa) (aJ P) (aJ ⟨_,j⟩)
  _ (aJ rfl) (bJ p1 aa) _ (aJ rfl) (bJ p2 aa) _ (aJ rfl) (bJ q1 aa)
  _ (aJ rfl) (bJ p3 aa) _ (aJ rfl) (bJ p4 aa) _ (aJ rfl) (bJ q2 aa)
  Y (aJ (fF P R)) (bJ Q aa) (aJ P) (aJ ⟨_,R⟩) I (aJ (fF L D)) (bJ H aa) (aJ L) (aJ ⟨_,D⟩)
  _ (aJ rfl) (bJ p5 aa) (aJ W) u v t (aJ E') s1 s2 s3
def equotient_g(V:Nat)(v1:Value)(WW WV WJ:Int)(v2:Value)(Xk Xm Xl:Int)(w:World)(hc:Calm w V)(Wu:RG w v1 WW WV WJ)(Xy:WW.natAbs<lim)(Xx:WV.natAbs<lim)(Xp:WJ.natAbs<lim)(WA:RG w v2 Xk Xm Xl)(YJ:Xk.natAbs<lim)(YF:Xm.natAbs<lim)(YE:Xl.natAbs<lim)(B:Int)(f6:Hid (B=(fG [WW,WV,Xk,Xm]:Nat)))(YX:B.natAbs<lim)(Xw:Int)(eK:Hid (Xw=(fG [WJ,Xl]:Nat)))(dy:Xw.natAbs<lim)(YM:Int)(fB:Hid (YM=WW/B))(dn:YM.natAbs<lim)(fg:Hid (B≠0))(cn:Hid (B∣WW))(O:Int)(fr:Hid (O=WV/B))(ZL:O.natAbs<lim)(f0:Hid (B≠0))(db:Hid (B∣WV))(H:Int)(e6:Hid (H=Xk/B))(ZO:H.natAbs<lim)(fu:Hid (B≠0))(de:Hid (B∣Xk))(Yp:Int)(eA:Hid (Yp=Xm/B))(dw:Yp.natAbs<lim)(f9:Hid (B≠0))(cQ:Hid (B∣Xm))(C:Int)(fx:Hid (C=(fG [H,Yp]:Nat)))(ZA:C.natAbs<lim)(S:Int)(f4:Hid (S=H/C))(b0:S.natAbs<lim)(eS:Hid (C≠0))(cv:Hid (C∣H))(P:Int)(ev:Hid (P=Yp/C))(bV:P.natAbs<lim)(eJ:Hid (C≠0))(cC:Hid (C∣Yp))(Q:Int)(es:Hid (Q=YM*S))(ZJ:Q.natAbs<lim)(R:Int)(ew:Hid (R=O*P))(dp:R.natAbs<lim)(ZE:Int)(e0:Hid (ZE=Q+R))(d0:ZE.natAbs<lim)(L:Int)(e1:Hid (L=O*S))(ZQ:L.natAbs<lim)(ZG:Int)(fi:Hid (ZG=YM*P))(dq:ZG.natAbs<lim)(ZF:Int)(e7:Hid (ZF=L-ZG))(dr:ZF.natAbs<lim)(ZB:Int)(f3:Hid (ZB=S*S))(dt:ZB.natAbs<lim)(ZC:Int)(e8:Hid (ZC=P*P))(d6:ZC.natAbs<lim)(Ya:Int)(dc:Hid (Ya=ZB+ZC))(a1:Ya.natAbs<lim)(da:Hid (Ya≠0))(Yo Yq Yv:Int)(cR:Hid ((Yo,Yq,Yv)=nf ZE ZF Ya))(ej:Yo.natAbs<lim)(ek:Yq.natAbs<lim)(er:Yv.natAbs<lim)(Yl:Int)(c8:Hid (Yl=Xl/Xw))(cH:Yl.natAbs<lim)(cX:Hid (Xw≠0))(be:Hid (Xw∣Xl))(Yi:Int)(ci:Hid (Yi=WJ/Xw))(cA:Yi.natAbs<lim)(cE:Hid (Xw≠0))(a6:Hid (Xw∣WJ))(Yb:Int)(cl:Hid (Yb=C*Yi))(a3:Yb.natAbs<lim)(cY:Hid (Yb≠0))(X7 X9 X8:Int)(c6:Hid ((X7,X9,X8)=nf Yl 0 Yb))(ed:X7.natAbs<lim)(ec:X9.natAbs<lim)(eb:X8.natAbs<lim)(Yz Yy Yt:Int)(HP:Hid (∀(v K:Value) (W:World),Calm W V->RG W v Yo Yq Yv->RG W K X7 X9 X8->CV 142 #[.pointer (γ ⟨V,0,δ⟩),v,K] W fun x w'=>RG w' x Yz Yy Yt))(d7:Yz.natAbs<lim)(d9:Yy.natAbs<lim)(eh:Yt.natAbs<lim):
  CV 173 #[.pointer (γ ⟨V,0,δ⟩),v1,v2] w fun v w'=>RG w' v Yz Yy Yt:=by
 have hS:=aeK w;obtain⟨Wq,Wn,Wm,Wp,Ws,Wt,Wo,Wl,Z,Y,I,Wj,rfl,Wx,Wy,Ww⟩:=Wu;replace hS:=hS.aX Wx;clear Wx;replace hS:=hS.aX Wy;clear Wy;replace hS:=hS.aX Ww;clear Ww;obtain⟨Xg,WU,WR,WS,WM,WO,WK,WP,WT,Xi,U,WN,rfl,Xr,Xt,Xq⟩:=WA;replace hS:=hS.aX Xr;clear Xr;replace hS:=hS.aX Xt;clear Xt;replace hS:=hS.aX Xq;clear Xq;replace hS:=hS.wY hc trivial;clear hc;go_enter func173,ntmps173;(go_wp2_with fail);refine gA3 hS 42 #[.bool Wq,.slice Wn Wm Wp,.bool Ws,.slice Wt Wo Wl,.bool Z,.slice Y I Wj] 42 #[.bool Xg,.slice WU WR WS,.bool WM,.slice WO WK WP,.bool WT,.slice Xi U WN] 42 #[.bool ζ,.slice δ 0 0,.bool ζ,.slice δ 0 0,.bool ζ,.slice δ 0 0] ?_;clear hS;intro w1 g4 o4 g5 o5 g6 o6 hS;have Y5:=aK.blk (hS.aH 1);have Y4:=aK.blk (hS.aH 2);have N:=hS.ext;refine tF 20 [(9,.sl 40 4 #[.bool Wq,.slice Wn Wm Wp,.bool Ws,.slice Wt Wo Wl,.bool Xg,.slice WU WR WS,.bool WM,.slice WO WK WP]),(10,.ri (B)),(16,.sl 40 2 #[.bool Z,.slice Y I Wj,.bool WT,.slice Xi U WN]),(17,.ri (Xw)),(18,.box 40 #[.bool ζ,.slice δ 0 0]),(19,.box 40 #[.bool ζ,.slice δ 0 0])] ?_;refine Qs ?_;refine Eb ?_;intro b3 cT Zt;refine Ei (fun T J=>Oa V b3 WW WV Xk Xm B _ (Blk.ext (hS.aH 3) J.1) ((J.2 9 _ rf ah).2.2) (hS.aD 5 J.1) (hS.aD 4 J.1) (hS.aD 2 J.1) (hS.aD 1 J.1) Xy Xx YJ YF f6) ?_;intro ZV a4 d5 dv Yk Yj;refine Qs ?_;refine Eb ?_;intro b2 cB Zp;refine Ei (fun T J=>zJ V b2 WJ Xl Xw _ (Blk.ext (hS.aH 3) J.1) ((J.2 16 _ rf ah).2.2) (hS.aD 3 J.1) (hS.aD 0 J.1) Xp YE eK) ?_;intro eR cL f7 fY gk gt;refine Eb ?_;intro g7 Xf WE;refine Eb ?_;intro g8 YG WC;refine bz ?_;intro w2 J;have j:=hS.lt;replace hS:=hS.mv J.ext;replace hS:=hS.aI J 10;replace hS:=hS.aI J 17;have ZY:=J.lw 9;have gX:Own w b3:=aeH N ZY;replace hS:=hS.aB J 9 b3 (apF j ZY);have af:=J.lw 16;have gE:Own w b2:=aeH N af;replace hS:=hS.aB J 16 b2 ⟨J.nn 9 16 Zt Zp,(apF j af)⟩;have XO:=J.lw 18;have o7:Own w g7:=aeH N XO;replace hS:=hS.aB J 18 g7 ⟨J.nn 16 18 Zp WE,⟨J.nn 9 18 Zt WE,(apF j XO)⟩⟩;have XZ:=J.lw 19;have o8:Own w g8:=aeH N XZ;replace hS:=hS.aB J 19 g8 ⟨J.nn 18 19 WE WC,⟨J.nn 16 19 Zp WC,⟨J.nn 9 19 Zt WC,(apF j XZ)⟩⟩⟩;clear J j N Y5 Y4;clear ZY Zt cT;clear af Zp cB;clear XO WE Xf;clear XZ WC YG;have WH:=(hS.aH 1).cell;have WF:=(hS.aH 1).frozen;have l:=hS.pt 1 0 [.bool ZV,.slice a4 d5 dv] o7;have WX:=(l.aH 0).cell;have WY:=(l.aH 0).frozen;(go_wp2_with fail);clear WH WF WX WY;clear l;replace hS:=(hS.pt 1 0 [.bool ZV,.slice a4 d5 dv] o7).pt 0 0 [.bool eR,.slice cL f7 fY] o8;refine gW hS ?_;clear hS;intro w3 hS;have Y7:=aK.blk (hS.aH 1);have Y4:=aK.blk (hS.aH 6);have N:=hS.ext;refine tF 12 [(4,.ri (YM)),(9,.ri (O)),(10,.box 40 #[.bool ζ,.slice δ 0 0]),(11,.box 40 #[.bool ζ,.slice δ 0 0])] ?_;refine Qs ?_;refine Ei (fun T J=>fK V _ _ WW B YM _ (Blk.ext (hS.aH 7) J.1) (hS.aD 7 J.1) (hS.aD 1 J.1) Xy YX fg.o cn.o fB.o) ?_;intro dl ax d2 dT ga gj;refine Qs ?_;refine Ei (fun T J=>fK V _ _ WV B O _ (Blk.ext (hS.aH 7) J.1) (hS.aD 6 J.1) (hS.aD 1 J.1) Xx YX f0.o db.o fr.o) ?_;intro fm ZM fa f1 Yf Yg;refine Eb ?_;intro g9 Yn XP;refine Eb ?_;intro g10 Xe Xd;refine bz ?_;intro w4 J;have j:=hS.lt;replace hS:=hS.mv J.ext;replace hS:=hS.aI J 4;replace hS:=hS.aI J 9;have YQ:=J.lw 10;have o9:Own w g9:=aeH N YQ;replace hS:=hS.aB J 10 g9 (apF j YQ);have X3:=J.lw 11;have Xz:Own w g10:=aeH N X3;replace hS:=hS.aB J 11 g10 ⟨J.nn 10 11 XP Xd,(apF j X3)⟩;clear J j N Y7 Y4;clear YQ XP Yn;clear X3 Xd Xe;have WZ:=(hS.aH 1).cell;have Xc:=(hS.aH 1).frozen;have Wz:=hS.pt 1 0 [.bool dl,.slice ax d2 dT] o9;have Xj:=(Wz.aH 0).cell;have XD:=(Wz.aH 0).frozen;(go_wp2_with fail);clear WZ Xc Xj XD;clear Wz;replace hS:=(hS.pt 1 0 [.bool dl,.slice ax d2 dT] o9).pt 0 0 [.bool fm,.slice ZM fa f1] Xz;refine gW hS ?_;clear hS;intro w5 hS;have Y7:=aK.blk (hS.aH 3);have Y5:=aK.blk (hS.aH 7);have N:=hS.ext;refine tF 12 [(4,.ri (H)),(9,.ri (Yp)),(10,.box 40 #[.bool ζ,.slice δ 0 0]),(11,.box 40 #[.bool ζ,.slice δ 0 0])] ?_;refine Qs ?_;refine Ei (fun T J=>fK V _ _ Xk B H _ (Blk.ext (hS.aH 9) J.1) (hS.aD 6 J.1) (hS.aD 3 J.1) YJ YX fu.o de.o e6.o) ?_;intro Zw Yh Zx Zy go gn;refine Qs ?_;refine Ei (fun T J=>fK V _ _ Xm B Yp _ (Blk.ext (hS.aH 9) J.1) (hS.aD 5 J.1) (hS.aD 3 J.1) YF YX f9.o cQ.o eA.o) ?_;intro b1 Z7 ca cb gq gr;refine Eb ?_;intro Xh YA YH;refine Eb ?_;intro g12 Zm XA;refine bz ?_;intro w6 J;have j:=hS.lt;replace hS:=hS.mv J.ext;replace hS:=hS.aI J 4;replace hS:=hS.aI J 9;have XQ:=J.lw 10;have YC:Own w Xh:=aeH N XQ;replace hS:=hS.aB J 10 Xh (apF j XQ);have XN:=J.lw 11;have YB:Own w g12:=aeH N XN;replace hS:=hS.aB J 11 g12 ⟨J.nn 10 11 YH XA,(apF j XN)⟩;clear J j N Y7 Y5;clear XQ YH YA;clear XN XA Zm;have XF:=(hS.aH 1).cell;have Xo:=(hS.aH 1).frozen;have Xb:=hS.pt 1 0 [.bool Zw,.slice Yh Zx Zy] YC;have XH:=(Xb.aH 0).cell;have XI:=(Xb.aH 0).frozen;have Wv:=(hS.pt 1 0 [.bool Zw,.slice Yh Zx Zy] YC).pt 0 0 [.bool b1,.slice Z7 ca cb] YB;have XT:=(Wv.aH 1).cell;have XK:=(Wv.aH 0).cell;have f2:Own w w6.heap.size:=aeH hS.ext ag;(go_wp2_with fail);clear XF Xo XH XI XT XK;clear Xb Wv;replace hS:=St.al ((hS.pt 1 0 [.bool Zw,.slice Yh Zx Zy] YC).pt 0 0 [.bool b1,.slice Z7 ca cb] YB) 40 #[.bool Zw,.slice Yh Zx Zy,.bool b1,.slice Z7 ca cb] (g:=w6.heap.size) ag;refine gW hS ?_;clear hS;intro w7 hS;generalize w6.heap.size=eN at hS f2⊢;refine(zJ V eN H Yp C _ (hS.aH 12) (hS.aH 0) (hS.aF 1) (hS.aF 0) ZO dw fx).mono ?_;rintro e w8 ⟨v_,rfl,M,F⟩;replace hS:=hS.mv F;clear F;obtain⟨fb,ZP,eT,eB,rfl,ZZ⟩:=RI.opn M;clear M;replace hS:=hS.aX ZZ;clear ZZ;have Zi:=(St.al hS 40 #[.bool ζ,.slice δ 0 0] (g:=w8.heap.size) ag);have XL:=(Zi.aH 0).cell;have XW:=(Zi.aH 0).frozen;(go_wp2_with fail);clear XL XW;clear Zi;refine gA1 hS 40 #[.bool fb,.slice ZP eT eB] ?_;clear hS;intro w9 XX Zv hS;have YO:=aK.blk (hS.aH 0);have X4:=aK.blk (hS.aH 2);have X5:=aK.blk (hS.aH 3);have N:=hS.ext;refine tF 8 [(3,.ri (S)),(7,.ri (P))] ?_;refine Qs ?_;refine Ei (fun T J=>fK V _ _ H C S _ (Blk.ext (hS.aH 13) J.1) (hS.aD 2 J.1) (hS.aD 0 J.1) ZO ZA eS.o cv.o f4.o) ?_;intro du av dx d4 gf gh;refine Qs ?_;refine Ei (fun T J=>fK V _ _ Yp C P _ (Blk.ext (hS.aH 13) J.1) (hS.aD 1 J.1) (hS.aD 0 J.1) dw ZA eJ.o cC.o ev.o) ?_;intro fL cW e9 eW gg gd;refine bz ?_;intro XE J;have j:=hS.lt;replace hS:=hS.mv J.ext;replace hS:=hS.aI J 3;replace hS:=hS.aI J 7;clear J j N YO X4 X5;have XR:=(hS.aH 3).cell;have XU:=(hS.aH 3).frozen;have Zd:=hS.pt 3 0 [.bool du,.slice av dx d4] YC;have Ye:=(Zd.aH 2).cell;have Yc:=(Zd.aH 2).frozen;(go_wp2_with fail);clear XR XU Ye Yc;clear Zd;replace hS:=(hS.pt 3 0 [.bool du,.slice av dx d4] YC).pt 2 0 [.bool fL,.slice cW e9 eW] YB;refine gW hS ?_;clear hS;intro Xn hS;have X4:=aK.blk (hS.aH 2);have X5:=aK.blk (hS.aH 3);have YR:=aK.blk (hS.aH 4);have Y9:=aK.blk (hS.aH 5);have N:=hS.ext;refine tF 11 [(4,.ri (Q)),(8,.ri (R)),(9,.ri (ZE)),(10,.box 40 #[.bool ζ,.slice δ 0 0])] ?_;refine Qs ?_;refine Ei (fun T J=>iy V _ _ YM S Q _ (Blk.ext (hS.aH 13) J.1) (hS.aD 6 J.1) (hS.aD 1 J.1) dn b0 es.o ZJ) ?_;intro e3 ZH fd eI ZI ZK;refine Qs ?_;refine Ei (fun T J=>iy V _ _ O P R _ (Blk.ext (hS.aH 13) J.1) (hS.aD 5 J.1) (hS.aD 0 J.1) ZL bV ew.o dp) ?_;intro et ZR ey eM ZT ZU;refine Ei (fun T J=>wJ V _ _ Q R ZE _ (Blk.ext (hS.aH 13) J.1) (J.f 4 ((iv e3 ZH fd eI),ZI,ZK)) (J.f 8 ((iv et ZR ey eM),ZT,ZU)) ZJ dp e0.o d0) ?_;intro fh cr fS fX gw gb;refine Eb ?_;intro Xa Xv WL;refine bz ?_;intro XY J;have j:=hS.lt;replace hS:=hS.mv J.ext;replace hS:=hS.aI J 4;replace hS:=hS.aI J 8;replace hS:=hS.aI J 9;have D:=J.lw 10;have Ym:Own w Xa:=aeH N D;replace hS:=hS.aB J 10 Xa (apF j D);clear J j N X4 X5 YR Y9;clear D WL Xv;have YI:=(hS.aH 0).cell;have YD:=(hS.aH 0).frozen;(go_wp2_with fail);clear YI YD;replace hS:=hS.pt 0 0 [.bool fh,.slice cr fS fX] Ym;refine gW hS ?_;clear hS;intro XG hS;have X4:=aK.blk (hS.aH 3);have X5:=aK.blk (hS.aH 4);have YR:=aK.blk (hS.aH 5);have Y9:=aK.blk (hS.aH 6);have N:=hS.ext;refine tF 11 [(4,.ri (L)),(8,.ri (ZG)),(9,.ri (ZF)),(10,.box 40 #[.bool ζ,.slice δ 0 0])] ?_;refine Qs ?_;refine Ei (fun T J=>iy V _ _ O S L _ (Blk.ext (hS.aH 14) J.1) (hS.aD 8 J.1) (hS.aD 4 J.1) ZL b0 e1.o ZQ) ?_;intro eE Zl eL fk cw cp;refine Qs ?_;refine Ei (fun T J=>iy V _ _ YM P ZG _ (Blk.ext (hS.aH 14) J.1) (hS.aD 9 J.1) (hS.aD 3 J.1) dn bV fi.o dq) ?_;intro fy cF fj ff c7 cD;refine Ei (fun T J=>KM V _ _ L ZG ZF _ (Blk.ext (hS.aH 14) J.1) (J.f 4 ((iv eE Zl eL fk),cw,cp)) (J.f 8 ((iv fy cF fj ff),c7,cD)) ZQ dq e7.o dr) ?_;intro e5 cP e4 e2 gp gy;refine Eb ?_;intro W9 WB WG;refine bz ?_;intro gU J;have j:=hS.lt;replace hS:=hS.mv J.ext;replace hS:=hS.aI J 4;replace hS:=hS.aI J 8;replace hS:=hS.aI J 9;have G:=J.lw 10;have YP:Own w W9:=aeH N G;replace hS:=hS.aB J 10 W9 (apF j G);clear J j N X4 X5 YR Y9;clear G WG WB;have Zo:=(hS.aH 0).cell;have Zn:=(hS.aH 0).frozen;(go_wp2_with fail);clear Zo Zn;replace hS:=hS.pt 0 0 [.bool e5,.slice cP e4 e2] YP;refine gW hS ?_;clear hS;intro gO hS;have X4:=aK.blk (hS.aH 4);have X5:=aK.blk (hS.aH 5);have N:=hS.ext;refine tF 11 [(4,.ri (ZB)),(8,.ri (ZC)),(9,.ri (Ya)),(10,.box 40 #[.bool ζ,.slice δ 0 0])] ?_;refine Qs ?_;refine Ei (fun T J=>iy V _ _ S S ZB _ (Blk.ext (hS.aH 15) J.1) (hS.aD 7 J.1) (hS.aD 7 J.1) b0 b0 f3.o dt) ?_;intro fn cG eC ez cj cy;refine Qs ?_;refine Ei (fun T J=>iy V _ _ P P ZC _ (Blk.ext (hS.aH 15) J.1) (hS.aD 6 J.1) (hS.aD 6 J.1) bV bV e8.o d6) ?_;intro fR cc eV fW cI cf;refine Ei (fun T J=>wJ V _ _ ZB ZC Ya _ (Blk.ext (hS.aH 15) J.1) (J.f 4 ((iv fn cG eC ez),cj,cy)) (J.f 8 ((iv fR cc eV fW),cI,cf)) dt d6 dc.o a1) ?_;intro aE Z9 a2 aP ep ea;refine Eb ?_;intro WQ Xu XB;refine bz ?_;intro g0 J;have j:=hS.lt;replace hS:=hS.mv J.ext;replace hS:=hS.aI J 4;replace hS:=hS.aI J 8;replace hS:=hS.aI J 9;have XC:=J.lw 10;have ds:Own w WQ:=aeH N XC;replace hS:=hS.aB J 10 WQ (apF j XC);clear J j N X4 X5;clear XC XB Xu;have di:=(hS.aH 0).cell;have ck:=(hS.aH 0).frozen;have Yw:=hS.pt 0 0 [.bool aE,.slice Z9 a2 aP] ds;have cV:=(Yw.aH 16).cell;have cU:=(Yw.aH 2).cell;have cg:=(Yw.aH 1).cell;have Zr:=(Yw.aH 0).cell;(go_wp2_with fail);clear di ck cV cU cg Zr;clear Yw;replace hS:=hS.pt 0 0 [.bool aE,.slice Z9 a2 aP] ds;refine gW hS ?_;clear hS;intro gH hS;refine(oK V _ _ _ ZE ZF Ya Yo Yq Yv _ (hS.aH 16) (hS.aF 6) (hS.aF 3) (hS.aF 0) d0 dr a1 da.o cR.o).mono ?_;rintro e f8 ⟨v_,rfl,M,F⟩;replace hS:=hS.mv F;clear F;obtain⟨bj,ap,bq,bt,bx,ai,a5,bk,bw,ar,bp,bo,rfl,YN,YL,YK⟩:=M;replace hS:=hS.aX YN;clear YN;replace hS:=hS.aX YL;clear YL;replace hS:=hS.aX YK;clear YK;have YY:=(St.al hS 42 #[.bool ζ,.slice δ 0 0,.bool ζ,.slice δ 0 0,.bool ζ,.slice δ 0 0] (g:=f8.heap.size) ag);have Zq:=(YY.aH 0).cell;have cJ:=(YY.aH 0).frozen;(go_wp2_with fail);clear Zq cJ;clear YY;refine gA1 hS 42 #[.bool bj,.slice ap bq bt,.bool bx,.slice ai a5 bk,.bool bw,.slice ar bp bo] ?_;clear hS;intro gR WI gS hS;have YO:=aK.blk (hS.aH 4);have Y8:=aK.blk (hS.aH 10);have Y5:=aK.blk (hS.aH 15);have Y4:=aK.blk (hS.aH 16);have N:=hS.ext;refine tF 15 [(4,.ri (Yl)),(11,.ri (Yi)),(12,.ri (Yb)),(13,.box 40 #[.bool ζ,.slice δ 0 0]),(14,.box 40 #[.bool ζ,.slice δ 0 0])] ?_;refine Qs ?_;refine Ei (fun T J=>fK V _ _ Xl Xw Yl _ (Blk.ext (hS.aH 17) J.1) (hS.aD 21 J.1) (hS.aD 19 J.1) YE dy cX.o be.o c8.o) ?_;intro ZW Zg Z8 ad eg ee;refine Qs ?_;refine Ei (fun T J=>fK V _ _ WJ Xw Yi _ (Blk.ext (hS.aH 17) J.1) (hS.aD 24 J.1) (hS.aD 19 J.1) Xp dy cE.o a6.o ci.o) ?_;intro cx a7 ce ch bg bh;refine Ei (fun T J=>iy V _ _ C Yi Yb _ (Blk.ext (hS.aH 17) J.1) (hS.aD 14 J.1) (J.f 11 ((iv cx a7 ce ch),bg,bh)) ZA cA cl.o a3) ?_;intro aw ZX ay a0 ef d8;refine Eb ?_;intro XM ZN Yd;refine Eb ?_;intro d1 XJ az;refine bz ?_;intro gB J;have j:=hS.lt;replace hS:=hS.mv J.ext;replace hS:=hS.aI J 4;replace hS:=hS.aI J 11;replace hS:=hS.aI J 12;have XV:=J.lw 13;have Zz:Own w XM:=aeH N XV;replace hS:=hS.aB J 13 XM (apF j XV);have ac:=J.lw 14;have dk:Own w d1:=aeH N ac;replace hS:=hS.aB J 14 d1 ⟨J.nn 13 14 Yd az,(apF j ac)⟩;clear J j N YO Y8 Y5 Y4;clear XV Yd ZN;clear ac az XJ;have df:=(hS.aH 1).cell;have cM:=(hS.aH 1).frozen;have Ze:=hS.pt 1 0 [.bool ZW,.slice Zg Z8 ad] Zz;have cN:=(Ze.aH 0).cell;have cS:=(Ze.aH 0).frozen;have X6:=(hS.pt 1 0 [.bool ZW,.slice Zg Z8 ad] Zz).pt 0 0 [.bool aw,.slice ZX ay a0] dk;have cd:=(X6.aH 19).cell;(go_wp2_with fail);clear df cM cN cS cd;clear Ze X6;replace hS:=(hS.pt 1 0 [.bool ZW,.slice Zg Z8 ad] Zz).pt 0 0 [.bool aw,.slice ZX ay a0] dk;refine gW hS ?_;clear hS;intro gA hS;have YS:=aK.blk (hS.aH 0);have f5:=aK.blk (hS.aH 1);have fN:=aK.blk (hS.aH 2);have N:=hS.ext;refine tF 8 [(6,.rg (X7) (X9) (X8)),(7,.rg (Yz) (Yy) (Yt))] ?_;refine Qs ?_;refine Eg (fun T J=>oK V _ _ _ Yl 0 Yb X7 X9 X8 _ (Blk.ext (hS.aH 19) J.1) (hS.aD 2 J.1) (RI.zero _) (hS.aD 0 J.1) cH VR a3 cY.o c6.o) ?_;intro Za Yr Zh Zk Zf Yx YU Zj Zc Yu YW YV YT YZ;refine Eg (fun T J=>HP.o _ _ _ (Blk.ext (hS.aH 19) J.1) (RG.mk (hS.aD 5 J.1) (hS.aD 4 J.1) (hS.aD 3 J.1)) (RG.mk (RG.at1 (J.f 6 ((gv Za Yr Zh Zk Zf Yx YU Zj Zc Yu YW YV),YT,YZ))) (RG.at2 (J.f 6 ((gv Za Yr Zh Zk Zf Yx YU Zj Zc Yu YW YV),YT,YZ))) (RG.at3 (J.f 6 ((gv Za Yr Zh Zk Zf Yx YU Zj Zc Yu YW YV),YT,YZ))))) ?_;intro bb aq bl bm a8 ao ba bn bA am bi a9 eo ei;refine bz ?_;intro gC J;have j:=hS.lt;replace hS:=hS.mv J.ext;replace hS:=hS.aG J 6;replace hS:=hS.aG J 7;clear J j N YS f5 fN;have gi:=(hS.aH 16).cell;have gs:=(hS.aH 16).frozen;go_wp2;replace hS:=hS.pt 16 0 [.bool bb,.slice aq bl bm,.bool a8,.slice ao ba bn,.bool bA,.slice am bi a9] o6;exact dE rfl rfl rfl (hS.aH 16) ⟨_,rfl,RG.mk (hS.aF 2) (hS.aF 1) (hS.aF 0),hS.ext⟩
def Le3 (k y:Int):Prop:=if 0<=y then (k<=0\/k*k<=3*(y*y)) else (k<0/\3*(y*y)<=k*k)
instance (k y:Int):Decidable (Le3 k y):=by unfold Le3;infer_instance
def nX(x:Int):0<=x*x:=by
 rcases Int.le_total 0 x with h|h
 .exact abH h h
 .have:=abH (a:= -x) (b:= -x) aa aa;grind
def Kh{x:Int}(h:x≠0):0<x*x:=by
 have j:=nX x;have l:x*x≠0:=nV h h;omega
def cm (x y:Int):Int:=if x<y then-1 else if y<x then 1 else 0
def zt{a b c e}(h:c≠0\/e≠0):∃z p q r s:Int,z=(fG [a,b,c,e]:Nat)/\z≠0/\a=z*p/\b=z*q/\c=z*r/\e=z*s:=by
 have eq:fG [a,b,c,e]=Nat.gcd (Nat.gcd (Nat.gcd a.natAbs b.natAbs) c.natAbs) e.natAbs:=by simp[fG]
 have C:((fG [a,b,c,e]:Nat):Int)∣a:=by rw[eq];exact aae.2 (aai (I4 _ _) (aai (I4 _ _) (I4 _ _)))
 have l:((fG [a,b,c,e]:Nat):Int)∣b:=by rw[eq];exact aae.2 (aai (I4 _ _) (aai (I4 _ _) (aal _ _)))
 have d3:((fG [a,b,c,e]:Nat):Int)∣c:=by rw[eq];exact aae.2 (aai (I4 _ _) (aal _ _))
 have j:((fG [a,b,c,e]:Nat):Int)∣e:=by rw[eq];exact aae.2 (aal _ _)
 have B:((fG [a,b,c,e]:Nat):Int)≠0:=by
  intro D;rw[D] at d3 j;have:=Int.zero_dvd.1 d3;have:=Int.zero_dvd.1 j;omega
 obtain⟨p,hp⟩:=C;obtain⟨q,hq⟩:=l;obtain⟨r,F⟩:=d3;obtain⟨s,hs⟩:=j;exact⟨_,p,q,r,s,rfl,B,hp,hq,F,hs⟩
def yf{a b}(h:a≠0\/b≠0):∃z p q:Int,z=(fG [a,b]:Nat)/\z≠0/\a=z*p/\b=z*q:=by
 by_cases hb:b=0
 .have e:fG [a,b]=Nat.gcd a.natAbs b.natAbs:=by simp[fG]
  subst hb;have l:fG [a,0]=a.natAbs:=by rw[e];simp
  rw[l];rcases Int.natAbs_eq a with j|j
  .exact⟨_,1,0,rfl,aa,aa,ag⟩
  .exact⟨_,-1,0,rfl,aa,aa,ag⟩
 .exact rU hb
def p8{a z q:Int}{n}(hq:a≠0)(h:a=z*q)(hn:a.natAbs<2^n):z.natAbs<2^n:=xK hq ⟨q,h⟩ hn
def pg{p q:Int}(h:p≠0\/q≠0):p*p+q*q≠0:=by
 have l:=nX p;have j:=nX q;rcases h with h|h
 .have:=Kh h;omega
 .have:=Kh h;omega
def Az{a b d a' b' d' g J C p q i p1 q1 h o c1 G P F Z H sa I:Int}(R:a=g*J)(L:b=g*C)(B:a'=g*p)(j:b'=g*q)(S:p=i*p1)(eq:q=i*q1)(D:d'=h*o)(ec:d=h*c1)(N:J*p1+C*q1=G*P)(M:C*p1-J*q1=G*F)(O:p1*p1+q1*q1=G*Z)(Q:o=H*sa)(K:i*c1=H*I):
  ((a*a'+b*b')*d')*(Z*I)=(P*sa)*(d*(a'*a'+b'*b'))/\((b*a'-a*b')*d')*(Z*I)=(F*sa)*(d*(a'*a'+b'*b')):=by
 subst R L B j D ec Q S eq;have n1:g*(i*p1)*(g*(i*p1))+g*(i*q1)*(g*(i*q1))=g*g*i*i*(G*Z):=by rw[<-O];grind
 have n2:g*J*(g*(i*p1))+g*C*(g*(i*q1))=g*g*i*(G*P):=by rw[<-N];grind
 have n3:g*C*(g*(i*p1))-g*J*(g*(i*q1))=g*g*i*(G*F):=by rw[<-M];grind
 rw[n1,n2,n3];constructor
 .have l:g*g*i*(G*P)*(h*(H*sa))*(Z*I)=g*g*i*G*P*h*sa*Z*(H*I):=ak;rw[l,<-K];grind
 .have l:g*g*i*(G*F)*(h*(H*sa))*(Z*I)=g*g*i*G*F*h*sa*Z*(H*I):=ak;rw[l,<-K];grind
def Dr{A B D a b d}(j:D≠0)(E:(a,b,d)=nf A B D):∃G:Int,G≠0/\A=G*a/\B=G*b/\D=G*d/\0<d:=by
 obtain⟨O,M,N,l,K,C,H,hp,L⟩:=ut (a:=A) (b:=B) j;rw[l] at E;injection E with I E;injection E with F J;subst I F J;exact⟨_,CG j,K,C,H,hp⟩
def He(A B D):∃a b d:Int,(a,b,d)=nf A B D:=⟨_,_,_,rfl⟩
def EM(V v1 v2 a b d a' b' d' u v t n w)(hc:Calm w V)(F:RG w v1 a b d)(l:RG w v2 a' b' d')(sx:Sz n a b d)(sy:Sz n a' b' d')(hn:4*n+3<=12800)(hd:d≠0)(hd':d'≠0)(hy:a'≠0\/b'≠0)(E:(u,v,t)=nf ((a*a'+b*b')*d') ((b*a'-a*b')*d') (d*(a'*a'+b'*b'))):
  CV 173 #[.pointer (γ ⟨V,0,δ⟩),v1,v2] w fun x w'=>RG w' x u v t:=by
 obtain⟨g,a1,b1,p,q,hg,L,ea,eb,B,j⟩:=zt (a:=a) (b:=b) hy;have R:p≠0\/q≠0:=by
  exact Ab1
 obtain⟨h,c1,o,N,J,ec,D⟩:=rU (a:=d) (b:=d') hd';obtain⟨i,p1,q1,hi,Q,S,eq⟩:=yf R;have Wm:p1≠0\/q1≠0:=by
  exact Aa5
 have bg:g.natAbs<2^n:=by
  rcases hy with h|h
  .exact p8 h B sy.a
  .exact p8 h j sy.b
 have M:=fO L ea sx.a;have O:=fO L eb sx.b;have bp:=fO L B sy.a;have bq:=fO L j sy.b;have bi:i.natAbs<2^n:=by
  rcases R with h|h
  .exact p8 h S bp
  .exact p8 h eq bq
 have Y:=fO Q S bp;have U:=fO Q eq bq;have bh:=p8 hd ec sx.d;have K:=fO J ec sx.d;have bo:=fO J D sy.d;have m1:=bN M Y;have m2:=bN O U;have m3:=bN O Y;have m4:=bN M U;have m5:=bN Y Y;have m6:=bN U U;have m7:=jh m1 m2;have m8:=sF m3 m4;have m9:=jh m5 m6;have Wl:=bN bi K;have hN:=pg Wm;have T:i*c1≠0:=nV Q (by intro e;rw[e] at ec;simp at ec;exact hd ec);obtain⟨P,fb,Z,Ef⟩:=He (a1*p1+b1*q1) (b1*p1-a1*q1) (p1*p1+q1*q1);obtain⟨sa,sb,I,Es⟩:=He o 0 (i*c1);obtain⟨G,Ws,e1,e2,e3,XX⟩:=Dr hN Ef;obtain⟨H,XB,e4,e6,e5,Zy⟩:=Dr T Es;have Xk:sb=0:=by
  exact AcC
 subst Xk;have sf:=jo (n:=n+n+1) hN Ef m7 m8 m9;have ss:=jo (n:=n+n+1) T Es (iU bo aa) (show(0:Int).natAbs<2^(n+n+1) from aah aa) (iU Wl aa);have Wn:d*(a'*a'+b'*b')≠0:=nV hd (pg hy);have Wo:Z*I≠0:=nV aa aa;obtain⟨Wq,Wp⟩:=Az ea eb B j S eq D ec e1 e2 e3 e4 e5;have E':(u,v,t)=nf (P*sa-fb*0) (P*0+fb*sa) (Z*I):=by
  rw[E];refine nR Wn Wo ?_ ?_
  .rw[Wq];grind
  .rw[Wp];grind
 have C:=bN (jh (bN sx.a sy.a) (bN sx.b sy.b)) sy.d;have k2:=bN (sF (bN sx.b sy.a) (bN sx.a sy.b)) sy.d;have k3:=bN sx.d (jh (bN sy.a sy.a) (bN sy.b sy.b));have sz:=jo (n:=n+(n+n+1)) Wn E (iU C aa) (iU k2 aa) k3;obtain⟨x1,x2,x3⟩:=sx.oJ aa;obtain⟨y1,y2,y3⟩:=sy.oJ aa;obtain⟨f1,f2,f3⟩:=sf.oJ aa;obtain⟨t1,t2,t3⟩:=ss.oJ aa;obtain⟨s1,s2,s3⟩:=sz.oJ aa;exact equotient_g V v1 a b d v2 a' b' d' w hc F x1 x2 x3 l y1 y2 y3 g (aJ hg) (bJ bg aa) h (aJ N) (bJ bh aa)
  a1 (aJ (fF L ea)) (bJ M aa) (aJ L) (aJ ⟨_,ea⟩) b1 (aJ (fF L eb)) (bJ O aa) (aJ L) (aJ ⟨_,eb⟩)
  p (aJ (fF L B)) (bJ bp aa) (aJ L) (aJ ⟨_,B⟩) q (aJ (fF L j)) (bJ bq aa) (aJ L) (aJ ⟨_,j⟩)
  i (aJ hi) (bJ bi aa) p1 (aJ (fF Q S)) (bJ Y aa) (aJ Q) (aJ ⟨_,S⟩) q1 (aJ (fF Q eq)) (bJ U aa) (aJ Q) (aJ ⟨_,eq⟩)
  _ (aJ rfl) (bJ m1 aa) _ (aJ rfl) (bJ m2 aa) _ (aJ rfl) (bJ m7 aa)
  _ (aJ rfl) (bJ m3 aa) _ (aJ rfl) (bJ m4 aa) _ (aJ rfl) (bJ m8 aa)
  _ (aJ rfl) (bJ m5 aa) _ (aJ rfl) (bJ m6 aa) _ (aJ rfl) (bJ m9 aa) (aJ hN)
  P fb Z (aJ Ef) f1 f2 f3 o (aJ (fF J D)) (bJ bo aa) (aJ J) (aJ ⟨_,D⟩)
  c1 (aJ (fF J ec)) (bJ K aa) (aJ J) (aJ ⟨_,ec⟩) _ (aJ rfl) (bJ Wl aa) (aJ T)
  sa 0 I (aJ Es) t1 t2 t3 u v t (aJ fun _ _ W h1 h2 h3=>yH V _ _ P fb Z sa 0 I u v t (n+n+1) W h1 h2 h3 sf ss aa aa aa E') s1 s2 s3
def Oe(v s l b w)(F:RX w v s l)(h:mO s l=b):
  CE 96 #[v] w (.bool b):=by
 obtain⟨A,n,c,rfl,j⟩:=F;have:=gF s A n c l w j;rwa[h] at this
def xz(v z w)(F:RI w v z)(N:z.natAbs<lim):
  CE 96 #[v] w (.bool ε):=Oe v _ _ ε w F (aeP F N)
def Nj(v0)(Z Y V:Int)(w)(WG:RG w v0 Z Y V)(N:Z.natAbs<lim)(J:Y.natAbs<lim)(j:V.natAbs<lim)(H1:Hid (0<V))(K:Int)(WS:Hid (K=(fG [V,Z,Y]:Nat)))(WT:K.natAbs<lim)(H2:Hid (K=1)):
  CE 95 #[v0] w (.bool ε):=by
 have hS:=aeK w;obtain⟨W,S,D,B,P,L,G,Q,O,H,C,R,rfl,WB,WE,WC⟩:=WG;replace hS:=hS.aX WB;clear WB;replace hS:=hS.aX WE;clear WE;replace hS:=hS.aX WC;clear WC;have l:=(St.al hS 42 #[.bool W,.slice S D B,.bool P,.slice L G Q,.bool O,.slice H C R] (g:=w.heap.size) ag);have WH:=(l.aH 0).cell;go_enter func95,ntmps95;(go_wp2_with fail);clear WH;clear l;refine gA1 hS 42 #[.bool W,.slice S D B,.bool P,.slice L G Q,.bool O,.slice H C R] ?_;clear hS;intro w1 g1 o1 hS;refine(xz _ Z _ (hS.aF 2) N).mono ?_;rintro e w2 ⟨rfl,F⟩;replace hS:=hS.mv F;clear F;have WF:=(hS.aH 0).cell;(go_wp2_with fail);clear WF;refine(xz _ Y _ (hS.aF 1) J).mono ?_;rintro e w3 ⟨rfl,F⟩;replace hS:=hS.mv F;clear F;have WX:=(hS.aH 0).cell;(go_wp2_with fail);clear WX;refine(xz _ V _ (hS.aF 0) j).mono ?_;rintro e w4 ⟨rfl,F⟩;replace hS:=hS.mv F;clear F;have WY:=(hS.aH 0).cell;(go_wp2_with fail);clear WY;refine(Ez _ V (1) _ (hS.aF 0) j (Gx H1.o)).mono ?_;rintro e w5 ⟨rfl,F⟩;replace hS:=hS.mv F;clear F;have Wz:=(St.al hS 197 #[.int .i64 0] (g:=w5.heap.size) ag);have WZ:=(Wz.aH 1).cell;(go_wp2_with fail);clear WZ;clear Wz;refine gA2 hS 197 #[.int .i64 0] 40 #[.bool O,.slice H C R,.bool W,.slice S D B,.bool P,.slice L G Q] ?_;clear hS;intro w6 g3 o3 T U hS;refine(sN g3 T V Z Y K _ (hS.aH 1) (hS.aH 0) (hS.aF 0) (hS.aF 2) (hS.aF 1) j N J WS).mono ?_;rintro e w7 ⟨v_,rfl,M,F⟩;replace hS:=hS.mv F;clear F;obtain⟨WN,WK,WO,WM,rfl,I⟩:=RI.opn M;clear M;replace hS:=hS.aX I;clear I;(go_wp2_with fail);refine(KL _ K _ (hS.aF 0) H2.o).mono ?_;rintro e w8 ⟨rfl,F⟩;exact AaP
structure EQ (m n:Nat) (a b d a' b' d' u v t:Int):Prop where
 sx:Sz m a b d
 sy:Sz n a' b' d'
 hn:m+n+1<=12800
 hd:d≠0
 hd':d'≠0
 E:(u,v,t)=nf (a*a'-b*b') (a*b'+b*a') (d*d')
def EQ.size{m n a b d a' b' d' u v t}(h:EQ m n a b d a' b' d' u v t):Sz (m+n+1) u v t:=
 jo (nV h.hd h.hd') h.E (sF (bN h.sx.a h.sy.a) (bN h.sx.b h.sy.b)) (jh (bN h.sx.a h.sy.b) (bN h.sx.b h.sy.a)) (iU (bN h.sx.d h.sy.d) aa)
def agu{x y m n a b d a' b' d' u v t}(l:Is x a b d)(sx:Sz m a b d)(j:Is y a' b' d')(sy:Sz n a' b' d')(h:Is (x*y) u v t)(hn:m+n+1<=12800):EQ m n a b d a' b' d' u v t:=by
 have C:=fZ l.dne;have B:=fZ j.dne;refine⟨sx,sy,hn,l.dne,j.dne,(h.FM (nV l.dne j.dne) ?_ ?_).symm⟩
 .exact Acb
 .rw[GQ.aQ,l.re,j.re,l.im,j.im];exact AaD
def fH(q):∃a b d:Int,Is q a b d:=by
 have l:((q.re.den:Nat):Int)≠0:=by have:=q.re.den_nz;omega
 have j:((q.im.den:Nat):Int)≠0:=by have:=q.im.den_nz;omega
 have B:q.re=((q.re.num:Int):Rat)/(((q.re.den:Nat):Int):Rat):=by
  rw[<-Rat.divInt_eq_div];exact(Rat.num_divInt_den q.re).symm
 have D:q.im=((q.im.num:Int):Rat)/(((q.im.den:Nat):Int):Rat):=by
  rw[<-Rat.divInt_eq_div];exact(Rat.num_divInt_den q.im).symm
 generalize q.re.num=a at*
 generalize ((q.re.den:Nat):Int)=d at*
 generalize q.im.num=b at*
 generalize ((q.im.den:Nat):Int)=f at*
 have C:=fZ l;have F:=fZ j;have h:=Qg (a:=a*f) (b:=b*d) (d:=d*f) (nV l j);refine⟨_,_,_,⟨h.low,?_,?_⟩⟩
 .rw[<-h.re,B];simp only[aan];grind
 .rw[<-h.im,D];simp only[aan];grind
def V4{a b}(l1: -9223372036854775808<=a)(u1:a<=9223372036854775807)(l2: -9223372036854775808<=b)(u2:b<=9223372036854775807):Sz 64 a b 1:=⟨BM l1 u1,BM l2 u2,aj⟩
def GV (w:World) (v:Value) (q:GQ) (n:Nat):Prop:=∃a b d:Int,RG w v a b d/\Is q a b d/\Sz n a b d
def GV.ext{w w' v q n}(h:GV w v q n)(x:Ext w w'):GV w' v q n:=by
 obtain⟨a,b,d,l,j,B⟩:=h;exact⟨a,b,d,l.ext x,j,B⟩
def PV (w:World) (v:Value) (p:PQ) (n:Nat):Prop:=∃a b d x y z:Int,RP w v a b d x y z/\Is p.u a b d/\Sz n a b d/\Is p.v x y z/\Sz n x y z
def PV.ext{w w' v p n}(h:PV w v p n)(e:Ext w w'):PV w' v p n:=by
 obtain⟨a,b,d,x,y,z,l,j⟩:=h;exact⟨a,b,d,x,y,z,l.ext e,j⟩
def UJ{n}(hn:1<=n):Sz n 0 0 1:=Sz.mono (m:=1) ⟨aj,aj,aj⟩ hn
def GV.at_{w v q n a b d}(h:GV w v q n)(I:Is q a b d):RG w v a b d:=by
 obtain⟨C,B,D,l,j,_⟩:=h;obtain⟨rfl,rfl,rfl⟩:=j.unique I;exact l
def Bd (q:GQ) (n:Nat):Prop:=∃a b d:Int,Is q a b d/\Sz n a b d
def Bd.sz{q n a b d}(h:Bd q n)(I:Is q a b d):Sz n a b d:=by
 obtain⟨C,B,D,l,j⟩:=h;obtain⟨rfl,rfl,rfl⟩:=l.unique I;exact j
def Bd.mono{q m n}(h:Bd q m)(j:m<=n):Bd q n:=by
 obtain⟨a,b,d,B,l⟩:=h;exact⟨a,b,d,B,l.mono j⟩
def Bd.add{x y m n}(F:Bd x m)(C:Bd y n):Bd (x+y) (m+n+1):=by
 obtain⟨a,b,d,B,j⟩:=F;obtain⟨a',b',d',D,l⟩:=C;obtain⟨u,v,t,H⟩:=fH (x+y);exact⟨u,v,t,H,B.OU j D l H⟩
def Bd.mul{x y m n}(F:Bd x m)(C:Bd y n):Bd (x*y) (m+n+1):=by
 obtain⟨a,b,d,B,j⟩:=F;obtain⟨a',b',d',D,l⟩:=C;obtain⟨u,v,t,H⟩:=fH (x*y);exact⟨u,v,t,H,B.OW j D l H⟩
def agm{q:GQ}{a b d:Int}{n:Nat}(hd:d≠0)(j:q.re=(a:Rat)/(d:Rat))(hi:q.im=(b:Rat)/(d:Rat))(s:Sz n a b d):Bd q n:=by
 obtain⟨u,v,t,h⟩:=fH q;exact⟨u,v,t,h,h.size hd j hi s⟩
def aeG:Nat->GQ
 |0=>GQ.i 1 0
 |n+1=>aeG n*GQ.i 0 1
def afH(q):q*GQ.i 1 0=q:=by
 ext<;>simp only[GQ.aR,GQ.aQ,GQ.bU,GQ.bS]<;>grind
theorem Is.turn{q a b d k}(h:Is (q*aeG k) a b d):Is (q*aeG (k+1)) (-b) a d:=by
 have e:q*aeG (k+1)=(q*aeG k)*GQ.i 0 1:=(GQ.cK q (aeG k) (GQ.i 0 1)).symm;rw[e];have hd:=fZ h.dne;refine⟨⟨h.low.1,?_⟩,?_,?_⟩
 .have:=h.low.2;unfold g3 at*
  rw[Int.natAbs_neg,acF,aa8 b.natAbs,<-acF];exact this
 .rw[GQ.aR,h.re,h.im];simp only[GQ.bU,GQ.bS,Rat.intCast_neg];grind
 .rw[GQ.aQ,h.re,h.im];simp only[GQ.bU,GQ.bS];grind
def Sz.turn{n a b d}(h:Sz n a b d):Sz n (-b) a d:=⟨by rw[Int.natAbs_neg];exact h.b,h.a,h.d⟩
def MC(V:Nat)(v1 q1)(n1:Nat)(K:Nat)(w)(hc:Calm w V)(Wu:GV w v1 q1 n1)(hn:n1<=12800)(J:K<=100):
  CV 130 #[.pointer (γ ⟨V,0,δ⟩),v1,.int .i64 ((K:Int))] w fun v w'=>GV w' v (q1*aeG K) (n1):=by
 have hS:=aeK w;obtain⟨WW,WV,WJ,Wu,I1,S1⟩:=Wu;obtain⟨Wq,Wn,Wm,Wp,Ws,Wt,Wo,Wl,Z,Y,I,Wj,rfl,Wx,Wy,Ww⟩:=Wu;replace hS:=hS.aX Wx;clear Wx;replace hS:=hS.aX Wy;clear Wy;replace hS:=hS.aX Ww;clear Ww;replace hS:=hS.wY hc trivial;clear hc;go_enter func130,ntmps130;(go_wp2_with fail);refine gA2 hS 42 #[.bool Wq,.slice Wn Wm Wp,.bool Ws,.slice Wt Wo Wl,.bool Z,.slice Y I Wj] 42 #[.bool ζ,.slice δ 0 0,.bool ζ,.slice δ 0 0,.bool ζ,.slice δ 0 0] ?_;clear hS;intro w1 g4 o4 g6 o6 hS;have Y4:=aK.blk (hS.aH 1);have N:=hS.ext;refine tF 8 [(2,.ri (WW)),(5,.ri (WV)),(6,.box 40 #[.bool ζ,.slice δ 0 0]),(7,.box 40 #[.bool ζ,.slice δ 0 0])] ?_;refine Qs ?_;refine Ei (fun T J=>lG _ WW _ (hS.aD 2 J.1) (bJ S1.a aa)) ?_;intro L Q F C WN YA;refine Qs ?_;refine Ei (fun T J=>lG _ WV _ (hS.aD 1 J.1) (bJ S1.b aa)) ?_;intro WI WM WG c14 Xw Xv;refine Eb ?_;intro g7 Xf WE;refine Eb ?_;intro g8 YG WC;refine bz ?_;intro w2 J;have j:=hS.lt;replace hS:=hS.mv J.ext;replace hS:=hS.aI J 2;replace hS:=hS.aI J 5;have XO:=J.lw 6;have o7:Own w g7:=aeH N XO;replace hS:=hS.aB J 6 g7 (apF j XO);have XZ:=J.lw 7;have o8:Own w g8:=aeH N XZ;replace hS:=hS.aB J 7 g8 ⟨J.nn 6 7 WE WC,(apF j XZ)⟩;clear J j N Y4;clear XO WE Xf;clear XZ WC YG;have WH:=(hS.aH 1).cell;have WF:=(hS.aH 1).frozen;have l:=hS.pt 1 0 [.bool L,.slice Q F C] o7;have WX:=(l.aH 0).cell;have WY:=(l.aH 0).frozen;(go_wp2_with fail);clear WH WF WX WY;clear l;replace hS:=(hS.pt 1 0 [.bool L,.slice Q F C] o7).pt 0 0 [.bool WI,.slice WM WG c14] o8;refine gW hS ?_;clear hS;intro w3 hS;go_loopw [16] (fun i wr=>∃k:Nat,k<=K/\i=.int .i64 (k:Int)/\∃(W D:Int) (O WB:Bool) (B P:Option Addr) (H M WA Wv:Nat),(Is (q1*aeG k) W D WJ/\Sz n1 W D WJ)/\St w wr [(g8,40,#[.bool WB,.slice P WA Wv]),(g7,40,#[.bool O,.slice B H M]),(g6,42,#[.bool ζ,.slice δ 0 0,.bool ζ,.slice δ 0 0,.bool ζ,.slice δ 0 0]),(g4,42,#[.bool Wq,.slice Wn Wm Wp,.bool Ws,.slice Wt Wo Wl,.bool Z,.slice Y I Wj]),(V,197,#[.int .i64 0])] [nz (iv O B H M) (W),nz (iv WB P WA Wv) (D),nz (iv Wq Wn Wm Wp) (WW),nz (iv Ws Wt Wo Wl) (WV),nz (iv Z Y I Wj) (WJ)]) (fun i _=>K-(intOf i).toNat)
 case atStart=>exact⟨0,aa,rfl,WW,WV,L,WI,Q,WM,F,C,WG,c14,⟨by rw[show aeG 0=GQ.i 1 0 from rfl,afH];exact I1,S1⟩,hS.sel [1,0,4,3,2] rfl⟩
 case round=>
  clear hS;obtain⟨k,hk,rfl,W,D,O,WB,B,P,H,M,WA,Wv,G,hS⟩:=hrel;by_cases WL:k<K
  .skip;(go_wp2_with fail);have Y8:=aK.blk (hS.aH 0);have Y7:=aK.blk (hS.aH 1);have N:=hS.ext;refine tF 4 [(2,.ri ((-D)))] ?_;refine Qs ?_;refine Ei (fun T J=>KP V _ D (-D) _ (Blk.ext (hS.aH 4) J.1) (hS.aD 1 J.1) (bJ G.2.b aa) rfl) ?_;intro S WK R U WU WT;refine Qs ?_;refine bz ?_;intro w4 J;have j:=hS.lt;replace hS:=hS.mv J.ext;replace hS:=hS.aI J 2;clear J j N Y8 Y7;have WZ:=(hS.aH 1).cell;have Xc:=(hS.aH 1).frozen;have Wz:=hS.pt 1 0 [.bool S,.slice WK R U] o7;have Xj:=(Wz.aH 0).cell;have XD:=(Wz.aH 0).frozen;go_wp2;replace hS:=(hS.pt 1 0 [.bool S,.slice WK R U] o7).pt 0 0 [.bool O,.slice B H M] o8;go_roundw
   case rel=>exact⟨k+1,aa,au,(-D),W,S,O,WK,B,R,U,H,M,⟨G.1.turn,G.2.turn⟩,St.sel hS [0,1,3,4,5] rfl⟩
   case measure=>simp[intOf]<;>omega
  .obtain rfl:k=K:=aa;(go_wp2_with fail);have Y8:=aK.blk (hS.aH 0);have Y7:=aK.blk (hS.aH 1);have Y4:=aK.blk (hS.aH 3);have N:=hS.ext;refine tF 6 [(4,.ri (WJ))] ?_;refine Qs ?_;refine Ei (fun T J=>lG _ WJ _ (hS.aD 4 J.1) (bJ S1.d aa)) ?_;intro WQ WO WP WR W9 WS;refine Qs ?_;refine bz ?_;intro w5 J;have j:=hS.lt;replace hS:=hS.mv J.ext;replace hS:=hS.aI J 4;clear J j N Y8 Y7 Y4;have XF:=(hS.aH 2).cell;have Xo:=(hS.aH 2).frozen;go_wp2;replace hS:=hS.pt 2 0 [.bool O,.slice B H M,.bool WB,.slice P WA Wv,.bool WQ,.slice WO WP WR] o6;exact dE rfl rfl rfl (hS.aH 2) ⟨_,rfl,⟨_,_,_,RG.mk (hS.aF 1) (hS.aF 2) (hS.aF 0),G.1,G.2⟩,hS.ext⟩
def Jn(V:Nat)(v1 q1)(n1 K:Nat)(w)(hc:Calm w V)(j:GV w v1 q1 n1)(hn:n1<=12800)(J:K<=100):
  CV 130 #[.pointer (γ ⟨V,0,δ⟩),v1,.int .i64 (K:Int)] w fun v w'=>GV w' v (q1*aeG K) n1:=MC V v1 q1 n1 K w hc j hn J
def kz{f args w q n a b d}(h:CV f args w fun v w'=>GV w' v q n)(I:Is q a b d):
  CV f args w fun v w'=>RG w' v a b d:=h.mono fun e w' ⟨v,U,j,l⟩=>⟨v,U,j.at_ I,l⟩
def Vg{m:Int}{K:Nat}(h:m%12=(K:Int)):(m.tmod 12+12).tmod 12=(K:Int):=by
 have l: -12<m.tmod 12/\m.tmod 12<12:=⟨by have:=Int.lt_tmod_of_pos m (b:=12) aa;omega,Int.tmod_lt_of_pos m aa⟩;have j:m.tmod 12%12=m%12:=by
  have:=Int.mul_tdiv_add_tmod m 12;omega
 rw[abe aa];omega
theorem Ik{m:Int}{K:Nat}(h:m%12=(K:Int)):(wrap64 (m.tmod 12+12)).tmod 12=(K:Int):=by
 have j: -12<m.tmod 12/\m.tmod 12<12:=⟨by have:=Int.lt_tmod_of_pos m (b:=12) aa;omega,Int.tmod_lt_of_pos m aa⟩;have e:wrap64 (m.tmod 12+12)=m.tmod 12+12:=by
  generalize m.tmod 12=t at*
  first|(unfold wrap64;omega)|go_num|(simp[wrap64];omega)
 rw[e];exact Vg h
def uN(Z L)(F:List Bool)(cs w)(hb:Blk w Z 42 cs)(hL:F.length=L)(J:L<=100)(I:∀j b,F[j]? =γ b->∃s1 A1 n1 c1 s2 A2 n2 c2 s3 A3 n3 c3,cs[j*6]? =γ (.bool s1)/\cs[j*6+1]? =γ (.slice A1 n1 c1)/\cs[j*6+2]? =γ (.bool s2)/\cs[j*6+3]? =γ (.slice A2 n2 c2)/\cs[j*6+4]? =γ (.bool s3)/\cs[j*6+5]? =γ (.slice A3 n3 c3)/\∀w',Ext w w'->CE 95 #[gv s1 A1 n1 c1 s2 A2 n2 c2 s3 A3 n3 c3] w' (.bool b)):
  CE 51 #[.slice (γ ⟨Z,0,δ⟩) L L] w (.bool (F.all id)):=by
 have HL:=aJ hL;have HZ:=aJ I;clear hL I;go_enter func51,ntmps51;go_wp2_with fail
 go_loopw [7] (fun i wr=>∃k:Nat,k<=L/\i=.int .i64 (k:Int)/\(F.take k).all id=ε/\Ext w wr) (fun i _=>L-(intOf i).toNat)
 case atStart=>exact⟨0,aa,rfl,ag,Ext.refl w⟩
 case round=>
  obtain⟨k,hk,rfl,V,M⟩:=hrel;have HT:=aJ V;clear V;by_cases O:k<L
  .have hq:=ν (l:=F) (i:=k) (by rw[HL.o];exact O);obtain⟨b,I⟩:∃b,F[k]? =γ b:=⟨_,hq⟩;clear hq;obtain⟨s1,A1,n1,c1,s2,A2,n2,c2,s3,A3,n3,c3,r0,r1,r2,T,Y,r5,hV⟩:=HZ.o k b I;have B:=(hb.ext M).cell;have Q:=(B (k*6)).trans r0;have N:=(B (k*6+1)).trans r1;have K:=(B (k*6+2)).trans r2;have S:=(B (k*6+3)).trans T;have H:=(B (k*6+4)).trans Y;have G:=(B (k*6+5)).trans r5;clear B r0 r1 r2 T Y r5;have W:=aJ I;clear I;have HV:=aJ hV;clear hV;have e1:((k:Int)*6).toNat=k*6:=aa;have R:=Blk.new wr 42 #[.bool ζ,.slice δ 0 0,.bool ζ,.slice δ 0 0,.bool ζ,.slice δ 0 0];have C:=R.cell;have k2:=R.frozen;have U:=Blk.new wr 42 #[.bool s1,.slice A1 n1 c1,.bool s2,.slice A2 n2 c2,.bool s3,.slice A3 n3 c3];have k3:=U.cell;clear R U;(go_wp2_with fail);clear C k2 k3 Q N K S H G;refine(HV.o _ (M.alloc _)).mono ?_;rintro e w2 ⟨rfl,P⟩;have D:=(M.alloc _).trans P;clear P;cases b
   .go_wp2;go_ret;refine⟨aU ?_,D⟩;symm;rw[acH];intro h;have:=wo.1 h ζ (xx W.o);simp at this
   .go_wp2;go_roundw
    case rel=>
     refine⟨k+1,aa,au,?_,D⟩;rw[acL,W.o,List.all_append,HT.o];rfl
    case measure=>simp[intOf]<;>omega
  .obtain rfl:k=L:=aa;go_wp2;go_ret;refine⟨aU ?_,M⟩;rw[<-HT.o,Λ (by rw[HL.o];exact κ _)]
def Vy:(1:Int).natAbs<lim:=sH aa aa
def jr(v q n w)(F:GV w v q n)(hn:n<=12800):
  CE 95 #[v] w (.bool ε):=by
 obtain⟨a,b,d,l,j,B⟩:=F;obtain⟨l1,l2,l3⟩:=B.oJ hn;have e:((fG [d,a,b]:Nat):Int)=1:=by rw[DJ,j.low.2];rfl
 exact Nj v a b d w l l1 l2 l3 (aJ j.low.1) 1 (aJ e.symm) Vy (aJ rfl)
def jk(gs q0 q1 m0 m1 w){V S Y I Wm T W Z D H U K P Q l M L O F C N J B G}(hb:Blk w gs 42 #[.bool V,.slice S Y I,.bool Wm,.slice T W Z,.bool D,.slice H U K,.bool P,.slice Q l M,.bool L,.slice O F C,.bool N,.slice J B G])(h0:GV w (gv V S Y I Wm T W Z D H U K) q0 m0)(l0:m0<=12800)(h1:GV w (gv P Q l M L O F C N J B G) q1 m1)(l1:m1<=12800):
  CE 51 #[.slice (γ ⟨gs,0,δ⟩) 2 2] w (.bool ε):=by
 refine uN gs 2 [ε,ε] _ w hb rfl aa (fun j b R=> ?_)
 match j,R with
 |0,R=>injection R with R;subst R;exact⟨_,_,_,_,_,_,_,_,_,_,_,_,rfl,rfl,rfl,rfl,rfl,rfl,fun w' hx=>jr _ q0 m0 w' (h0.ext hx) l0⟩
 |1,R=>injection R with R;subst R;exact⟨_,_,_,_,_,_,_,_,_,_,_,_,rfl,rfl,rfl,rfl,rfl,rfl,fun w' hx=>jr _ q1 m1 w' (h1.ext hx) l1⟩
def zQ(gs q0 q1 q2 m0 m1 m2 w){V Wj Y I Wm T W Z D H Wl K P Q l M L O F C N J B G S Wo R U WG Wt Wy WB Ws Wn Wp Wq}(hb:Blk w gs 42 #[.bool V,.slice Wj Y I,.bool Wm,.slice T W Z,.bool D,.slice H Wl K,.bool P,.slice Q l M,.bool L,.slice O F C,.bool N,.slice J B G,.bool S,.slice Wo R U,.bool WG,.slice Wt Wy WB,.bool Ws,.slice Wn Wp Wq])(h0:GV w (gv V Wj Y I Wm T W Z D H Wl K) q0 m0)(l0:m0<=12800)(h1:GV w (gv P Q l M L O F C N J B G) q1 m1)(l1:m1<=12800)(h2:GV w (gv S Wo R U WG Wt Wy WB Ws Wn Wp Wq) q2 m2)(l2:m2<=12800):
  CE 51 #[.slice (γ ⟨gs,0,δ⟩) 3 3] w (.bool ε):=by
 refine uN gs 3 [ε,ε,ε] _ w hb rfl aa (fun j b hj=> ?_)
 match j,hj with
 |0,hj=>injection hj with hj;subst hj;exact⟨_,_,_,_,_,_,_,_,_,_,_,_,rfl,rfl,rfl,rfl,rfl,rfl,fun w' hx=>jr _ q0 m0 w' (h0.ext hx) l0⟩
 |1,hj=>injection hj with hj;subst hj;exact⟨_,_,_,_,_,_,_,_,_,_,_,_,rfl,rfl,rfl,rfl,rfl,rfl,fun w' hx=>jr _ q1 m1 w' (h1.ext hx) l1⟩
 |2,hj=>injection hj with hj;subst hj;exact⟨_,_,_,_,_,_,_,_,_,_,_,_,rfl,rfl,rfl,rfl,rfl,rfl,fun w' hx=>jr _ q2 m2 w' (h2.ext hx) l2⟩
def Jq(gs q0 q1 q2 q3 m0 m1 m2 m3 w){V Wj Y I Wm T W Z D H Wl K P Q l M L O F C N J B G S Wo R U WG Wt Wy WB Ws Wn Wp Wq ZV YX ac ad WN WT WO WM Ww Wv n32 Wu}(hb:Blk w gs 42 #[.bool V,.slice Wj Y I,.bool Wm,.slice T W Z,.bool D,.slice H Wl K,.bool P,.slice Q l M,.bool L,.slice O F C,.bool N,.slice J B G,.bool S,.slice Wo R U,.bool WG,.slice Wt Wy WB,.bool Ws,.slice Wn Wp Wq,.bool ZV,.slice YX ac ad,.bool WN,.slice WT WO WM,.bool Ww,.slice Wv n32 Wu])(h0:GV w (gv V Wj Y I Wm T W Z D H Wl K) q0 m0)(l0:m0<=12800)(h1:GV w (gv P Q l M L O F C N J B G) q1 m1)(l1:m1<=12800)(h2:GV w (gv S Wo R U WG Wt Wy WB Ws Wn Wp Wq) q2 m2)(l2:m2<=12800)(h3:GV w (gv ZV YX ac ad WN WT WO WM Ww Wv n32 Wu) q3 m3)(l3:m3<=12800):
  CE 51 #[.slice (γ ⟨gs,0,δ⟩) 4 4] w (.bool ε):=by
 refine uN gs 4 [ε,ε,ε,ε] _ w hb rfl aa (fun j b hj=> ?_)
 match j,hj with
 |0,hj=>injection hj with hj;subst hj;exact⟨_,_,_,_,_,_,_,_,_,_,_,_,rfl,rfl,rfl,rfl,rfl,rfl,fun w' hx=>jr _ q0 m0 w' (h0.ext hx) l0⟩
 |1,hj=>injection hj with hj;subst hj;exact⟨_,_,_,_,_,_,_,_,_,_,_,_,rfl,rfl,rfl,rfl,rfl,rfl,fun w' hx=>jr _ q1 m1 w' (h1.ext hx) l1⟩
 |2,hj=>injection hj with hj;subst hj;exact⟨_,_,_,_,_,_,_,_,_,_,_,_,rfl,rfl,rfl,rfl,rfl,rfl,fun w' hx=>jr _ q2 m2 w' (h2.ext hx) l2⟩
 |3,hj=>injection hj with hj;subst hj;exact⟨_,_,_,_,_,_,_,_,_,_,_,_,rfl,rfl,rfl,rfl,rfl,rfl,fun w' hx=>jr _ q3 m3 w' (h3.ext hx) l3⟩
def aeF (j:Int) (x:GQ) (k:Int) (y:GQ) (m:Int):GQ:=⟨((j:Rat)*x.re+(k:Rat)*y.re)/(m:Rat),((j:Rat)*x.im+(k:Rat)*y.im)/(m:Rat)⟩
def Is.FO{x y a b d a' b' d' u v t j k m}(B:Is x a b d)(l:Is y a' b' d')(C:m≠0)(h:Is (aeF j x k y m) u v t):(u,v,t)=nf (j*a*d'+k*a'*d) (j*b*d'+k*b'*d) (d*d'*m):=by
 have F:=fZ B.dne;have D:=fZ l.dne;have G:=fZ C;refine(h.FM (nV (nV B.dne l.dne) C) ?_ ?_).symm
 .show((j:Rat)*x.re+(k:Rat)*y.re)/(m:Rat)=_;rw[B.re,l.re];exact AaD
 .show((j:Rat)*x.im+(k:Rat)*y.im)/(m:Rat)=_;rw[B.im,l.im];exact AaD
def aeT{x y n1 n2 j k m}(D:Bd x n1)(l:Bd y n2)(F:m≠0)(B: -9223372036854775808<=j)(G:j<=9223372036854775807)(C: -9223372036854775808<=k)(I:k<=9223372036854775807)(m1: -9223372036854775808<=m)(m2:m<=9223372036854775807):Bd (aeF j x k y m) (n1+n2+65):=by
 obtain⟨a,b,d,D,sx⟩:=D;obtain⟨a',b',d',l,sy⟩:=l;obtain⟨u,v,t,h⟩:=fH (aeF j x k y m);have W:=BM B G;have H:=BM C I;have Y:=BM m1 m2;have E:=D.FO l F h;refine⟨u,v,t,h,jo (nV (nV D.dne l.dne) F) E ?_ ?_ ?_⟩
 .exact jh (m:=n1+n2+64) (iU (bN (bN W sx.a) sy.d) aa) (iU (bN (bN H sy.a) sx.d) aa)
 .exact jh (m:=n1+n2+64) (iU (bN (bN W sx.b) sy.d) aa) (iU (bN (bN H sy.b) sx.d) aa)
 .exact iU (bN (bN sx.d sy.d) Y) aa
def iI(V v1 D x y j k m n1 n2 w)(hc:Calm w V)(F:GV w v1 x n1)(l:GV w D y n2)(hn:2*max n1 n2+65<=12800)(H:m≠0)(B: -9223372036854775808<=j)(G:j<=9223372036854775807)(C: -9223372036854775808<=k)(I:k<=9223372036854775807)(m1: -9223372036854775808<=m)(m2:m<=9223372036854775807):
  CV 128 #[.pointer (γ ⟨V,0,δ⟩),v1,.int .i64 j,D,.int .i64 k,.int .i64 m] w fun v w'=>GV w' v (aeF j x k y m) (n1+n2+65):=by
 obtain⟨a,b,d,K,i1,s1⟩:=F;obtain⟨a',b',d',J,Y,s2⟩:=l;obtain⟨u,v,t,h⟩:=fH (aeF j x k y m);have sz:=(aeT (m:=m) ⟨_,_,_,i1,s1⟩ ⟨_,_,_,Y,s2⟩ H B G C I m1 m2).sz h;exact(Mx V v1 D a b d j a' b' d' k m u v t (max n1 n2) w hc K J (s1.mono aa) (s2.mono aa) aa i1.dne Y.dne H B G C I m1 m2 (i1.FO Y H h)).mono fun e w' ⟨z,U,M,L⟩=>⟨z,U,⟨u,v,t,M,h,sz⟩,L⟩
def vz(V v1 j x y n1 n2 w)(hc:Calm w V)(F:GV w v1 x n1)(l:GV w j y n2)(hn:2*max n1 n2+1<=12800):
  CV 142 #[.pointer (γ ⟨V,0,δ⟩),v1,j] w fun v w'=>GV w' v (x*y) (n1+n2+1):=by
 obtain⟨a,b,d,C,i1,s1⟩:=F;obtain⟨a',b',d',B,Y,s2⟩:=l;obtain⟨u,v,t,h⟩:=fH (x*y);have K:=agu i1 s1 Y s2 h aa;exact(yH V v1 j a b d a' b' d' u v t (max n1 n2) w hc C B (s1.mono aa) (s2.mono aa) aa i1.dne Y.dne K.E).mono fun e w' ⟨z,U,G,D⟩=>⟨z,U,⟨u,v,t,G,h,K.size⟩,D⟩
def Is.Ju{x y a b d a' b' d' u v t}(j:Is x a b d)(l:Is y a' b' d')(B:a'≠0\/b'≠0)(h:Is (x/y) u v t):(u,v,t)=nf ((a*a'+b*b')*d') ((b*a'-a*b')*d') (d*(a'*a'+b'*b')):=by
 have D:=fZ j.dne;have F:=fZ l.dne;have C:=fZ (pg B);simp only[aan,aba] at C;refine(h.FM (nV j.dne (pg B)) ?_ ?_).symm
 .rw[GQ.Af,GQ.nrm,j.re,l.re,j.im,l.im];exact AaD
 .rw[GQ.vg,GQ.nrm,j.re,l.re,j.im,l.im];simp only[aan,aba,abo];grind
def Is.ne0{y a b d}(h:Is y a b d)(j:y≠GQ.i 0 0):a≠0\/b≠0:=by
 by_cases ha:a=0
 .by_cases hb:b=0
  .exfalso;apply j;ext
   .rw[h.re,ha];simp only[GQ.bU];grind
   .rw[h.im,hb];simp only[GQ.bS];grind
  .exact .inr hb
 .exact .inl ha
def GU(V v1 j x y n1 n2 w)(hc:Calm w V)(F:GV w v1 x n1)(l:GV w j y n2)(hn:4*max n1 n2+3<=12800)(I:y≠GQ.i 0 0):
  CV 173 #[.pointer (γ ⟨V,0,δ⟩),v1,j] w fun v w'=>GV w' v (x/y) (n1+(n2+n2+1)):=by
 obtain⟨a,b,d,H,i1,s1⟩:=F;obtain⟨a',b',d',D,Y,s2⟩:=l;obtain⟨u,v,t,h⟩:=fH (x/y);have B:=Y.ne0 I;have E:=i1.Ju Y B h;have C:=bN (jh (bN s1.a s2.a) (bN s1.b s2.b)) s2.d;have K:=bN (sF (bN s1.b s2.a) (bN s1.a s2.b)) s2.d;have G:=bN s1.d (jh (bN s2.a s2.a) (bN s2.b s2.b));have sz:=jo (n:=n1+(n2+n2+1)) (nV i1.dne (pg B)) E (iU C aa) (iU K aa) G;exact(EM V v1 j a b d a' b' d' u v t (max n1 n2) w hc H D (s1.mono aa) (s2.mono aa) hn i1.dne Y.dne B E).mono fun e w' ⟨z,U,L,J⟩=>⟨z,U,⟨u,v,t,L,h,sz⟩,J⟩
def aeS{q n}(h:Bd q n):∀K,Bd (q*aeG K) n
 |0=>by rw[show aeG 0=GQ.i 1 0 from rfl,afH];exact h
 |K+1=>by
  obtain⟨a,b,d,l,j⟩:=aeS h K;exact⟨_,_,_,l.turn,j.turn⟩
def gM(V:Nat)(v1 q1)(n1 K:Nat)(k:Int)(w)(l:k=(K:Int))(hc:Calm w V)(j:GV w v1 q1 n1)(hn:n1<=12800)(J:K<=100):
  CV 130 #[.pointer (γ ⟨V,0,δ⟩),v1,.int .i64 k] w fun v w'=>GV w' v (q1*aeG K) n1:=by
 subst l;exact Jn V v1 q1 n1 K w hc j hn J
def nQ(V v1 Q O P w)(hc:Calm w V)(R:RG w v1 Q O P):
  CV 138 #[.pointer (γ ⟨V,0,δ⟩),v1] w fun v w'=>(∃u,v=.tuple #[u,.int .i64 0]/\RG w' u Q O P):=by
 have hS:=aeK w;obtain⟨G,B,C,F,J,H,D,j,Z,Y,I,K,rfl,L,M,N⟩:=R;replace hS:=hS.aX L;clear L;replace hS:=hS.aX M;clear M;replace hS:=hS.aX N;clear N;replace hS:=hS.wY hc trivial;clear hc;have o3:Own w w.heap.size:=aeH hS.ext ag;have o4:Own w (w.heap.size+1):=aeH hS.ext ag;have l:=(St.al (St.al hS 42 #[.bool G,.slice B C F,.bool J,.slice H D j,.bool Z,.slice Y I K] (g:=w.heap.size) ag) 42 #[.bool ζ,.slice δ 0 0,.bool ζ,.slice δ 0 0,.bool ζ,.slice δ 0 0] (g:=(w.heap.size+1)) ag);have W:=(l.aH 2).cell;have T:=(l.aH 1).cell;have S:=(l.aH 0).cell;have U:=(l.aH 0).frozen;go_enter func138,ntmps138;go_wp2;replace hS:=(St.al (St.al hS 42 #[.bool G,.slice B C F,.bool J,.slice H D j,.bool Z,.slice Y I K] (g:=w.heap.size) ag) 42 #[.bool G,.slice B C F,.bool J,.slice H D j,.bool Z,.slice Y I K] (g:=(w.heap.size+1)) ag);exact lQ rfl rfl rfl (hS.aH 0) ⟨_,rfl,⟨_,rfl,RG.mk (hS.aF 2) (hS.aF 1) (hS.aF 0)⟩,hS.ext⟩
def qR(V v1 WW WV WJ v2 Xk Xm Xl w)(hc:Calm w V)(Wu:RG w v1 WW WV WJ)(WA:RG w v2 Xk Xm Xl):
  CV 141 #[.pointer (γ ⟨V,0,δ⟩),v1,v2] w fun v w'=>(∃u,v=.tuple #[u,.int .i64 0]/\RP w' u WW WV WJ Xk Xm Xl):=by
 have hS:=aeK w;obtain⟨S,G,L,O,W,T,N,D,Z,Y,I,Wj,rfl,Wx,Wy,Ww⟩:=Wu;replace hS:=hS.aX Wx;clear Wx;replace hS:=hS.aX Wy;clear Wy;replace hS:=hS.aX Ww;clear Ww;obtain⟨M,F,J,K,H,B,Q,C,P,R,U,j,rfl,Xr,Xt,Xq⟩:=WA;replace hS:=hS.aX Xr;clear Xr;replace hS:=hS.aX Xt;clear Xt;replace hS:=hS.aX Xq;clear Xq;replace hS:=hS.wY hc trivial;clear hc;have o4:Own w w.heap.size:=aeH hS.ext ag;have o5:Own w (w.heap.size+1):=aeH hS.ext ag;have o6:Own w (w.heap.size+2):=aeH hS.ext ag;have l:=(St.al (St.al (St.al hS 42 #[.bool S,.slice G L O,.bool W,.slice T N D,.bool Z,.slice Y I Wj] (g:=w.heap.size) ag) 42 #[.bool M,.slice F J K,.bool H,.slice B Q C,.bool P,.slice R U j] (g:=(w.heap.size+1)) ag) 44 #[.bool ζ,.slice δ 0 0,.bool ζ,.slice δ 0 0,.bool ζ,.slice δ 0 0,.bool ζ,.slice δ 0 0,.bool ζ,.slice δ 0 0,.bool ζ,.slice δ 0 0] (g:=(w.heap.size+2)) ag);have WH:=(l.aH 3).cell;have WF:=(l.aH 2).cell;have WX:=(l.aH 1).cell;have WY:=(l.aH 0).cell;have WZ:=(l.aH 0).frozen;go_enter func141,ntmps141;go_wp2;replace hS:=(St.al (St.al (St.al hS 42 #[.bool S,.slice G L O,.bool W,.slice T N D,.bool Z,.slice Y I Wj] (g:=w.heap.size) ag) 42 #[.bool M,.slice F J K,.bool H,.slice B Q C,.bool P,.slice R U j] (g:=(w.heap.size+1)) ag) 44 #[.bool S,.slice G L O,.bool W,.slice T N D,.bool Z,.slice Y I Wj,.bool M,.slice F J K,.bool H,.slice B Q C,.bool P,.slice R U j] (g:=(w.heap.size+2)) ag);exact lS rfl rfl rfl (hS.aH 0) ⟨_,rfl,⟨_,rfl,RP.mk (hS.aF 5) (hS.aF 4) (hS.aF 3) (hS.aF 2) (hS.aF 1) (hS.aF 0)⟩,hS.ext⟩
def I8(w):
  CV 129 #[] w fun v w'=>RG w' v 0 0 1:=by
 have hS:=aeK w;go_enter func129,ntmps129;(go_wp2_with fail);refine gA1 hS 42 #[.bool ζ,.slice δ 0 0,.bool ζ,.slice δ 0 0,.bool ζ,.slice δ 0 0] ?_;clear hS;intro w1 G B hS;refine(AJ (1) _ aa aa).mono ?_;rintro e w2 ⟨H,rfl,M,F⟩;replace hS:=hS.mv F;clear F;obtain⟨s1,l,n1,c1,rfl,j⟩:=RI.opn M;clear M;replace hS:=hS.aX j;clear j;have D:=(hS.aH 0).cell;have C:=(hS.aH 0).frozen;go_wp2;replace hS:=hS.pt 0 0 [.bool ζ,.slice δ 0 0,.bool ζ,.slice δ 0 0,.bool s1,.slice l n1 c1] B;exact dE rfl rfl rfl (hS.aH 0) ⟨_,rfl,RG.mk (RI.zero _) (RI.zero _) (hS.aF 0),hS.ext⟩
def TQ(v0 q0 n0 v1 q1 n1 w)(WG:GV w v0 q0 n0)(Wu:GV w v1 q1 n1)(hn:2*max n0 n1+65<=12800):
  CV 194 #[v0,v1] w fun v w'=>(∃u,v=.tuple #[u,.int .i64 0]/\GV w' u (aeF 1 q0 1 q1 1) (n0+n1+65)):=by
 have hS:=aeK w;obtain⟨Xf,Xe,Xd,WG,I0,S0⟩:=WG;obtain⟨W,S,D,B,P,L,G,Q,O,H,C,R,rfl,WB,WE,WC⟩:=WG;replace hS:=hS.aX WB;clear WB;replace hS:=hS.aX WE;clear WE;replace hS:=hS.aX WC;clear WC;obtain⟨WW,WV,WJ,Wu,I1,S1⟩:=Wu;obtain⟨Wq,Wn,Wm,Wp,Ws,Wt,Wo,Wl,Z,Y,I,Wj,rfl,Wx,Wy,Ww⟩:=Wu;replace hS:=hS.aX Wx;clear Wx;replace hS:=hS.aX Wy;clear Wy;replace hS:=hS.aX Ww;clear Ww;have l:=(St.al (St.al (St.al hS 42 #[.bool W,.slice S D B,.bool P,.slice L G Q,.bool O,.slice H C R] (g:=w.heap.size) ag) 42 #[.bool Wq,.slice Wn Wm Wp,.bool Ws,.slice Wt Wo Wl,.bool Z,.slice Y I Wj] (g:=(w.heap.size+1)) ag) 42 #[.bool ζ,.slice δ 0 0,.bool ζ,.slice δ 0 0,.bool ζ,.slice δ 0 0] (g:=(w.heap.size+2)) ag);have WH:=(l.aH 2).cell;have WF:=(l.aH 1).cell;go_enter func194,ntmps194;(go_wp2_with fail);clear WH WF;clear l;refine gA4 hS 42 #[.bool W,.slice S D B,.bool P,.slice L G Q,.bool O,.slice H C R] 42 #[.bool Wq,.slice Wn Wm Wp,.bool Ws,.slice Wt Wo Wl,.bool Z,.slice Y I Wj] 42 #[.bool ζ,.slice δ 0 0,.bool ζ,.slice δ 0 0,.bool ζ,.slice δ 0 0] 42 #[.bool W,.slice S D B,.bool P,.slice L G Q,.bool O,.slice H C R,.bool Wq,.slice Wn Wm Wp,.bool Ws,.slice Wt Wo Wl,.bool Z,.slice Y I Wj] ?_;clear hS;intro w1 g2 o2 g3 o3 g4 o4 g9 o9 hS;refine(jk g9 q0 q1 n0 n1 _ (hS.aH 0) ⟨_,_,_,RG.mk (hS.aF 5) (hS.aF 4) (hS.aF 3),I0,S0⟩ aa ⟨_,_,_,RG.mk (hS.aF 2) (hS.aF 1) (hS.aF 0),I1,S1⟩ aa).mono ?_;rintro e w2 ⟨rfl,F⟩;replace hS:=hS.mv F;clear F;have Wz:=(St.al hS 197 #[.int .i64 0] (g:=w2.heap.size) ag);have WX:=(Wz.aH 4).cell;have WY:=(Wz.aH 3).cell;(go_wp2_with fail);clear WX WY;clear Wz;refine gA1 hS 197 #[.int .i64 0] ?_;clear hS;intro w3 g6 o6 hS;obtain⟨V,Wv,WA,WK⟩:=fH (aeF (1) q0 (1) q1 (1));have Xa:Sz (n0+n1+65) V Wv WA:=(aeT (m:=1) ⟨_,_,_,I0,S0⟩ ⟨_,_,_,I1,S1⟩ aa aa aa aa aa aa aa).sz WK;refine(kz (iI g6 _ _ q0 q1 (1) (1) (1) _ _ _ (hS.aH 0) ⟨_,_,_,RG.mk (hS.aF 5) (hS.aF 4) (hS.aF 3),I0,S0⟩ ⟨_,_,_,RG.mk (hS.aF 2) (hS.aF 1) (hS.aF 0),I1,S1⟩ aa aa aa aa aa aa aa aa) WK).mono ?_;exact Aaj
def TZ(v0 q0 n0 v1 q1 n1 w)(WG:GV w v0 q0 n0)(Wu:GV w v1 q1 n1)(hn:2*max n0 n1+65<=12800):
  CV 135 #[v0,v1] w fun v w'=>(∃u,v=.tuple #[u,.int .i64 0]/\GV w' u (aeF 1 q0 (-1) q1 1) (n0+n1+65)):=by
 have hS:=aeK w;obtain⟨Xf,Xe,Xd,WG,I0,S0⟩:=WG;obtain⟨W,S,D,B,P,L,G,Q,O,H,C,R,rfl,WB,WE,WC⟩:=WG;replace hS:=hS.aX WB;clear WB;replace hS:=hS.aX WE;clear WE;replace hS:=hS.aX WC;clear WC;obtain⟨WW,WV,WJ,Wu,I1,S1⟩:=Wu;obtain⟨Wq,Wn,Wm,Wp,Ws,Wt,Wo,Wl,Z,Y,I,Wj,rfl,Wx,Wy,Ww⟩:=Wu;replace hS:=hS.aX Wx;clear Wx;replace hS:=hS.aX Wy;clear Wy;replace hS:=hS.aX Ww;clear Ww;have l:=(St.al (St.al (St.al hS 42 #[.bool W,.slice S D B,.bool P,.slice L G Q,.bool O,.slice H C R] (g:=w.heap.size) ag) 42 #[.bool Wq,.slice Wn Wm Wp,.bool Ws,.slice Wt Wo Wl,.bool Z,.slice Y I Wj] (g:=(w.heap.size+1)) ag) 42 #[.bool ζ,.slice δ 0 0,.bool ζ,.slice δ 0 0,.bool ζ,.slice δ 0 0] (g:=(w.heap.size+2)) ag);have WH:=(l.aH 2).cell;have WF:=(l.aH 1).cell;go_enter func135,ntmps135;(go_wp2_with fail);clear WH WF;clear l;refine gA4 hS 42 #[.bool W,.slice S D B,.bool P,.slice L G Q,.bool O,.slice H C R] 42 #[.bool Wq,.slice Wn Wm Wp,.bool Ws,.slice Wt Wo Wl,.bool Z,.slice Y I Wj] 42 #[.bool ζ,.slice δ 0 0,.bool ζ,.slice δ 0 0,.bool ζ,.slice δ 0 0] 42 #[.bool W,.slice S D B,.bool P,.slice L G Q,.bool O,.slice H C R,.bool Wq,.slice Wn Wm Wp,.bool Ws,.slice Wt Wo Wl,.bool Z,.slice Y I Wj] ?_;clear hS;intro w1 g2 o2 g3 o3 g4 o4 g9 o9 hS;refine(jk g9 q0 q1 n0 n1 _ (hS.aH 0) ⟨_,_,_,RG.mk (hS.aF 5) (hS.aF 4) (hS.aF 3),I0,S0⟩ aa ⟨_,_,_,RG.mk (hS.aF 2) (hS.aF 1) (hS.aF 0),I1,S1⟩ aa).mono ?_;rintro e w2 ⟨rfl,F⟩;replace hS:=hS.mv F;clear F;have Wz:=(St.al hS 197 #[.int .i64 0] (g:=w2.heap.size) ag);have WX:=(Wz.aH 4).cell;have WY:=(Wz.aH 3).cell;(go_wp2_with fail);clear WX WY;clear Wz;refine gA1 hS 197 #[.int .i64 0] ?_;clear hS;intro w3 g6 o6 hS;obtain⟨V,Wv,WA,WK⟩:=fH (aeF (1) q0 (-1) q1 (1));have Xa:Sz (n0+n1+65) V Wv WA:=(aeT (m:=1) ⟨_,_,_,I0,S0⟩ ⟨_,_,_,I1,S1⟩ aa aa aa aa aa aa aa).sz WK;refine(kz (iI g6 _ _ q0 q1 (1) (-1) (1) _ _ _ (hS.aH 0) ⟨_,_,_,RG.mk (hS.aF 5) (hS.aF 4) (hS.aF 3),I0,S0⟩ ⟨_,_,_,RG.mk (hS.aF 2) (hS.aF 1) (hS.aF 0),I1,S1⟩ aa aa aa aa aa aa aa aa) WK).mono ?_;exact Aaj
def Ps(v0 q0 n0 v1 q1 n1 w)(WG:GV w v0 q0 n0)(Wu:GV w v1 q1 n1)(hn:2*max n0 n1+1<=12800):
  CV 164 #[v0,v1] w fun v w'=>(∃u,v=.tuple #[u,.int .i64 0]/\GV w' u (q0*q1) (n0+n1+1)):=by
 have hS:=aeK w;obtain⟨Xf,Xe,Xd,WG,I0,S0⟩:=WG;obtain⟨W,S,D,B,P,L,G,Q,O,H,C,R,rfl,WB,WE,WC⟩:=WG;replace hS:=hS.aX WB;clear WB;replace hS:=hS.aX WE;clear WE;replace hS:=hS.aX WC;clear WC;obtain⟨WW,WV,WJ,Wu,I1,S1⟩:=Wu;obtain⟨Wq,Wn,Wm,Wp,Ws,Wt,Wo,Wl,Z,Y,I,Wj,rfl,Wx,Wy,Ww⟩:=Wu;replace hS:=hS.aX Wx;clear Wx;replace hS:=hS.aX Wy;clear Wy;replace hS:=hS.aX Ww;clear Ww;have l:=(St.al (St.al (St.al hS 42 #[.bool W,.slice S D B,.bool P,.slice L G Q,.bool O,.slice H C R] (g:=w.heap.size) ag) 42 #[.bool Wq,.slice Wn Wm Wp,.bool Ws,.slice Wt Wo Wl,.bool Z,.slice Y I Wj] (g:=(w.heap.size+1)) ag) 42 #[.bool ζ,.slice δ 0 0,.bool ζ,.slice δ 0 0,.bool ζ,.slice δ 0 0] (g:=(w.heap.size+2)) ag);have WH:=(l.aH 2).cell;have WF:=(l.aH 1).cell;go_enter func164,ntmps164;(go_wp2_with fail);clear WH WF;clear l;refine gA4 hS 42 #[.bool W,.slice S D B,.bool P,.slice L G Q,.bool O,.slice H C R] 42 #[.bool Wq,.slice Wn Wm Wp,.bool Ws,.slice Wt Wo Wl,.bool Z,.slice Y I Wj] 42 #[.bool ζ,.slice δ 0 0,.bool ζ,.slice δ 0 0,.bool ζ,.slice δ 0 0] 42 #[.bool W,.slice S D B,.bool P,.slice L G Q,.bool O,.slice H C R,.bool Wq,.slice Wn Wm Wp,.bool Ws,.slice Wt Wo Wl,.bool Z,.slice Y I Wj] ?_;clear hS;intro w1 g2 o2 g3 o3 g4 o4 g9 o9 hS;refine(jk g9 q0 q1 n0 n1 _ (hS.aH 0) ⟨_,_,_,RG.mk (hS.aF 5) (hS.aF 4) (hS.aF 3),I0,S0⟩ aa ⟨_,_,_,RG.mk (hS.aF 2) (hS.aF 1) (hS.aF 0),I1,S1⟩ aa).mono ?_;rintro e w2 ⟨rfl,F⟩;replace hS:=hS.mv F;clear F;have Wz:=(St.al hS 197 #[.int .i64 0] (g:=w2.heap.size) ag);have WX:=(Wz.aH 4).cell;have WY:=(Wz.aH 3).cell;(go_wp2_with fail);clear WX WY;clear Wz;refine gA1 hS 197 #[.int .i64 0] ?_;clear hS;intro w3 g6 o6 hS;obtain⟨V,Wv,WA,WK⟩:=fH (q0*q1);have Xa:Sz (n0+n1+1) V Wv WA:=(Bd.mul ⟨_,_,_,I0,S0⟩ ⟨_,_,_,I1,S1⟩).sz WK;refine(kz (vz g6 _ _ q0 q1 _ _ _ (hS.aH 0) ⟨_,_,_,RG.mk (hS.aF 5) (hS.aF 4) (hS.aF 3),I0,S0⟩ ⟨_,_,_,RG.mk (hS.aF 2) (hS.aF 1) (hS.aF 0),I1,S1⟩ aa) WK).mono ?_;exact Aaj
def uT(v u x y k w)(F:RI w v x)(l:RI w u y)(D:x.natAbs<lim)(L:y.natAbs<lim)(h:pY x y=k):
  CE 52 #[v,u] w (.int .i64 k):=by
 have:=Ai v u x y w F l D L;rwa[h] at this
def RI.le{w s A n c k z}(h:RI w (iv s A n c) z)(j:z.natAbs<2^(32*k)):n<=k:=by
 obtain⟨A',n',c',e,G⟩:=h;simp[iv] at e;obtain⟨_,_,rfl,_⟩:=e;rw[<-G.len];exact kK (by rw[show(4294967296:Nat)=2^32 from rfl,<-Nat.pow_mul];exact j)
def VB (w:World) (v:Value) (b:Bool):Prop:=∀w',Ext w w'->(CE 95 #[v] w' (.bool b))/\True
def VB.ext{w w' v b}(h:VB w v b)(x:Ext w w'):VB w' v b:=fun w'' x'=>h w'' (x.trans x')
def VB.e{w v b}(h:VB w v b):CE 95 #[v] w (.bool b):=(h w (Ext.refl w)).1
def GV.vb{w v q n}(h:GV w v q n)(hn:n<=12800):VB w v ε:=fun w' x=>⟨jr v q n w' (h.ext x) hn,trivial⟩
def agy{w s A n c z}(h:RI w (iv s A n c) z)(j:z≠0):((n:Int)==0)=ζ:=by
 obtain⟨A',n',c',e,G⟩:=h;simp[iv] at e;obtain⟨_,_,rfl,_⟩:=e;have:=(qY G.len).2 aa;simp;omega
def agt{w s A n c z}(h:RI w (iv s A n c) z)(j:z=0):((n:Int)==0)=ε:=by
 obtain⟨A',n',c',e,G⟩:=h;simp[iv] at e;obtain⟨_,_,rfl,_⟩:=e;have:=(qY G.len);simp;omega
def RZ (a d b e r n:Int):Prop:=Le3 ((2*n-1)*r*(d*e)-2*(a*e)) (2*(b*d))
def Mc(s1 A1 n1 c1 s2 A2 n2 c2 s3 A3 n3 c3 w):
  CE 136 #[gv s1 A1 n1 c1 s2 A2 n2 c2 s3 A3 n3 c3] w (.bool (decide (n1=0)&&decide (n2=0))):=by
 have F:=Blk.new w 42 #[.bool s1,.slice A1 n1 c1,.bool s2,.slice A2 n2 c2,.bool s3,.slice A3 n3 c3];have k0:=F.cell;by_cases l:n1=0
 .have G:((n1:Int)==0)=ε:=ae;have B:=aJ l;clear l;by_cases j:n2=0
  .have D:((n2:Int)==0)=ε:=ae;have C:=aJ j;clear j;go_enter adT,adt;go_wp2;go_ret;exact⟨aU (by simp[B.o,C.o]),Ext.new _ _⟩
  .have D:((n2:Int)==0)=ζ:=ae;have C:=aJ j;clear j;go_enter adT,adt;go_wp2;go_ret;exact⟨aU (by simp[C.o]),Ext.new _ _⟩
 .have G:((n1:Int)==0)=ζ:=ae;have B:=aJ l;clear l;go_enter adT,adt;go_wp2;go_ret;exact⟨aU (by simp[B.o]),Ext.new _ _⟩
def Bf(s1 A1 n1 c1 s2 A2 n2 c2 s3 A3 n3 c3 r w)(h:(decide (n1=0)&&decide (n2=0))=r):
  CE 136 #[gv s1 A1 n1 c1 s2 A2 n2 c2 s3 A3 n3 c3] w (.bool r):=by
 have:=Mc s1 A1 n1 c1 s2 A2 n2 c2 s3 A3 n3 c3 w;rwa[h] at this
def afM{w s A n c z}(h:RI w (iv s A n c) z):decide (n=0)=decide (z=0):=by
 by_cases j:z=0
 .have:=agt h j;simp at this;simp[this,j]
 .have:=agy h j;simp at this;simp[this,j]
def Is.Oi{q a b d}(h:Is q a b d):q=GQ.i 0 0↔a=0/\b=0:=by
 have hd:=fZ h.dne;constructor
 .intro e;have j:=h.re;have l:=h.im;rw[e] at j l;simp only[GQ.bU,GQ.bS] at j l;have C:(a:Rat)=0:=ak;have B:(b:Rat)=0:=ak;exact⟨by exact_mod_cast C,by exact_mod_cast B⟩
 .rintro⟨rfl,rfl⟩;ext
  .rw[h.re];simp only[GQ.bU];grind
  .rw[h.im];simp only[GQ.bS];grind
def GV.zero{w q n n1 c1 n2 c2 n3 c3 s1 s2 s3 A1 A2 A3}(h:GV w (gv s1 A1 n1 c1 s2 A2 n2 c2 s3 A3 n3 c3) q n):(decide (n1=0)&&decide (n2=0))=ε↔q=GQ.i 0 0:=by
 obtain⟨a,b,d,l,j,_⟩:=h;obtain⟨r1,r2,B⟩:=RG.inj l;rw[afM r1,afM r2,j.Oi];simp
def GV.opn{w v q n}(h:GV w v q n):∃s1 A1 n1 c1 s2 A2 n2 c2 s3 A3 n3 c3,v=gv s1 A1 n1 c1 s2 A2 n2 c2 s3 A3 n3 c3:=by
 obtain⟨a,b,d,⟨s1,A1,n1,c1,s2,A2,n2,c2,s3,A3,n3,c3,e,_⟩,_⟩:=h;exact⟨s1,A1,n1,c1,s2,A2,n2,c2,s3,A3,n3,c3,e⟩
def F7(v q n w)(F:GV w v q n)(h:q≠GQ.i 0 0):
  CE 136 #[v] w (.bool ζ):=by
 obtain⟨s1,A1,n1,c1,s2,A2,n2,c2,s3,A3,n3,c3,rfl⟩:=F.opn;exact Bf _ _ _ _ _ _ _ _ _ _ _ _ _ w Abx
def agd{x y n1 n2}(D:Bd x n1)(B:Bd y n2)(h:y≠GQ.i 0 0):Bd (x/y) (n1+(n2+n2+1)):=by
 obtain⟨a,b,d,i1,s1⟩:=D;obtain⟨a',b',d',Y,s2⟩:=B;obtain⟨u,v,t,N⟩:=fH (x/y);have j:=Y.ne0 h;have E:=i1.Ju Y j N;have C:=bN (jh (bN s1.a s2.a) (bN s1.b s2.b)) s2.d;have F:=bN (sF (bN s1.b s2.a) (bN s1.a s2.b)) s2.d;have l:=bN s1.d (jh (bN s2.a s2.a) (bN s2.b s2.b));exact⟨u,v,t,N,jo (n:=n1+(n2+n2+1)) (nV i1.dne (pg j)) E (iU C aa) (iU F aa) l⟩
theorem DR{x y}(h:x=y):pY x y=0:=by subst h;unfold pY;rw[θ aa,θ aa]
def QY(M I B D N J j C K L G H R w)(O:VB w (gv M I B D N J j C K L G H) R)(S:Hid ((decide (B=0)&&decide (j=0))=ε)):
  CE 90 #[gv M I B D N J j C K L G H] w (.bool R):=by
 have hS:=aeK w;have l:=(St.al hS 42 #[.bool M,.slice I B D,.bool N,.slice J j C,.bool K,.slice L G H] (g:=w.heap.size) ag);have Q:=(l.aH 0).cell;go_enter func90,ntmps90;(go_wp2_with fail);clear Q;clear l;refine gA1 hS 42 #[.bool M,.slice I B D,.bool N,.slice J j C,.bool K,.slice L G H] ?_;clear hS;intro w1 g1 U hS;refine(Bf M I B D N J j C K L G H ε _ S.o).mono ?_;rintro e w2 ⟨rfl,F⟩;replace hS:=hS.mv F;clear F;have P:=(hS.aH 0).cell;(go_wp2_with fail);clear P;refine(VB.e (O.ext hS.ext)).mono ?_;rintro e T ⟨rfl,F⟩;exact AaP
def Rz(M I B D N J j C K L G H R w)(O:VB w (gv M I B D N J j C K L G H) R)(Q:Hid ((decide (B=0)&&decide (j=0))=ζ)):
  CE 90 #[gv M I B D N J j C K L G H] w (.bool ζ):=by
 have hS:=aeK w;have l:=(St.al hS 42 #[.bool M,.slice I B D,.bool N,.slice J j C,.bool K,.slice L G H] (g:=w.heap.size) ag);have P:=(l.aH 0).cell;go_enter func90,ntmps90;(go_wp2_with fail);clear P;clear l;refine gA1 hS 42 #[.bool M,.slice I B D,.bool N,.slice J j C,.bool K,.slice L G H] ?_;clear hS;intro w1 g1 S hS;refine(Bf M I B D N J j C K L G H ζ _ Q.o).mono ?_;rintro e w2 ⟨rfl,F⟩;exact AaP
def xk(v q n w)(F:GV w v q n)(hn:n<=12800)(h:q=GQ.i 0 0):
  CE 90 #[v] w (.bool ε):=by
 obtain⟨s1,A1,n1,c1,s2,A2,n2,c2,s3,A3,n3,c3,rfl⟩:=F.opn;exact QY _ _ _ _ _ _ _ _ _ _ _ _ _ w (F.vb hn) (aJ (F.zero.2 h))
def zx(v q n w)(F:GV w v q n)(hn:n<=12800)(h:q≠GQ.i 0 0):
  CE 90 #[v] w (.bool ζ):=by
 obtain⟨s1,A1,n1,c1,s2,A2,n2,c2,s3,A3,n3,c3,rfl⟩:=F.opn;exact Rz _ _ _ _ _ _ _ _ _ _ _ _ _ w (F.vb hn) (aJ Abx)
def Sy(v0 V T Xd v1 WW U WJ q0 q1 m0 m1 w)(WG:RG w v0 V T Xd)(N:V.natAbs<lim)(J:T.natAbs<lim)(j:Xd.natAbs<lim)(Wu:RG w v1 WW U WJ)(Xy:WW.natAbs<lim)(Xx:U.natAbs<lim)(Xp:WJ.natAbs<lim)(I0:Is q0 V T Xd)(S0:Sz m0 V T Xd)(I1:Is q1 WW U WJ)(S1:Sz m1 WW U WJ)(W9:m0<=12800)(Xb:m1<=12800)(K:Hid (pY V WW=0))(M:Hid (pY T U=0))(Hd:Hid (pY Xd WJ=0)):
  CE 14 #[v0,v1] w (.bool ε):=by
 have hS:=aeK w;obtain⟨W,S,D,B,P,L,G,Q,O,H,C,R,rfl,WB,WE,WC⟩:=WG;replace hS:=hS.aX WB;clear WB;replace hS:=hS.aX WE;clear WE;replace hS:=hS.aX WC;clear WC;obtain⟨Wq,Wn,Wm,Wp,Ws,Wt,Wo,Wl,Z,Y,I,Wj,rfl,Wx,Wy,Ww⟩:=Wu;replace hS:=hS.aX Wx;clear Wx;replace hS:=hS.aX Wy;clear Wy;replace hS:=hS.aX Ww;clear Ww;have l:=(St.al (St.al hS 42 #[.bool W,.slice S D B,.bool P,.slice L G Q,.bool O,.slice H C R] (g:=w.heap.size) ag) 42 #[.bool Wq,.slice Wn Wm Wp,.bool Ws,.slice Wt Wo Wl,.bool Z,.slice Y I Wj] (g:=(w.heap.size+1)) ag);have WH:=(l.aH 1).cell;have WF:=(l.aH 0).cell;go_enter func14,ntmps14;(go_wp2_with fail);clear WH WF;clear l;refine gA3 hS 42 #[.bool W,.slice S D B,.bool P,.slice L G Q,.bool O,.slice H C R] 42 #[.bool Wq,.slice Wn Wm Wp,.bool Ws,.slice Wt Wo Wl,.bool Z,.slice Y I Wj] 42 #[.bool W,.slice S D B,.bool P,.slice L G Q,.bool O,.slice H C R,.bool Wq,.slice Wn Wm Wp,.bool Ws,.slice Wt Wo Wl,.bool Z,.slice Y I Wj] ?_;clear hS;intro w1 g2 o2 g3 o3 g7 o7 hS;refine(jk g7 q0 q1 m0 m1 _ (hS.aH 0) ⟨_,_,_,RG.mk (hS.aF 5) (hS.aF 4) (hS.aF 3),I0,S0⟩ aa ⟨_,_,_,RG.mk (hS.aF 2) (hS.aF 1) (hS.aF 0),I1,S1⟩ aa).mono ?_;rintro e w2 ⟨rfl,F⟩;replace hS:=hS.mv F;clear F;have WX:=(hS.aH 2).cell;have WY:=(hS.aH 1).cell;(go_wp2_with fail);clear WX WY;refine(uT _ _ V WW (0) _ (hS.aF 5) (hS.aF 2) N Xy K.o).mono ?_;rintro e w3 ⟨rfl,F⟩;replace hS:=hS.mv F;clear F;have WZ:=(hS.aH 2).cell;have Xc:=(hS.aH 1).cell;(go_wp2_with fail);clear WZ Xc;refine(uT _ _ T U (0) _ (hS.aF 4) (hS.aF 1) J Xx M.o).mono ?_;rintro e w4 ⟨rfl,F⟩;replace hS:=hS.mv F;clear F;have Xj:=(hS.aH 2).cell;have XD:=(hS.aH 1).cell;(go_wp2_with fail);clear Xj XD;refine(uT _ _ Xd WJ (0) _ (hS.aF 3) (hS.aF 0) j Xp Hd.o).mono ?_;rintro e w5 ⟨rfl,F⟩;exact AaP
def CQ(v u q m n w)(F:GV w v q m)(l:GV w u q n)(j:m<=12800)(hn:n<=12800):
  CE 14 #[v,u] w (.bool ε):=by
 obtain⟨a,b,d,H,i1,s1⟩:=F;obtain⟨a',b',d',B,Y,s2⟩:=l;obtain⟨M,J,C⟩:=s1.oJ j;obtain⟨D,N,G⟩:=s2.oJ hn;obtain⟨K,I,L⟩:=i1.unique Y;exact Sy v a b d u a' b' d' q q m n w H M J C B D N G i1 s1 Y s2 j hn (aJ (DR K)) (aJ (DR I)) (aJ (DR L))
def UY(v0 q0 n0 v1 q1 n1 w)(WG:GV w v0 q0 n0)(Wu:GV w v1 q1 n1)(H0:Hid (q1≠GQ.i 0 0))(hn:4*max n0 n1+3<=12800):
  CV 137 #[v0,v1] w fun v w'=>(∃u,v=.tuple #[u,.int .i64 0]/\GV w' u (q0/q1) (n0+(n1+n1+1))):=by
 have hS:=aeK w;obtain⟨Xf,Xe,Xd,WG,I0,S0⟩:=WG;obtain⟨W,S,D,B,P,L,G,Q,O,H,C,R,rfl,WB,WE,WC⟩:=WG;replace hS:=hS.aX WB;clear WB;replace hS:=hS.aX WE;clear WE;replace hS:=hS.aX WC;clear WC;obtain⟨WW,WV,WJ,Wu,I1,S1⟩:=Wu;obtain⟨Wq,Wn,Wm,Wp,Ws,Wt,Wo,Wl,Z,Y,I,Wj,rfl,Wx,Wy,Ww⟩:=Wu;replace hS:=hS.aX Wx;clear Wx;replace hS:=hS.aX Wy;clear Wy;replace hS:=hS.aX Ww;clear Ww;have l:=(St.al (St.al (St.al hS 42 #[.bool W,.slice S D B,.bool P,.slice L G Q,.bool O,.slice H C R] (g:=w.heap.size) ag) 42 #[.bool Wq,.slice Wn Wm Wp,.bool Ws,.slice Wt Wo Wl,.bool Z,.slice Y I Wj] (g:=(w.heap.size+1)) ag) 42 #[.bool ζ,.slice δ 0 0,.bool ζ,.slice δ 0 0,.bool ζ,.slice δ 0 0] (g:=(w.heap.size+2)) ag);have WH:=(l.aH 2).cell;have WF:=(l.aH 1).cell;go_enter func137,ntmps137;(go_wp2_with fail);clear WH WF;clear l;refine gA4 hS 42 #[.bool W,.slice S D B,.bool P,.slice L G Q,.bool O,.slice H C R] 42 #[.bool Wq,.slice Wn Wm Wp,.bool Ws,.slice Wt Wo Wl,.bool Z,.slice Y I Wj] 42 #[.bool ζ,.slice δ 0 0,.bool ζ,.slice δ 0 0,.bool ζ,.slice δ 0 0] 42 #[.bool W,.slice S D B,.bool P,.slice L G Q,.bool O,.slice H C R,.bool Wq,.slice Wn Wm Wp,.bool Ws,.slice Wt Wo Wl,.bool Z,.slice Y I Wj] ?_;clear hS;intro w1 g2 o2 g3 o3 g4 o4 g9 o9 hS;refine(jk g9 q0 q1 n0 n1 _ (hS.aH 0) ⟨_,_,_,RG.mk (hS.aF 5) (hS.aF 4) (hS.aF 3),I0,S0⟩ aa ⟨_,_,_,RG.mk (hS.aF 2) (hS.aF 1) (hS.aF 0),I1,S1⟩ aa).mono ?_;rintro e w2 ⟨rfl,F⟩;replace hS:=hS.mv F;clear F;have WX:=(hS.aH 2).cell;(go_wp2_with fail);clear WX;refine(F7 _ q1 (n1) _ ⟨_,_,_,RG.mk (hS.aF 2) (hS.aF 1) (hS.aF 0),I1,S1⟩ H0.o).mono ?_;rintro e w3 ⟨rfl,F⟩;replace hS:=hS.mv F;clear F;have Wz:=(St.al hS 197 #[.int .i64 0] (g:=w3.heap.size) ag);have WY:=(Wz.aH 4).cell;have WZ:=(Wz.aH 3).cell;(go_wp2_with fail);clear WY WZ;clear Wz;refine gA1 hS 197 #[.int .i64 0] ?_;clear hS;intro w4 g6 o6 hS;obtain⟨WI,Wv,WA,WK⟩:=fH (q0/q1);have Xi:Sz (n0+(n1+n1+1)) WI Wv WA:=(agd ⟨_,_,_,I0,S0⟩ ⟨_,_,_,I1,S1⟩ H0.o).sz WK;refine(kz (GU g6 _ _ q0 q1 _ _ _ (hS.aH 0) ⟨_,_,_,RG.mk (hS.aF 5) (hS.aF 4) (hS.aF 3),I0,S0⟩ ⟨_,_,_,RG.mk (hS.aF 2) (hS.aF 1) (hS.aF 0),I1,S1⟩ aa H0.o) WK).mono ?_;exact Aam
structure Mod (S:Nat->Prop) (w w':World):Prop where
 os:w'.os=w.os
 tape:w'.tape=w.tape
 output:w'.output=w.output
 size:w.heap.size<=w'.heap.size
 block:∀k,k<w.heap.size->¬S k->w'.heap[k]? =w.heap[k]?
section
variable {S T:Nat->Prop} {w w' w'':World}
def Mod.refl(S w):Mod S w w:=⟨rfl,rfl,rfl,κ _,fun _ _ _=>rfl⟩
def Mod.trans(h:Mod S w w')(k:Mod S w' w''):Mod S w w'':=
 ⟨k.os.trans h.os,k.tape.trans h.tape,k.output.trans h.output,nk h.size k.size,fun i hi hs=>(k.block i (π hi h.size) hs).trans (h.block i hi hs)⟩
def aeI(h:Ext w w'):Mod S w w':=⟨h.os,h.tape,h.output,h.size,fun k j _=>h.block k j⟩
def Mod.mono(h:Mod S w w')(hs:∀k,S k->T k):Mod T w w':=⟨h.os,h.tape,h.output,h.size,fun k j hn=>h.block k j (fun e=>hn (hs k e))⟩
def Mod.only{g}(h:Only g w w')(j:S g):Mod S w w':=
 ⟨h.os,h.tape,h.output,h.size,fun k l hn=>h.block k l (fun e=>hn (by first|(injection e with e;exact e ▸ j)|exact e ▸ j))⟩
def Blk.mod{g t cs}(h:Blk w g t cs)(m:Mod S w w')(j:¬S g):Blk w' g t cs:=(m.block g h.lt j).trans h
def Far (S:Nat->Prop) (w:World):Prop:=∀g,S g->g<w.heap.size->∃t cs,Blk w g t cs/\kD cs=ε
def RM.mod{A n c l}(h:RM w A n c l)(m:Mod S w w')(hS:Far S w):RM w' A n c l:=by
 refine⟨⟨h.rd.1,fun hn=> ?_⟩,h.dg,h.nc,h.cm⟩;obtain⟨b,o,rfl,B,hc⟩:=h.rd.plain hn;obtain⟨R,x,e,_,H,_,_⟩:=h.at_ hn;have C:¬S b:=by
  intro hs;obtain⟨t,cs,hb,D⟩:=hS b hs B;have:=hc 0 _ (ry H);rw[hb.cell] at this;exact sG D _ _ _ this
 exact AaV
def RI.mod{v z}(h:RI w v z)(m:Mod S w w')(hS:Far S w):RI w' v z:=by
 obtain⟨A,n,c,e,h⟩:=h;exact⟨A,n,c,e,h.mod m hS⟩
def GV.mod{v q n}(h:GV w v q n)(m:Mod S w w')(hS:Far S w):GV w' v q n:=by
 obtain⟨a,b,d,⟨s1,A1,n1,c1,s2,A2,n2,c2,s3,A3,n3,c3,e,l,j,B⟩,I,Z⟩:=h;exact⟨a,b,d,⟨s1,A1,n1,c1,s2,A2,n2,c2,s3,A3,n3,c3,e,l.mod m hS,j.mod m hS,B.mod m hS⟩,I,Z⟩
end
def GV.to{w v q m n}(h:GV w v q m)(hb:Bd q n):GV w v q n:=by
 obtain⟨a,b,d,j,I,Z⟩:=h;exact⟨a,b,d,j,I,hb.sz I⟩
def GV.up{w v q m n}(h:GV w v q m)(hn:m<=n):GV w v q n:=by
 obtain⟨a,b,d,j,I,Z⟩:=h;exact⟨a,b,d,j,I,Z.mono hn⟩
structure En where
 s1:Bool
 A1:Option Addr
 n1:Nat
 c1:Nat
 s2:Bool
 A2:Option Addr
 n2:Nat
 c2:Nat
 s3:Bool
 A3:Option Addr
 n3:Nat
 c3:Nat
def En.v (e:En):Value:=gv e.s1 e.A1 e.n1 e.c1 e.s2 e.A2 e.n2 e.c2 e.s3 e.A3 e.n3 e.c3
def En.cells (e:En):List Value:=[.bool e.s1,.slice e.A1 e.n1 e.c1,.bool e.s2,.slice e.A2 e.n2 e.c2,.bool e.s3,.slice e.A3 e.n3 e.c3]
def GV.en{w v q n}(h:GV w v q n):∃e:En,v=e.v:=by
 obtain⟨s1,A1,n1,c1,s2,A2,n2,c2,s3,A3,n3,c3,e⟩:=h.opn;exact⟨⟨s1,A1,n1,c1,s2,A2,n2,c2,s3,A3,n3,c3⟩,e⟩
def aM (n:Nat) (f:Nat->En):List Value:=(List.range n).flatMap fun j=>(f j).cells
theorem iG(n f):aM (n+1) f=aM n f++(f n).cells:=by
 unfold aM;exact Abo
def aW:∀(n:Nat) (f:Nat->En),(aM n f).length=n*6
 |0,_=>rfl
 |n+1,f=>by
  rw[iG,q8,aW n f];simp[En.cells];omega
def dO{f j t}(l:t<6):∀{n:Nat},j<n->(aM n f)[j*6+t]? =(f j).cells[t]?
 |0,h=>aa
 |n+1,h=>by
  rw[iG];by_cases e:j=n
  .subst e;rw[nG AbU,aW];congr 1;omega
  .rw[Ω AbU];exact dO l aa
theorem zI{n f f'}(h:∀j,j<n->f j=f' j):aM n f=aM n f':=by
 unfold aM;have:∀(L:List Nat),(∀j∈L,f j=f' j)->L.flatMap (fun j=>(f j).cells)=L.flatMap (fun j=>(f' j).cells):=by
  intro L
  induction L with
  |nil=>intro _;rfl
  |cons a L ih=>
   intro h;simp only[List.flatMap_cons];rw[h a (q9),ih (fun j l=>h j (ib _ l))]
 exact this _ (fun j l=>h j (aaz.1 l))
def upd {α:Type} (f:Nat->α) (j:Nat) (e:α):Nat->α:=fun i=>if i=j then e else f i
theorem upd_same{α:Type}(f:Nat->α)(j)(e:α):upd f j e j=e:=by unfold upd;rw[ι rfl]
theorem upd_ne{α:Type}{f:Nat->α}{i j}{e:α}(h:i≠j):upd f j e i=f i:=by unfold upd;rw[θ h]
def ji:∀(B:List Value) (l:List Value) (k:Nat),fI l.toArray k B=((l.take k)++(B.take (l.length-k))++l.drop (k+B.length)).toArray
 |[],l,k=>by simp[fI]
 |v::B,l,k=>by
  show fI (l.toArray.setIfInBounds k v) (k+1) B=_;rw[qa,ji B];congr 1;by_cases h:k<l.length
  .rw[abt,List.take_set,List.drop_set_of_lt aa];have j:((l.take (k+1)).set k v)=l.take k++[v]:=by
    rw[aaS h,abG _ _ ae];simp[aaE (aaH h)]
   rw[j];have C:(v::B).take (l.length-k)=v::B.take (l.length-(k+1)):=by
    rw[show l.length-k=(l.length-(k+1))+1 by omega,aao]
   rw[C];simp only[nC,Ha,ξ,ο];rw[show k+1+B.length=k+(B.length+1) by omega]
  .rw[List.set_eq_of_length_le aa];rw[Λ (i:=k+1) aa,Λ (i:=k) aa,show l.length-k=0 by omega,show l.length-(k+1)=0 by omega];simp only[abj,aaj];rw[aaQ aa,aaQ (by simp only[nC];omega)]
def mF{f j n}(e)(F:j<n):fI (aM n f).toArray (j*6) e.cells=(aM n (upd f j e)).toArray:=by
 rw[ji];congr 1;apply aap;intro t;have V:e.cells.length=6:=rfl;rw[aW,V,Λ (l:=e.cells) (by rw[V];omega)];have S:((aM n f).take (j*6)).length=j*6:=by rw[PI,aW];omega
 by_cases C:t<j*6
 .rw[Ha,Ω (by rw[S];exact C),Zb C];have B:t=(t/6)*6+t%6:=aa;rw[B,dO (Ab _ aa) aa,dO (Ab _ aa) aa,upd_ne aa]
 .by_cases B:t<j*6+6
  .rw[Ha,nG (by rw[S];omega),S,Ω (by rw[V];omega)];have D:t=j*6+(t-j*6):=aa
   conv=>rhs;rw[D]
   rw[dO aa F,upd_same]
  .rw[nG (by rw[q8,S,V];omega),q8,S,V,aaf];rw[show j*6+6+(t-(j*6+6))=t by omega];by_cases D:t<n*6
   .have G:t=(t/6)*6+t%6:=aa;rw[G,dO (Ab _ aa) aa,dO (Ab _ aa) aa,upd_ne aa]
   .rw[Be AbU,Be AbU]
theorem dm(n f):kD (aM n f).toArray=ε:=by
 unfold kD;simp only[wo];intro v hv;unfold aM at hv;obtain⟨j,_,hv⟩:=ac0.1 hv;unfold En.cells at hv;simp only[ψ,RS,aaU] at hv;rcases hv with rfl|rfl|rfl|rfl|rfl|rfl<;>rfl
def dD (w:World) (g n:Nat) (x:Nat->GQ):Prop:=∃f:Nat->En,Blk w g 42 (aM n f).toArray/\∀j,j<n->GV w (f j).v (x j) 12800
def dD.ext{w w' g n x}(h:dD w g n x)(e:Ext w w'):dD w' g n x:=by
 obtain⟨f,C,l⟩:=h;exact⟨f,C.ext e,fun j B=>(l j B).ext e⟩
def dD.mod{S w w' g n x}(h:dD w g n x)(m:Mod S w w')(hS:Far S w)(D:¬S g):dD w' g n x:=by
 obtain⟨f,C,l⟩:=h;exact⟨f,C.mod m D,fun j B=>(l j B).mod m hS⟩
def dD.congr{w g n x y}(h:dD w g n x)(e:∀j,j<n->x j=y j):dD w g n y:=by
 obtain⟨f,C,B⟩:=h;exact⟨f,C,fun j l=>e j l ▸ B j l⟩
def dD.put{w g n j f x}{e:En}{q}(hb:Blk w g 42 (aM n f).toArray)(C:∀j,j<n->GV w (f j).v (x j) 12800)(D:j<n)(U:GV w e.v q 12800):
  dD (puts w g (j*6) e.cells) g n (upd x j q)/\Mod (fun k=>k=g) w (puts w g (j*6) e.cells):=by
 have l:Mod (fun k=>k=g) w (puts w g (j*6) e.cells):=Mod.only (fD _ _ _ _) rfl;have hS:Far (fun k=>k=g) w:=fun k B _=>by subst B;exact⟨_,_,hb,dm _ _⟩
 refine⟨⟨upd f j e,?_,fun i hi=> ?_⟩,l⟩
 .rw[<-mF e D];exact bR _ _ hb
 .by_cases h:i=j
  .subst h;rw[upd_same,upd_same];exact U.mod l hS
  .rw[upd_ne h,upd_ne h];exact(C i hi).mod l hS
def Rp{A B C S T g h A1 I W H j:Nat}(R:Nat.gcd (Nat.gcd C A) B=1)(hs:Nat.gcd T S=1)(M:g=Nat.gcd (Nat.gcd T A) B)(N:h=Nat.gcd C S)(O:0<g)(L:0<h)(l:T=g*j)(K:A=g*A1)(D:B=g*I)(F:C=h*W)(G:S=h*H):Nat.gcd (Nat.gcd (W*j) (A1*H)) (I*H)=1:=by
 have c1:Nat.gcd (Nat.gcd j A1) I=1:=by
  have e:Nat.gcd (Nat.gcd T A) B=g*Nat.gcd (Nat.gcd j A1) I:=by rw[l,K,D,abJ,abJ]
  rw[e] at M;exact abg O aa
 have c2:Nat.gcd W H=1:=by
  have e:Nat.gcd C S=h*Nat.gcd W H:=by rw[F,G,abJ]
  rw[e] at N;exact abg L aa
 have U:Nat.Coprime (Nat.gcd A1 I) j:=by
  show Nat.gcd (Nat.gcd A1 I) j=1;rw[aa8,<-acF];exact c1
 have V:Nat.Coprime (Nat.gcd A1 I) W:=by
  have J:Nat.gcd (Nat.gcd A1 I) W∣Nat.gcd (Nat.gcd C A) B:=by
   refine acw (acw ?_ ?_) ?_
   .rw[F];exact aai (aal _ _) ⟨h,qb _ _⟩
   .rw[K];exact aai (aai (I4 _ _) (I4 _ _)) ⟨g,qb _ _⟩
   .rw[D];exact aai (aai (I4 _ _) (aal _ _)) ⟨g,qb _ _⟩
  rw[R] at J;exact Nat.dvd_one.1 J
 have P:Nat.Coprime H W:=by show Nat.gcd H W=1;rw[aa8];exact c2
 have Q:Nat.Coprime H j:=by
  have J:Nat.gcd H j∣Nat.gcd T S:=by
   refine acw ?_ ?_
   .rw[l];exact aai (aal _ _) ⟨g,qb _ _⟩
   .rw[G];exact aai (I4 _ _) ⟨h,qb _ _⟩
  rw[hs] at J;exact Nat.dvd_one.1 J
 have k:Nat.Coprime (Nat.gcd A1 I*H) (W*j):=Nat.Coprime.mul_left (adi V U) (adi P Q);rw[acF,acJ,aa8];exact k
def nat_eq{x y z:Int}(h:x=y*z):x.natAbs=y.natAbs*z.natAbs:=by rw[h,Ej]
def Ll{x y z:Int}(h:x=y*z)(B:0<x)(l:0<y):0<z:=by
 rcases acI z 0 with j|j|j
 .have:=acQ l j;omega
 .subst j;simp at h;omega
 .exact j
theorem JB(V v1 v2 P fb Z sa I u v t K)(J:K<=12800)(w)(hc:Calm w V)(F:RG w v1 P fb Z)(l:RG w v2 sa 0 I)(lf:Low P fb Z)(B:Low sa 0 I)(sx:Sz K P fb Z)(sy:Sz K sa 0 I)(E:(u,v,t)=nf (P*sa) (fb*sa) (Z*I))(sz:Sz K u v t):
  CV 142 #[.pointer (γ ⟨V,0,δ⟩),v1,v2] w fun x w'=>RG w' x u v t:=by
 have hd:Z≠0:=by have:=lf.1;omega
 have hd':I≠0:=by have:=B.1;omega
 obtain⟨g,t1,a1,b1,hg,L,es,ea,eb⟩:=rW (a:=I) (b:=P) (c:=fb) hd';obtain⟨h,d1,s1,z1,N,Wv,ed,G,H⟩:=rW (a:=Z) (b:=sa) (c:=0) hd;have Wt:z1=0:=by
  rcases ach.1 H.symm with h|h
  .exact absurd h Wv
  .exact h
 subst Wt;have D:g.natAbs=Nat.gcd (Nat.gcd I.natAbs P.natAbs) fb.natAbs:=by rw[hg];simp[fG]
 have W:h.natAbs=Nat.gcd Z.natAbs sa.natAbs:=by rw[N];simp[fG]
 have R:0<g:=by
  have:0<=g:=by rw[hg];omega
  omega
 have Y:0<h:=by
  have:0<=h:=by rw[N];omega
  omega
 have T:Nat.gcd (Nat.gcd Z.natAbs P.natAbs) fb.natAbs=1:=lf.2;have U:Nat.gcd I.natAbs sa.natAbs=1:=by have:=B.2;unfold g3 at this;simpa using this
 have C:=Rp T U D W aa aa (nat_eq es) (nat_eq ea) (nat_eq eb) (nat_eq ed) (nat_eq G);have j:=Ll ed lf.1 Y;have YT:=Ll es B.1 R;have Wm:Low (a1*s1) (b1*s1) (d1*t1):=⟨Int.mul_pos j YT,by unfold g3;rw[Ej,Ej,Ej];exact C⟩;have hD:d1*t1≠0:=by have:=Wm.1;omega
 have E2:nf (P*sa) (fb*sa) (Z*I)=nf (a1*s1) (b1*s1) (d1*t1):=by
  refine nR (nV hd hd') hD ?_ ?_
  .rw[ea,es,ed,G];grind
  .rw[eb,es,ed,G];grind
 rw[E2,Du Wm] at E;injection E with e1 E;injection E with e2 e3;obtain⟨x1,x2,x3⟩:=sx.oJ J;obtain⟨y1,y2,y3⟩:=sy.oJ J;obtain⟨z1,z2,z3⟩:=sz.oJ J;have M:=fO L ea sx.a;have O:=fO L eb sx.b;have Wj:=fO L es sy.d;have S:=fO Wv G sy.a;have Q:=fO Wv ed sx.d;have bg:g.natAbs<2^K:=xK hd' ⟨_,es⟩ sy.d;have bh:h.natAbs<2^K:=xK hd ⟨_,ed⟩ sx.d;have l0:(0:Int).natAbs<lim:=y2;exact zY V v1 P fb Z v2 sa 0 I w hc F x1 x2 x3 l y1 y2 y3 g (aJ hg) (bJ bg aa) h (aJ N) (bJ bh aa)
  a1 (aJ (fF L ea)) (bJ M aa) (aJ L) (aJ ⟨_,ea⟩) b1 (aJ (fF L eb)) (bJ O aa) (aJ L) (aJ ⟨_,eb⟩)
  s1 (aJ (fF Wv G)) (bJ S aa) (aJ Wv) (aJ ⟨_,G⟩) 0 (aJ ag) l0 (aJ Wv) (aJ ⟨0,ag⟩)
  u (aJ e1) z1 0 (aJ ag) l0 u (aJ ag) z1
  0 (aJ ag) l0 v (aJ e2) z2 v (aJ ag) z2
  d1 (aJ (fF Wv ed)) (bJ Q aa) (aJ Wv) (aJ ⟨_,ed⟩) t1 (aJ (fF L es)) (bJ Wj aa) (aJ L) (aJ ⟨_,es⟩)
  t (aJ e3) z3 (aJ (by rw[e3];exact hD)) u v t (aJ (by rw[e1,e2,e3,Du Wm])) z1 z2 z3
namespace GQ
def qN(x y:GQ):x+y=y+x:=by ext<;>simp only[bf,aY]<;>grind
def nU(x y z:GQ):x+y+z=x+(y+z):=by ext<;>simp only[bf,aY]<;>grind
def oO(x y z:GQ):x*(y+z)=x*y+x*z:=by ext<;>simp only[bf,aY,aR,aQ]<;>grind
def kW(x y z:GQ):x*(y-z)=x*y-x*z:=by ext<;>simp only[bX,cu,aR,aQ]<;>grind
def eO(x):i 0 0*x=i 0 0:=by ext<;>simp only[bU,bS,aR,aQ]<;>grind
def bL(x):x*i 0 0=i 0 0:=by ext<;>simp only[bU,bS,aR,aQ]<;>grind
def jJ(x):i 1 0*x=x:=by ext<;>simp only[bU,bS,aR,aQ]<;>grind
def qo(x):x*i 1 0=x:=by ext<;>simp only[bU,bS,aR,aQ]<;>grind
def eQ(x):x-i 0 0=x:=by ext<;>simp only[bU,bS,bX,cu]<;>grind
def ME(x):i 0 0-x= -x:=by ext<;>simp only[bU,bS,bX,cu,ky,kE]<;>grind
def qz(x):x-x=i 0 0:=by ext<;>simp only[bU,bS,bX,cu]<;>grind
def add_zero'(x):x+i 0 0=x:=by ext<;>simp only[bU,bS,bf,aY]<;>grind
def Jf{x y}(h:x+y=i 0 0):x= -y:=by
 have l:=congrArg GQ.re h;have j:=congrArg GQ.im h;simp only[bf,aY,bU,bS] at l j;ext<;>simp only[ky,kE]<;>grind
def FX{x}(h:x+x=i 0 0):x=i 0 0:=by
 have j:=congrArg GQ.re h;have l:=congrArg GQ.im h;simp only[bf,aY,bU,bS] at j l;ext<;>simp only[bU,bS]<;>grind
theorem QV(x y:GQ):(x*y).nrm=x.nrm*y.nrm:=by unfold nrm;simp only[aR,aQ];grind
theorem ik{x y}(C:x≠i 0 0)(l:y≠i 0 0):x*y≠i 0 0:=by
 intro h;have j:=QV x y;rw[h] at j;have B:(i 0 0).nrm=0:=by unfold nrm;simp only[bU,bS];grind
 rw[B] at j;rcases abp.1 j.symm with h|h
 .exact Bi C h
 .exact Bi l h
end GQ
def cO (v:Nat->GQ) (D:List Nat->GQ):List Nat->GQ
 |[]=>GQ.i 0 0
 |c::cs=>v c*D cs-cO v (fun l=>D (c::l)) cs
def det:List (Nat->GQ)->List Nat->GQ
 |[],_=>GQ.i 1 0
 |v::R,cs=>cO v (det R) cs
def Bq(v a):∀(cs:List Nat) (D E:List Nat->GQ),cO v (fun l=>a*D l-E l) cs=a*cO v D cs-cO v E cs
 |[],D,E=>by simp only[cO,GQ.bL,GQ.eQ]
 |c::cs,D,E=>by
  simp only[cO,Bq v a cs];ext<;>simp only[GQ.bX,GQ.cu,GQ.aR,GQ.aQ]<;>grind
def wU(v u f):∀(cs:List Nat) (D:List Nat->GQ),cO (fun c=>v c-f*u c) D cs=cO v D cs-f*cO u D cs
 |[],D=>by simp only[cO,GQ.bL,GQ.eQ]
 |c::cs,D=>by
  simp only[cO,wU v u f cs];ext<;>simp only[GQ.bX,GQ.cu,GQ.aR,GQ.aQ]<;>grind
def lN(v):∀(cs:List Nat),cO v (fun _=>GQ.i 0 0) cs=GQ.i 0 0
 |[]=>rfl
 |c::cs=>by simp only[cO,lN v cs,GQ.bL,GQ.eQ]
def qx(v u):∀(cs:List Nat) (D:List Nat->GQ),cO v (cO u D) cs+cO u (cO v D) cs=GQ.i 0 0
 |[],D=>by simp only[cO,GQ.add_zero']
 |c::cs,D=>by
  have B:=qx v u cs (fun l=>D (c::l));have F:cO v (fun l=>cO u D (c::l)) cs=u c*cO v D cs-cO v (cO u (fun l=>D (c::l))) cs:=by
   rw[<-Bq];rfl
  have C:cO u (fun l=>cO v D (c::l)) cs=v c*cO u D cs-cO u (cO v (fun l=>D (c::l))) cs:=by
   rw[<-Bq];rfl
  have j:cO v (cO u D) (c::cs)=v c*cO u D cs-cO v (fun l=>cO u D (c::l)) cs:=rfl;have G:cO u (cO v D) (c::cs)=u c*cO v D cs-cO u (fun l=>cO v D (c::l)) cs:=rfl;rw[j,G,F,C];have i1:=congrArg GQ.re B;have Y:=congrArg GQ.im B;simp only[GQ.bf,GQ.aY,GQ.bU,GQ.bS] at i1 Y;ext<;>simp only[GQ.bf,GQ.aY,GQ.bX,GQ.cu,GQ.aR,GQ.aQ,GQ.bU,GQ.bS]<;>grind
def vT(v u R cs):det (v::u::R) cs= -det (u::v::R) cs:=by
 have h:=qx v u cs (det R);exact GQ.Jf h
def qB(v):∀(R:List (Nat->GQ)) (cs:List Nat),v∈R->det (v::R) cs=GQ.i 0 0
 |[],_,h=>by cases h
 |u::R,cs,h=>by
  by_cases e:v=u
  .subst e;apply GQ.FX;exact qx v v cs (det R)
  .have j:v∈R:=by
    rcases ψ.1 h with h|h
    .exact absurd h e
    .exact h
   rw[vT];have B:det (v::R)=fun _=>GQ.i 0 0:=funext fun l=>qB v R l j;show-cO u (det (v::R)) cs=_;rw[B,lN];ext<;>simp only[GQ.ky,GQ.kE,GQ.bU,GQ.bS]<;>grind
def Says (x a:Nat->GQ) (P:List (Nat->GQ)):Prop:=∀cs,det (x::P) cs=det (a::P) cs
def Says.refl(a P):Says a a P:=fun _=>rfl
def Says.more{x a b P}(h:Says x a P):Says x a (b::P):=by
 intro cs;rw[vT,vT a];have:det (x::P)=det (a::P):=funext h;show-cO b (det (x::P)) cs= -cO b (det (a::P)) cs;rw[this]
def Says.step{x y a b P}(B:Says x a P)(j:Says y b P)(f):Says (fun c=>x c-f*y c) a (b::P):=by
 intro cs;have l:det ((fun c=>x c-f*y c)::b::P) cs=det (x::b::P) cs-f*det (y::b::P) cs:=wU x y f cs (det (b::P));rw[l,B.more cs,j.more cs,qB b (b::P) cs (q9),GQ.bL,GQ.eQ]
def lM{x}:∀(cs:List Nat) (D:List Nat->GQ),(∀c∈cs,x c=GQ.i 0 0)->cO x D cs=GQ.i 0 0
 |[],_,_=>rfl
 |c::cs,D,h=>by
  show x c*D cs-cO x (fun l=>D (c::l)) cs=_;rw[h c (q9),lM cs _ (fun d hd=>h d (ib _ hd)),GQ.eO,GQ.eQ]
def Says.entry{x a P q}(h:Says x a P)(C:∀c∈q,x c=GQ.i 0 0)(j):det (a::P) (j::q)=x j*det P q:=by
 rw[<-h];show x j*det P q-cO x _ q=_;rw[lM q _ C,GQ.eQ]

def Wh (x:GQ) (B:Nat):Prop:=∃a b:Int,x=GQ.i a b/\a.natAbs+b.natAbs<=B
def Wh.mono{x B C}(h:Wh x B)(l:B<=C):Wh x C:=by
 obtain⟨a,b,e,h⟩:=h;exact⟨a,b,e,aa⟩
def Wh.mul{x y B C}(F:Wh x B)(j:Wh y C):Wh (x*y) (B*C):=by
 obtain⟨a,b,rfl,h⟩:=F;obtain⟨c,d,rfl,k⟩:=j;refine⟨a*c-b*d,a*d+b*c,?_,?_⟩
 .ext<;>simp only[GQ.aR,GQ.aQ,GQ.bU,GQ.bS,abo,aba,aan]
 .have D:=abA (a*c) (b*d);have l:=ab6 (a*d) (b*c);have H:(a.natAbs+b.natAbs)*(c.natAbs+d.natAbs)<=B*C:=aac h k;have G:(a.natAbs+b.natAbs)*(c.natAbs+d.natAbs)=a.natAbs*c.natAbs+b.natAbs*d.natAbs+(a.natAbs*d.natAbs+b.natAbs*c.natAbs):=by
   exact Aca
  rw[Ej,Ej] at D l;omega
def Wh.sub{x y B C}(l:Wh x B)(j:Wh y C):Wh (x-y) (B+C):=by
 obtain⟨a,b,rfl,h⟩:=l;obtain⟨c,d,rfl,k⟩:=j;refine⟨a-c,b-d,?_,?_⟩
 .ext<;>simp only[GQ.bX,GQ.cu,GQ.bU,GQ.bS,abo]
 .have F:=abA a c;have D:=abA b d;omega
def uQ:Wh (GQ.i 1 0) 1:=⟨1,0,rfl,ag⟩
def gG(B):Wh (GQ.i 0 0) B:=⟨0,0,rfl,ag⟩
def fct:Nat->Nat
 |0=>1
 |n+1=>(n+1)*fct n
def rD{x}(s):∀(cs:List Nat) (D:List Nat->GQ),cO (fun c=>s*x c) D cs=s*cO x D cs
 |[],_=>(GQ.bL s).symm
 |c::cs,D=>by
  show s*x c*D cs-cO (fun c=>s*x c) (fun l=>D (c::l)) cs=s*(x c*D cs-cO x (fun l=>D (c::l)) cs);rw[rD s cs,GQ.kW,GQ.cK]
def jI{x}(s):∀(cs:List Nat) (D:List Nat->GQ),cO x (fun l=>s*D l) cs=s*cO x D cs
 |[],_=>(GQ.bL s).symm
 |c::cs,D=>by
  show x c*(s*D cs)-cO x (fun l=>s*D (c::l)) cs=s*(x c*D cs-cO x (fun l=>D (c::l)) cs);rw[jI s cs,GQ.kW,<-GQ.cK,GQ.dX (x c) s,GQ.cK]
def St.swap{w W a b bs fs}(h:St w W (a::b::bs) fs):St w W (b::a::bs) fs:=
 ⟨h.ext,fun p hp=>h.blks p (by simp at hp⊢;rcases hp with e|e|e<;>simp[e]),⟨⟨fun e=>h.nd.1.1 e.symm,h.nd.2.1⟩,h.nd.1.2,h.nd.2.2⟩,h.nums⟩
def RN(v0)(q0:PQ)(n0:Nat)(m1:Int)(K r:Nat)(w)(WG:PV w v0 q0 n0)(l1: -9223372036854775808<=m1)(u1:m1<=9223372036854775807)(V:Hid (m1%12=(K:Int)))(I:Hid (K=3*r+0))(hr:r<=3)(hn:2*n0+65<=12800):
  CV 132 #[v0,.int .i64 m1] w fun v w'=>(∃u,v=.tuple #[u,.int .i64 0]/\PV w' u (⟨q0.u*aeG r,q0.v*aeG r⟩) (n0)):=by
 have hS:=aeK w;obtain⟨Xf,Xe,Xd,Zm,Zl,Zk,WG,Xg,Xh,Xa,Xi⟩:=WG;obtain⟨W,S,D,B,P,L,G,Q,O,H,C,R,WS,WM,WL,WK,WQ,WN,WI,WT,WP,WR,WO,WU,rfl,WB,WE,WC,Xk,Xr,Xn⟩:=WG;replace hS:=hS.aX WB;clear WB;replace hS:=hS.aX WE;clear WE;replace hS:=hS.aX WC;clear WC;replace hS:=hS.aX Xk;clear Xk;replace hS:=hS.aX Xr;clear Xr;replace hS:=hS.aX Xn;clear Xn;have ZO:=Ik V.o;have e3:(K:Int).tmod 3=0:=by rw[I.o,abe aa];omega
 have e4:(K:Int).tdiv 3=(r:Int):=by rw[I.o,abR aa];omega
 have l:=(St.al (St.al hS 44 #[.bool W,.slice S D B,.bool P,.slice L G Q,.bool O,.slice H C R,.bool WS,.slice WM WL WK,.bool WQ,.slice WN WI WT,.bool WP,.slice WR WO WU] (g:=w.heap.size) ag) 44 #[.bool ζ,.slice δ 0 0,.bool ζ,.slice δ 0 0,.bool ζ,.slice δ 0 0,.bool ζ,.slice δ 0 0,.bool ζ,.slice δ 0 0,.bool ζ,.slice δ 0 0] (g:=(w.heap.size+1)) ag);have WH:=(l.aH 1).cell;go_enter adU,adu;(go_wp2_with fail);clear WH;clear l;refine gA3 hS 44 #[.bool W,.slice S D B,.bool P,.slice L G Q,.bool O,.slice H C R,.bool WS,.slice WM WL WK,.bool WQ,.slice WN WI WT,.bool WP,.slice WR WO WU] 44 #[.bool ζ,.slice δ 0 0,.bool ζ,.slice δ 0 0,.bool ζ,.slice δ 0 0,.bool ζ,.slice δ 0 0,.bool ζ,.slice δ 0 0,.bool ζ,.slice δ 0 0] 42 #[.bool W,.slice S D B,.bool P,.slice L G Q,.bool O,.slice H C R,.bool WS,.slice WM WL WK,.bool WQ,.slice WN WI WT,.bool WP,.slice WR WO WU] ?_;clear hS;intro w1 g2 o2 g4 o4 XX Zv hS;refine(jk XX q0.u q0.v n0 n0 _ (hS.aH 0) ⟨_,_,_,RG.mk (hS.aF 5) (hS.aF 4) (hS.aF 3),Xg,Xh⟩ aa ⟨_,_,_,RG.mk (hS.aF 2) (hS.aF 1) (hS.aF 0),Xa,Xi⟩ aa).mono ?_;rintro e w2 ⟨rfl,F⟩;replace hS:=hS.mv F;clear F;(go_wp2_with fail);refine gA1 hS 197 #[.int .i64 0] ?_;clear hS;intro w3 g6 o6 hS;have WF:=(hS.aH 3).cell;have XE:=(hS.aH 3).lt;go_region;clear WF XE;have o7:Own w w3.heap.size:=aeH hS.ext ag;have o8:Own w (w3.heap.size+1):=aeH hS.ext ag;replace hS:=((hS.al 42 #[.bool W,.slice S D B,.bool P,.slice L G Q,.bool O,.slice H C R] (g:=w3.heap.size) rfl).al 42 #[.bool WS,.slice WM WL WK,.bool WQ,.slice WN WI WT,.bool WP,.slice WR WO WU] (g:=w3.heap.size+1) ag).mv ((Ext.refl _).drew);generalize ((w3.alloc (.cells #[.bool W,.slice S D B,.bool P,.slice L G Q,.bool O,.slice H C R] 42)).alloc (.cells #[.bool WS,.slice WM WL WK,.bool WQ,.slice WN WI WT,.bool WP,.slice WR WO WU] 42)).drew=w4 at hS⊢;generalize w3.heap.size+1=g8 at hS o8⊢;generalize w3.heap.size=g7 at hS o7⊢
 rotate_left 1
 clear WF XE;have o8:Own w w3.heap.size:=aeH hS.ext ag;have o7:Own w (w3.heap.size+1):=aeH hS.ext ag;replace hS:=((hS.al 42 #[.bool WS,.slice WM WL WK,.bool WQ,.slice WN WI WT,.bool WP,.slice WR WO WU] (g:=w3.heap.size) rfl).al 42 #[.bool W,.slice S D B,.bool P,.slice L G Q,.bool O,.slice H C R] (g:=w3.heap.size+1) ag).mv ((Ext.refl _).drew);replace hS:=St.swap hS;generalize ((w3.alloc (.cells #[.bool WS,.slice WM WL WK,.bool WQ,.slice WN WI WT,.bool WP,.slice WR WO WU] 42)).alloc (.cells #[.bool W,.slice S D B,.bool P,.slice L G Q,.bool O,.slice H C R] 42)).drew=w4 at hS⊢;generalize w3.heap.size+1=g7 at hS o7⊢;generalize w3.heap.size=g8 at hS o8⊢
 rotate_left 1
 all_goals
  have WX:=(hS.aH 2).cell;(go_wp2_with fail);clear WX;obtain⟨Y,Wm,Z,XY⟩:=fH (q0.u*aeG r);have YI:Sz (n0) Y Wm Z:=(aeS ⟨_,_,_,Xg,Xh⟩ r).sz XY;obtain⟨Wj,Wn,Wl,XV⟩:=fH (q0.v*aeG r);have YD:Sz (n0) Wj Wn Wl:=(aeS ⟨_,_,_,Xa,Xi⟩ r).sz XV;have Y8:=aK.blk (hS.aH 0);have Y7:=aK.blk (hS.aH 1);have N:=hS.ext;refine tF 11 [(3,.rg (Y) (Wm) (Z)),(7,.rg (Wj) (Wn) (Wl)),(8,.retp (Y) (Wm) (Z) (Wj) (Wn) (Wl) 0)] ?_;refine Qs ?_;refine Eg (fun T J=>kz (gM g6 _ q0.u (n0) r ((r:Int)) _ rfl (Blk.ext (hS.aH 2) J.1) ⟨_,_,_,RG.mk (hS.aD 5 J.1) (hS.aD 4 J.1) (hS.aD 3 J.1),Xg,Xh⟩ aa aa) XY) ?_;intro Xv Wp WV W9 Xy Wt Xl Xu Xw Wu Xp Xo XA Xz;refine Qs ?_;refine Eg (fun T J=>kz (gM g6 _ q0.v (n0) r ((r:Int)) _ rfl (Blk.ext (hS.aH 2) J.1) ⟨_,_,_,RG.mk (hS.aD 2 J.1) (hS.aD 1 J.1) (hS.aD 0 J.1),Xa,Xi⟩ aa aa) XV) ?_;intro Wx Wq Wy Xx WW Wo Xm Ww Xq Ws WJ Xt XC XB;refine dR rf rf rf ?_ ?_
  .intro T J;have hW:=J.1;have XG:RI T (iv Xv Wp WV W9) Y:=RG.at1 (J.2 3 ((gv Xv Wp WV W9 Xy Wt Xl Xu Xw Wu Xp Xo),XA,Xz) rf ah);have XH:RI T (iv Xy Wt Xl Xu) Wm:=RG.at2 (J.2 3 ((gv Xv Wp WV W9 Xy Wt Xl Xu Xw Wu Xp Xo),XA,Xz) rf ah);have XK:RI T (iv Xw Wu Xp Xo) Z:=RG.at3 (J.2 3 ((gv Xv Wp WV W9 Xy Wt Xl Xu Xw Wu Xp Xo),XA,Xz) rf ah);have XJ:RI T (iv Wx Wq Wy Xx) Wj:=RG.at1 (J.2 7 ((gv Wx Wq Wy Xx WW Wo Xm Ww Xq Ws WJ Xt),XC,XB) rf ah);have XI:RI T (iv WW Wo Xm Ww) Wn:=RG.at2 (J.2 7 ((gv Wx Wq Wy Xx WW Wo Xm Ww Xq Ws WJ Xt),XC,XB) rf ah);have XL:RI T (iv Xq Ws WJ Xt) Wl:=RG.at3 (J.2 7 ((gv Wx Wq Wy Xx WW Wo Xm Ww Xq Ws WJ Xt),XC,XB) rf ah);clear J;go_simp;exact⟨rfl,(qR g6 _ Y Wm Z _ Wj Wn Wl _ (Blk.ext (hS.aH 2) hW) (RG.mk XG XH XK) (RG.mk XJ XI XL)).mono fun e w' ⟨v,U,hR,hx⟩=>⟨v,U,hx,hR⟩⟩
  intro v_ XU X4 WA;obtain⟨T,Wv⟩:=WA;have M:Fc.holds (.retp (Y) (Wm) (Z) (Wj) (Wn) (Wl) 0) XU X4 v_ T:=Wv.get;clear Wv;obtain⟨_,rfl,Yh,XZ,Yk,Yc,Yi,XW,Yj,Ym,X6,XT,Yt,Yo,Ye,XR,Yu,Yb,Yp,XM,Yd,Yr,Yq,X3,Yl,Yn,rfl,-,-,-,-,-,-⟩:=M;clear T;refine Qp ?_;refine Qs ?_;refine bz ?_;intro w5 J;have j:=hS.lt;replace hS:=hS.mv J.ext;replace hS:=hS.aG J 3;replace hS:=hS.aG J 7;replace hS:=hS.aP J 8;clear J j N Y8 Y7;have WY:=(hS.aH 4).cell;have WZ:=(hS.aH 4).frozen;go_wp2;replace hS:=hS.pt 4 0 [.bool Yh,.slice XZ Yk Yc,.bool Yi,.slice XW Yj Ym,.bool X6,.slice XT Yt Yo,.bool Ye,.slice XR Yu Yb,.bool Yp,.slice XM Yd Yr,.bool Yq,.slice X3 Yl Yn] o4;exact lS rfl rfl rfl (hS.aH 4) ⟨_,rfl,⟨_,rfl,⟨_,_,_,_,_,_,RP.mk (hS.aF 5) (hS.aF 4) (hS.aF 3) (hS.aF 2) (hS.aF 1) (hS.aF 0),XY,YI,XV,YD⟩⟩,hS.ext⟩
def Rt(v0)(q0:PQ)(n0:Nat)(m1:Int)(K r:Nat)(w)(WG:PV w v0 q0 n0)(l1: -9223372036854775808<=m1)(u1:m1<=9223372036854775807)(V:Hid (m1%12=(K:Int)))(I:Hid (K=3*r+1))(hr:r<=3)(hn:2*n0+65<=12800):
  CV 132 #[v0,.int .i64 m1] w fun v w'=>(∃u,v=.tuple #[u,.int .i64 0]/\PV w' u (⟨aeF 1 (q0.u*aeG 1) 3 q0.v 2*aeG r,aeF 1 q0.u 1 (q0.v*aeG 1) 2*aeG r⟩) (n0+n0+65)):=by
 have hS:=aeK w;obtain⟨Xf,Xe,Xd,Zm,Zl,Zk,WG,Xg,Xh,Xa,Xi⟩:=WG;obtain⟨W,S,D,B,P,L,G,Q,O,H,C,R,WS,WM,WL,WK,WQ,WN,WI,WT,WP,WR,WO,WU,rfl,WB,WE,WC,Xk,Xr,Xn⟩:=WG;replace hS:=hS.aX WB;clear WB;replace hS:=hS.aX WE;clear WE;replace hS:=hS.aX WC;clear WC;replace hS:=hS.aX Xk;clear Xk;replace hS:=hS.aX Xr;clear Xr;replace hS:=hS.aX Xn;clear Xn;have ZO:=Ik V.o;have e3:(K:Int).tmod 3=1:=by rw[I.o,abe aa];omega
 have e4:(K:Int).tdiv 3=(r:Int):=by rw[I.o,abR aa];omega
 have l:=(St.al (St.al hS 44 #[.bool W,.slice S D B,.bool P,.slice L G Q,.bool O,.slice H C R,.bool WS,.slice WM WL WK,.bool WQ,.slice WN WI WT,.bool WP,.slice WR WO WU] (g:=w.heap.size) ag) 44 #[.bool ζ,.slice δ 0 0,.bool ζ,.slice δ 0 0,.bool ζ,.slice δ 0 0,.bool ζ,.slice δ 0 0,.bool ζ,.slice δ 0 0,.bool ζ,.slice δ 0 0] (g:=(w.heap.size+1)) ag);have WH:=(l.aH 1).cell;go_enter adU,adu;(go_wp2_with fail);clear WH;clear l;refine gA3 hS 44 #[.bool W,.slice S D B,.bool P,.slice L G Q,.bool O,.slice H C R,.bool WS,.slice WM WL WK,.bool WQ,.slice WN WI WT,.bool WP,.slice WR WO WU] 44 #[.bool ζ,.slice δ 0 0,.bool ζ,.slice δ 0 0,.bool ζ,.slice δ 0 0,.bool ζ,.slice δ 0 0,.bool ζ,.slice δ 0 0,.bool ζ,.slice δ 0 0] 42 #[.bool W,.slice S D B,.bool P,.slice L G Q,.bool O,.slice H C R,.bool WS,.slice WM WL WK,.bool WQ,.slice WN WI WT,.bool WP,.slice WR WO WU] ?_;clear hS;intro w1 g2 o2 g4 o4 XX Zv hS;refine(jk XX q0.u q0.v n0 n0 _ (hS.aH 0) ⟨_,_,_,RG.mk (hS.aF 5) (hS.aF 4) (hS.aF 3),Xg,Xh⟩ aa ⟨_,_,_,RG.mk (hS.aF 2) (hS.aF 1) (hS.aF 0),Xa,Xi⟩ aa).mono ?_;rintro e w2 ⟨rfl,F⟩;replace hS:=hS.mv F;clear F;(go_wp2_with fail);refine gA1 hS 197 #[.int .i64 0] ?_;clear hS;intro w3 g6 o6 hS;have WF:=(hS.aH 3).cell;have XE:=(hS.aH 3).lt;go_region;clear WF XE;have o7:Own w w3.heap.size:=aeH hS.ext ag;have o8:Own w (w3.heap.size+1):=aeH hS.ext ag;replace hS:=((hS.al 42 #[.bool W,.slice S D B,.bool P,.slice L G Q,.bool O,.slice H C R] (g:=w3.heap.size) rfl).al 42 #[.bool WS,.slice WM WL WK,.bool WQ,.slice WN WI WT,.bool WP,.slice WR WO WU] (g:=w3.heap.size+1) ag).mv ((Ext.refl _).drew);generalize ((w3.alloc (.cells #[.bool W,.slice S D B,.bool P,.slice L G Q,.bool O,.slice H C R] 42)).alloc (.cells #[.bool WS,.slice WM WL WK,.bool WQ,.slice WN WI WT,.bool WP,.slice WR WO WU] 42)).drew=w4 at hS⊢;generalize w3.heap.size+1=g8 at hS o8⊢;generalize w3.heap.size=g7 at hS o7⊢
 rotate_left 1
 clear WF XE;have o8:Own w w3.heap.size:=aeH hS.ext ag;have o7:Own w (w3.heap.size+1):=aeH hS.ext ag;replace hS:=((hS.al 42 #[.bool WS,.slice WM WL WK,.bool WQ,.slice WN WI WT,.bool WP,.slice WR WO WU] (g:=w3.heap.size) rfl).al 42 #[.bool W,.slice S D B,.bool P,.slice L G Q,.bool O,.slice H C R] (g:=w3.heap.size+1) ag).mv ((Ext.refl _).drew);replace hS:=St.swap hS;generalize ((w3.alloc (.cells #[.bool WS,.slice WM WL WK,.bool WQ,.slice WN WI WT,.bool WP,.slice WR WO WU] 42)).alloc (.cells #[.bool W,.slice S D B,.bool P,.slice L G Q,.bool O,.slice H C R] 42)).drew=w4 at hS⊢;generalize w3.heap.size+1=g7 at hS o7⊢;generalize w3.heap.size=g8 at hS o8⊢
 rotate_left 1
 all_goals
  (go_wp2_with fail);obtain⟨Zo,Zp,Zq,Zi⟩:=fH (q0.u*aeG 1);have ZC:Sz (n0) Zo Zp Zq:=(aeS ⟨_,_,_,Xg,Xh⟩ 1).sz Zi;obtain⟨Zt,Zx,Zz,Zj⟩:=fH (aeF (1) (q0.u*aeG 1) (3) q0.v (2));have ZA:Sz (n0+n0+65) Zt Zx Zz:=(aeT (m:=2) ⟨_,_,_,Zi,ZC⟩ ⟨_,_,_,Xa,Xi⟩ aa aa aa aa aa aa aa).sz Zj;obtain⟨Zw,Zy,Zr,Zn⟩:=fH (q0.v*aeG 1);have ZB:Sz (n0) Zw Zy Zr:=(aeS ⟨_,_,_,Xa,Xi⟩ 1).sz Zn;obtain⟨YC,YE,YB,X5⟩:=fH (aeF (1) q0.u (1) (q0.v*aeG 1) (2));have av:Sz (n0+n0+65) YC YE YB:=(aeT (m:=2) ⟨_,_,_,Xg,Xh⟩ ⟨_,_,_,Zn,ZB⟩ aa aa aa aa aa aa aa).sz X5;have Y2:=aK.blk (hS.aH 5);have N:=hS.ext;refine tF 12 [(2,.rg (Zo) (Zp) (Zq)),(5,.rg (Zt) (Zx) (Zz)),(10,.rg (Zw) (Zy) (Zr)),(11,.rg (YC) (YE) (YB))] ?_;refine Qs ?_;refine Eg (fun T J=>kz (gM g6 _ q0.u (n0) 1 (1) _ rfl (Blk.ext (hS.aH 2) J.1) ⟨_,_,_,RG.mk (hS.aD 5 J.1) (hS.aD 4 J.1) (hS.aD 3 J.1),Xg,Xh⟩ aa aa) Zi) ?_;intro YK Yz YS YO YT Yf YZ YN Ze YA Zc YG XP XN;refine Qs ?_;refine Eg (fun T J=>kz (iI g6 _ _ (q0.u*aeG 1) q0.v (1) (3) (2) _ _ _ (Blk.ext (hS.aH 2) J.1) ⟨_,_,_,RG.mk (RG.at1 (J.f 2 ((gv YK Yz YS YO YT Yf YZ YN Ze YA Zc YG),XP,XN))) (RG.at2 (J.f 2 ((gv YK Yz YS YO YT Yf YZ YN Ze YA Zc YG),XP,XN))) (RG.at3 (J.f 2 ((gv YK Yz YS YO YT Yf YZ YN Ze YA Zc YG),XP,XN))),Zi,ZC⟩ ⟨_,_,_,RG.mk (hS.aD 2 J.1) (hS.aD 1 J.1) (hS.aD 0 J.1),Xa,Xi⟩ aa aa aa aa aa aa aa aa) Zj) ?_;intro YW X7 YL YM Za Yg YH Zh Zd X8 YY YQ ZE ZG;refine Qs ?_;refine Eg (fun T J=>kz (gM g6 _ q0.v (n0) 1 (1) _ rfl (Blk.ext (hS.aH 2) J.1) ⟨_,_,_,RG.mk (hS.aD 2 J.1) (hS.aD 1 J.1) (hS.aD 0 J.1),Xa,Xi⟩ aa aa) Zn) ?_;intro YP Ya Zf YV Zg Yw YR YJ YF X9 YU YX XO XQ;refine Eg (fun T J=>kz (iI g6 _ _ q0.u (q0.v*aeG 1) (1) (1) (2) _ _ _ (Blk.ext (hS.aH 2) J.1) ⟨_,_,_,RG.mk (hS.aD 5 J.1) (hS.aD 4 J.1) (hS.aD 3 J.1),Xg,Xh⟩ ⟨_,_,_,RG.mk (RG.at1 (J.f 10 ((gv YP Ya Zf YV Zg Yw YR YJ YF X9 YU YX),XO,XQ))) (RG.at2 (J.f 10 ((gv YP Ya Zf YV Zg Yw YR YJ YF X9 YU YX),XO,XQ))) (RG.at3 (J.f 10 ((gv YP Ya Zf YV Zg Yw YR YJ YF X9 YU YX),XO,XQ))),Zn,ZB⟩ aa aa aa aa aa aa aa aa) X5) ?_;intro ac Yv aq ar ap Yx ai ao ad Yy am af ZF ZH;refine bz ?_;intro w5 J;have j:=hS.lt;replace hS:=hS.mv J.ext;replace hS:=hS.aG J 2;replace hS:=hS.aG J 5;replace hS:=hS.aG J 10;replace hS:=hS.aG J 11;clear J j N Y2;have WX:=(hS.aH 1).cell;have WY:=(hS.aH 1).frozen;have Wz:=hS.pt 1 0 [.bool YW,.slice X7 YL YM,.bool Za,.slice Yg YH Zh,.bool Zd,.slice X8 YY YQ] o7;have WZ:=(Wz.aH 0).cell;have Xc:=(Wz.aH 0).frozen;have Xb:=(hS.pt 1 0 [.bool YW,.slice X7 YL YM,.bool Za,.slice Yg YH Zh,.bool Zd,.slice X8 YY YQ] o7).pt 0 0 [.bool ac,.slice Yv aq ar,.bool ap,.slice Yx ai ao,.bool ad,.slice Yy am af] o8;have Xj:=(Xb.aH 2).cell;(go_wp2_with fail);clear WX WY WZ Xc Xj;clear Wz Xb;replace hS:=(hS.pt 1 0 [.bool YW,.slice X7 YL YM,.bool Za,.slice Yg YH Zh,.bool Zd,.slice X8 YY YQ] o7).pt 0 0 [.bool ac,.slice Yv aq ar,.bool ap,.slice Yx ai ao,.bool ad,.slice Yy am af] o8;refine gW hS ?_;clear hS;intro w6 hS;obtain⟨Y,Wm,Z,XY⟩:=fH ((aeF (1) (q0.u*aeG 1) (3) q0.v (2))*aeG r);have YI:Sz (n0+n0+65) Y Wm Z:=(aeS ⟨_,_,_,Zj,ZA⟩ r).sz XY;obtain⟨Wj,Wn,Wl,XV⟩:=fH ((aeF (1) q0.u (1) (q0.v*aeG 1) (2))*aeG r);have YD:Sz (n0+n0+65) Wj Wn Wl:=(aeS ⟨_,_,_,X5,av⟩ r).sz XV;have Y8:=aK.blk (hS.aH 0);have Y7:=aK.blk (hS.aH 1);have N:=hS.ext;refine tF 11 [(3,.rg (Y) (Wm) (Z)),(7,.rg (Wj) (Wn) (Wl)),(8,.retp (Y) (Wm) (Z) (Wj) (Wn) (Wl) 0)] ?_;refine Qs ?_;refine Eg (fun T J=>kz (gM g6 _ (aeF (1) (q0.u*aeG 1) (3) q0.v (2)) (n0+n0+65) r ((r:Int)) _ rfl (Blk.ext (hS.aH 2) J.1) ⟨_,_,_,RG.mk (hS.aD 8 J.1) (hS.aD 7 J.1) (hS.aD 6 J.1),Zj,ZA⟩ aa aa) XY) ?_;intro Xv Wp WV W9 Xy Wt Xl Xu Xw Wu Xp Xo XA Xz;refine Qs ?_;refine Eg (fun T J=>kz (gM g6 _ (aeF (1) q0.u (1) (q0.v*aeG 1) (2)) (n0+n0+65) r ((r:Int)) _ rfl (Blk.ext (hS.aH 2) J.1) ⟨_,_,_,RG.mk (hS.aD 2 J.1) (hS.aD 1 J.1) (hS.aD 0 J.1),X5,av⟩ aa aa) XV) ?_;exact Aai
def QQ(v0)(q0:PQ)(n0:Nat)(m1:Int)(K r:Nat)(w)(WG:PV w v0 q0 n0)(l1: -9223372036854775808<=m1)(u1:m1<=9223372036854775807)(V:Hid (m1%12=(K:Int)))(I:Hid (K=3*r+2))(hr:r<=3)(hn:2*n0+65<=12800):
  CV 132 #[v0,.int .i64 m1] w fun v w'=>(∃u,v=.tuple #[u,.int .i64 0]/\PV w' u (⟨aeF 1 q0.u 3 (q0.v*aeG 1) 2*aeG r,aeF 1 (q0.u*aeG 1) 1 q0.v 2*aeG r⟩) (n0+n0+65)):=by
 have hS:=aeK w;obtain⟨Xf,Xe,Xd,Zm,Zl,Zk,WG,Xg,Xh,Xa,Xi⟩:=WG;obtain⟨W,S,D,B,P,L,G,Q,O,H,C,R,WS,WM,WL,WK,WQ,WN,WI,WT,WP,WR,WO,WU,rfl,WB,WE,WC,Xk,Xr,Xn⟩:=WG;replace hS:=hS.aX WB;clear WB;replace hS:=hS.aX WE;clear WE;replace hS:=hS.aX WC;clear WC;replace hS:=hS.aX Xk;clear Xk;replace hS:=hS.aX Xr;clear Xr;replace hS:=hS.aX Xn;clear Xn;have ZO:=Ik V.o;have e3:(K:Int).tmod 3=2:=by rw[I.o,abe aa];omega
 have e4:(K:Int).tdiv 3=(r:Int):=by rw[I.o,abR aa];omega
 have l:=(St.al (St.al hS 44 #[.bool W,.slice S D B,.bool P,.slice L G Q,.bool O,.slice H C R,.bool WS,.slice WM WL WK,.bool WQ,.slice WN WI WT,.bool WP,.slice WR WO WU] (g:=w.heap.size) ag) 44 #[.bool ζ,.slice δ 0 0,.bool ζ,.slice δ 0 0,.bool ζ,.slice δ 0 0,.bool ζ,.slice δ 0 0,.bool ζ,.slice δ 0 0,.bool ζ,.slice δ 0 0] (g:=(w.heap.size+1)) ag);have WH:=(l.aH 1).cell;go_enter adU,adu;(go_wp2_with fail);clear WH;clear l;refine gA3 hS 44 #[.bool W,.slice S D B,.bool P,.slice L G Q,.bool O,.slice H C R,.bool WS,.slice WM WL WK,.bool WQ,.slice WN WI WT,.bool WP,.slice WR WO WU] 44 #[.bool ζ,.slice δ 0 0,.bool ζ,.slice δ 0 0,.bool ζ,.slice δ 0 0,.bool ζ,.slice δ 0 0,.bool ζ,.slice δ 0 0,.bool ζ,.slice δ 0 0] 42 #[.bool W,.slice S D B,.bool P,.slice L G Q,.bool O,.slice H C R,.bool WS,.slice WM WL WK,.bool WQ,.slice WN WI WT,.bool WP,.slice WR WO WU] ?_;clear hS;intro w1 g2 o2 g4 o4 XX Zv hS;refine(jk XX q0.u q0.v n0 n0 _ (hS.aH 0) ⟨_,_,_,RG.mk (hS.aF 5) (hS.aF 4) (hS.aF 3),Xg,Xh⟩ aa ⟨_,_,_,RG.mk (hS.aF 2) (hS.aF 1) (hS.aF 0),Xa,Xi⟩ aa).mono ?_;rintro e w2 ⟨rfl,F⟩;replace hS:=hS.mv F;clear F;(go_wp2_with fail);refine gA1 hS 197 #[.int .i64 0] ?_;clear hS;intro w3 g6 o6 hS;have WF:=(hS.aH 3).cell;have XE:=(hS.aH 3).lt;go_region;clear WF XE;have o7:Own w w3.heap.size:=aeH hS.ext ag;have o8:Own w (w3.heap.size+1):=aeH hS.ext ag;replace hS:=((hS.al 42 #[.bool W,.slice S D B,.bool P,.slice L G Q,.bool O,.slice H C R] (g:=w3.heap.size) rfl).al 42 #[.bool WS,.slice WM WL WK,.bool WQ,.slice WN WI WT,.bool WP,.slice WR WO WU] (g:=w3.heap.size+1) ag).mv ((Ext.refl _).drew);generalize ((w3.alloc (.cells #[.bool W,.slice S D B,.bool P,.slice L G Q,.bool O,.slice H C R] 42)).alloc (.cells #[.bool WS,.slice WM WL WK,.bool WQ,.slice WN WI WT,.bool WP,.slice WR WO WU] 42)).drew=w4 at hS⊢;generalize w3.heap.size+1=g8 at hS o8⊢;generalize w3.heap.size=g7 at hS o7⊢
 rotate_left 1
 clear WF XE;have o8:Own w w3.heap.size:=aeH hS.ext ag;have o7:Own w (w3.heap.size+1):=aeH hS.ext ag;replace hS:=((hS.al 42 #[.bool WS,.slice WM WL WK,.bool WQ,.slice WN WI WT,.bool WP,.slice WR WO WU] (g:=w3.heap.size) rfl).al 42 #[.bool W,.slice S D B,.bool P,.slice L G Q,.bool O,.slice H C R] (g:=w3.heap.size+1) ag).mv ((Ext.refl _).drew);replace hS:=St.swap hS;generalize ((w3.alloc (.cells #[.bool WS,.slice WM WL WK,.bool WQ,.slice WN WI WT,.bool WP,.slice WR WO WU] 42)).alloc (.cells #[.bool W,.slice S D B,.bool P,.slice L G Q,.bool O,.slice H C R] 42)).drew=w4 at hS⊢;generalize w3.heap.size+1=g7 at hS o7⊢;generalize w3.heap.size=g8 at hS o8⊢
 rotate_left 1
 all_goals
  (go_wp2_with fail);obtain⟨Zr,Zq,ZA,Zo⟩:=fH (q0.v*aeG 1);have ZR:Sz (n0) Zr Zq ZA:=(aeS ⟨_,_,_,Xa,Xi⟩ 1).sz Zo;obtain⟨Zz,ZE,ZK,Zp⟩:=fH (aeF (1) q0.u (3) (q0.v*aeG 1) (2));have ZP:Sz (n0+n0+65) Zz ZE ZK:=(aeT (m:=2) ⟨_,_,_,Xg,Xh⟩ ⟨_,_,_,Zo,ZR⟩ aa aa aa aa aa aa aa).sz Zp;obtain⟨YN,YH,YM,X8⟩:=fH (q0.u*aeG 1);have ac:Sz (n0) YN YH YM:=(aeS ⟨_,_,_,Xg,Xh⟩ 1).sz X8;obtain⟨ZH,ZB,ZN,Zn⟩:=fH (aeF (1) (q0.u*aeG 1) (1) q0.v (2));have ZQ:Sz (n0+n0+65) ZH ZB ZN:=(aeT (m:=2) ⟨_,_,_,X8,ac⟩ ⟨_,_,_,Xa,Xi⟩ aa aa aa aa aa aa aa).sz Zn;have Y2:=aK.blk (hS.aH 5);have N:=hS.ext;refine tF 12 [(4,.rg (Zr) (Zq) (ZA)),(5,.rg (Zz) (ZE) (ZK)),(8,.rg (YN) (YH) (YM)),(11,.rg (ZH) (ZB) (ZN))] ?_;refine Qs ?_;refine Eg (fun T J=>kz (gM g6 _ q0.v (n0) 1 (1) _ rfl (Blk.ext (hS.aH 2) J.1) ⟨_,_,_,RG.mk (hS.aD 2 J.1) (hS.aD 1 J.1) (hS.aD 0 J.1),Xa,Xi⟩ aa aa) Zo) ?_;intro YT XO YX YV YY X5 YU YW YE XQ YC YS Yf Yg;refine Eg (fun T J=>kz (iI g6 _ _ q0.u (q0.v*aeG 1) (1) (3) (2) _ _ _ (Blk.ext (hS.aH 2) J.1) ⟨_,_,_,RG.mk (hS.aD 5 J.1) (hS.aD 4 J.1) (hS.aD 3 J.1),Xg,Xh⟩ ⟨_,_,_,RG.mk (RG.at1 (J.f 4 ((gv YT XO YX YV YY X5 YU YW YE XQ YC YS),Yf,Yg))) (RG.at2 (J.f 4 ((gv YT XO YX YV YY X5 YU YW YE XQ YC YS),Yf,Yg))) (RG.at3 (J.f 4 ((gv YT XO YX YV YY X5 YU YW YE XQ YC YS),Yf,Yg))),Zo,ZR⟩ aa aa aa aa aa aa aa aa) Zp) ?_;intro YB XP Ze Zc Zg XN YQ Zf Yy Yv Zi Za Yw Yx;refine Qs ?_;refine Eg (fun T J=>kz (gM g6 _ q0.u (n0) 1 (1) _ rfl (Blk.ext (hS.aH 2) J.1) ⟨_,_,_,RG.mk (hS.aD 5 J.1) (hS.aD 4 J.1) (hS.aD 3 J.1),Xg,Xh⟩ aa aa) X8) ?_;intro YL X9 YP Yz YK Ya YJ YG YO X7 YF YA Zh Zd;refine Qs ?_;refine Eg (fun T J=>kz (iI g6 _ _ (q0.u*aeG 1) q0.v (1) (1) (2) _ _ _ (Blk.ext (hS.aH 2) J.1) ⟨_,_,_,RG.mk (RG.at1 (J.f 8 ((gv YL X9 YP Yz YK Ya YJ YG YO X7 YF YA),Zh,Zd))) (RG.at2 (J.f 8 ((gv YL X9 YP Yz YK Ya YJ YG YO X7 YF YA),Zh,Zd))) (RG.at3 (J.f 8 ((gv YL X9 YP Yz YK Ya YJ YG YO X7 YF YA),Zh,Zd))),X8,ac⟩ ⟨_,_,_,RG.mk (hS.aD 2 J.1) (hS.aD 1 J.1) (hS.aD 0 J.1),Xa,Xi⟩ aa aa aa aa aa aa aa aa) Zn) ?_;intro ZL YR Zy ZI ZF YZ ZC ZJ ZM Zj ZG Zx Zt Zw;refine bz ?_;intro w5 J;have j:=hS.lt;replace hS:=hS.mv J.ext;replace hS:=hS.aG J 4;replace hS:=hS.aG J 5;replace hS:=hS.aG J 8;replace hS:=hS.aG J 11;clear J j N Y2;have WX:=(hS.aH 1).cell;have WY:=(hS.aH 1).frozen;have Wz:=hS.pt 1 0 [.bool YB,.slice XP Ze Zc,.bool Zg,.slice XN YQ Zf,.bool Yy,.slice Yv Zi Za] o7;have WZ:=(Wz.aH 0).cell;have Xc:=(Wz.aH 0).frozen;have Xb:=(hS.pt 1 0 [.bool YB,.slice XP Ze Zc,.bool Zg,.slice XN YQ Zf,.bool Yy,.slice Yv Zi Za] o7).pt 0 0 [.bool ZL,.slice YR Zy ZI,.bool ZF,.slice YZ ZC ZJ,.bool ZM,.slice Zj ZG Zx] o8;have Xj:=(Xb.aH 2).cell;(go_wp2_with fail);clear WX WY WZ Xc Xj;clear Wz Xb;replace hS:=(hS.pt 1 0 [.bool YB,.slice XP Ze Zc,.bool Zg,.slice XN YQ Zf,.bool Yy,.slice Yv Zi Za] o7).pt 0 0 [.bool ZL,.slice YR Zy ZI,.bool ZF,.slice YZ ZC ZJ,.bool ZM,.slice Zj ZG Zx] o8;refine gW hS ?_;clear hS;intro w6 hS;obtain⟨Y,Wm,Z,XY⟩:=fH ((aeF (1) q0.u (3) (q0.v*aeG 1) (2))*aeG r);have YI:Sz (n0+n0+65) Y Wm Z:=(aeS ⟨_,_,_,Zp,ZP⟩ r).sz XY;obtain⟨Wj,Wn,Wl,XV⟩:=fH ((aeF (1) (q0.u*aeG 1) (1) q0.v (2))*aeG r);have YD:Sz (n0+n0+65) Wj Wn Wl:=(aeS ⟨_,_,_,Zn,ZQ⟩ r).sz XV;have Y8:=aK.blk (hS.aH 0);have Y7:=aK.blk (hS.aH 1);have N:=hS.ext;refine tF 11 [(3,.rg (Y) (Wm) (Z)),(7,.rg (Wj) (Wn) (Wl)),(8,.retp (Y) (Wm) (Z) (Wj) (Wn) (Wl) 0)] ?_;refine Qs ?_;refine Eg (fun T J=>kz (gM g6 _ (aeF (1) q0.u (3) (q0.v*aeG 1) (2)) (n0+n0+65) r ((r:Int)) _ rfl (Blk.ext (hS.aH 2) J.1) ⟨_,_,_,RG.mk (hS.aD 8 J.1) (hS.aD 7 J.1) (hS.aD 6 J.1),Zp,ZP⟩ aa aa) XY) ?_;intro Xv Wp WV W9 Xy Wt Xl Xu Xw Wu Xp Xo XA Xz;refine Qs ?_;refine Eg (fun T J=>kz (gM g6 _ (aeF (1) (q0.u*aeG 1) (1) q0.v (2)) (n0+n0+65) r ((r:Int)) _ rfl (Blk.ext (hS.aH 2) J.1) ⟨_,_,_,RG.mk (hS.aD 2 J.1) (hS.aD 1 J.1) (hS.aD 0 J.1),Zn,ZQ⟩ aa aa) XV) ?_;exact Aai
def Q9:∀r:Nat,PQ.zp (3*r)=⟨aeG r,GQ.i 0 0⟩
 |0=>rfl
 |r+1=>by
  rw[Δ,PQ.IL,Q9 r,PQ.zp3];ext<;>simp only[PQ.tT,PQ.sZ,PQ.mk4,aeG,GQ.aR,GQ.aQ,GQ.bf,GQ.aY,GQ.bU,GQ.bS]<;>grind
def Vq(p r):(⟨p.u*aeG r,p.v*aeG r⟩:PQ)=p*PQ.zp (3*r+0):=by
 rw[Nq,Q9];ext<;>simp only[PQ.tT,PQ.sZ,GQ.aR,GQ.aQ,GQ.bf,GQ.aY,GQ.bU,GQ.bS]<;>grind
def Vr(p r):(⟨aeF 1 (p.u*aeG 1) 3 p.v 2*aeG r,aeF 1 p.u 1 (p.v*aeG 1) 2*aeG r⟩:PQ)=p*PQ.zp (3*r+1):=by
 rw[PQ.IL,Q9,PQ.zp1];ext<;>simp only[aeF,aeG,PQ.mk4,PQ.tT,PQ.sZ,GQ.aR,GQ.aQ,GQ.bf,GQ.aY,GQ.bU,GQ.bS]<;>grind
def VD(p r):(⟨aeF 1 p.u 3 (p.v*aeG 1) 2*aeG r,aeF 1 (p.u*aeG 1) 1 p.v 2*aeG r⟩:PQ)=p*PQ.zp (3*r+2):=by
 rw[PQ.IL,Q9,PQ.zp2];ext<;>simp only[aeF,aeG,PQ.mk4,PQ.tT,PQ.sZ,GQ.aR,GQ.aQ,GQ.bf,GQ.aY,GQ.bU,GQ.bS]<;>grind
def PV.mono{w v p m n}(h:PV w v p m)(j:m<=n):PV w v p n:=by
 obtain⟨a,b,d,x,y,z,C,l,D,B,H⟩:=h;exact⟨a,b,d,x,y,z,C,l,D.mono j,B,H.mono j⟩
def Qn(v0 q0)(n0:Nat)(m1:Int)(K:Nat)(w)(F:PV w v0 q0 n0)(l1: -9223372036854775808<=m1)(u1:m1<=9223372036854775807)(V:m1%12=(K:Int))(hn:2*n0+65<=12800):
  CV 132 #[v0,.int .i64 m1] w fun v w'=>(∃u,v=.tuple #[u,.int .i64 0]/\PV w' u (q0*PQ.zp K) (n0+n0+65)):=by
 have J:K<12:=aa;obtain⟨r,B⟩:∃r,r=K/3:=⟨_,rfl⟩;have j:K%3=0\/K%3=1\/K%3=2:=aa;rcases j with h|h|h
 .have e:K=3*r+0:=aa;have:=RN v0 q0 n0 m1 K r w F l1 u1 (aJ V) (aJ e) aa hn;rw[Vq,<-e] at this;exact this.mono fun e w' ⟨v,U,⟨u,N,hp⟩,l⟩=>⟨v,U,⟨u,N,hp.mono aa⟩,l⟩
 .have e:K=3*r+1:=aa;have:=Rt v0 q0 n0 m1 K r w F l1 u1 (aJ V) (aJ e) aa hn;rw[Vr,<-e] at this;exact this
 .have e:K=3*r+2:=aa;have:=QQ v0 q0 n0 m1 K r w F l1 u1 (aJ V) (aJ e) aa hn;rw[VD,<-e] at this;exact this
def Um(v0 q0 n0 v1 q1 n1 w)(WG:PV w v0 q0 n0)(Wu:PV w v1 q1 n1)(hn:2*max n0 n1+65<=12800):
  CV 93 #[v0,v1] w fun v w'=>(∃u,v=.tuple #[u,.int .i64 0]/\PV w' u (⟨aeF 1 q0.u 1 q1.u 1,aeF 1 q0.v 1 q1.v 1⟩) (n0+n1+65)):=by
 have hS:=aeK w;obtain⟨Xf,Xe,Xd,Zm,Zl,Zk,WG,Xg,Xh,Xa,Xi⟩:=WG;obtain⟨W,S,D,B,P,L,G,Q,O,H,C,R,WS,WM,WL,WK,WQ,WN,WI,WT,WP,WR,WO,WU,rfl,WB,WE,WC,Xk,Xr,Xn⟩:=WG;replace hS:=hS.aX WB;clear WB;replace hS:=hS.aX WE;clear WE;replace hS:=hS.aX WC;clear WC;replace hS:=hS.aX Xk;clear Xk;replace hS:=hS.aX Xr;clear Xr;replace hS:=hS.aX Xn;clear Xn;obtain⟨WW,WV,WJ,YN,YO,YM,Wu,Yy,Yu,Yz,YA⟩:=Wu;obtain⟨Wq,Wn,Wm,Wp,Ws,Wt,Wo,Wl,Z,Y,I,Wj,Yi,Yk,Yf,Yb,Yj,Ye,Yh,Yc,Ya,Yg,Yd,X9,rfl,Wx,Wy,Ww,Yq,Yo,Yp⟩:=Wu;replace hS:=hS.aX Wx;clear Wx;replace hS:=hS.aX Wy;clear Wy;replace hS:=hS.aX Ww;clear Ww;replace hS:=hS.aX Yq;clear Yq;replace hS:=hS.aX Yo;clear Yo;replace hS:=hS.aX Yp;clear Yp;have l:=(St.al (St.al (St.al hS 44 #[.bool W,.slice S D B,.bool P,.slice L G Q,.bool O,.slice H C R,.bool WS,.slice WM WL WK,.bool WQ,.slice WN WI WT,.bool WP,.slice WR WO WU] (g:=w.heap.size) ag) 44 #[.bool Wq,.slice Wn Wm Wp,.bool Ws,.slice Wt Wo Wl,.bool Z,.slice Y I Wj,.bool Yi,.slice Yk Yf Yb,.bool Yj,.slice Ye Yh Yc,.bool Ya,.slice Yg Yd X9] (g:=(w.heap.size+1)) ag) 44 #[.bool ζ,.slice δ 0 0,.bool ζ,.slice δ 0 0,.bool ζ,.slice δ 0 0,.bool ζ,.slice δ 0 0,.bool ζ,.slice δ 0 0,.bool ζ,.slice δ 0 0] (g:=(w.heap.size+2)) ag);have WH:=(l.aH 2).cell;have WF:=(l.aH 1).cell;go_enter func93,ntmps93;(go_wp2_with fail);clear WH WF;clear l;refine gA4 hS 44 #[.bool W,.slice S D B,.bool P,.slice L G Q,.bool O,.slice H C R,.bool WS,.slice WM WL WK,.bool WQ,.slice WN WI WT,.bool WP,.slice WR WO WU] 44 #[.bool Wq,.slice Wn Wm Wp,.bool Ws,.slice Wt Wo Wl,.bool Z,.slice Y I Wj,.bool Yi,.slice Yk Yf Yb,.bool Yj,.slice Ye Yh Yc,.bool Ya,.slice Yg Yd X9] 44 #[.bool ζ,.slice δ 0 0,.bool ζ,.slice δ 0 0,.bool ζ,.slice δ 0 0,.bool ζ,.slice δ 0 0,.bool ζ,.slice δ 0 0,.bool ζ,.slice δ 0 0] 42 #[.bool W,.slice S D B,.bool P,.slice L G Q,.bool O,.slice H C R,.bool WS,.slice WM WL WK,.bool WQ,.slice WN WI WT,.bool WP,.slice WR WO WU,.bool Wq,.slice Wn Wm Wp,.bool Ws,.slice Wt Wo Wl,.bool Z,.slice Y I Wj,.bool Yi,.slice Yk Yf Yb,.bool Yj,.slice Ye Yh Yc,.bool Ya,.slice Yg Yd X9] ?_;clear hS;intro w1 g2 o2 g3 o3 g4 o4 W9 YP hS;refine(Jq W9 q0.u q0.v q1.u q1.v n0 n0 n1 n1 _ (hS.aH 0) ⟨_,_,_,RG.mk (hS.aF 11) (hS.aF 10) (hS.aF 9),Xg,Xh⟩ aa ⟨_,_,_,RG.mk (hS.aF 8) (hS.aF 7) (hS.aF 6),Xa,Xi⟩ aa ⟨_,_,_,RG.mk (hS.aF 5) (hS.aF 4) (hS.aF 3),Yy,Yu⟩ aa ⟨_,_,_,RG.mk (hS.aF 2) (hS.aF 1) (hS.aF 0),Yz,YA⟩ aa).mono ?_;rintro e w2 ⟨rfl,F⟩;replace hS:=hS.mv F;clear F;(go_wp2_with fail);refine gA1 hS 197 #[.int .i64 0] ?_;clear hS;intro w3 g6 o6 hS;obtain⟨WZ,K,Wz,XW⟩:=fH (aeF (1) q0.u (1) q1.u (1));have Yx:Sz (n0+n1+65) WZ K Wz:=(aeT (m:=1) ⟨_,_,_,Xg,Xh⟩ ⟨_,_,_,Yy,Yu⟩ aa aa aa aa aa aa aa).sz XW;obtain⟨Xo,Xm,Xb,Yv⟩:=fH (aeF (1) q0.v (1) q1.v (1));have YL:Sz (n0+n1+65) Xo Xm Xb:=(aeT (m:=1) ⟨_,_,_,Xa,Xi⟩ ⟨_,_,_,Yz,YA⟩ aa aa aa aa aa aa aa).sz Yv;have Y3:=aK.blk (hS.aH 3);have Y2:=aK.blk (hS.aH 4);have N:=hS.ext;refine tF 13 [(4,.rg (WZ) (K) (Wz)),(9,.rg (Xo) (Xm) (Xb)),(10,.retp (WZ) (K) (Wz) (Xo) (Xm) (Xb) 0)] ?_;refine Qs ?_;refine Eg (fun T J=>kz (iI g6 _ _ q0.u q1.u (1) (1) (1) _ _ _ (Blk.ext (hS.aH 0) J.1) ⟨_,_,_,RG.mk (hS.aD 11 J.1) (hS.aD 10 J.1) (hS.aD 9 J.1),Xg,Xh⟩ ⟨_,_,_,RG.mk (hS.aD 5 J.1) (hS.aD 4 J.1) (hS.aD 3 J.1),Yy,Yu⟩ aa aa aa aa aa aa aa aa) XW) ?_;intro XB Xj XC Xz XD Xl XF XE XH Xc XG XA XI Xw;refine Qs ?_;refine Eg (fun T J=>kz (iI g6 _ _ q0.v q1.v (1) (1) (1) _ _ _ (Blk.ext (hS.aH 0) J.1) ⟨_,_,_,RG.mk (hS.aD 8 J.1) (hS.aD 7 J.1) (hS.aD 6 J.1),Xa,Xi⟩ ⟨_,_,_,RG.mk (hS.aD 2 J.1) (hS.aD 1 J.1) (hS.aD 0 J.1),Yz,YA⟩ aa aa aa aa aa aa aa aa) Yv) ?_;intro X7 XK XL X3 X4 Xt XZ X5 X6 Xq XY XX X8 XV;refine dR rf rf rf ?_ ?_
 .intro T J;have hW:=J.1;have XR:RI T (iv XB Xj XC Xz) WZ:=RG.at1 (J.2 4 ((gv XB Xj XC Xz XD Xl XF XE XH Xc XG XA),XI,Xw) rf ah);have XU:RI T (iv XD Xl XF XE) K:=RG.at2 (J.2 4 ((gv XB Xj XC Xz XD Xl XF XE XH Xc XG XA),XI,Xw) rf ah);have XT:RI T (iv XH Xc XG XA) Wz:=RG.at3 (J.2 4 ((gv XB Xj XC Xz XD Xl XF XE XH Xc XG XA),XI,Xw) rf ah);have Ym:RI T (iv X7 XK XL X3) Xo:=RG.at1 (J.2 9 ((gv X7 XK XL X3 X4 Xt XZ X5 X6 Xq XY XX),X8,XV) rf ah);have Yn:RI T (iv X4 Xt XZ X5) Xm:=RG.at2 (J.2 9 ((gv X7 XK XL X3 X4 Xt XZ X5 X6 Xq XY XX),X8,XV) rf ah);have Yl:RI T (iv X6 Xq XY XX) Xb:=RG.at3 (J.2 9 ((gv X7 XK XL X3 X4 Xt XZ X5 X6 Xq XY XX),X8,XV) rf ah);clear J;go_simp;exact⟨rfl,(qR g6 _ WZ K Wz _ Xo Xm Xb _ (Blk.ext (hS.aH 0) hW) (RG.mk XR XU XT) (RG.mk Ym Yn Yl)).mono fun e w' ⟨v,U,hR,hx⟩=>⟨v,U,hx,hR⟩⟩
 intro v_ YI ac WA;obtain⟨T,Wv⟩:=WA;have M:Fc.holds (.retp (WZ) (K) (Wz) (Xo) (Xm) (Xb) 0) YI ac v_ T:=Wv.get;clear Wv;obtain⟨_,rfl,XM,Xu,XO,Xx,XJ,V,XN,Xv,XQ,Xp,Xy,XP,YJ,Yt,YG,YB,YC,Yw,YF,YK,YH,Yr,YE,YD,rfl,-,-,-,-,-,-⟩:=M;clear T;refine Qp ?_;refine Qs ?_;refine bz ?_;intro w4 J;have j:=hS.lt;replace hS:=hS.mv J.ext;replace hS:=hS.aG J 4;replace hS:=hS.aG J 9;replace hS:=hS.aP J 10;clear J j N Y3 Y2;have WX:=(hS.aH 2).cell;have WY:=(hS.aH 2).frozen;go_wp2;replace hS:=hS.pt 2 0 [.bool XM,.slice Xu XO Xx,.bool XJ,.slice V XN Xv,.bool XQ,.slice Xp Xy XP,.bool YJ,.slice Yt YG YB,.bool YC,.slice Yw YF YK,.bool YH,.slice Yr YE YD] o4;exact lS rfl rfl rfl (hS.aH 2) ⟨_,rfl,⟨_,rfl,⟨_,_,_,_,_,_,RP.mk (hS.aF 5) (hS.aF 4) (hS.aF 3) (hS.aF 2) (hS.aF 1) (hS.aF 0),XW,Yx,Yv,YL⟩⟩,hS.ext⟩
def NU(v0 q0 n0 v1 q1 n1 w)(WG:PV w v0 q0 n0)(Wu:GV w v1 q1 n1)(hn:2*max n0 n1+1<=12800):
  CV 94 #[v0,v1] w fun v w'=>(∃u,v=.tuple #[u,.int .i64 0]/\PV w' u (⟨q0.u*q1,q0.v*q1⟩) (n0+n1+1)):=by
 have hS:=aeK w;obtain⟨Xf,Xe,Xd,Zm,Zl,Zk,WG,Xg,Xh,Xa,Xi⟩:=WG;obtain⟨W,S,D,B,P,L,G,Q,O,H,C,R,WS,WM,WL,WK,WQ,WN,WI,WT,WP,WR,WO,WU,rfl,WB,WE,WC,Xk,Xr,Xn⟩:=WG;replace hS:=hS.aX WB;clear WB;replace hS:=hS.aX WE;clear WE;replace hS:=hS.aX WC;clear WC;replace hS:=hS.aX Xk;clear Xk;replace hS:=hS.aX Xr;clear Xr;replace hS:=hS.aX Xn;clear Xn;obtain⟨WW,WV,WJ,Wu,I1,S1⟩:=Wu;obtain⟨Wq,Wn,Wm,Wp,Ws,Wt,Wo,Wl,Z,Y,I,Wj,rfl,Wx,Wy,Ww⟩:=Wu;replace hS:=hS.aX Wx;clear Wx;replace hS:=hS.aX Wy;clear Wy;replace hS:=hS.aX Ww;clear Ww;have l:=(St.al (St.al (St.al hS 44 #[.bool W,.slice S D B,.bool P,.slice L G Q,.bool O,.slice H C R,.bool WS,.slice WM WL WK,.bool WQ,.slice WN WI WT,.bool WP,.slice WR WO WU] (g:=w.heap.size) ag) 42 #[.bool Wq,.slice Wn Wm Wp,.bool Ws,.slice Wt Wo Wl,.bool Z,.slice Y I Wj] (g:=(w.heap.size+1)) ag) 44 #[.bool ζ,.slice δ 0 0,.bool ζ,.slice δ 0 0,.bool ζ,.slice δ 0 0,.bool ζ,.slice δ 0 0,.bool ζ,.slice δ 0 0,.bool ζ,.slice δ 0 0] (g:=(w.heap.size+2)) ag);have WH:=(l.aH 2).cell;have WF:=(l.aH 1).cell;go_enter func94,ntmps94;(go_wp2_with fail);clear WH WF;clear l;refine gA4 hS 44 #[.bool W,.slice S D B,.bool P,.slice L G Q,.bool O,.slice H C R,.bool WS,.slice WM WL WK,.bool WQ,.slice WN WI WT,.bool WP,.slice WR WO WU] 42 #[.bool Wq,.slice Wn Wm Wp,.bool Ws,.slice Wt Wo Wl,.bool Z,.slice Y I Wj] 44 #[.bool ζ,.slice δ 0 0,.bool ζ,.slice δ 0 0,.bool ζ,.slice δ 0 0,.bool ζ,.slice δ 0 0,.bool ζ,.slice δ 0 0,.bool ζ,.slice δ 0 0] 42 #[.bool W,.slice S D B,.bool P,.slice L G Q,.bool O,.slice H C R,.bool WS,.slice WM WL WK,.bool WQ,.slice WN WI WT,.bool WP,.slice WR WO WU,.bool Wq,.slice Wn Wm Wp,.bool Ws,.slice Wt Wo Wl,.bool Z,.slice Y I Wj] ?_;clear hS;intro w1 g2 o2 g3 o3 g4 o4 g12 YB hS;refine(zQ g12 q0.u q0.v q1 n0 n0 n1 _ (hS.aH 0) ⟨_,_,_,RG.mk (hS.aF 8) (hS.aF 7) (hS.aF 6),Xg,Xh⟩ aa ⟨_,_,_,RG.mk (hS.aF 5) (hS.aF 4) (hS.aF 3),Xa,Xi⟩ aa ⟨_,_,_,RG.mk (hS.aF 2) (hS.aF 1) (hS.aF 0),I1,S1⟩ aa).mono ?_;rintro e w2 ⟨rfl,F⟩;replace hS:=hS.mv F;clear F;(go_wp2_with fail);refine gA1 hS 197 #[.int .i64 0] ?_;clear hS;intro w3 g6 o6 hS;obtain⟨XN,XK,XL,X7⟩:=fH (q0.u*q1);have Yq:Sz (n0+n1+1) XN XK XL:=(Bd.mul ⟨_,_,_,Xg,Xh⟩ ⟨_,_,_,I1,S1⟩).sz X7;obtain⟨WZ,K,Wz,XW⟩:=fH (q0.v*q1);have Yx:Sz (n0+n1+1) WZ K Wz:=(Bd.mul ⟨_,_,_,Xa,Xi⟩ ⟨_,_,_,I1,S1⟩).sz XW;have Y3:=aK.blk (hS.aH 3);have Y2:=aK.blk (hS.aH 4);have N:=hS.ext;refine tF 11 [(3,.rg (XN) (XK) (XL)),(7,.rg (WZ) (K) (Wz)),(8,.retp (XN) (XK) (XL) (WZ) (K) (Wz) 0)] ?_;refine Qs ?_;refine Eg (fun T J=>kz (vz g6 _ _ q0.u q1 _ _ _ (Blk.ext (hS.aH 0) J.1) ⟨_,_,_,RG.mk (hS.aD 8 J.1) (hS.aD 7 J.1) (hS.aD 6 J.1),Xg,Xh⟩ ⟨_,_,_,RG.mk (hS.aD 2 J.1) (hS.aD 1 J.1) (hS.aD 0 J.1),I1,S1⟩ aa) X7) ?_;intro Xq W9 Xt Xx Xy Xb Xo Xm Xu V Xp Xv XM XJ;refine Qs ?_;refine Eg (fun T J=>kz (vz g6 _ _ q0.v q1 _ _ _ (Blk.ext (hS.aH 0) J.1) ⟨_,_,_,RG.mk (hS.aD 5 J.1) (hS.aD 4 J.1) (hS.aD 3 J.1),Xa,Xi⟩ ⟨_,_,_,RG.mk (hS.aD 2 J.1) (hS.aD 1 J.1) (hS.aD 0 J.1),I1,S1⟩ aa) XW) ?_;intro XB Xj XC Xz XD Xl XF XE XH Xc XG XA XI Xw;refine dR rf rf rf ?_ ?_
 .intro T J;have hW:=J.1;have XQ:RI T (iv Xq W9 Xt Xx) XN:=RG.at1 (J.2 3 ((gv Xq W9 Xt Xx Xy Xb Xo Xm Xu V Xp Xv),XM,XJ) rf ah);have XP:RI T (iv Xy Xb Xo Xm) XK:=RG.at2 (J.2 3 ((gv Xq W9 Xt Xx Xy Xb Xo Xm Xu V Xp Xv),XM,XJ) rf ah);have XO:RI T (iv Xu V Xp Xv) XL:=RG.at3 (J.2 3 ((gv Xq W9 Xt Xx Xy Xb Xo Xm Xu V Xp Xv),XM,XJ) rf ah);have XR:RI T (iv XB Xj XC Xz) WZ:=RG.at1 (J.2 7 ((gv XB Xj XC Xz XD Xl XF XE XH Xc XG XA),XI,Xw) rf ah);have XU:RI T (iv XD Xl XF XE) K:=RG.at2 (J.2 7 ((gv XB Xj XC Xz XD Xl XF XE XH Xc XG XA),XI,Xw) rf ah);have XT:RI T (iv XH Xc XG XA) Wz:=RG.at3 (J.2 7 ((gv XB Xj XC Xz XD Xl XF XE XH Xc XG XA),XI,Xw) rf ah);clear J;go_simp;exact⟨rfl,(qR g6 _ XN XK XL _ WZ K Wz _ (Blk.ext (hS.aH 0) hW) (RG.mk XQ XP XO) (RG.mk XR XU XT)).mono fun e w' ⟨v,U,hR,hx⟩=>⟨v,U,hx,hR⟩⟩
 intro v_ XV X6 WA;obtain⟨T,Wv⟩:=WA;have M:Fc.holds (.retp (XN) (XK) (XL) (WZ) (K) (Wz) 0) XV X6 v_ T:=Wv.get;clear Wv;obtain⟨_,rfl,Yc,X5,Yk,Ye,Ym,XX,Yg,Yh,Yn,XZ,Yj,X9,Yf,X3,X8,Yb,Yp,XY,Yo,Yl,Ya,X4,Yd,Yi,rfl,-,-,-,-,-,-⟩:=M;clear T;refine Qp ?_;refine Qs ?_;refine bz ?_;intro w4 J;have j:=hS.lt;replace hS:=hS.mv J.ext;replace hS:=hS.aG J 3;replace hS:=hS.aG J 7;replace hS:=hS.aP J 8;clear J j N Y3 Y2;have WX:=(hS.aH 2).cell;have WY:=(hS.aH 2).frozen;go_wp2;replace hS:=hS.pt 2 0 [.bool Yc,.slice X5 Yk Ye,.bool Ym,.slice XX Yg Yh,.bool Yn,.slice XZ Yj X9,.bool Yf,.slice X3 X8 Yb,.bool Yp,.slice XY Yo Yl,.bool Ya,.slice X4 Yd Yi] o4;exact lS rfl rfl rfl (hS.aH 2) ⟨_,rfl,⟨_,rfl,⟨_,_,_,_,_,_,RP.mk (hS.aF 5) (hS.aF 4) (hS.aF 3) (hS.aF 2) (hS.aF 1) (hS.aF 0),X7,Yq,XW,Yx⟩⟩,hS.ext⟩
def Vp(m0 m1 m2 w)(l0: -9223372036854775808<=m0)(u0:m0<=9223372036854775807)(l1: -9223372036854775808<=m1)(u1:m1<=9223372036854775807)(l2: -9223372036854775808<=m2)(u2:m2<=9223372036854775807)(H0:(m2==0)=ζ)(D:Hid ((m2)≠0))(W Q R)(B:Hid ((W,Q,R)=nf (m0) (m1) (m2)))(O:W.natAbs<lim)(L:Q.natAbs<lim)(G:R.natAbs<lim):
  CV 92 #[.int .i64 m0,.int .i64 m1,.int .i64 m2] w fun v w'=>(∃u,v=.tuple #[u,.int .i64 0]/\RG w' u W Q R):=by
 have hS:=aeK w;go_enter func92,ntmps92;(go_wp2_with fail);refine gA2 hS 42 #[.bool ζ,.slice δ 0 0,.bool ζ,.slice δ 0 0,.bool ζ,.slice δ 0 0] 197 #[.int .i64 0] ?_;clear hS;intro w1 g6 o6 g8 o8 hS;refine(AJ (m0) _ l0 u0).mono ?_;rintro e w2 ⟨v_,rfl,M,F⟩;replace hS:=hS.mv F;clear F;obtain⟨S,I,Wm,c13,rfl,C⟩:=RI.opn M;clear M;replace hS:=hS.aX C;clear C;(go_wp2_with fail);refine(AJ (m1) _ l1 u1).mono ?_;rintro e w3 ⟨v_,rfl,M,F⟩;replace hS:=hS.mv F;clear F;obtain⟨Wp,Ws,Wo,Wq,rfl,P⟩:=RI.opn M;clear M;replace hS:=hS.aX P;clear P;(go_wp2_with fail);refine(AJ (m2) _ l2 u2).mono ?_;rintro e w4 ⟨v_,rfl,M,F⟩;replace hS:=hS.mv F;clear F;obtain⟨Wl,H,Wn,Wt,rfl,l⟩:=RI.opn M;clear M;replace hS:=hS.aX l;clear l;(go_wp2_with fail);refine(oK g8 _ _ _ (m0) (m1) (m2) W Q R _ (hS.aH 0) (hS.aF 2) (hS.aF 1) (hS.aF 0) (sH l0 u0) (sH l1 u1) (sH l2 u2) D.o B.o).mono ?_;rintro e w5 ⟨v_,rfl,M,F⟩;replace hS:=hS.mv F;clear F;obtain⟨WQ,WL,Xa,WS,WP,WN,WO,Xg,WT,WM,WR,WU,rfl,N,J,j⟩:=M;replace hS:=hS.aX N;clear N;replace hS:=hS.aX J;clear J;replace hS:=hS.aX j;clear j;(go_wp2_with fail);refine(nQ g8 _ W Q R _ (hS.aH 0) (RG.mk (hS.aF 2) (hS.aF 1) (hS.aF 0))).mono ?_;rintro e w6 ⟨v_,rfl,M,F⟩;replace hS:=hS.mv F;clear F;obtain⟨_,rfl,Xq,Y,Xt,Xx,Xy,Z,Xo,Xm,Xu,V,Xp,Xv,rfl,K,T,U⟩:=M;replace hS:=hS.aX K;clear K;replace hS:=hS.aX T;clear T;replace hS:=hS.aX U;clear U;have WH:=(hS.aH 1).cell;have WF:=(hS.aH 1).frozen;go_wp2;replace hS:=hS.pt 1 0 [.bool Xq,.slice Y Xt Xx,.bool Xy,.slice Z Xo Xm,.bool Xu,.slice V Xp Xv] o6;exact lQ rfl rfl rfl (hS.aH 1) ⟨_,rfl,⟨_,rfl,RG.mk (hS.aF 2) (hS.aF 1) (hS.aF 0)⟩,hS.ext⟩
def xW(x y):aeF 1 x 1 y 1=x+y:=by
 ext<;>simp only[aeF,GQ.bf,GQ.aY]<;>grind
def M6(x y):aeF 1 x (-1) y 1=x-y:=by
 ext<;>simp only[aeF,GQ.bX,GQ.cu]<;>grind
def NW(re im den w)(l0: -9223372036854775808<=re)(u0:re<=9223372036854775807)(l1: -9223372036854775808<=im)(u1:im<=9223372036854775807)(l2: -9223372036854775808<=den)(u2:den<=9223372036854775807)(hd:den≠0):
  CV 92 #[.int .i64 re,.int .i64 im,.int .i64 den] w fun v w'=>(∃u,v=.tuple #[u,.int .i64 0]/\GV w' u ⟨(re:Rat)/(den:Rat),(im:Rat)/(den:Rat)⟩ 64):=by
 obtain⟨a,b,d,E⟩:=He re im den;have I:=Qg (a:=re) (b:=im) (d:=den) hd;rw[<-E] at I;have sz:=jo (n:=64) hd E (BM l0 u0) (BM l1 u1) (BM l2 u2);obtain⟨s1,s2,s3⟩:=sz.oJ aa;exact(Vp re im den w l0 u0 l1 u1 l2 u2 (by simpa using hd) (aJ hd) a b d (aJ E) s1 s2 s3).mono fun e w' ⟨v,U,⟨u,N,l⟩,j⟩=>⟨v,U,⟨u,N,a,b,d,l,I,sz⟩,j⟩
def nA{D B}(h:D.natAbs<=B):Wh (GQ.i D 0) B:=⟨D,0,rfl,by simpa using h⟩
def ww{x N M F B2 n}(Q:Wh N F)(I:Wh M B2)(J:M≠GQ.i 0 0)(H:x*M=N)(T:F*B2<2^n)(R:B2*B2<2^n):Bd x n:=by
 obtain⟨a,b,rfl,D⟩:=Q;obtain⟨c,d,rfl,C⟩:=I;have G:c*c+d*d≠0:=by
  intro e;apply J;have U:0<=c*c:=nX c;have S:0<=d*d:=nX d;have P:c*c=0:=aa;have L:d*d=0:=aa;rw[(ach.1 P).elim id id,(ach.1 L).elim id id]
 have j:((c:Rat)*c+d*d)≠0:=by
  have:=fZ G;simpa only[aba,aan] using this
 have r1:=congrArg GQ.re H;have r2:=congrArg GQ.im H;simp only[GQ.aR,GQ.aQ,GQ.bU,GQ.bS] at r1 r2;have B:(a.natAbs+b.natAbs)*(c.natAbs+d.natAbs)<=F*B2:=aac D C;have l:(c.natAbs+d.natAbs)*(c.natAbs+d.natAbs)<=B2*B2:=aac C C;have O:(a.natAbs+b.natAbs)*(c.natAbs+d.natAbs)=a.natAbs*c.natAbs+b.natAbs*d.natAbs+(a.natAbs*d.natAbs+b.natAbs*c.natAbs):=by
  exact Aca
 have K:(c.natAbs+d.natAbs)*(c.natAbs+d.natAbs)=c.natAbs*c.natAbs+d.natAbs*d.natAbs+(c.natAbs*d.natAbs+d.natAbs*c.natAbs):=by
  exact Aca
 refine agm (a:=a*c+b*d) (b:=b*c-a*d) (d:=c*c+d*d) G ?_ ?_ ⟨?_,?_,?_⟩
 .simp only[aba,aan];grind
 .simp only[aba,abo,aan];grind
 .have:=ab6 (a*c) (b*d);exact Abk
 .have:=abA (b*c) (a*d);exact Abk
 .have:=ab6 (c*c) (d*d);exact Abk
def room (b k:Nat):Nat:=fct (k+1)*(2^(b*(k+1)+1))^(k+1)*(2^(b*(k+1))*(fct k*(2^(b*(k+1)+1))^k))
instance:DecidableEq GQ:=fun x y=>decidable_of_iff (x.re=y.re/\x.im=y.im) ⟨fun h=>GQ.ext h.1 h.2,fun h=>by rw[h];exact⟨rfl,rfl⟩⟩
theorem aeQ{x y}(h:y≠GQ.i 0 0):x/y*y=x:=by
 have j:=GQ.Bi h;unfold GQ.nrm at j;ext<;>simp only[GQ.aR,GQ.aQ,GQ.Af,GQ.vg,GQ.nrm]<;>grind
def afh(y):GQ.i 0 0/y=GQ.i 0 0:=by
 ext<;>simp only[GQ.Af,GQ.vg,GQ.bU,GQ.bS]<;>grind
def fp (X:Nat->Nat->GQ) (c:Nat):Nat->Nat->Option Nat
 |0,_=>δ
 |n+1,k=>if X k c=GQ.i 0 0 then fp X c n (k+1) else γ k
theorem zh{X c p}:∀{n k:Nat},k<=p->p<k+n->(∀i,k<=i->i<p->X i c=GQ.i 0 0)->X p c≠GQ.i 0 0->fp X c n k=γ p
 |0,k,h1,h2,_,_=>aa
 |n+1,k,h1,h2,h,h0=>by
  unfold fp;by_cases e:k=p
  .subst e;rw[θ h0]
  .rw[ι (h k (κ _) aa)];exact zh aa aa (fun i hi=>h i aa) h0
theorem zl{X c}:∀{n k:Nat},(∀i,k<=i->i<k+n->X i c=GQ.i 0 0)->fp X c n k=δ
 |0,_,_=>rfl
 |n+1,k,h=>by
  unfold fp;rw[ι (h k (κ _) aa)];exact zl (fun i l j=>h i aa aa)
theorem oN{X c}:∀{n k:Nat},fp X c n k=δ->∀i,k<=i->i<k+n->X i c=GQ.i 0 0
 |0,k,_,i,h1,h2=>aa
 |n+1,k,h,i,h1,h2=>by
  unfold fp at h;by_cases e:X k c=GQ.i 0 0
  .rw[ι e] at h;by_cases j:i=k
   .subst j;exact e
   .exact oN h i aa aa
  .rw[θ e] at h;cases h
theorem ic{X c p}:∀{n k:Nat},fp X c n k=γ p->k<=p/\p<k+n/\X p c≠GQ.i 0 0/\∀i,k<=i->i<p->X i c=GQ.i 0 0
 |0,k,h=>by cases h
 |n+1,k,h=>by
  unfold fp at h;by_cases e:X k c=GQ.i 0 0
  .rw[ι e] at h;obtain⟨B,j,D,l⟩:=ic h;refine⟨aa,aa,D,fun i hi hp=> ?_⟩;by_cases C:i=k
   .subst C;exact e
   .exact l i aa hp
  .rw[θ e] at h;cases h;exact⟨κ _,aa,e,fun i B j=>aa⟩
def swp (k r i:Nat):Nat:=if i=k then r else if i=r then k else i
theorem NS(k i):swp k k i=i:=by unfold swp;split<;>omega
theorem ng(k r):swp k r r=k:=by unfold swp;split<;>simp_all
theorem U9(k r):swp k r k=r:=by unfold swp;simp
theorem vK{k r i}(l:i≠k)(j:i≠r):swp k r i=i:=by unfold swp;rw[θ l,θ j]
theorem kV{k r i m}(j:k<m)(l:r<m)(hi:i<m):swp k r i<m:=by unfold swp;split<;>(try split)<;>omega
theorem Dq(k r i):swp k r (swp k r i)=i:=by unfold swp;split<;>(try split)<;>(try split)<;>(try split)<;>omega
def clr (X:Nat->Nat->GQ) (r c:Nat):Nat->Nat->GQ:=fun i j=>if r<i then X i j-X i c/X r c*X r j else X i j
structure Ec where
 r:Nat
 X:Nat->Nat->GQ
 odd:Bool
 q:List Nat
def jN (m c:Nat) (s:Ec):Ec:=
 match fp s.X c (m-s.r) s.r with
 |none=>s
 |some k=>⟨s.r+1,clr (fun i=>s.X (swp k s.r i)) s.r c,s.odd^^decide (k≠s.r),c::s.q⟩
def ech (m:Nat) (X:Nat->Nat->GQ):Nat->Ec
 |0=>⟨0,X,ζ,[]⟩
 |c+1=>jN m c (ech m X c)
theorem eX{m c}{s:Ec}(h:fp s.X c (m-s.r) s.r=δ):jN m c s=s:=by unfold jN;rw[h]
theorem dN{m c k}{s:Ec}(h:fp s.X c (m-s.r) s.r=γ k):jN m c s=⟨s.r+1,clr (fun i=>s.X (swp k s.r i)) s.r c,s.odd^^decide (k≠s.r),c::s.q⟩:=by unfold jN;rw[h]
structure Inv (m:Nat) (X0:Nat->Nat->GQ) (c:Nat) (s:Ec) (o:Nat->Nat) (P:List (Nat->GQ)):Prop where
 rm:s.r<=m
 pl:P.length=s.r
 ql:s.q.length=s.r
 ne:det P s.q≠GQ.i 0 0
 qc:∀d∈s.q,d<c
 pm:∀p∈P,∃i,i<m/\p=X0 i
 om:∀i,i<m->o i<m
 sy:∀i,s.r<=i->i<m->Says (s.X i) (X0 (o i)) P
 z:∀i j,s.r<=i->i<m->j<c->s.X i j=GQ.i 0 0
def afj(m l):Inv m l 0 (ech m l 0) (fun i=>i) []:=
 ⟨by simp[ech],rfl,rfl,by show GQ.i 1 0≠_;decide,by simp[ech],ag,fun i h=>h,fun i _ _=>Says.refl _ _,by intros;omega⟩
theorem Inv.step{m c l}{s:Ec}{o P}(h:Inv m l c s o P):∃V D,Inv m l (c+1) (jN m c s) V D:=by
 have O:=h.rm;cases K:fp s.X c (m-s.r) s.r with
 |none=>
  rw[eX K];refine⟨o,P,h.rm,h.pl,h.ql,h.ne,fun d hd=>ab9 (h.qc d hd),h.pm,h.om,h.sy,fun i j H I N=> ?_⟩;by_cases e:j=c
  .subst e;exact oN K i H aa
  .exact h.z i j H I aa
 |some k=>
  obtain⟨C,Q,M,R⟩:=ic K;rw[dN K];have B:swp k s.r s.r=k:=ng _ _;have F:=(h.sy k C aa).entry (fun d hd=>h.z k d C aa (h.qc d hd)) c;refine⟨fun i=>o (swp k s.r i),l (o k)::P,by show s.r+1<=m;omega,by simp[h.pl],by simp[h.ql],?_,?_,?_,?_,?_,?_⟩
  .show det (l (o k)::P) (c::s.q)≠_;rw[F];exact GQ.ik M h.ne
  .intro d hd;rcases ψ.1 hd with rfl|hd
   .omega
   .exact ab9 (h.qc d hd)
  .intro p hp;rcases ψ.1 hp with rfl|hp
   .exact⟨o k,h.om k aa,rfl⟩
   .exact h.pm p hp
  .intro i hi;exact h.om _ (kV aa aa hi)
  .intro i H I;have L:s.r<i:=H;have e:(clr (fun i=>s.X (swp k s.r i)) s.r c) i=fun j=>s.X (swp k s.r i) j-(s.X (swp k s.r i) c/s.X k c)*s.X k j:=by
    funext j;unfold clr;rw[ι L];simp only[B]
   show Says ((clr (fun i=>s.X (swp k s.r i)) s.r c) i) _ _;rw[e];have G:s.r<=swp k s.r i:=by unfold swp;split<;>(try split)<;>omega
   exact Says.step (h.sy _ G (kV aa aa I)) (h.sy k C aa) _
  .intro i j H I N;have L:s.r<i:=H;have G:s.r<=swp k s.r i:=by unfold swp;split<;>(try split)<;>omega
   have J:=kV (k:=k) (r:=s.r) (i:=i) (m:=m) aa aa I;show(clr (fun i=>s.X (swp k s.r i)) s.r c) i j=_;unfold clr;rw[ι L];simp only[B];by_cases e:j=c
   .subst e;rw[aeQ M,GQ.qz]
   .rw[h.z _ j G J aa,h.z k j C aa aa,GQ.bL,GQ.eQ]
def nM(m l):∀c,∃o P,Inv m l c (ech m l c) o P
 |0=>⟨_,_,afj m l⟩
 |c+1=>by
  obtain⟨o,P,h⟩:=nM m l c;exact h.step
def Rx(v0 q0 n0 v1 q1 n1 w)(j:GV w v0 q0 n0)(l:GV w v1 q1 n1)(hn:2*max n0 n1+65<=12800):
  CV 194 #[v0,v1] w fun v w'=>(∃u,v=.tuple #[u,.int .i64 0]/\GV w' u (q0+q1) (n0+n1+65)):=by
 have:=TQ v0 q0 n0 v1 q1 n1 w j l hn;rwa[xW] at this
def Lp(v0 q0 n0 v1 q1 n1 w)(j:GV w v0 q0 n0)(l:GV w v1 q1 n1)(hn:2*max n0 n1+65<=12800):
  CV 135 #[v0,v1] w fun v w'=>(∃u,v=.tuple #[u,.int .i64 0]/\GV w' u (q0-q1) (n0+n1+65)):=by
 have:=TZ v0 q0 n0 v1 q1 n1 w j l hn;rwa[M6] at this
def Qw(v0 q0 n0 v1 q1 n1 w)(j:PV w v0 q0 n0)(l:PV w v1 q1 n1)(hn:2*max n0 n1+65<=12800):
  CV 93 #[v0,v1] w fun v w'=>(∃u,v=.tuple #[u,.int .i64 0]/\PV w' u (q0+q1) (n0+n1+65)):=by
 have:=Um v0 q0 n0 v1 q1 n1 w j l hn;rw[xW,xW] at this;exact this
instance (a d x z r n:Int):Decidable (RZ a d x z r n):=by unfold RZ;infer_instance
def jm (w:World) (g:Nat):Prop:=Blk w g 250 #[.int .i64 0]
def jm.ext{w w' g}(h:jm w g)(x:Ext w w'):jm w' g:=Blk.ext h x
def eH{w w' g n q s1 s2 s3 A1 A2 A3 n1 c1 n2 c2 n3 c3}(D:Ext w w')(C:w.heap.size<=g)(hb:Blk w' g 42 #[.bool ζ,.slice δ 0 0,.bool ζ,.slice δ 0 0,.bool ζ,.slice δ 0 0])(h:GV w' (gv s1 A1 n1 c1 s2 A2 n2 c2 s3 A3 n3 c3) q n):
  Ext w ((((((w'.setCell ⟨g,0,δ⟩ (.bool s1)).setCell ⟨g,1,δ⟩ (.slice A1 n1 c1)).setCell ⟨g,2,δ⟩ (.bool s2)).setCell ⟨g,3,δ⟩ (.slice A2 n2 c2)).setCell ⟨g,4,δ⟩ (.bool s3)).setCell ⟨g,5,δ⟩ (.slice A3 n3 c3))/\
  Blk ((((((w'.setCell ⟨g,0,δ⟩ (.bool s1)).setCell ⟨g,1,δ⟩ (.slice A1 n1 c1)).setCell ⟨g,2,δ⟩ (.bool s2)).setCell ⟨g,3,δ⟩ (.slice A2 n2 c2)).setCell ⟨g,4,δ⟩ (.bool s3)).setCell ⟨g,5,δ⟩ (.slice A3 n3 c3)) g 42 #[.bool s1,.slice A1 n1 c1,.bool s2,.slice A2 n2 c2,.bool s3,.slice A3 n3 c3]/\
  GV ((((((w'.setCell ⟨g,0,δ⟩ (.bool s1)).setCell ⟨g,1,δ⟩ (.slice A1 n1 c1)).setCell ⟨g,2,δ⟩ (.bool s2)).setCell ⟨g,3,δ⟩ (.slice A2 n2 c2)).setCell ⟨g,4,δ⟩ (.bool s3)).setCell ⟨g,5,δ⟩ (.slice A3 n3 c3)) (gv s1 A1 n1 c1 s2 A2 n2 c2 s3 A3 n3 c3) q n:=by
 have F:Mod (fun k=>k=g) w' (puts w' g 0 [.bool s1,.slice A1 n1 c1,.bool s2,.slice A2 n2 c2,.bool s3,.slice A3 n3 c3]):=Mod.only (fD _ _ _ _) rfl;have hS:Far (fun k=>k=g) w':=fun k l _=>by subst l;exact⟨_,_,hb,rfl⟩
 have ec:fI #[.bool ζ,.slice δ 0 0,.bool ζ,.slice δ 0 0,.bool ζ,.slice δ 0 0] 0 [.bool s1,.slice A1 n1 c1,.bool s2,.slice A2 n2 c2,.bool s3,.slice A3 n3 c3]= #[.bool s1,.slice A1 n1 c1,.bool s2,.slice A2 n2 c2,.bool s3,.slice A3 n3 c3]:=ah;have B:=fw C 0 [.bool s1,.slice A1 n1 c1,.bool s2,.slice A2 n2 c2,.bool s3,.slice A3 n3 c3] D;have j:=bR 0 [.bool s1,.slice A1 n1 c1,.bool s2,.slice A2 n2 c2,.bool s3,.slice A3 n3 c3] hb;rw[ec] at j;exact⟨B,j,h.mod F hS⟩
def sW(g v q n w)(hc:jm w g)(F:GV w v q n):
  CV 226 #[.pointer (γ ⟨g,0,δ⟩),v,.int .i64 0] w fun v w'=>GV w' v q n:=by
 obtain⟨s1,A1,n1,c1,s2,A2,n2,c2,s3,A3,n3,c3,rfl⟩:=F.opn;have G:=Blk.cell hc;have l:=Blk.frozen hc;have j:Ext w (w.setCell ⟨g,0,δ⟩ (.int .i64 0)):=(Ext.refl w).stay hc rfl;have I:=hc.ext j;have C:=Blk.cell I;have D:g<w.heap.size:=Blk.lt hc;have B:=aJ (F.ext j);clear F;go_enter func226,ntmps226;(go_wp2_with fail);exact dE rfl rfl rfl (aeE _ _ Aa9) ⟨_,rfl,B.ext ((Ext.new _ _).alloc _),j.trans ((Ext.new _ _).alloc _)⟩
def SV(g v0 v1 q0 q1 n0 n1 w)(hc:jm w g)(F:GV w v0 q0 n0)(l:GV w v1 q1 n1)(hn:2*max n0 n1+65<=12800):
  CV 224 #[.pointer (γ ⟨g,0,δ⟩),v0,v1] w fun v w'=>GV w' v (q0-q1) (n0+n1+65):=by
 obtain⟨G,D,H,B,R,L,O,Q,S,Z,Wm,U,rfl⟩:=F.opn;obtain⟨M,Wp,K,V,Wq,Wl,Wt,P,Wn,Ws,Wo,W,rfl⟩:=l.opn;have HX:=aJ F;have HY:=aJ l;clear F l;obtain⟨Y,T,C,j⟩:=an3 w 42 #[.bool G,.slice D H B,.bool R,.slice L O Q,.bool S,.slice Z Wm U] 42 #[.bool M,.slice Wp K V,.bool Wq,.slice Wl Wt P,.bool Wn,.slice Ws Wo W] 42 #[.bool ζ,.slice δ 0 0,.bool ζ,.slice δ 0 0,.bool ζ,.slice δ 0 0];have I:=hc.ext Y;have k0:=Blk.cell I;go_enter func224,ntmps224;(go_wp2_with fail);refine(Lp _ q0 n0 _ q1 n1 _ (HX.ext Y) (HY.ext Y) hn).mono ?_;exact AbE
def SY(g v0 v1 q0 q1 n0 n1 w)(hc:jm w g)(F:GV w v0 q0 n0)(l:GV w v1 q1 n1)(hn:2*max n0 n1+1<=12800):
  CV 225 #[.pointer (γ ⟨g,0,δ⟩),v0,v1] w fun v w'=>GV w' v (q0*q1) (n0+n1+1):=by
 obtain⟨G,D,H,B,R,L,O,Q,S,Z,Wm,U,rfl⟩:=F.opn;obtain⟨M,Wp,K,V,Wq,Wl,Wt,P,Wn,Ws,Wo,W,rfl⟩:=l.opn;have HX:=aJ F;have HY:=aJ l;clear F l;obtain⟨Y,T,C,j⟩:=an3 w 42 #[.bool G,.slice D H B,.bool R,.slice L O Q,.bool S,.slice Z Wm U] 42 #[.bool M,.slice Wp K V,.bool Wq,.slice Wl Wt P,.bool Wn,.slice Ws Wo W] 42 #[.bool ζ,.slice δ 0 0,.bool ζ,.slice δ 0 0,.bool ζ,.slice δ 0 0];have I:=hc.ext Y;have k0:=Blk.cell I;go_enter func225,ntmps225;(go_wp2_with fail);refine(Ps _ q0 n0 _ q1 n1 _ (HX.ext Y) (HY.ext Y) hn).mono ?_;exact AbE
def SS(g v0 v1 q0 q1 n0 n1 w)(hc:jm w g)(F:GV w v0 q0 n0)(l:GV w v1 q1 n1)(h0:q1≠GQ.i 0 0)(hn:4*max n0 n1+3<=12800):
  CV 213 #[.pointer (γ ⟨g,0,δ⟩),v0,v1] w fun v w'=>GV w' v (q0/q1) (n0+(n1+n1+1)):=by
 obtain⟨G,D,H,B,R,L,O,Q,S,Z,Wm,U,rfl⟩:=F.opn;obtain⟨M,Wp,K,V,Wq,Wl,Wt,P,Wn,Ws,Wo,W,rfl⟩:=l.opn;have HX:=aJ F;have HY:=aJ l;clear F l;obtain⟨Y,T,C,j⟩:=an3 w 42 #[.bool G,.slice D H B,.bool R,.slice L O Q,.bool S,.slice Z Wm U] 42 #[.bool M,.slice Wp K V,.bool Wq,.slice Wl Wt P,.bool Wn,.slice Ws Wo W] 42 #[.bool ζ,.slice δ 0 0,.bool ζ,.slice δ 0 0,.bool ζ,.slice δ 0 0];have I:=hc.ext Y;have k0:=Blk.cell I;go_enter func213,ntmps213;(go_wp2_with fail);refine(UY _ q0 n0 _ q1 n1 _ (HX.ext Y) (HY.ext Y) (aJ h0) hn).mono ?_;exact AbE
def P7(g w)(hc:jm w g):
  CV 223 #[.pointer (γ ⟨g,0,δ⟩)] w fun v w'=>GV w' v (GQ.i 0 0) 64:=by
 obtain⟨Y,j⟩:=an1 w 42 #[.bool ζ,.slice δ 0 0,.bool ζ,.slice δ 0 0,.bool ζ,.slice δ 0 0];have I:=hc.ext Y;go_enter func223,ntmps223;(go_wp2_with fail);refine(NW 0 0 1 _ aa aa aa aa aa aa aa).mono ?_;rintro e w2 ⟨v,rfl,⟨u,rfl,N⟩,l⟩;replace Y:=Y.trans l;replace j:=j.ext l;replace I:=I.ext l;clear l;have C:(⟨((0:Int):Rat)/((1:Int):Rat),((0:Int):Rat)/((1:Int):Rat)⟩:GQ)=GQ.i 0 0:=by ext<;>simp only[GQ.bU,GQ.bS]<;>grind
 rw[C] at N;(go_wp2_with fail);refine(sW g u _ _ _ I N).mono ?_;rintro e V ⟨v,rfl,hv,l⟩;replace Y:=Y.trans l;replace j:=j.ext l;clear l N I;obtain⟨T,O,S,J,P,G,K,U,D,R,F,Q,rfl⟩:=hv.opn;have W:=j.cell;have Z:=j.frozen;obtain⟨p1,p2,B⟩:=eH Y aa j hv;have L:=aJ p1;have M:=aJ p2;have H:=aJ B;clear p1 p2 B Y j hv;(go_wp2_with fail);exact dE rfl rfl rfl M.o ⟨_,rfl,H.o,L.o⟩
def xg(v q n w)(F:GV w v q n)(hn:n<=12800):
  CE 90 #[v] w (.bool (decide (q=GQ.i 0 0))):=by
 by_cases h:q=GQ.i 0 0
 .rw[pq h];exact xk v q n w F hn h
 .rw[Γ h];exact zx v q n w F hn h
structure Rw where
 A:Option Addr
 b:Nat
 o:Nat
 n:Nat
 c:Nat
def Rw.v (r:Rw):Value:=.slice r.A r.n r.c
structure Mem (w:World) (A:Option Addr) (B O m:Nat) (R:Nat->Rw) (E:Nat->Nat->En):Prop where
 at0:0<m->A=γ ⟨B,O,δ⟩
 row:∀i,i<m->w.cell? ⟨B,O+i,δ⟩=γ (R i).v
 ra:∀i,i<m->0<(R i).n->(R i).A=γ ⟨(R i).b,(R i).o,δ⟩
 el:∀i j,i<m->j<(R i).n->∀t u,(E i j).cells[t]? =γ u->w.cell? ⟨(R i).b,(R i).o+(j*6+t),δ⟩=γ u
 lm:m<=9223372036854775807
 ln:∀i,i<m->(R i).n<=9223372036854775807
theorem Gf{w w' p u}(h:w.cell? p=γ u)(x:Ext w w'):w'.cell? p=γ u:=by
 have hp:p.block<w.heap.size:=by
  rcases aab p.block w.heap.size with j|l
  .exact j
  .unfold World.cell? at h;rw[aax l] at h;simp at h
 exact(x.cell hp).trans h
section
variable {w w':World} {A:Option Addr} {B O m c:Nat} {R:Nat->Rw} {E:Nat->Nat->En}
def Mem.ext(h:Mem w A B O m R E)(x:Ext w w'):Mem w' A B O m R E:=
 ⟨h.at0,fun i hi=>Gf (h.row i hi) x,h.ra,fun i j hi l t u N=>Gf (h.el i j hi l t u N) x,h.lm,h.ln⟩
def wd (m:Nat) (R:Nat->Rw):Nat:=if m=0 then 0 else (R 0).n
theorem qy(h:Mem w A B O m R E):CE 190 #[.slice A m c] w (.int .i64 (wd m R:Nat)):=by
 by_cases j:m=0
 .have C:((m:Int)==0)=ε:=by simp[j]
  have l:wd m R=0:=by unfold wd;rw[ι j]
  rw[l];clear j;exact AaE
 .have C:((m:Int)==0)=ζ:=by simp[j]
  have l:wd m R=(R 0).n:=by unfold wd;rw[θ j]
  rw[l];have D:=h.at0 aa;have F:w.cell? ⟨B,O,δ⟩=γ (.slice (R 0).A (R 0).n (R 0).c):=h.row 0 aa;subst D;have q1:(0:Int)<(m:Int):=aa;exact AaE
def IsM (m:Nat) (R:Nat->Rw) (vb:Nat->Nat->Bool):Prop:=m<=24/\wd m R<=24/\(∀i,i<m->(R i).n=wd m R)/\∀i j,i<m->j<(R i).n->vb i j=ε
def Mem.aM(h:Mem w A B O m R E){i}(hi:i<m)(x:Ext w w'):w'.cell? ⟨B,O+i,δ⟩=γ (.slice (R i).A (R i).n (R i).c):=x.cell_ (h.row i hi)
def Mem.cells(h:Mem w A B O m R E){i j}(hi:i<m)(l:j<(R i).n)(x:Ext w w'):
  w'.cell? ⟨(R i).b,(R i).o+j*6,δ⟩=γ (.bool (E i j).s1)/\w'.cell? ⟨(R i).b,(R i).o+j*6+1,δ⟩=γ (.slice (E i j).A1 (E i j).n1 (E i j).c1)/\w'.cell? ⟨(R i).b,(R i).o+j*6+2,δ⟩=γ (.bool (E i j).s2)/\
  w'.cell? ⟨(R i).b,(R i).o+j*6+3,δ⟩=γ (.slice (E i j).A2 (E i j).n2 (E i j).c2)/\w'.cell? ⟨(R i).b,(R i).o+j*6+4,δ⟩=γ (.bool (E i j).s3)/\w'.cell? ⟨(R i).b,(R i).o+j*6+5,δ⟩=γ (.slice (E i j).A3 (E i j).n3 (E i j).c3):=
 ⟨x.cell_ (h.el i j hi l 0 _ rfl),x.cell_ (h.el i j hi l 1 _ rfl),x.cell_ (h.el i j hi l 2 _ rfl),x.cell_ (h.el i j hi l 3 _ rfl),x.cell_ (h.el i j hi l 4 _ rfl),x.cell_ (h.el i j hi l 5 _ rfl)⟩
def Bp(h:Mem w A B O m R E){vb:Nat->Nat->Bool}(hv:∀i j,i<m->j<(R i).n->VB w (E i j).v (vb i j))(b)(hb:b=ε↔IsM m R vb):
  CE 189 #[.slice A m c] w (.bool b):=by
 have N:=aJ h;have HV:=aJ hv;have W9:(0:Int)<=(m:Int):=aa;by_cases D:24<m
 .have F:decide ((24:Int)<(m:Int))=ε:=ae;have hF:b=ζ:=by cases b<;>simp_all [IsM];omega
  subst hF;clear h hv hb D;go_enter adV,adv;(go_wp2_with fail);go_ret;exact⟨rfl,Ext.refl _⟩
 have F:decide ((24:Int)<(m:Int))=ζ:=ae;by_cases H:24<wd m R
 .have I:decide ((24:Int)<(wd m R:Int))=ε:=ae;have hF:b=ζ:=by cases b<;>simp_all [IsM];omega
  subst hF;clear h hv hb;go_enter adV,adv;(go_wp2_with fail);refine(qy N.o).mono ?_;rintro e w2 ⟨rfl,S⟩;(go_wp2_with fail);go_ret;exact⟨rfl,S⟩
 have I:decide ((24:Int)<(wd m R:Int))=ζ:=ae;have HB:=aJ hb;clear hb;have l:m<=24:=aa;clear h hv;go_enter adV,adv;(go_wp2_with fail);refine(qy N.o).mono ?_;rintro e w2 ⟨rfl,P⟩;have W:=aJ P;clear P;go_wp2_with fail
 go_loopw [19] (fun i wr=>∃k:Nat,k<=m/\i=.int .i64 k/\(∀i,i<k->(R i).n=wd m R)/\Ext w wr) (fun i _=>m-(intOf i).toNat)
 case atStart=>exact⟨0,aa,rfl,by intros;omega,W.o⟩
 case round=>
  obtain⟨k,hk,rfl,J,S⟩:=hrel;have HA:=aJ J;have HX:=aJ S;clear J S W;by_cases L:k<m
  .have hd:decide ((k:Int)<(m:Int))=ε:=ae;have hA:=N.at0 aa;have hr:=N.aM L HX.o;subst hA;by_cases hn:(R k).n=wd m R
   .have K:(((R k).n:Int) !=(wd m R:Int))=ζ:=by simp[hn]
    have HN:=aJ hn;clear hn;(go_wp2_with fail);refine(qy (N.ext HX.o)).mono ?_;rintro e w3 ⟨rfl,T⟩;go_wp2_with fail
    go_roundw
    case rel=>
     refine⟨k+1,aa,au,fun i hi=> ?_,HX.trans T⟩;by_cases e:i=k
     .subst e;exact HN.o
     .exact HA.o i aa
    case measure=>simp[intOf];omega
   .have K:(((R k).n:Int) !=(wd m R:Int))=ε:=ae;have hF:b=ζ:=by
     cases b
     .rfl
     .exact absurd ((HB.o.1 rfl).2.2.1 k L) hn
    subst hF;clear hn;(go_wp2_with fail);refine(qy (N.ext HX.o)).mono ?_;rintro e w3 ⟨rfl,T⟩;(go_wp2_with fail);go_ret;exact⟨rfl,HX.trans T⟩
  .obtain rfl:k=m:=aa;have hd:decide ((k:Int)<(k:Int))=ζ:=ag;clear hd;go_wp2_with fail
   go_loopw [31] (fun i wr=>∃Z:Nat,Z<=k/\i=.int .i64 Z/\(∀i j,i<Z->j<(R i).n->vb i j=ε)/\Ext w wr) (fun i _=>k-(intOf i).toNat)
   case atStart=>exact⟨0,aa,rfl,by intros;omega,HX.o⟩
   case round=>
    clear L;obtain⟨r,hr,rfl,J,S⟩:=hrel;have WL:=aJ J;have W:=aJ S;clear J S HX;by_cases L:r<k
    .have hd:decide ((r:Int)<(k:Int))=ε:=ae;have hA:=N.at0 aa;have Ws:=N.aM L W.o;subst hA;go_wp2_with fail
     go_loopw [37] (fun i wr=>∃Z:Nat,Z<=(R r).n/\i=.int .i64 Z/\(∀j,j<Z->vb r j=ε)/\Ext w wr) (fun i _=>(R r).n-(intOf i).toNat)
     case atStart=>exact⟨0,aa,rfl,by intros;omega,W.o⟩
     case round=>
      clear hd;obtain⟨j,hj,rfl,J,S⟩:=hrel;have Xx:=aJ J;have U:=aJ S;clear J S;by_cases V:j<(R r).n
      .have hd:decide ((j:Int)<((R r).n:Int))=ε:=ae;have WN:=N.ra r L aa;have Xl:=N.ln r L;obtain⟨c0,c1,c2,c3,c4,c5⟩:=N.cells L V U.o;rw[WN];generalize Y:vb r j=bv;have Xk:Hid (VB w (E r j).v bv):=aJ (Y ▸ HV.o r j L V);have C:=aJ Y;clear Y;have HE:=aJ (U.alloc (.cells #[.bool (E r j).s1,.slice (E r j).A1 (E r j).n1 (E r j).c1,.bool (E r j).s2,.slice (E r j).A2 (E r j).n2 (E r j).c2,.bool (E r j).s3,.slice (E r j).A3 (E r j).n3 (E r j).c3] 42));(go_wp2_with fail);refine((Xk.ext HE.o).e).mono ?_;rintro e w4 ⟨rfl,Q⟩;cases bv
       .have hF:b=ζ:=by
         cases b
         .rfl
         .have:=(HB.o.1 rfl).2.2.2 r j L V;rw[C.o] at this;cases this
        subst hF;(go_wp2_with fail);go_ret;exact⟨rfl,HE.trans Q⟩
       .go_wp2_with fail
        go_roundw
        case rel=>
         refine⟨j+1,aa,au,fun i hi=> ?_,HE.trans Q⟩;by_cases e:i=j
         .subst e;exact C.o
         .exact Xx.o i aa
        case measure=>simp[intOf];omega
      .obtain rfl:j=(R r).n:=aa;have hd:decide (((R r).n:Int)<((R r).n:Int))=ζ:=ag
       go_wp2_with fail
       go_roundw
       case rel=>
        refine⟨r+1,aa,au,fun i G hi M=> ?_,U.o⟩;by_cases e:i=r
        .subst e;exact Xx.o G M
        .exact WL.o i G aa M
       case measure=>simp[intOf];omega
    .obtain rfl:r=k:=aa;have hT:b=ε:=HB.o.2 ⟨l,aa,HA.o,WL.o⟩;subst hT;(go_wp2_with fail);go_ret;exact⟨rfl,W.o⟩
end
def dD.cells{w g n f}(hb:Blk w g 42 (aM n f).toArray){j}(l:j<n){p}(hp:j*6=p):
  w.cell? ⟨g,p,δ⟩=γ (.bool (f j).s1)/\w.cell? ⟨g,p+1,δ⟩=γ (.slice (f j).A1 (f j).n1 (f j).c1)/\w.cell? ⟨g,p+2,δ⟩=γ (.bool (f j).s2)/\
  w.cell? ⟨g,p+3,δ⟩=γ (.slice (f j).A2 (f j).n2 (f j).c2)/\w.cell? ⟨g,p+4,δ⟩=γ (.bool (f j).s3)/\w.cell? ⟨g,p+5,δ⟩=γ (.slice (f j).A3 (f j).n3 (f j).c3):=by
 subst hp;have h:∀t u,(f j).cells[t]? =γ u->w.cell? ⟨g,j*6+t,δ⟩=γ u:=fun t u N=>by
  rw[hb.cell];have B:t<6:=by
   have:=(μ.1 N).1;exact this
  rw[Ξ,dO B l];exact N
 exact⟨h 0 _ rfl,h 1 _ rfl,h 2 _ rfl,h 3 _ rfl,h 4 _ rfl,h 5 _ rfl⟩
def vB (x y:Nat->GQ) (q:GQ) (o l k:Nat):Nat->GQ:=fun j=>if o<=j/\j<o+k then x j-q*y (l+(j-o)) else x j
theorem MP(x y q o l):vB x y q o l 0=x:=by
 funext j;unfold vB;rw[θ aa]
theorem Cn(x y q o l k):vB x y q o l (k+1)=upd (vB x y q o l k) (o+k) (x (o+k)-q*y (l+k)):=by
 funext j;unfold upd;by_cases h:j=o+k
 .subst h;rw[ι rfl];unfold vB;rw[ι aa];rw[show o+k-o=k by omega]
 .rw[θ h];unfold vB;by_cases B:o<=j/\j<o+k
  .rw[ι B,ι aa]
  .rw[θ B,θ aa]
theorem KQ(x y q o j k):vB x y q o j k (o+k)=x (o+k):=by
 unfold vB;rw[θ aa]
def jm.ne{w gf g n x}(h:jm w gf)(j:dD w g n x):gf≠g:=by
 rintro rfl;obtain⟨f,hb,_⟩:=j;have e:=h.symm.trans hb;simp at e
def dD.far{w g n x}(h:dD w g n x):Far (fun k=>k=g) w:=by
 obtain⟨f,l,_⟩:=h;intro k j _;subst j;exact⟨_,_,l,dm _ _⟩
def ym(gf g g2 o o2 n n2 L C G C2 Nx Ny B A A2 v x y q w)(hc:jm w gf)(hx:dD w g n x)(hy:dD w g2 n2 y)(Wo:g≠g2)(hA:0<L->A=γ ⟨g,o*6,δ⟩)(X6:0<G->A2=γ ⟨g2,o2*6,δ⟩)(hL:L<=G)(ho:o+L<=n)(T:o2+G<=n2)(M:L<=9223372036854775807)(D:G<=9223372036854775807)(hq:GV w v q B)(bx:∀j,j<L->Bd (x (o+j)) Nx)(by_:∀j,j<L->Bd (y (o2+j)) Ny)(hN:2*max Nx (B+Ny+1)+65<=12800)(P:2*max B Ny+1<=12800):
  Calls prog 212 #[.pointer (γ ⟨gf,0,δ⟩),.slice A L C,.slice A2 G C2,v] w fun e w'=>e=.returned (.tuple #[])/\dD w' g n (vB x y q o o2 L)/\Mod (fun k=>k=g) w w':=by
 obtain⟨s1,A1,n1,c1,s2,F,H,c2,s3,A3,n3,c3,rfl⟩:=hq.opn;have HB:=aJ (Blk.new w 42 #[.bool s1,.slice A1 n1 c1,.bool s2,.slice F H c2,.bool s3,.slice A3 n3 c3]);have HE:=aJ (Ext.new w (.cells #[.bool s1,.slice A1 n1 c1,.bool s2,.slice F H c2,.bool s3,.slice A3 n3 c3] 42));have XZ:g<w.heap.size:=by obtain⟨f,h,_⟩:=hx;exact h.lt
 have HC:=aJ (hc.ext HE.o);have HX:=aJ (hx.ext HE.o);have HY:=aJ (hy.ext HE.o);have HQ:=aJ (hq.ext HE.o);have WP:=aJ bx;have WC:=aJ by_;clear hc hx hy hq bx by_;go_enter func212,ntmps212;(go_wp2_with fail);generalize (w.alloc _)=w1 at HB HE HC HX HY HQ⊢;generalize XB:w.heap.size=g7 at HB XZ⊢;have ZT:=aJ XB;clear XB;go_loopw [11] (fun i wr=>∃k:Nat,k<=L/\i=.int .i64 k/\dD wr g n (vB x y q o o2 k)/\Mod (fun k=>k=g) w1 wr) (fun i _=>L-(intOf i).toNat)
 case atStart=>exact⟨0,aa,rfl,by rw[MP];exact HX.o,Mod.refl _ _⟩
 case round=>
  obtain⟨k,hk,rfl,Wn,hm⟩:=hrel;have HM:=aJ hm;have I:=aJ Wn;clear hm Wn;by_cases Wj:k<L
  .have hd:decide ((k:Int)<(L:Int))=ε:=ae;have WF:decide ((k:Int)<(G:Int))=ε:=ae;have hA:=hA aa;have X6:=X6 aa;subst hA;subst X6;have l:=HX.far;obtain⟨f2,Z,Xv⟩:=HY.mod HM.o l (by exact fun e=>Wo e.symm);obtain⟨f,hf,hv⟩:=I.o;have V:=aJ ((Xv (o2+k) aa).to (WC.o k Wj));have HV:=aJ (hv (o+k) aa);obtain⟨d0,d1,d2,d3,d4,d5⟩:=dD.cells Z (j:=o2+k) aa (show(o2+k)*6=o2*6+k*6 by omega);have Y:=aJ hf;have Zq:=aJ Z;clear hf Z Xv;have Xi:=aJ hv;clear hv;(go_wp2_with fail);refine(xg _ _ _ _ V.o aa).mono ?_;rintro e w3 ⟨rfl,Wl⟩;by_cases h0:y (o2+k)=GQ.i 0 0
   .rw[pq h0];go_wp2_with fail
    go_roundw
    case rel=>
     refine⟨k+1,aa,au,?_,HM.trans (aeI Wl)⟩;rw[Cn];refine(I.ext Wl).congr fun j hj=> ?_;by_cases e:j=o+k
     .subst e;rw[upd_same,KQ,h0,GQ.bL,GQ.eQ]
     .rw[upd_ne e]
    case measure=>simp[intOf];omega
   .rw[Γ h0];have W:=aJ (Y.ext Wl);have Wm:=aJ ((HB.mod HM.o (by exact fun e=>aa)).ext Wl);obtain⟨a0,a1,a2,a3,a4,a5⟩:=dD.cells W.o (j:=o+k) aa (show(o+k)*6=o*6+k*6 by omega);have E0:=aK.cell a0;have E1:=aK.cell a1;have E2:=aK.cell a2;have E3:=aK.cell a3;have E4:=aK.cell a4;have E5:=aK.cell a5;have D0:=aK.cell (Wl.cell_ d0);have D1:=aK.cell (Wl.cell_ d1);have D2:=aK.cell (Wl.cell_ d2);have D3:=aK.cell (Wl.cell_ d3);have D4:=aK.cell (Wl.cell_ d4);have D5:=aK.cell (Wl.cell_ d5);have B7:=aK.blk Wm.o;have Wv:=aJ Wl;clear Wl a0 a1 a2 a3 a4 a5 d0 d1 d2 d3 d4 d5;(go_wp2_with fail);refine bQ 15 [(ε,0),(ε,1),(ε,2),(ε,3),(ε,4),(ε,5),(ε,6),(ε,7),(ε,8),(ε,9),(ε,10),(ε,11),(ε,12),(ζ,13),(ζ,14)] ah ah ?_;refine aV [0,1,2,3,4,5,6,7,8,9,10,11,12] [(ζ,13),(ζ,14)] _ ah ?_;simp only[cZ,aZ,ξ,ο];(repeat (go_big_quiet_step (fail)));refine τ ?_;refine aT 13 [(ζ,14)] ah ?_;intro K J;simp only[aZ];(go_wp2_with fail);have Ya:=aJ (HM.trans (aeI Wv.drew));have Xf:=aJ (HV.ext Wv.drew);refine(SY gf _ _ q (y (o2+k)) B Ny _ (Blk.mod HC.o Ya.o (HC.ne HX.o)) (HQ.mod Ya.o l) (V.ext Wv.drew) aa).mono ?_;rintro e w4 ⟨v4,rfl,R,Q⟩;have WL:=aJ Q.qm;have Wp:=aJ R;have U:=aJ Q;clear Q R;go_wp2;refine J _ _ ⟨⟨w4,WL.o⟩,rfl⟩ ?_;clear J K;refine aT 14 [] ah ?_;intro K J;simp only[aZ];(go_wp2_with fail);have Xk:=WP.o k Wj;refine(SV gf _ _ (x (o+k)) (q*y (o2+k)) Nx (B+Ny+1) _ ?_ ?_ Wp.o aa).mono ?_
    .exact Blk.ext (Blk.mod HC.o Ya.o (HC.ne HX.o)) U.o
    .have:=Xf.ext U.o;rw[KQ] at this;exact this.to Xk
    rintro e w5 ⟨v5,rfl,Xh,S⟩;obtain⟨t1,B1,m1,b1,t2,B2,m2,b2,t3,B3,m3,b3,rfl⟩:=Xh.opn;have WM:=aJ (WL.trans S);have XE:=aJ Xh;clear S Xh;go_wp2;refine J _ _ ⟨⟨w5,WM.o⟩,rfl⟩ ?_;clear J K;have O:=aJ (W.ext WM.o);obtain⟨a0,a1,a2,a3,a4,a5⟩:=dD.cells O.o (j:=o+k) aa (show(o+k)*6=o*6+k*6 by omega);have f5:=O.frozen;simp only[bT,ρ,χ];have YR:=aJ l;clear l E0 E1 E2 E3 E4 E5 D0 D1 D2 D3 D4 D5 B7;go_wp2_with fail
    go_roundw
    case rel=>
     refine⟨k+1,aa,au,?_⟩;have WU:Mod (fun k=>k=g) w1 w5:=(HM.trans (aeI Wv.o)).trans (aeI WM.o);have N:∀j,j<n->GV w5 (f j).v (vB x y q o o2 k j) 12800:=fun j hj=>((Xi.o j hj).ext Wv.o).ext WM.o;have hp:=dD.put (e:=⟨t1,B1,m1,b1,t2,B2,m2,b2,t3,B3,m3,b3⟩) O.o N (j:=o+k) aa (XE.up aa);rw[show(o+k)*6=o*6+k*6 by omega] at hp;rw[Cn];exact⟨hp.1,WU.trans hp.2⟩
    case measure=>simp[intOf];omega
  .obtain rfl:k=L:=aa;have hd:decide ((k:Int)<(k:Int))=ζ:=ag;(go_wp2_with fail);refine aa1 (aaq rfl _ _ _) rfl ?_;refine⟨rfl,I.o,?_⟩;exact(aeI HE.o).trans HM.o
def yn(gf g g2 o l n n2 L C G H N A A2 v x y q w)(hc:jm w gf)(Q:dD w g n x)(P:dD w g2 n2 y)(B:g≠g2)(J:0<L->A=γ ⟨g,o*6,δ⟩)(F:0<G->A2=γ ⟨g2,l*6,δ⟩)(K:L<=G)(O:o+L<=n)(T:l+G<=n2)(M:L<=9223372036854775807)(D:G<=9223372036854775807)(hq:GV w v q N)(I:∀j,j<L->Bd (x (o+j)) N)(by_:∀j,j<L->Bd (y (l+j)) N)(R:4*N+67<=12800):
  Calls prog 212 #[.pointer (γ ⟨gf,0,δ⟩),.slice A L C,.slice A2 G H,v] w fun e w'=>e=.returned (.tuple #[])/\dD w' g n (vB x y q o l L)/\Mod (fun k=>k=g) w w':=
 ym gf g g2 o l n n2 L C G H N N N A A2 v x y q w hc Q P B J F K O T M D hq I by_ aa aa
def yF(gf C G l A A2 v q N w)(hq:GV w v q N):
  CE 212 #[.pointer (γ ⟨gf,0,δ⟩),.slice A 0 C,.slice A2 G l,v] w (.tuple #[]):=by
 obtain⟨s1,A1,n1,c1,s2,F,H,c2,s3,A3,n3,c3,rfl⟩:=hq.opn;have j:=aJ (Ext.new w (.cells #[.bool s1,.slice A1 n1 c1,.bool s2,.slice F H c2,.bool s3,.slice A3 n3 c3] 42));clear hq;go_enter func212,ntmps212;(go_wp2_with fail);generalize (w.alloc _)=w1 at j⊢;go_loopw [11] (fun i wr=>i=.int .i64 0/\wr=w1) (fun i _=>0)
 case atStart=>exact⟨rfl,rfl⟩
 case round=>
  obtain⟨rfl,rfl⟩:=hrel;(go_wp2_with fail);refine aa1 (aaq rfl _ _ _) rfl ?_;exact⟨rfl,j.o⟩
def Cx (x y:Nat->GQ) (q:GQ) (c:Nat):Nat->GQ:=fun j=>if j<c then x j else if j=c then GQ.i 0 0 else x j-q*y j
def Blk.eF{w g g' t j cs cs'}(h:Blk w g t cs)(G:Blk w g' j cs')(l:t≠j):g≠g':=by
 rintro rfl;have e:=h.symm.trans G;simp at e;exact l e.2
def dD.blk{w g n x}(h:dD w g n x):∃cs,Blk w g 42 cs:=by obtain⟨f,hb,_⟩:=h;exact⟨_,hb⟩
theorem Pt(gf G I nb l B N R T v C F q w)(hc:jm w gf)(hq:GV w v q N)(L:0<nb->R=γ ⟨G,0,δ⟩/\dD w G nb C)(K:0<nb->T=γ ⟨I,0,δ⟩/\dD w I nb F)(H:0<nb->G≠I)(Z:nb<=1000)(J:∀j,j<nb->Bd (C j) N)(M:∀j,j<nb->Bd (F j) N)(hN:4*N+67<=12800):
  Calls prog 212 #[.pointer (γ ⟨gf,0,δ⟩),.slice R nb l,.slice T nb B,v] w.drew fun e w'=>e=.returned (.tuple #[])/\(0<nb->dD w' G nb (fun j=>C j-q*F j))/\Mod (fun g=>0<nb/\g=G) w w':=by
 have hd:Ext w w.drew:=(Ext.refl _).drew;by_cases h:0<nb
 .obtain⟨Y,r1⟩:=L h;obtain⟨Q,r2⟩:=K h;refine(yn gf G I 0 0 nb nb nb l nb B N R T v C F q w.drew (hc.ext hd) (r1.ext hd) (r2.ext hd) (H h) (fun _=>by simpa using Y) (fun _=>by simpa using Q) (κ _) aa aa aa aa (hq.ext hd) (fun j D=>by simpa using J j D) (fun j D=>by simpa using M j D) hN).mono ?_;rintro e w' ⟨U,S,W⟩;refine⟨U,fun _=>S.congr fun j D=> ?_,(aeI hd).trans (W.mono fun g P=>⟨h,P⟩)⟩;unfold vB;rw[ι aa];simp
 .obtain rfl:nb=0:=aa;refine(yF gf l 0 B R T v q N w.drew (hq.ext hd)).mono ?_;rintro e w' ⟨U,V⟩;exact⟨U,fun O=>absurd O aa,(aeI hd).trans (aeI V)⟩
theorem Ox(gf Ga Gb m cA cB i k col na nb bi bk G I Wm Wn N R T Xk Xm x y x2 y2 w)(hc:jm w gf)(hA:Blk w Ga 174 Xk)(O:Blk w Gb 174 Xm)(WJ:Xk[i]? =γ (.slice (γ ⟨bi,0,δ⟩) na na))(Xz:Xk[k]? =γ (.slice (γ ⟨bk,0,δ⟩) na na))(XC:Xm[i]? =γ (.slice R nb Wm))(Wv:Xm[k]? =γ (.slice T nb Wn))(B:i<m)(S:k<m)(Wj:col<na)(hm:m<=1000)(X8:na<=1000)(Xa:nb<=1000)(hx:dD w bi na x)(hy:dD w bk na y)(WH:0<nb->R=γ ⟨G,0,δ⟩/\dD w G nb x2)(WG:0<nb->T=γ ⟨I,0,δ⟩/\dD w I nb y2)(Wo:bi≠bk)(Ws:0<nb->G≠I/\bi≠G/\bi≠I)(h0:y col≠GQ.i 0 0)(bx:∀j,j<na->Bd (x j) N)(by_:∀j,j<na->Bd (y j) N)(WF:∀j,j<nb->Bd (x2 j) N)(WI:∀j,j<nb->Bd (y2 j) N)(bq:Bd (x col/y col) N)(hN:4*N+67<=12800):
  Calls prog 211 #[.pointer (γ ⟨gf,0,δ⟩),.slice (γ ⟨Ga,0,δ⟩) m cA,.slice (γ ⟨Gb,0,δ⟩) m cB,.int .i64 k,.int .i64 i,.int .i64 col] w fun e w'=>e=.returned (.tuple #[])/\
   dD w' bi na (Cx x y (x col/y col) col)/\(0<nb->dD w' G nb (fun j=>x2 j-x col/y col*y2 j))/\Mod (fun g=>g=bi\/(0<nb/\g=G)) w w':=by
 have HX:=aJ hx;have HY:=aJ hy;have HA:=aJ hA;have HB:=aJ O;have HC:=aJ hc;obtain⟨f,hf,hv⟩:=hx;obtain⟨f2,Z,Xv⟩:=hy;have C:w.cell? ⟨Ga,i,δ⟩=γ (.slice (γ ⟨bi,0,δ⟩) na na):=(hA.cell i).trans WJ;have k2:w.cell? ⟨Ga,k,δ⟩=γ (.slice (γ ⟨bk,0,δ⟩) na na):=(hA.cell k).trans Xz;obtain⟨a0,a1,a2,a3,a4,a5⟩:=dD.cells hf Wj rfl;have e0:=hc.cell;have HV:=aJ ((hv col Wj).to (bx col Wj));have d1:decide ((i:Int)<(m:Int))=ε:=ae;have d2:decide ((k:Int)<(m:Int))=ε:=ae;have d3:decide ((col:Int)<(na:Int))=ε:=ae;have Y:=aJ hf;have Zq:=aJ Z;have Xi:=aJ hv;have XB:=aJ Xv;have WR:=aJ WH;have XA:=aJ WG;have WP:=aJ bx;have WC:=aJ by_;have WU:=aJ WF;have Xr:=aJ WI;have WS:=aJ bq;have Wx:=aJ Ws;clear hf Z hv Xv WH WG bx by_ WF WI bq hA O hc Ws;go_enter func211,ntmps211;(go_wp2_with fail);refine(xg _ _ _ _ HV.o aa).mono ?_;rintro e w1 ⟨rfl,H⟩;replace C:=H.cell_ C;replace k2:=H.cell_ k2;replace a0:=H.cell_ a0;replace a1:=H.cell_ a1;replace a2:=H.cell_ a2;replace a3:=H.cell_ a3;replace a4:=H.cell_ a4;replace a5:=H.cell_ a5;clear e0;have e0:=(HC.ext H).cell;by_cases hz:x col=GQ.i 0 0
 .rw[pq hz];(go_wp2_with fail);refine aak (aaq rfl _ _ _) rfl ?_;have Xx:x col/y col=GQ.i 0 0:=by rw[hz,afh]
  refine⟨rfl,(HX.ext H).congr fun j hj=> ?_,fun hb=>((WR.o hb).2.ext H).congr fun j hj=> ?_,aeI H⟩
  .unfold Cx;rw[Xx];by_cases h1:j<col
   .rw[ι h1]
   .rw[θ h1];by_cases h2:j=col
    .subst h2;rw[ι rfl,hz]
    .rw[θ h2,GQ.eO,GQ.eQ]
  .rw[Xx,GQ.eO,GQ.eQ]
 .rw[Γ hz];(go_wp2_with fail);obtain⟨b0,b1,b2,b3,b4,b5⟩:=dD.cells (Zq.ext H) Wj rfl;have K1:=aK.cell C;have K2:=aK.cell k2;have A0:=aK.cell a0;have A1:=aK.cell a1;have A2:=aK.cell a2;have A3:=aK.cell a3;have A4:=aK.cell a4;have A5:=aK.cell a5;have B0:=aK.cell b0;have B1:=aK.cell b1;have B2:=aK.cell b2;have B3:=aK.cell b3;have B4:=aK.cell b4;have B5:=aK.cell b5;have Wt:=aJ H;clear a0 a1 a2 a3 a4 a5 b0 b1 b2 b3 b4 b5 C k2 e0 H;have Xh:∀w',Ext w1 w'->CV 213 #[.pointer (γ ⟨gf,0,δ⟩),.agg #[.bool (f col).s1,.slice (f col).A1 (f col).n1 (f col).c1,.bool (f col).s2,.slice (f col).A2 (f col).n2 (f col).c2,.bool (f col).s3,.slice (f col).A3 (f col).n3 (f col).c3],.agg #[.bool (f2 col).s1,.slice (f2 col).A1 (f2 col).n1 (f2 col).c1,.bool (f2 col).s2,.slice (f2 col).A2 (f2 col).n2 (f2 col).c2,.bool (f2 col).s3,.slice (f2 col).A3 (f2 col).n3 (f2 col).c3]] w' fun v w''=>GV w'' v (x col/y col) N:=fun w' Q=>
   (SS gf _ _ (x col) (y col) N N w' ((HC.ext Wt.o).ext Q) ((HV.ext Wt.o).ext Q) ((((XB.o col Wj).to (WC.o col Wj)).ext Wt.o).ext Q) h0 aa).mono fun e w'' ⟨v,h1,h2,h3⟩=>⟨v,h1,h2.to WS.o,h3⟩
  have HD:=aJ Xh;clear Xh;refine AQ 17 16 [(ε,0),(ε,1),(ε,2),(ε,3),(ε,4),(ε,5),(ε,6),(ε,7),(ε,8),(ε,9),(ε,10),(ε,11),(ε,12),(ε,13),(ε,14),(ζ,15)] [] (fun a a' w'=>∃(gb:Nat) (r1:Bool) (D1:Option Addr) (p1 q1:Nat) (r2:Bool) (D2:Option Addr) (p2 q2:Nat) (r3:Bool) (D3:Option Addr) (p3 q3:Nat),a'=(((((((((((((((((a.put (γ 28) (.pointer (γ ⟨gf,0,δ⟩))).put (γ 29) (.slice (γ ⟨Ga,0,δ⟩) m cA)).put (γ 30) (.int .i64 i)).put (γ 31) (.pointer (γ ⟨Ga,i,δ⟩))).put (γ 32) (.slice (γ ⟨bi,0,δ⟩) na na)).put (γ 33) (.int .i64 col)).put (γ 34) (.pointer (γ ⟨bi,col*6,δ⟩))).put (γ 35) (.agg #[.bool (f col).s1,.slice (f col).A1 (f col).n1 (f col).c1,.bool (f col).s2,.slice (f col).A2 (f col).n2 (f col).c2,.bool (f col).s3,.slice (f col).A3 (f col).n3 (f col).c3])).put (γ 36) (.slice (γ ⟨Ga,0,δ⟩) m cA)).put (γ 37) (.int .i64 k)).put (γ 38) (.pointer (γ ⟨Ga,k,δ⟩))).put (γ 39) (.slice (γ ⟨bk,0,δ⟩) na na)).put (γ 40) (.int .i64 col)).put (γ 41) (.pointer (γ ⟨bk,col*6,δ⟩))).put (γ 42) (.agg #[.bool (f2 col).s1,.slice (f2 col).A1 (f2 col).n1 (f2 col).c1,.bool (f2 col).s2,.slice (f2 col).A2 (f2 col).n2 (f2 col).c2,.bool (f2 col).s3,.slice (f2 col).A3 (f2 col).n3 (f2 col).c3])).put (γ 43) ((gv r1 D1 p1 q1 r2 D2 p2 q2 r3 D3 p3 q3))).put (γ 12) (.pointer (γ ⟨gb,0,δ⟩)))/\GV w' (gv r1 D1 p1 q1 r2 D2 p2 q2 r3 D3 p3 q3) (x col/y col) N/\Blk w' gb 42 #[.bool ζ,.slice δ 0 0,.bool ζ,.slice δ 0 0,.bool ζ,.slice δ 0 0]/\Ext w1 w'/\w1.heap.size<=gb) ah ah ?_ ?_
  ·
   have P:Ext w1 w1.drew:=(Ext.refl _).drew;generalize w1.drew=w6 at*
   refine gQ [0,1,2,3,4,5,6,7,8,9,10,11,12,13,14] [(ζ,15)] _ ah ?_;simp only[cZ,aZ,ξ,ο];(repeat (go_big_quiet_step (fail)));refine τ ?_;refine rJ 15 [] ah ah ?_ ?_
   ·
    intro K J;simp only[aZ];(go_wp2_with fail);refine(HD.o _ P).mono ?_;rintro e w7 ⟨v_,rfl,hO,F⟩;replace P:=P.trans F;obtain⟨r1,D1,p1,q1,r2,D2,p2,q2,r3,D3,p3,q3,rfl⟩:=hO.opn;have HO:=aJ hO;clear hO;go_wp2;refine J _ _ ⟨⟨w7,P⟩,rfl⟩ ?_;clear J K F;refine rR ah ?_;intro K J;simp only[aZ];(go_wp2_with fail);have F:=Ext.new w7 (.cells #[.bool ζ,.slice δ 0 0,.bool ζ,.slice δ 0 0,.bool ζ,.slice δ 0 0] 42);obtain⟨-,WM⟩:=an1 w7 42 #[.bool ζ,.slice δ 0 0,.bool ζ,.slice δ 0 0,.bool ζ,.slice δ 0 0];have Ye:w1.heap.size<=w7.heap.size:=P.size;replace P:=P.trans F;have WV:=aJ (HO.ext F);refine J _ _ ⟨⟨_,P⟩,rfl⟩ ?_;exact⟨_,r1,D1,p1,q1,r2,D2,p2,q2,r3,D3,p3,q3,by simp only[Act.put,qa,Z4,Z5],WV.o,WM,P,Ye⟩
   ·
    intro K J;simp only[aZ];(go_wp2_with fail);have F:=Ext.new w6 (.cells #[.bool ζ,.slice δ 0 0,.bool ζ,.slice δ 0 0,.bool ζ,.slice δ 0 0] 42);obtain⟨-,WM⟩:=an1 w6 42 #[.bool ζ,.slice δ 0 0,.bool ζ,.slice δ 0 0,.bool ζ,.slice δ 0 0];have Ye:w1.heap.size<=w6.heap.size:=P.size;replace P:=P.trans F;refine J _ _ ⟨⟨_,P⟩,rfl⟩ ?_;clear J K F;generalize w6.alloc (.cells #[.bool ζ,.slice δ 0 0,.bool ζ,.slice δ 0 0,.bool ζ,.slice δ 0 0] 42)=XY at*
    generalize w6.heap.size=gb at*
    refine aT 15 [] ah ?_;intro K J;simp only[aZ];(go_wp2_with fail);refine(HD.o _ P).mono ?_;rintro e w7 ⟨v_,rfl,hO,F⟩;replace P:=P.trans F;replace WM:=WM.ext F;obtain⟨r1,D1,p1,q1,r2,D2,p2,q2,r3,D3,p3,q3,rfl⟩:=hO.opn;have HO:=aJ hO;clear hO;go_wp2;refine J _ _ ⟨⟨w7,P⟩,rfl⟩ ?_;clear J K F;exact⟨_,r1,D1,p1,q1,r2,D2,p2,q2,r3,D3,p3,q3,by simp only[Act.put,qa,Z4,Z5],HO.o,WM,P,Ye⟩
  rintro a' w8 ⟨gb,r1,D1,p1,q1,r2,D2,p2,q2,r3,D3,p3,q3,rfl,hQ,Ww,Xl,Ye⟩;clear K1 K2 A0 A1 A2 A3 A4 A5 B0 B1 B2 B3 B4 B5;simp only[Act.put,qa,Z4,Z5,ρ,χ];have WX:=aJ (Wt.trans Xl);have k6:=Ww.cell;have f6:=Ww.frozen;obtain⟨z1,z2,z3⟩:=eH Xl Ye Ww hQ;have Z1:=aJ (Wt.trans z1);have Z2:=aJ z2;have Z3:=aJ z3;clear z1 z2 z3 Xl Ww hQ;have XF:w.heap.size<=gb:=nk Wt.size Ye;clear WX;(go_wp2_with fail);generalize XD:World.setCell _ _ _=w9 at Z1 Z2 Z3⊢;clear XD k6 f6 Ye;have K1:=aK.cell (((HA.ext Z1.o).cell i).trans WJ);have Xq:=aJ (P7 gf w9.drew (HC.ext Z1.drew));refine bQ 7 [(ε,0),(ε,1),(ε,2),(ε,3),(ε,4),(ε,5),(ζ,6)] ah ah ?_;refine aV [0,1,2,3,4,5] [(ζ,6)] _ ah ?_;simp only[cZ,aZ,ξ,ο];(repeat (go_big_quiet_step (fail)));refine τ ?_;refine aT 6 [] ah ?_;intro K J;simp only[aZ];(go_wp2_with fail);refine Xq.mono ?_;rintro e XE ⟨Xt,rfl,WK,Xd⟩;obtain⟨t1,B1,m1,o1,t2,B2,m2,o2,t3,B3,m3,o3,rfl⟩:=WK.opn;have D:=aJ Xd.qm;have WY:=aJ WK;clear Xd WK Xq;go_wp2;refine J _ _ ⟨⟨XE,D.o⟩,rfl⟩ ?_;clear J K K1;simp only[bT,ρ,χ];have WO:=aJ (Z1.trans D.o);have Wq:=aJ (Y.ext WO.o);obtain⟨a0,a1,a2,a3,a4,a5⟩:=dD.cells Wq.o Wj rfl;have f5:=Wq.frozen;(go_wp2_with fail);clear a0 a1 a2 a3 a4 a5 f5;have hp:=dD.put (e:=⟨t1,B1,m1,o1,t2,B2,m2,o2,t3,B3,m3,o3⟩) Wq.o (fun j hj=>(Xi.o j hj).ext WO.o) (j:=col) Wj (WY.up aa);have Wp:=aJ (show dD (puts XE bi (col*6) [.bool t1,.slice B1 m1 o1,.bool t2,.slice B2 m2 o2,.bool t3,.slice B3 m3 o3]) bi na (upd x col (GQ.i 0 0)) from hp.1);have Wu:=aJ (show Mod (fun g=>g=bi) XE (puts XE bi (col*6) [.bool t1,.slice B1 m1 o1,.bool t2,.slice B2 m2 o2,.bool t3,.slice B3 m3 o3]) from hp.2);clear hp;show Code.wp _ _ _ _ (puts XE bi (col*6) [.bool t1,.slice B1 m1 o1,.bool t2,.slice B2 m2 o2,.bool t3,.slice B3 m3 o3]);generalize (puts XE bi (col*6) [.bool t1,.slice B1 m1 o1,.bool t2,.slice B2 m2 o2,.bool t3,.slice B3 m3 o3])=Xn at Wp Wu⊢;have l:=HX.far;have Wl:Mod (fun g=>g=bi) w Xn:=(aeI WO.o).trans Wu.o;have WL:=Y.lt;have Xf:=aJ (HA.mod Wl (HA.eF Y.o aj));have Wy:=aJ (HB.mod Wl (HB.eF Y.o aj));have WA:=aJ (Blk.mod HC.o Wl (HC.ne HX.o));have Xy:=aJ (HY.mod Wl l (by exact fun e=>Wo e.symm));have Wz:Far (fun g=>g=bi) XE:=fun g hg _=>by subst hg;exact⟨_,_,Wq.o,dm _ _⟩
  have WN:=aJ ((Z2.ext D.o).mod Wu.o (by exact fun e=>aa));have WQ:=aJ ((Z3.ext D.o).mod Wu.o Wz);have WE:=aJ Wl;clear Wl Wu Z2 Z3 WY Wq Wz D;have K1:=aK.cell ((Xf.cell i).trans WJ);have K2:=aK.cell ((Xf.cell k).trans Xz);have B7:=aK.blk WN.o;have s1:(0:Int)<=(col:Int)+1:=aa;have s2:(col:Int)+1<=(na:Int):=aa;refine bQ 16 [(ε,0),(ε,1),(ε,2),(ε,3),(ε,4),(ε,5),(ε,6),(ε,7),(ε,8),(ε,9),(ε,10),(ε,11),(ε,12),(ε,13),(ε,14),(ε,15)] ah ah ?_;refine aV [0,1,2,3,4,5,6,7,8,9,10,11,12,13,14,15] [] _ ah ?_;simp only[cZ,aZ,ξ,ο];(repeat (go_big_quiet_step (fail)));refine τ ?_;clear K1 K2 B7 s1 s2;simp only[bT,ρ,χ];have Xw:Hid (∀(P1 P2:Option Addr) (L W C2:Nat),L=na-(col+1)->(0<L->P1=γ ⟨bi,(col+1)*6,δ⟩)->(0<L->P2=γ ⟨bk,(col+1)*6,δ⟩)->Calls prog 212 #[.pointer (γ ⟨gf,0,δ⟩),.slice P1 L W,.slice P2 L C2,(gv r1 D1 p1 q1 r2 D2 p2 q2 r3 D3 p3 q3)] Xn.drew fun e w'=>e=.returned (.tuple #[])/\dD w' bi na (Cx x y (x col/y col) col)/\Mod (fun g=>g=bi) Xn w'):=by
   refine aJ fun P1 P2 L W C2 hL h1 h2=> ?_;have hd:Ext Xn Xn.drew:=(Ext.refl _).drew;refine(yn gf bi bk (col+1) (col+1) na na L W L C2 N P1 P2 _ (upd x col (GQ.i 0 0)) y (x col/y col) Xn.drew (WA.ext hd) (Wp.ext hd) (Xy.ext hd) Wo h1 h2 (κ _) aa aa aa aa (WQ.ext hd) ?_ (fun j hj=>WC.o _ aa) hN).mono ?_
   .intro j hj;rw[upd_ne aa];exact WP.o _ aa
   .rintro e w' ⟨U,hr,hm⟩;refine⟨U,hr.congr fun j hj=> ?_,(aeI hd).trans hm⟩;unfold vB Cx;by_cases Xo:j<col
    .rw[θ aa,ι Xo,upd_ne aa]
    .by_cases M:j=col
     .subst M;rw[θ aa,θ aa,ι rfl,upd_same]
     .rw[ι aa,θ Xo,θ M,upd_ne M];congr 3;omega
  (go_wp2_with fail);all_goals
   refine(Xw.o _ _ _ _ _ aa (by intro h;first|(exact absurd h aa)|exact rfl) (by intro h;first|(exact absurd h aa)|exact rfl)).mono ?_;rintro e XY ⟨rfl,WW,V⟩;have Xu:=aJ WW;have WB:=aJ (WE.trans V);clear WW;(go_wp2_with fail);have WZ:=aJ (Wy.mod V (Wy.eF (Wp.blk.choose_spec) aj));have Xg:=aJ (Blk.mod WA.o V (jm.ne WA.o Wp.o));have Xc:=aJ (WN.mod V (by exact fun e=>aa));have Xe:=aJ (WQ.mod V Wp.far);have K1:=aK.cell ((WZ.cell i).trans XC);have K2:=aK.cell ((WZ.cell k).trans Wv);have B7:=aK.blk Xc.o;have HS:=aJ (Pt gf G I nb Wm Wn N R T _ x2 y2 (x _/y _) XY Xg.o Xe.o (fun hb=>⟨(WR.o hb).1,(WR.o hb).2.mod WB.o l (by exact fun e=>(Wx.o hb).2.1 e.symm)⟩) (fun hb=>⟨(XA.o hb).1,(XA.o hb).2.mod WB.o l (by exact fun e=>(Wx.o hb).2.2 e.symm)⟩) (fun hb=>(Wx.o hb).1) Xa WU.o Xr.o hN);clear Wy WA WN WQ WZ Xg Xc Xe Xw Wp;refine bQ 10 [(ε,0),(ε,1),(ε,2),(ε,3),(ε,4),(ε,5),(ε,6),(ε,7),(ε,8),(ε,9)] ah ah ?_;refine aV [0,1,2,3,4,5,6,7,8,9] [] _ ah ?_;simp only[cZ,aZ,ξ,ο];(repeat (go_big_quiet_step (fail)));refine τ ?_;clear K1 K2 B7;simp only[bT,ρ,χ];(go_wp2_with fail);refine HS.mono ?_;rintro e XG ⟨rfl,WT,W9⟩;have Xp:=aJ WT;have Xb:=aJ W9;clear WT W9;(go_wp2_with fail);refine aa1 (aaq rfl _ _ _) rfl ?_;refine⟨rfl,?_,Xp.o,(WB.mono (fun g hg=> .inl hg)).trans (Xb.mono (fun g hg=> .inr hg))⟩;refine Xu.mod Xb.o ?_ ?_
   .intro g hg _;obtain⟨hb,rfl⟩:=hg;have hr:=(WR.o hb).2.mod WB.o l (by exact fun e=>(Wx.o hb).2.1 e.symm);obtain⟨ff,Xj,_⟩:=hr;exact⟨_,_,Xj,dm _ _⟩
   .exact fun hg=>(Wx.o hg.1).2.1 hg.2
def Only.setRow(w g cs):Only g w (w.setRow g cs):=⟨rfl,rfl,rfl,ag,fun i _ j=>setRow_other w g i cs (fun e=>j (by rw[e]))⟩
def vR{P}{fn:Func}{R:Ending->World->Prop}{a:Act}{w}{t u:Nat}(l:fn.results= #[.tmp t,.tmp u])(hd:a.defers=[])(j:R (.returned (.tuple #[a.tmps.getD t undef,a.tmps.getD u undef])) w):bodyPost P fn R .ret a w:=
 aak (v:=.tuple #[a.tmps.getD t undef,a.tmps.getD u undef]) (by simp[results,l]) hd j
def mxc (m:Nat) (R:Nat->Rw):List Value:=(List.range m).map fun i=>(R i).v
def iE{m R i}(hi:i<m):(mxc m R).toArray[i]? =γ (R i).v:=by simp[mxc,hi]
structure MxI (W:World) (G m n:Nat) (P:Nat->Prop) (R:Nat->Rw) (X:Nat->Nat->GQ):Prop where
 o:Blk W G 174 (mxc m R).toArray
 len:∀i,i<m->(R i).n=n/\(R i).c=n
 row:∀i,i<m->0<n->(R i).A=γ ⟨(R i).b,0,δ⟩/\dD W (R i).b n (X i)
 inj:∀i j,i<m->j<m->0<n->(R i).b=(R j).b->i=j
 mem:∀i,i<m->0<n->P (R i).b
section
variable {W W':World} {G m n:Nat} {P:Nat->Prop} {R:Nat->Rw} {X Y:Nat->Nat->GQ}
def MxI.ext(h:MxI W G m n P R X)(x:Ext W W'):MxI W' G m n P R X:=
 ⟨h.o.ext x,h.len,fun i hi hn=>⟨(h.row i hi hn).1,(h.row i hi hn).2.ext x⟩,h.inj,h.mem⟩
def MxI.congr(h:MxI W G m n P R X)(e:∀i j,i<m->j<n->X i j=Y i j):MxI W G m n P R Y:=
 ⟨h.o,h.len,fun i hi hn=>⟨(h.row i hi hn).1,(h.row i hi hn).2.congr fun j l=>e i j hi l⟩,h.inj,h.mem⟩
theorem MxI.v(h:MxI W G m n P R X){i}(hi:i<m)(hn:0<n):(R i).v=.slice (γ ⟨(R i).b,0,δ⟩) n n:=by
 unfold Rw.v;rw[(h.row i hi hn).1,(h.len i hi).1,(h.len i hi).2]
theorem MxI.v0(h:MxI W G m n P R X){i}(hi:i<m):(R i).v=.slice (R i).A n n:=by
 unfold Rw.v;rw[(h.len i hi).1,(h.len i hi).2]
def MxI.cell(h:MxI W G m n P R X){i}(hi:i<m):W.cell? ⟨G,i,δ⟩=γ (.slice (R i).A n n):=by
 rw[h.o.cell,iE hi,h.v0 hi]
def MxI.SB{S:Nat->Prop}{x:Nat->GQ}{i:Nat}(h:MxI W G m n P R X)(B:Mod S W W')(hS:Far S W)(D:¬S G)(C:∀j,j<m->j≠i->0<n->¬S (R j).b)(hi:0<n->dD W' (R i).b n x):MxI W' G m n P R (upd X i x):=by
 refine⟨h.o.mod B D,h.len,fun j l hn=>⟨(h.row j l hn).1,?_⟩,h.inj,h.mem⟩;by_cases e:j=i
 .subst e;rw[upd_same];exact hi hn
 .rw[upd_ne e];exact(h.row j l hn).2.mod B hS (C j l e hn)
def MxI.mod{S}(h:MxI W G m n P R X)(B:Mod S W W')(hS:Far S W)(D:¬S G)(C:∀j,j<m->0<n->¬S (R j).b):MxI W' G m n P R X:=by
 refine⟨h.o.mod B D,h.len,fun j l hn=>⟨(h.row j l hn).1,?_⟩,h.inj,h.mem⟩;exact(h.row j l hn).2.mod B hS (C j l hn)
theorem jV(m R):kD (mxc m R).toArray=ε:=by
 unfold kD;simp only[wo];intro v hv;unfold mxc at hv;obtain⟨j,_,rfl⟩:=aad.1 hv;rfl
def Pk{k r}(B:k<m)(D:r<m):(((mxc m R).toArray.setIfInBounds k (R r).v).setIfInBounds r (R k).v)=(mxc m fun i=>R (swp k r i)).toArray:=by
 apply Array.ext
 .simp[mxc]
 .intro i F C;simp only[mxc,qa,List.getElem_toArray,List.getElem_set,List.getElem_map,List.getElem_range];by_cases j:r=i
  .subst j;rw[ι rfl,ng]
  .rw[θ j];by_cases l:k=i
   .subst l;rw[ι rfl,U9]
   .rw[θ l,vK (fun e=>l e.symm) (fun e=>j e.symm)]
def MxI.swap{k r}(h:MxI W G m n P R X)(l:k<m)(B:r<m):
  MxI ((W.setCell ⟨G,k,δ⟩ (.slice (R r).A n n)).setCell ⟨G,r,δ⟩ (.slice (R k).A n n)) G m n P (fun i=>R (swp k r i)) (fun i=>X (swp k r i))/\
   Mod (fun g=>g=G) W ((W.setCell ⟨G,k,δ⟩ (.slice (R r).A n n)).setCell ⟨G,r,δ⟩ (.slice (R k).A n n)):=by
 have D:Mod (fun g=>g=G) W ((W.setCell ⟨G,k,δ⟩ (.slice (R r).A n n)).setCell ⟨G,r,δ⟩ (.slice (R k).A n n)):=Mod.only ((Only.set _ _ _ _).trans (Only.set _ _ _ _)) rfl;have hS:Far (fun g=>g=G) W:=fun g F _=>by subst F;exact⟨_,_,h.o,jV _ _⟩
 refine⟨⟨?_,fun i hi=>h.len _ (kV l B hi),fun i hi hn=> ?_,fun i j hi I hn e=> ?_,fun i hi hn=>h.mem _ (kV l B hi) hn⟩,D⟩
 .have:=(h.o.qg k (R r).v).qg r (R k).v;rw[Pk l B,h.v0 l,h.v0 B] at this;exact this
 .obtain⟨H,C⟩:=h.row _ (kV l B hi) hn;refine⟨H,C.mod D hS ?_⟩;obtain⟨f,hb,_⟩:=C;exact fun e=>h.o.eF hb aj e.symm
 .have:=h.inj _ _ (kV l B hi) (kV l B I) hn e;rw[<-Dq k r i,this,Dq]
end
def Fh{m Z c}(h:(ech m Z c).r=m):∀d,c<=d->ech m Z d=ech m Z c
 |0,hd=>by
  obtain rfl:c=0:=aa;rfl
 |d+1,hd=>by
  by_cases e:c=d+1
  .subst e;rfl
  .have B:=Fh h d aa;show jN m d (ech m Z d)=_;rw[B];apply eX;rw[h,aa7];rfl
def MxI.ne{W G m n P R X}(h:MxI W G m n P R X){i g cs}(hi:i<m)(hn:0<n)(hb:Blk W g 174 cs):(R i).b≠g:=by
 obtain⟨_,f,j,_⟩:=h.row i hi hn;exact j.eF hb aj
def side (na:Nat) (X Y:Nat->Nat->GQ):Nat->Nat->GQ:=fun i j=>if j<na then X i j else Y i (j-na)
def elm (X:Nat->Nat->GQ) (r c i:Nat):Nat->Nat->GQ:=upd X i (fun j=>X i j-X i c/X r c*X r j)
def nE (X:Nat->Nat->GQ) (r c i:Nat):Nat->Nat->GQ:=fun D j=>if r<D/\D<i then X D j-X D c/X r c*X r j else X D j
theorem zW(X r c):nE X r c (r+1)=X:=by
 funext i j;unfold nE;rw[θ aa]
structure EI (W:World) (gf Ga Gb m na nb:Nat) (PA PB:Nat->Prop) (Z:Nat->Nat->GQ):Prop where
 calm:jm W gf
 a:∃R,MxI W Ga m na PA R Z
 b:∃R,MxI W Gb m nb PB R (fun i j=>Z i (na+j))
def Room (N m na nb:Nat) (Z:Nat->Nat->GQ):Prop:=∀c,c<na->(ech m Z c).r+1<m->(∀i j,(ech m Z c).r<=i->i<m->j<na+nb->Bd ((ech m Z c).X i j) N)/\
 ∀i k,(ech m Z c).r<=i->i<m->(ech m Z c).r<=k->k<m->(ech m Z c).X k c≠GQ.i 0 0->Bd ((ech m Z c).X i c/(ech m Z c).X k c) N
def EI.ext{W W' gf Ga Gb m na nb PA PB Z}(h:EI W gf Ga Gb m na nb PA PB Z)(x:Ext W W'):EI W' gf Ga Gb m na nb PA PB Z:=by
 obtain⟨l,⟨R,j⟩,⟨R2,B⟩⟩:=h;exact⟨l.ext x,⟨R,j.ext x⟩,⟨R2,B.ext x⟩⟩
def EI.congr{W gf Ga Gb m na nb PA PB Z l}(h:EI W gf Ga Gb m na nb PA PB Z)(e:∀i j,i<m->Z i j=l i j):EI W gf Ga Gb m na nb PA PB l:=by
 obtain⟨C,⟨R,B⟩,⟨R2,D⟩⟩:=h;exact⟨C,⟨R,B.congr fun i j hi _=>e i j hi⟩,⟨R2,D.congr fun i j hi _=>e i _ hi⟩⟩
theorem Ci(X){r c i}(hi:r<i):elm (nE X r c i) r c i=nE X r c (i+1):=by
 funext i' j;unfold elm upd;by_cases e:i'=i
 .subst e;rw[ι rfl];unfold nE;rw[θ aa,θ aa,θ aa,θ aa,ι aa]
 .rw[θ e];unfold nE;by_cases h:r<i'/\i'<i
  .rw[ι h,ι aa]
  .rw[θ h,θ aa]
theorem Gu(gf Ga Gb m cA cB na nb r i c N PA PB T X w)(h:EI w gf Ga Gb m na nb PA PB X)(hd:∀g,PA g->PB g->False)(hT:T Ga/\T Gb/\(∀g,PA g->T g)/\∀g,PB g->T g)(hi:i<m)(Xi:r<i)(hc:c<na)(hm:m<=24)(X8:na<=24)(Xa:nb<=24)(h0:X r c≠GQ.i 0 0)(hz:∀j,j<c->X r j=GQ.i 0 0)(bi:∀j,j<na+nb->Bd (X i j) N)(br:∀j,j<na+nb->Bd (X r j) N)(bq:Bd (X i c/X r c) N)(hN:4*N+67<=12800):
  Calls prog 211 #[.pointer (γ ⟨gf,0,δ⟩),.slice (γ ⟨Ga,0,δ⟩) m cA,.slice (γ ⟨Gb,0,δ⟩) m cB,.int .i64 r,.int .i64 i,.int .i64 c] w fun e w'=>e=.returned (.tuple #[])/\EI w' gf Ga Gb m na nb PA PB (elm X r c i)/\Mod T w w':=by
 obtain⟨B,⟨R,I⟩,⟨R2,O⟩⟩:=h;have K:r<m:=aa;obtain⟨H,ri⟩:=I.row i hi aa;obtain⟨F,rr⟩:=I.row r K aa;have WJ:(mxc m R).toArray[i]? =γ (.slice (γ ⟨(R i).b,0,δ⟩) na na):=by rw[iE hi,I.v hi aa]
 have Q:(mxc m R).toArray[r]? =γ (.slice (γ ⟨(R r).b,0,δ⟩) na na):=by rw[iE K,I.v K aa]
 have V:(mxc m R2).toArray[i]? =γ (.slice (R2 i).A nb nb):=by rw[iE hi,O.v0 hi]
 have Y:(mxc m R2).toArray[r]? =γ (.slice (R2 r).A nb nb):=by rw[iE K,O.v0 K]
 have P:(R i).b≠(R r).b:=fun e=>by have:=I.inj i r hi K aa e;omega
 refine(Ox gf Ga Gb m cA cB i r c na nb (R i).b (R r).b (R2 i).b (R2 r).b nb nb N (R2 i).A (R2 r).A _ _ (X i) (X r) (fun j=>X i (na+j)) (fun j=>X r (na+j)) w B I.o O.o WJ Q V Y hi K hc aa aa aa ri rr
  (fun hn=>O.row i hi hn) (fun hn=>O.row r K hn) P (fun hn=>⟨fun e=>by have:=O.inj i r hi K hn e;omega,fun e=>hd _ (I.mem i hi aa) (e ▸ O.mem i hi hn),fun e=>hd _ (I.mem i hi aa) (e ▸ O.mem r K hn)⟩)
  h0 (fun j J=>bi j aa) (fun j J=>br j aa) (fun j J=>bi _ aa) (fun j J=>br _ aa) bq hN).mono ?_
 rintro e w' ⟨U,h1,h2,W⟩;have l:Far (fun g=>g=(R i).b\/0<nb/\g=(R2 i).b) w:=by
  rintro g (rfl|⟨hn,rfl⟩) _
  .obtain⟨f,Z,_⟩:=ri;exact⟨_,_,Z,dm _ _⟩
  .obtain⟨f,Z,_⟩:=(O.row i hi hn).2;exact⟨_,_,Z,dm _ _⟩
 have C:∀(G:Nat) (cs:Array Value),Blk w G 174 cs->¬(G=(R i).b\/0<nb/\G=(R2 i).b):=by
  rintro G cs hG (e|⟨hn,e⟩)
  .exact I.ne hi aa hG e.symm
  .exact O.ne hi hn hG e.symm
 refine⟨U,⟨?_,⟨R,?_⟩,⟨R2,?_⟩⟩,W.mono ?_⟩
 .refine Blk.mod B W ?_;rintro(e|⟨hn,e⟩)
  .exact jm.ne B ri e
  .exact jm.ne B (O.row i hi hn).2 e
 .refine(I.SB (i:=i) (x:=Cx (X i) (X r) (X i c/X r c) c) W l (C _ _ I.o) ?_ (fun _=>h1)).congr ?_
  .rintro j J M hn (e|⟨L,e⟩)
   .exact M (I.inj j i J hi hn e)
   .exact hd _ (I.mem j J hn) (e ▸ O.mem i hi L)
  .intro D j S J;unfold elm upd;by_cases e:D=i
   .rw[ι e,ι e];unfold Cx;by_cases e1:j<c
    .rw[ι e1,hz j e1,GQ.bL,GQ.eQ]
    .rw[θ e1];by_cases e2:j=c
     .subst e2;rw[ι rfl,aeQ h0,GQ.qz]
     .rw[θ e2]
   .rw[θ e,θ e]
 .refine(O.SB (i:=i) (x:=fun j=>X i (na+j)-X i c/X r c*X r (na+j)) W l (C _ _ O.o) ?_ (fun hn=>h2 hn)).congr ?_
  .rintro j J M hn (e|⟨L,e⟩)
   .exact hd _ (I.mem i hi aa) (e ▸ O.mem j J hn)
   .exact M (O.inj j i J hi hn e)
  .intro D j S J;unfold elm upd;by_cases e:D=i
   .rw[ι e,ι e]
   .rw[θ e,θ e]
 .rintro g (rfl|⟨hn,rfl⟩)
  .exact hT.2.2.1 _ (I.mem i hi aa)
  .exact hT.2.2.2 _ (O.mem i hi hn)
theorem Ih(gf Ga Gb m cA cB na nb N PA PB T Z w)(h:EI w gf Ga Gb m na nb PA PB Z)(Ws:Ga≠Gb)(hd:∀g,PA g->PB g->False)(hT:T Ga/\T Gb/\(∀g,PA g->T g)/\∀g,PB g->T g)(W9:m=0->na=0)(hm:m<=24)(X8:na<=24)(Xa:nb<=24)(hN:4*N+67<=12800)(M:Room N m na nb Z)(hw:∀w',Ext w w'->CE 190 #[.slice (γ ⟨Ga,0,δ⟩) m cA] w' (.int .i64 na)):
  Calls prog 192 #[.pointer (γ ⟨gf,0,δ⟩),.slice (γ ⟨Ga,0,δ⟩) m cA,.slice (γ ⟨Gb,0,δ⟩) m cB] w fun e w'=>e=.returned (.tuple #[.int .i64 (ech m Z na).r,.bool (ech m Z na).odd])/\
   EI w' gf Ga Gb m na nb PA PB (ech m Z na).X/\Mod T w w':=by
 have HH:=aJ h;have I:=aJ M;have HT:=aJ hT;have HD:=aJ hd;clear h M hT hd;go_enter func192,ntmps192;go_wp2_with fail
 go_step3
 go_wp2_with fail
 go_step3
 (go_wp2_with fail);refine(hw _ (Ext.refl _)).mono ?_;rintro e w1 ⟨rfl,H⟩;have Wt:=aJ H;clear H hw;go_wp2_with fail
 go_loopw [6,7,13] (fun r o i wr=>∃c:Nat,c<=na/\i=.int .i64 c/\r=.int .i64 (ech m Z c).r/\o=.bool (ech m Z c).odd/\EI wr gf Ga Gb m na nb PA PB (ech m Z c).X/\Mod T w wr) (fun _ _ i _=>na-(intOf i).toNat)
 case atStart=>
  obtain⟨h1,⟨R,h2⟩,⟨R2,h3⟩⟩:=HH.o;exact⟨0,aa,rfl,rfl,rfl,⟨h1.ext Wt.o,⟨R,h2.ext Wt.o⟩,⟨R2,h3.ext Wt.o⟩⟩,aeI Wt.o⟩
 case round=>
  obtain⟨c,hc,rfl,rfl,rfl,WY,U⟩:=hrel;have HE:=aJ WY;have HM:=aJ U;clear WY U HH Wt;by_cases Wj:c<na
  .have hd:decide ((c:Int)<(na:Int))=ε:=ae;obtain⟨o,P,Wz⟩:=nM m Z c;have WJ:=Wz.rm;have HZ:=aJ Wz.z;clear Wz;generalize hs:ech m Z c=s at*
   have HS:=aJ hs;clear hs;by_cases L:s.r=m
   .have df:((s.r:Int)==(m:Int))=ε:=by simp[L]
    have Wm:ech m Z na=s:=by rw[<-HS.o];exact Fh (by rw[HS.o];exact L) na aa
    have Wp:=aJ Wm;clear Wm L;(go_wp2_with fail);rw[Exit.noGoto_ret];refine vR rfl rfl ?_;rw[Wp.o];exact⟨rfl,HE.o,HM.o⟩
   .have df:((s.r:Int)==(m:Int))=ζ:=ae;have Wx:s.r<m:=aa;clear L;go_wp2_with fail
    go_loopw [9] (fun i w2=>∃k:Nat,s.r<=k/\k<m/\i=.int .i64 k/\(∀i,s.r<=i->i<k->s.X i c=GQ.i 0 0)/\Ext wr w2) (fun i _=>m-(intOf i).toNat)
    case atStart=>exact⟨s.r,κ _,Wx,rfl,by intros;omega,Ext.refl _⟩
    case round=>
     clear hd df;obtain⟨k,Xw,WF,rfl,hz,hx⟩:=hrel;have HX:=aJ hx;have WU:=aJ hz;clear hx hz;obtain⟨B,⟨R,hA⟩,⟨R2,O⟩⟩:=HE.o;obtain⟨WN,f,hf,hv⟩:=hA.row k WF aa;have C:=hA.cell WF;rw[WN] at C;replace C:=HX.o.cell_ C;obtain⟨a0,a1,a2,a3,a4,a5⟩:=dD.cells (hf.ext HX.o) Wj rfl;have d1:decide ((k:Int)<(m:Int))=ε:=ae;have d2:decide ((c:Int)<(na:Int))=ε:=ae;have HV:=aJ ((hv c Wj).ext HX.o);clear hv hf B hA O;(go_wp2_with fail);refine(xg _ _ _ _ HV.o aa).mono ?_;rintro e w3 ⟨rfl,Wl⟩;have Wv:=HX.aC Wl;clear Wl C a0 a1 a2 a3 a4 a5;by_cases h0:s.X k c=GQ.i 0 0
     .rw[pq h0];have WK:Hid (∀i,s.r<=i->i<k+1->s.X i c=GQ.i 0 0):=aJ fun i h1 h2=>by
       by_cases e:i=k
       .subst e;exact h0
       .exact WU.o i h1 aa
      clear h0;by_cases Xb:k+1=m
      .have dl:(((k:Int)+1)==(m:Int))=ε:=ae;have J:ech m Z (c+1)=s:=by
        show jN m c (ech m Z c)=s;rw[HS.o];exact eX (zl fun i h1 h2=>WK.o i h1 aa)
       have l:=aJ J;clear J;(go_wp2_with fail);refine⟨⟨c+1,aa,au,by rw[l.o],by rw[l.o],?_,HM.o.trans (aeI Wv.o)⟩,by simp[intOf];omega⟩;rw[l.o];obtain⟨h1,⟨R,h2⟩,⟨R2,h3⟩⟩:=HE.o;exact⟨h1.ext Wv.o,⟨R,h2.ext Wv.o⟩,⟨R2,h3.ext Wv.o⟩⟩
      .have dl:(((k:Int)+1)==(m:Int))=ζ:=ae
       go_wp2_with fail
       go_roundw
       case rel=>exact⟨k+1,aa,aa,au,WK.o,Wv.o⟩
       case measure=>simp[intOf];omega
     .rw[Γ h0];have WE:ech m Z (c+1)=⟨s.r+1,clr (fun i=>s.X (swp k s.r i)) s.r c,s.odd^^decide (k≠s.r),c::s.q⟩:=by
       show jN m c (ech m Z c)=_;rw[HS.o];exact dN (zh Xw aa WU.o h0)
      have Ww:=aJ WE;clear WE;have WV:Hid (EI w3 gf Ga Gb m na nb PA PB s.X):=aJ (by
       obtain⟨h1,⟨R,h2⟩,⟨R2,h3⟩⟩:=HE.o;exact⟨h1.ext Wv.o,⟨R,h2.ext Wv.o⟩,⟨R2,h3.ext Wv.o⟩⟩)
      have Ya:=HM.aC (aeI Wv.o);clear HE HM HX Wv WU WN HV d1 d2;have WR:=aJ h0;have F:=aJ (And.intro Xw WF);have V:Hid (∀i,s.r<i->i<m->s.r<=swp k s.r i/\swp k s.r i<m):=aJ fun i h1 h2=>⟨by unfold swp;split<;>(try split)<;>omega,kV WF Wx h2⟩;have W:Hid ((s.r+1<m->∀i j,s.r<=i->i<m->j<na+nb->Bd (s.X i j) N)/\(s.r+1<m->∀i k,s.r<=i->i<m->s.r<=k->k<m->s.X k c≠GQ.i 0 0->Bd (s.X i c/s.X k c) N)):=aJ (by
       have:=I.o c Wj;rw[HS.o] at this;exact⟨fun h=>(this h).1,fun h=>(this h).2⟩)
      clear h0;by_cases WW:k=s.r
      .subst WW;have dne:((s.r:Int) !=(s.r:Int))=ζ:=ag;(go_wp2_with fail);have WT:Hid (EI w3 gf Ga Gb m na nb PA PB (fun i=>s.X (swp s.r s.r i))):=aJ (by
        have e:(fun i=>s.X (swp s.r s.r i))=s.X:=by funext i;rw[NS]
        rw[e];exact WV.o)
       have WC:=Ya;clear WV Ya;go_loopw [10] (fun i w2=>∃D:Nat,s.r+1<=D/\D<=m/\i=.int .i64 D/\EI w2 gf Ga Gb m na nb PA PB (nE (fun i=>s.X (swp s.r s.r i)) s.r c D)/\Mod T w w2) (fun i _=>m-(intOf i).toNat)
       case atStart=>
        refine⟨s.r+1,κ _,aa,au,?_,?_⟩
        .rw[zW];first|exact WT.o|exact WT.o.ext (Ext.refl _).drew|exact WT.o.ext (Ext.refl _).drew.drew
        .first|exact WC.o|exact WC.o.trans (aeI (Ext.refl _).drew)|exact WC.o.trans (aeI (Ext.refl _).drew.drew)
       case round=>
        obtain⟨D,Wn,WM,rfl,Y,hM⟩:=hrel;have K:=aJ Y;have S:=aJ hM;clear Y hM;by_cases G:D<m
        .have q1:decide ((D:Int)<(m:Int))=ε:=ae;(go_wp2_with fail);refine(Gu gf Ga Gb m cA cB na nb s.r D c N PA PB T (nE (fun i=>s.X (swp s.r s.r i)) s.r c D) _ K.o HD.o HT.o G aa Wj hm X8 Xa ?_ ?_ ?_ ?_ ?_ hN).mono ?_
         .unfold nE;rw[θ aa];simp only[ng];exact WR.o
         .exact Ac9
         .exact Acz
         .exact AcT
         .exact Aa4
         rintro e w7 ⟨rfl,Wy,WG⟩;have Q:=aJ Wy;have WI:=S.aC WG;clear Wy WG K S;go_wp2_with fail
         exact Ab0
        .obtain rfl:D=m:=aa;have q1:decide ((D:Int)<(D:Int))=ζ:=ag;have e0:=K.o.calm.cell;(go_wp2_with fail);refine⟨⟨c+1,aa,au,by rw[Ww.o];go_num,by rw[Ww.o];simp,?_,S.o⟩,by simp[intOf];omega⟩;rw[Ww.o];refine K.o.congr fun i j hi=> ?_;show nE (fun i=>s.X (swp s.r s.r i)) s.r c D i j=clr (fun i=>s.X (swp s.r s.r i)) s.r c i j;unfold nE clr;by_cases h:s.r<i
         .rw[ι ⟨h,hi⟩,ι h]
         .rw[θ (fun e=>h e.1),θ h]
      .have dne:((k:Int) !=(s.r:Int))=ε:=ae;obtain⟨B,⟨R,hA⟩,⟨R2,O⟩⟩:=WV.o;have HA:=aJ hA;have HB:=aJ O;have HC:=aJ B;have C:=hA.cell WF;have k2:=hA.cell Wx;have f1:=hA.o.frozen;clear hA O B;have q1:decide ((k:Int)<(m:Int))=ε:=ae;have q2:decide ((s.r:Int)<(m:Int))=ε:=ae
       go_wp2_with fail
       go_region;obtain⟨X6,WP⟩:=HA.o.swap WF Wx;have WB:Far (fun g=>g=Ga) w3:=fun g hg _=>by subst hg;exact⟨_,_,HA.o.o,jV _ _⟩
       have Wo:=HB.o.mod WP WB (by exact fun e=>Ws e.symm) (fun j hj hn=>HB.o.ne hj hn HA.o.o);have WX:jm _ gf:=Blk.mod HC.o WP (by exact fun e=>HC.o.eF HA.o.o aj e);have WL:=aJ X6;have Wq:=aJ Wo;have WS:=aJ WX;have ZH:=aJ WP;clear X6 Wo WX WP WB C k2 f1;generalize XF:World.setCell _ _ _=w4 at WL Wq WS ZH⊢;clear XF;have C:=Wq.o.cell WF;have k2:=Wq.o.cell Wx;have f1:=Wq.o.o.frozen;go_wp2_with fail
       go_region;obtain⟨WO,WQ⟩:=Wq.o.swap WF Wx;have WH:Far (fun g=>g=Gb) w4:=fun g hg _=>by subst hg;exact⟨_,_,Wq.o.o,jV _ _⟩
       have X7:=WL.o.mod WQ WH (by exact Ws) (fun j hj hn=>WL.o.ne hj hn Wq.o.o);have Wu:jm _ gf:=Blk.mod WS.o WQ (by exact fun e=>WS.o.eF Wq.o.o aj e);have WA:=aJ (EI.mk Wu ⟨_,X7⟩ ⟨_,WO⟩);have WC:=aJ ((Ya.o.trans (ZH.o.mono (T:=T) (fun g hg=>by subst hg;exact HT.o.1))).trans (WQ.mono (T:=T) (fun g hg=>by subst hg;exact HT.o.2.1)));clear WO WQ WH X7 Wu WL Wq WS ZH HA HB HC Ya WV C k2 f1;generalize WZ:World.setCell _ _ _=w5 at WA WC⊢;clear WZ;have WT:Hid (EI w5 gf Ga Gb m na nb PA PB (fun i=>s.X (swp k s.r i))):=aJ WA.o;clear WA;go_wp2_with fail
       go_loopw [10] (fun i w2=>∃D:Nat,s.r+1<=D/\D<=m/\i=.int .i64 D/\EI w2 gf Ga Gb m na nb PA PB (nE (fun i=>s.X (swp k s.r i)) s.r c D)/\Mod T w w2) (fun i _=>m-(intOf i).toNat)
       case atStart=>
        refine⟨s.r+1,κ _,aa,au,?_,?_⟩
        .rw[zW];first|exact WT.o|exact WT.o.ext (Ext.refl _).drew|exact WT.o.ext (Ext.refl _).drew.drew
        .first|exact WC.o|exact WC.o.trans (aeI (Ext.refl _).drew)|exact WC.o.trans (aeI (Ext.refl _).drew.drew)
       case round=>
        obtain⟨D,Wn,WM,rfl,Y,hM⟩:=hrel;have K:=aJ Y;have S:=aJ hM;clear Y hM;by_cases G:D<m
        .have q1:decide ((D:Int)<(m:Int))=ε:=ae;(go_wp2_with fail);refine(Gu gf Ga Gb m cA cB na nb s.r D c N PA PB T (nE (fun i=>s.X (swp k s.r i)) s.r c D) _ K.o HD.o HT.o G aa Wj hm X8 Xa ?_ ?_ ?_ ?_ ?_ hN).mono ?_
         .unfold nE;rw[θ aa];simp only[ng];exact WR.o
         .exact Ac9
         .exact Acz
         .exact AcT
         .exact Aa4
         rintro e w7 ⟨rfl,Wy,WG⟩;have Q:=aJ Wy;have WI:=S.aC WG;clear Wy WG K S;go_wp2_with fail
         exact Ab0
        .obtain rfl:D=m:=aa;have q1:decide ((D:Int)<(D:Int))=ζ:=ag;have e0:=K.o.calm.cell;(go_wp2_with fail);refine⟨⟨c+1,aa,au,by rw[Ww.o];go_num,by rw[Ww.o];simp[WW],?_,S.o⟩,by simp[intOf];omega⟩;rw[Ww.o];refine K.o.congr fun i j hi=> ?_;show nE (fun i=>s.X (swp k s.r i)) s.r c D i j=clr (fun i=>s.X (swp k s.r i)) s.r c i j;unfold nE clr;by_cases h:s.r<i
         .rw[ι ⟨h,hi⟩,ι h]
         .rw[θ (fun e=>h e.1),θ h]
  .obtain rfl:c=na:=aa;have hd:decide ((c:Int)<(c:Int))=ζ:=ag;(go_wp2_with fail);rw[Exit.noGoto_ret];exact vR rfl rfl ⟨rfl,HE.o,HM.o⟩
def zP:Rw:=⟨δ,0,0,0,0⟩
def zEn:En:=⟨ζ,δ,0,0,ζ,δ,0,0,ζ,δ,0,0⟩
def PR:(prog.info? 174).map (fun i=>(i.zero,i.size,i.bytes))=γ (γ (.slice δ 0 0),1,24):=ah
def IK:(prog.info? 42).map (fun i=>(i.zero,i.size,i.bytes))=γ (γ zEn.v,6,96):=ah
theorem ED(m):madeCells #[Value.slice δ 0 0] m=(mxc m fun _=>zP).toArray:=by
 rw[uH];congr 1;unfold mxc;rw[List.map_const',List.length_range];rfl
theorem BX(n):madeCells zEn.v.cells (n*6)=(aM n fun _=>zEn).toArray:=by
 unfold madeCells;apply Array.ext
 .simp[aW]
 .intro i D G;have hi:i<n*6:=by simpa using D
  have e:i=(i/6)*6+i%6:=aa;have h:=dO (f:=fun _=>zEn) (j:=i/6) (t:=i%6) (n:=n) (Ab _ aa) aa;rw[<-e] at h;have F:(aM n fun _=>zEn)[i]? =γ ((aM n fun _=>zEn).toArray[i]):=ag;rw[F] at h;have hs:zEn.v.cells.size=6:=rfl;have l:∀k,k<6->γ (zEn.v.cells[k]!)=zEn.cells[k]? :=fun k B=>match k,B with
   |0,_=>rfl
   |1,_=>rfl
   |2,_=>rfl
   |3,_=>rfl
   |4,_=>rfl
   |5,_=>rfl
  simp only[Array.getElem_map,Array.getElem_range];rw[hs];have C:=l (i%6) (Ab _ aa);rw[<-C] at h;injection h with h;exact h.symm
def DW(m:Nat)(C:m<=1000)(W:World):(Instr.makeSlice 223 (.int .i64 m) (.int .i64 m)).run prog W=.ok (.slice (γ ⟨W.heap.size,0,δ⟩) m m) (W.alloc (.cells (mxc m fun _=>zP).toArray 174)):=by
 obtain⟨i0,Q,l,B,j⟩:=abL PR;have h:=acV (P:=prog) W 223 174 i0 (.slice δ 0 0) underlying223 Q l .i64 .i64 m m aa aa Abj aa;rw[h,B];have e:madeCells (Value.slice δ 0 0).cells m=(mxc m fun _=>zP).toArray:=ED m;simp only[aar,I6,e]
def Aj(n:Nat)(hn:n<=1000)(W:World):(Instr.makeSlice 174 (.int .i64 n) (.int .i64 n)).run prog W=.ok (.slice (γ ⟨W.heap.size,0,δ⟩) n n) (W.alloc (.cells (aM n fun _=>zEn).toArray 42)):=by
 obtain⟨i0,Q,l,B,j⟩:=abL IK;have h:=acV (P:=prog) W 174 42 i0 zEn.v acB Q l .i64 .i64 n n aa aa Abj aa;rw[h,B];simp only[I6,BX]
def H8(k){P}(w J K G l g o B F a C I cur t cs)(N:P.underlying J=γ (.slice l))(hs:(P.info? l).map (·.size)=γ k)(M:w.heap[g]? =γ (.cells cur t (0,0)))(hn:cs.length=Nat.min C B*k)(D:∀j v,cs[j]? =γ v->w.cell? (a.add j)=γ v)(H:o+cs.length<=cur.size)(O:∀v∈cs,v.oneCell'=ε):
  (Builtin.copy_ #[J,K] G #[.slice (γ ⟨g,o,δ⟩) B F,.slice (γ a) C I]).run P w=
   .ok (goInt (Nat.min C B)) (w.setRow g (cur.toList.take o++cs++cur.toList.drop (o+cs.length)).toArray):=by
 have Z:=run_loadCells_list (P:=P) w a cs D;have L:=run_storeCells_at P g o t cs 0 cur w M (by simpa using H) O;cases hq:P.info? l with
 |none=>simp[hq] at hs
 |some i=>
  have hi:i.size=k:=by simpa[hq] using hs
  simp[Builtin.copy_,abh N,Builtin.lenOf,Builtin.firstCells,sizeOf,typeInfo,hq,hi,<-hn,Z,L]
def Db:(prog.info? 42).map (·.size)=γ 6:=ah
theorem bY(n f):∀v∈aM n f,v.oneCell'=ε:=by
 intro v hv;unfold aM at hv;obtain⟨j,_,hv⟩:=ac0.1 hv;unfold En.cells at hv;simp only[ψ,RS,aaU] at hv;rcases hv with rfl|rfl|rfl|rfl|rfl|rfl<;>rfl
def Md{f j n t u e}(G:j<n)(F:t<6)(hc:e.cells=(f j).cells.set t u):(aM n f).toArray.setIfInBounds (j*6+t) u=(aM n (upd f j e)).toArray:=by
 rw[qa];congr 1;apply aap;intro i;rw[List.getElem?_set];by_cases hi:i<n*6
 .have C:i=(i/6)*6+i%6:=aa;have B:i%6<6:=Ab _ aa;by_cases M:i/6=j
  .have D:(aM n (upd f j e))[i]? =e.cells[i%6]? :=by
    conv=>lhs;rw[C]
    rw[dO B aa,M,upd_same]
   rw[D,hc,List.getElem?_set];by_cases l:i%6=t
   .rw[ι aa,ι l.symm,aW,ι aa,ι (by show t<6;exact F)]
   .rw[θ aa,θ (fun e=>l e.symm)]
    conv=>lhs;rw[C]
    rw[dO B aa,M]
  .rw[θ aa]
   conv=>lhs;rw[C]
   conv=>rhs;rw[C]
   rw[dO B aa,dO B aa,upd_ne M]
 .rw[θ aa,Be AbU,Be AbU]
def afr{w:World}{g n j t:Nat}{f:Nat->En}{x:Nat->GQ}{e:En}{u:Value}(hb:Blk w g 42 (aM n f).toArray)(D:∀j,j<n->GV w (f j).v (x j) 12800)(F:j<n)(B:t<6)(hc:e.cells=(f j).cells.set t u)(U:GV w e.v (x j) 12800):
  (Blk (w.setCell ⟨g,j*6+t,δ⟩ u) g 42 (aM n (upd f j e)).toArray/\∀i,i<n->GV (w.setCell ⟨g,j*6+t,δ⟩ u) (upd f j e i).v (x i) 12800)/\Mod (fun k=>k=g) w (w.setCell ⟨g,j*6+t,δ⟩ u):=by
 have l:Mod (fun k=>k=g) w (w.setCell ⟨g,j*6+t,δ⟩ u):=Mod.only (Only.set _ _ _ _) rfl;have hS:Far (fun k=>k=g) w:=fun k C _=>by subst C;exact⟨_,_,hb,dm _ _⟩
 refine⟨⟨?_,fun i hi=> ?_⟩,l⟩
 .rw[<-Md F B hc];exact hb.qg _ _
 .by_cases h:i=j
  .subst h;rw[upd_same];exact U.mod l hS
  .rw[upd_ne h];exact(D i hi).mod l hS
def zF(A n c s z w)(h:RI w (iv s A n c) z)(hn:n<=1000000):
  Calls prog 198 #[.slice A n c] w fun e w'=>∃A' n' c',e=.returned (.slice A' n' c')/\RI w' (iv s A' n' c') z/\Ext w w':=by
 obtain⟨A2,n2,c2,e,B⟩:=h;simp at e;obtain⟨rfl,rfl,rfl,rfl⟩:=e;refine(uh A n c _ w B hn).mono ?_;rintro e w' ⟨v,rfl,⟨A1,n1,c1,rfl,j⟩,l⟩;exact⟨A1,n1,c1,rfl,⟨A1,n1,c1,rfl,j⟩,l⟩
structure DI (w W:World) (G m na i:Nat) (X:Nat->Nat->GQ) (R:Nat->Rw):Prop where
 o:Blk W G 174 (mxc m R).toArray
 gx:w.heap.size<=G
 len:∀i',i'<i->(R i').n=na/\(R i').c=na
 row:∀i',i'<i->(R i').A=γ ⟨(R i').b,0,δ⟩/\dD W (R i').b na (X i')/\w.heap.size<=(R i').b
 inj:∀i' j',i'<i->j'<i->(R i').b=(R j').b->i'=j'
 ext:Ext w W
def El{m R i r}:(mxc m R).toArray.setIfInBounds i r.v=(mxc m (upd R i r)).toArray:=by
 rw[qa];congr 1;apply List.ext_getElem
 .simp[mxc]
 .intro k l j;simp only[mxc,List.getElem_set,List.getElem_map,List.getElem_range];by_cases e:i=k
  .subst e;rw[ι rfl,upd_same]
  .rw[θ e,upd_ne (fun x=>e x.symm)]
def RI3{w}{e:En}{q n}(h:GV w e.v q n):∃a b d,RI w (iv e.s1 e.A1 e.n1 e.c1) a/\RI w (iv e.s2 e.A2 e.n2 e.c2) b/\RI w (iv e.s3 e.A3 e.n3 e.c3) d/\Is q a b d/\Sz n a b d:=by
 obtain⟨a,b,d,j,I,Z⟩:=h;have:=RG.inj (show RG w (gv e.s1 e.A1 e.n1 e.c1 e.s2 e.A2 e.n2 e.c2 e.s3 e.A3 e.n3 e.c3) a b d from j);exact⟨a,b,d,this.1,this.2.1,this.2.2,I,Z⟩
def afb{w s A n c z}(h:RI w (iv s A n c) z)(l:z.natAbs<2^12800):n<=1000000:=by
 have j:z.natAbs<2^(32*400):=by rw[show 32*400=12800 from rfl];exact l
 have:=RI.le h j;omega
theorem O4{W2 g na b o cs C f0 f}(hb:Blk W2 g 42 (aM na f0).toArray)(D:0<na->C=γ ⟨b,o,δ⟩)(hc:∀j,j<na->∀t u,(f j).cells[t]? =γ u->W2.cell? ⟨b,o+(j*6+t),δ⟩=γ u):
  ∃B,Sem.run prog (Builtin.copy_ #[174,174] 3 #[.slice (γ ⟨g,0,δ⟩) na na,.slice C na cs]) W2=.ok (goInt na) B/\Blk B g 42 (aM na f).toArray/\Mod (fun k=>k=g) W2 B:=by
 have l:Nat.min na na=na:=ag;by_cases H:na=0
 .subst H;refine⟨W2,?_,hb,Mod.refl _ _⟩;have Z:∀(x:Addr),(loadCells x 0).run prog W2=.ok #[] W2:=fun x=>by simpa using run_loadCells_list (P:=prog) W2 x [] ag
  cases hq:prog.info? 42 with
  |none=>have:=Db;rw[hq] at this;cases this
  |some i=>cases C<;>simp[Builtin.copy_,abh acB,Builtin.lenOf,Builtin.firstCells,sizeOf,typeInfo,hq,storeCells,Z]
 .have I:=D aa;subst I;have h:=H8 6 W2 174 174 3 42 g 0 na na ⟨b,o,δ⟩ na cs (aM na f0).toArray 42 (aM na f) acB Db hb (by rw[aW,l]) (fun j v G=>by
   have M:j<na*6:=by have:=(μ.1 G).1;rwa[aW] at this
   have e:j=(j/6)*6+j%6:=aa;rw[e,dO (Ab _ aa) aa] at G;have:=hc _ aa _ _ G;rw[<-e] at this;have J:(⟨b,o,δ⟩:Addr).add j=⟨b,o+j,δ⟩:=by unfold Addr.add;by_cases F:j=0<;>simp[F]
   rw[J];exact this) (by rw[aW];simp[aW]) (bY na f)
  rw[l] at h;refine⟨_,h,?_,?_⟩
  .have e:((aM na f0).toArray.toList.take 0++aM na f++(aM na f0).toArray.toList.drop (0+(aM na f).length)).toArray=(aM na f).toArray:=by
    simp[aW]
   rw[e];exact aeq _ g _ _ _ _ hb
  .exact Mod.only (Only.setRow _ _ _) rfl
def LA{w B:World}{g na j:Nat}{f:Nat->En}{x:Nat->GQ}{A':Option Addr}{n' c':Nat}{z:Int}(hb:Blk w g 42 (aM na f).toArray)(hv:∀j,j<na->GV w (f j).v (x j) 12800)(C:j<na)(G:RI w (iv (f j).s1 (f j).A1 (f j).n1 (f j).c1) z)(Q:Ext w B)(F:RI B (iv (f j).s1 A' n' c') z)(l:∃a b d,RI w (iv (f j).s1 (f j).A1 (f j).n1 (f j).c1) a/\RI w (iv (f j).s2 (f j).A2 (f j).n2 (f j).c2) b/\RI w (iv (f j).s3 (f j).A3 (f j).n3 (f j).c3) d/\Is (x j) a b d/\Sz 12800 a b d/\z=a):
  ∃f',Blk (B.setCell ⟨g,j*6+1,δ⟩ (.slice A' n' c')) g 42 (aM na f').toArray/\(∀L,L<na->GV (B.setCell ⟨g,j*6+1,δ⟩ (.slice A' n' c')) (f' L).v (x L) 12800)/\Mod (fun k=>k=g) w (B.setCell ⟨g,j*6+1,δ⟩ (.slice A' n' c')):=by
 obtain⟨a,b,d,i1,Y,D,I,Z,rfl⟩:=l;have hp:=afr (e:={f j with A1:=A',n1:=n',c1:=c'}) (t:=1) (u:=.slice A' n' c') (hb.ext Q) (fun j C=>(hv j C).ext Q) C aa rfl ⟨_,_,_,⟨_,_,_,_,_,_,_,_,_,_,_,_,rfl,F,Y.ext Q,D.ext Q⟩,I,Z⟩;exact Abh
def MG{w B:World}{g na j:Nat}{f:Nat->En}{x:Nat->GQ}{A':Option Addr}{n' c':Nat}{z:Int}(hb:Blk w g 42 (aM na f).toArray)(hv:∀j,j<na->GV w (f j).v (x j) 12800)(C:j<na)(G:RI w (iv (f j).s2 (f j).A2 (f j).n2 (f j).c2) z)(Q:Ext w B)(F:RI B (iv (f j).s2 A' n' c') z)(l:∃a b d,RI w (iv (f j).s1 (f j).A1 (f j).n1 (f j).c1) a/\RI w (iv (f j).s2 (f j).A2 (f j).n2 (f j).c2) b/\RI w (iv (f j).s3 (f j).A3 (f j).n3 (f j).c3) d/\Is (x j) a b d/\Sz 12800 a b d/\z=b):
  ∃f',Blk (B.setCell ⟨g,j*6+3,δ⟩ (.slice A' n' c')) g 42 (aM na f').toArray/\(∀L,L<na->GV (B.setCell ⟨g,j*6+3,δ⟩ (.slice A' n' c')) (f' L).v (x L) 12800)/\Mod (fun k=>k=g) w (B.setCell ⟨g,j*6+3,δ⟩ (.slice A' n' c')):=by
 obtain⟨a,b,d,i1,Y,D,I,Z,rfl⟩:=l;have hp:=afr (e:={f j with A2:=A',n2:=n',c2:=c'}) (t:=3) (u:=.slice A' n' c') (hb.ext Q) (fun j C=>(hv j C).ext Q) C aa rfl ⟨_,_,_,⟨_,_,_,_,_,_,_,_,_,_,_,_,rfl,i1.ext Q,F,D.ext Q⟩,I,Z⟩;exact Abh
def MH{w B:World}{g na j:Nat}{f:Nat->En}{x:Nat->GQ}{A':Option Addr}{n' c':Nat}{z:Int}(hb:Blk w g 42 (aM na f).toArray)(hv:∀j,j<na->GV w (f j).v (x j) 12800)(C:j<na)(F:RI w (iv (f j).s3 (f j).A3 (f j).n3 (f j).c3) z)(Q:Ext w B)(D:RI B (iv (f j).s3 A' n' c') z)(l:∃a b d,RI w (iv (f j).s1 (f j).A1 (f j).n1 (f j).c1) a/\RI w (iv (f j).s2 (f j).A2 (f j).n2 (f j).c2) b/\RI w (iv (f j).s3 (f j).A3 (f j).n3 (f j).c3) d/\Is (x j) a b d/\Sz 12800 a b d/\z=d):
  ∃f',Blk (B.setCell ⟨g,j*6+5,δ⟩ (.slice A' n' c')) g 42 (aM na f').toArray/\(∀L,L<na->GV (B.setCell ⟨g,j*6+5,δ⟩ (.slice A' n' c')) (f' L).v (x L) 12800)/\Mod (fun k=>k=g) w (B.setCell ⟨g,j*6+5,δ⟩ (.slice A' n' c')):=by
 obtain⟨a,b,d,i1,Y,G,I,Z,rfl⟩:=l;have hp:=afr (e:={f j with A3:=A',n3:=n',c3:=c'}) (t:=5) (u:=.slice A' n' c') (hb.ext Q) (fun j C=>(hv j C).ext Q) C aa rfl ⟨_,_,_,⟨_,_,_,_,_,_,_,_,_,_,_,_,rfl,i1.ext Q,Y.ext Q,D⟩,I,Z⟩;exact Abh
def Tq{A B O m c na R}{E:Nat->Nat->En}{X w}(h:Mem w A B O m R E)(hn:∀i,i<m->(R i).n=na)(hv:∀i j,i<m->j<na->GV w (E i j).v (X i j) 12800)(hm:m<=24)(X8:na<=24):
  Calls prog 191 #[.slice A m c] w fun e w'=>∃(G:Nat) (H:Nat->Rw),e=.returned (.slice (γ ⟨G,0,δ⟩) m m)/\DI w w' G m na m X H:=by
 have HM:=aJ h;have HN:=aJ hn;have HV:=aJ hv;clear h hn hv;have Xt:=DW m aa;have WP:=Aj na aa;go_enter func191,ntmps191;(go_wp2_with fail);clear Xt;go_loopw [13] (fun i wr=>∃(D:Nat) (H:Nat->Rw),D<=m/\i=.int .i64 D/\DI w wr w.heap.size m na D X H) (fun i _=>m-(intOf i).toNat)
 case atStart=>exact⟨0,fun _=>zP,aa,rfl,Blk.new _ _ _,κ _,by intros;omega,by intros;omega,by intros;omega,Ext.new _ _⟩
 case round=>
  obtain⟨i,H,hi,rfl,hD⟩:=hrel;have HD:=aJ hD;clear hD;by_cases Wj:i<m
  .have hd:decide ((i:Int)<(m:Int))=ε:=ae;have hA:=HM.o.at0 aa;have hr:=HM.o.aM Wj HD.o.ext;rw[HN.o i Wj] at hr;subst hA;have Xk:=Ext.new wr (.cells (aM na fun _=>zEn).toArray 42);have WH:=HD.o.o.ext Xk;have fr:=WH.frozen;have C:(wr.alloc (.cells (aM na fun _=>zEn).toArray 42)).cell? ⟨w.heap.size,i,δ⟩=γ (H i).v:=by rw[WH.cell];exact iE Wj
   have WQ:Blk ((wr.alloc (.cells (aM na fun _=>zEn).toArray 42)).setCell ⟨w.heap.size,i,δ⟩ (.slice (γ ⟨wr.heap.size,0,δ⟩) na na)) w.heap.size 174 (mxc m (upd H i ⟨γ ⟨wr.heap.size,0,δ⟩,wr.heap.size,0,na,na⟩)).toArray:=by
    rw[<-El];exact WH.qg _ _
   have k2:((wr.alloc (.cells (aM na fun _=>zEn).toArray 42)).setCell ⟨w.heap.size,i,δ⟩ (.slice (γ ⟨wr.heap.size,0,δ⟩) na na)).cell? ⟨w.heap.size,i,δ⟩=γ (.slice (γ ⟨wr.heap.size,0,δ⟩) na na):=by rw[WQ.cell,iE Wj,upd_same];rfl
   have WM:=aJ WH;have Wt:=aJ WQ;have K:=aJ Xk;clear WH WQ Xk;have WW:w.heap.size<wr.heap.size:=HD.o.o.lt;have Wo:Blk ((wr.alloc (.cells (aM na fun _=>zEn).toArray 42)).setCell ⟨w.heap.size,i,δ⟩ (.slice (γ ⟨wr.heap.size,0,δ⟩) na na)) wr.heap.size 42 (aM na fun _=>zEn).toArray:=(Blk.new _ _ _).far (by show wr.heap.size≠w.heap.size;omega) _;have WA:Ext w ((wr.alloc (.cells (aM na fun _=>zEn).toArray 42)).setCell ⟨w.heap.size,i,δ⟩ (.slice (γ ⟨wr.heap.size,0,δ⟩) na na)):=(HD.o.ext.trans K.o).setCell (κ _) _;obtain⟨w3,l,WO,XM⟩:=O4 (cs:=(R i).c) Wo (fun h0=>HM.o.ra i Wj (by rw[HN.o i Wj];exact h0)) (fun j hj t u N=>WA.cell_ (HM.o.el i j Wj (by rw[HN.o i Wj];exact hj) t u N));have WC:Ext w w3:=⟨XM.os.trans WA.os,XM.tape.trans WA.tape,XM.output.trans WA.output,nk WA.size XM.size,fun k hk=>(XM.block k (π hk WA.size) aa).trans (WA.block k hk)⟩;have WI:=Wt.o.mod XM (by show ¬w.heap.size=wr.heap.size;omega);have k3:w3.cell? ⟨w.heap.size,i,δ⟩=γ (.slice (γ ⟨wr.heap.size,0,δ⟩) na na):=by rw[WI.cell,iE Wj,upd_same];rfl
   have Ws:=aJ WI;have Wm:=aJ WO;have Wv:=aJ WC;have Ya:=aJ XM;have WR:=aJ WW;clear WI WO WC XM Wo WA WW;(go_wp2_with fail);clear l C k2 fr hr;have Wl:Mod (fun k=>k=w.heap.size\/k=wr.heap.size) wr w3:=((aeI K.o).trans (Mod.only (Only.set _ _ _ _) (.inl rfl))).trans (Ya.o.mono fun k hk=> .inr hk);have WE:=aJ Wl;clear Wl Ya WM Wt K;generalize Xc:wr.heap.size=g at*
   have WB:=aJ Xc;clear Xc;go_loopw [35] (fun Y wz=>∃(j:Nat) (f:Nat->En),j<=na/\Y=.int .i64 j/\Blk wz g 42 (aM na f).toArray/\(∀L,L<na->GV wz (f L).v (X i L) 12800)/\Mod (fun k=>k=g) w3 wz) (fun Y _=>na-(intOf Y).toNat)
   case atStart=>exact⟨0,E i,aa,rfl,Wm.o,fun j hj=>(HV.o i j Wj hj).ext Wv.o,Mod.refl _ _⟩
   case round=>
    clear k3;rename World=>wz;obtain⟨j,f,hj,rfl,hb,WN,Xe⟩:=hrel;have WK:=aJ hb;have WJ:=aJ WN;have WG:=aJ Xe;clear hb WN Xe;have Wy:w.heap.size≠g:=by have:=WR.o;omega
    have M:=Ws.o.mod WG.o Wy;have Xm:=aJ M;by_cases Wx:j<na
    .have hd:decide ((j:Int)<(na:Int))=ε:=ae;have k3:wz.cell? ⟨w.heap.size,i,δ⟩=γ (.slice (γ ⟨g,0,δ⟩) na na):=by rw[M.cell,iE Wj,upd_same];rfl
     clear M;have WX:=WJ;obtain⟨_,a1,_,_,_,_⟩:=dD.cells WK.o Wx rfl;obtain⟨za,zb,S,i1,Y,i3,I,Z⟩:=RI3 (WX.o j Wx);have HI:=aJ i1;have H3:=aJ (show ∃a b d,RI _ (iv (f j).s1 (f j).A1 (f j).n1 (f j).c1) a/\RI _ (iv (f j).s2 (f j).A2 (f j).n2 (f j).c2) b/\RI _ (iv (f j).s3 (f j).A3 (f j).n3 (f j).c3) d/\Is (X i j) a b d/\Sz 12800 a b d/\za=a from ⟨za,zb,S,i1,Y,i3,I,Z,rfl⟩);have J:=afb i1 Z.a;clear i1 Y i3 I Z;(go_wp2_with fail);refine(zF _ _ _ _ _ _ HI.o J).mono ?_;rintro e w4 ⟨A',n',c',rfl,U,Q⟩;replace a1:=Q.cell_ a1;have fr:=(WK.o.ext Q).frozen;obtain⟨P,Xj,Xo,YU⟩:=LA WK.o WX.o Wx HI.o Q U H3.o;have W:=aJ Xj;have Xn:=aJ Xo;have WU:=aJ YU;clear Xj Xo YU U Q HI H3 J;(iterate 15 (try (first|go_values|go_skip|go_guarded|go_step|go_upon|go_in|go_back|go_simp)));clear a1 fr;generalize w4.setCell _ _=wa at W Xn WU⊢;obtain⟨_,_,_,a1,_,_⟩:=dD.cells W.o Wx rfl;obtain⟨za,zb,S,i1,Y,i3,I,Z⟩:=RI3 (Xn.o j Wx);have HI:=aJ Y;have H3:=aJ (show ∃a b d,RI _ (iv (P j).s1 (P j).A1 (P j).n1 (P j).c1) a/\RI _ (iv (P j).s2 (P j).A2 (P j).n2 (P j).c2) b/\RI _ (iv (P j).s3 (P j).A3 (P j).n3 (P j).c3) d/\Is (X i j) a b d/\Sz 12800 a b d/\zb=b from ⟨za,zb,S,i1,Y,i3,I,Z,rfl⟩);have J:=afb Y Z.b;clear i1 Y i3 I Z;(go_wp2_with fail);refine(zF _ _ _ _ _ _ HI.o J).mono ?_;rintro e w4 ⟨A',n',c',rfl,U,Q⟩;replace a1:=Q.cell_ a1;have fr:=(W.o.ext Q).frozen;obtain⟨fb,Ww,WF,WV⟩:=MG W.o Xn.o Wx HI.o Q U H3.o;have V:=aJ Ww;have Xp:=aJ WF;have Wq:=aJ WV;clear Ww WF WV U Q HI H3 J;(iterate 15 (try (first|go_values|go_skip|go_guarded|go_step|go_upon|go_in|go_back|go_simp)));clear a1 fr;generalize w4.setCell _ _=wb at V Xp Wq⊢;obtain⟨_,_,_,_,_,a1⟩:=dD.cells V.o Wx rfl;obtain⟨za,zb,S,i1,Y,i3,I,Z⟩:=RI3 (Xp.o j Wx);have HI:=aJ i3;have H3:=aJ (show ∃a b d,RI _ (iv (fb j).s1 (fb j).A1 (fb j).n1 (fb j).c1) a/\RI _ (iv (fb j).s2 (fb j).A2 (fb j).n2 (fb j).c2) b/\RI _ (iv (fb j).s3 (fb j).A3 (fb j).n3 (fb j).c3) d/\Is (X i j) a b d/\Sz 12800 a b d/\S=d from ⟨za,zb,S,i1,Y,i3,I,Z,rfl⟩);have J:=afb i3 Z.d;clear i1 Y i3 I Z;(go_wp2_with fail);refine(zF _ _ _ _ _ _ HI.o J).mono ?_;rintro e w4 ⟨A',n',c',rfl,U,Q⟩;replace a1:=Q.cell_ a1;have fr:=(V.o.ext Q).frozen;obtain⟨fc,Xb,WS,WT⟩:=MH V.o Xp.o Wx HI.o Q U H3.o;have WL:=aJ Xb;have WZ:=aJ WS;have WY:=aJ WT;clear Xb WS WT U Q HI H3 J;(go_wp2_with fail);clear a1 fr;generalize w4.setCell _ _=wc at WL WZ WY⊢;go_wp2_with fail
     go_roundw
     case rel=>exact⟨j+1,fc,aa,au,WL.o,WZ.o,((WG.o.trans WU.o).trans Wq.o).trans WY.o⟩
     case measure=>simp[intOf];omega
    .obtain rfl:j=na:=aa;have hd:decide ((j:Int)<(j:Int))=ζ:=ag;clear M;(go_wp2_with fail);refine⟨⟨i+1,upd H i ⟨γ ⟨g,0,δ⟩,g,0,j,j⟩,aa,au,?_⟩,by simp[intOf];omega⟩;have W9:Mod (fun k=>k=w.heap.size\/k=g) wr wz:=WE.o.trans (WG.o.mono fun k hk=> .inr hk);have hS:Far (fun k=>k=w.heap.size\/k=g) wr:=by
      rintro k (rfl|rfl) hk
      .exact⟨_,_,HD.o.o,jV _ _⟩
      .have:=WB.o;omega
     have Wn:∀D,D<i->(H D).b<g:=fun D Wp=>by
      obtain⟨cs,Wz⟩:=(HD.o.row D Wp).2.1.blk;have:=Wz.lt;have:=WB.o;omega
     refine⟨Xm.o,κ _,fun D Wp=> ?_,fun D Wp=> ?_,fun D L Wp Wu e=> ?_,?_⟩
     .exact Acy
     .by_cases e:D=i
      .exact Ab7
      .rw[upd_ne e];obtain⟨h1,h2,h3⟩:=HD.o.row D aa;refine⟨h1,h2.mod W9 hS ?_,h3⟩;rintro(e2|e2)
       .obtain⟨cs,Wz⟩:=h2.blk;exact Wz.eF HD.o.o aj e2
       .have:=Wn D aa;omega
     .by_cases e1:D=i
      .by_cases e2:L=i
       .omega
       .rw[e1,upd_same,upd_ne e2] at e;have:=Wn L aa;have T:g=(H L).b:=e;omega
      .by_cases e2:L=i
       .rw[e2,upd_same,upd_ne e1] at e;have:=Wn D aa;have T:(H D).b=g:=e;omega
       .rw[upd_ne e1,upd_ne e2] at e;exact HD.o.inj D L aa aa e
     .have F:=Wv.o;have hM:=WG.o;exact⟨hM.os.trans F.os,hM.tape.trans F.tape,hM.output.trans F.output,nk F.size hM.size,fun k hk=>(hM.block k (π hk F.size) (by have:=WR.o;omega)).trans (F.block k hk)⟩
  .obtain rfl:i=m:=aa;have hd:decide ((i:Int)<(i:Int))=ζ:=ag;(go_wp2_with fail);go_ret;exact⟨_,_,rfl,HD.o⟩
def DI.mx{w W W' G m na X R}(h:DI w W G m na m X R)(x:Ext W W'):MxI W' G m na (fun g=>∃i,i<m/\g=(R i).b) R X:=
 ⟨h.o.ext x,h.len,fun i hi _=>⟨(h.row i hi).1,(h.row i hi).2.1.ext x⟩,fun i j hi l _ e=>h.inj i j hi l e,fun i hi _=>⟨i,hi,rfl⟩⟩
def LW{W G m n P R X}(h:MxI W G m n P R X)(l:m=0->n=0)(c)(C:m<=1000):CE 190 #[.slice (γ ⟨G,0,δ⟩) m c] W (.int .i64 n):=by
 by_cases j:m=0
 .have B:((m:Int)==0)=ε:=by simp[j]
  rw[l j];clear h l j;exact AaE
 .have B:((m:Int)==0)=ζ:=by simp[j]
  have D:=h.cell (i:=0) aa;have q1:(0:Int)<(m:Int):=aa;clear h l;exact AaE
def Mod.Ua{B0 w W}(h:Mod (fun g=>B0<=g) w W){w0}(x:Ext w0 w)(hb:w0.heap.size<=B0):Ext w0 W:=
 ⟨h.os.trans x.os,h.tape.trans x.tape,h.output.trans x.output,nk x.size h.size,fun k j=>(h.block k (π j x.size) aa).trans (x.block k j)⟩
def Nt(W:World):jm (W.alloc (.cells #[.int .i64 0] 250)) W.heap.size:=Blk.new _ _ _
def qE (X:Nat->Nat->GQ):Nat->GQ
 |0=>GQ.i 1 0
 |k+1=>qE X k*X k k
def FR{A B D a b d}(j:D≠0)(E:(a,b,d)=nf A B D):Low a b d:=by
 have h:=Qg (a:=A) (b:=B) j;rw[<-E] at h;exact h.low
def Ff(V v1 v2 a b d a' b' d' u v t m n w)(hc:Calm w V)(F:RG w v1 a b d)(l:RG w v2 a' b' d')(sx:Sz m a b d)(sy:Sz n a' b' d')(hn:m+n+1<=12800)(Xh:n+n+1<=12800)(K)(J:K<=12800)(C:m+n+1<=K)(Wt:n+n+1<=K)(sz:Sz K u v t)(hd:d≠0)(hd':d'≠0)(hy:a'≠0\/b'≠0)(E:(u,v,t)=nf ((a*a'+b*b')*d') ((b*a'-a*b')*d') (d*(a'*a'+b'*b'))):
  CV 173 #[.pointer (γ ⟨V,0,δ⟩),v1,v2] w fun x w'=>RG w' x u v t:=by
 obtain⟨g,a1,b1,p,q,hg,L,ea,eb,B,j⟩:=zt (a:=a) (b:=b) hy;have R:p≠0\/q≠0:=by
  exact Ab1
 obtain⟨h,c1,o,N,Wv,ec,D⟩:=rU (a:=d) (b:=d') hd';obtain⟨i,p1,q1,hi,Q,S,eq⟩:=yf R;have Wm:p1≠0\/q1≠0:=by
  exact Aa5
 have bg:g.natAbs<2^n:=by
  rcases hy with h|h
  .exact p8 h B sy.a
  .exact p8 h j sy.b
 have M:=fO L ea sx.a;have O:=fO L eb sx.b;have bp:=fO L B sy.a;have bq:=fO L j sy.b;have bi:i.natAbs<2^n:=by
  rcases R with h|h
  .exact p8 h S bp
  .exact p8 h eq bq
 have Y:=fO Q S bp;have U:=fO Q eq bq;have bh:=p8 hd ec sx.d;have Wj:=fO Wv ec sx.d;have bo:=fO Wv D sy.d;have m1:=bN M Y;have m2:=bN O U;have m3:=bN O Y;have m4:=bN M U;have m5:=bN Y Y;have m6:=bN U U;have m7:=jh m1 m2;have m8:=sF m3 m4;have m9:=jh m5 m6;have Wl:=bN bi Wj;have hN:=pg Wm;have T:i*c1≠0:=nV Q (by intro e;rw[e] at ec;simp at ec;exact hd ec);obtain⟨P,fb,Z,Ef⟩:=He (a1*p1+b1*q1) (b1*p1-a1*q1) (p1*p1+q1*q1);obtain⟨sa,sb,I,Es⟩:=He o 0 (i*c1);obtain⟨G,Ws,e1,e2,e3,XX⟩:=Dr hN Ef;obtain⟨H,XB,e4,e6,e5,Zy⟩:=Dr T Es;have Xk:sb=0:=by
  exact AcC
 subst Xk;have sf:=jo (n:=K) hN Ef (iU m7 aa) (iU m8 aa) (iU m9 aa);have ss:=jo (n:=K) T Es (iU bo aa) (show(0:Int).natAbs<2^K from aah aa) (iU Wl aa);have Wn:d*(a'*a'+b'*b')≠0:=nV hd (pg hy);have Wo:Z*I≠0:=nV aa aa;obtain⟨Wq,Wp⟩:=Az ea eb B j S eq D ec e1 e2 e3 e4 e5;have E':(u,v,t)=nf (P*sa) (fb*sa) (Z*I):=by
  rw[E];refine nR Wn Wo ?_ ?_
  .rw[Wq]
  .rw[Wp]
 obtain⟨x1,x2,x3⟩:=sx.oJ aa;obtain⟨y1,y2,y3⟩:=sy.oJ aa;obtain⟨f1,f2,f3⟩:=sf.oJ aa;obtain⟨t1,t2,t3⟩:=ss.oJ aa;obtain⟨s1,s2,s3⟩:=sz.oJ aa;exact equotient_g V v1 a b d v2 a' b' d' w hc F x1 x2 x3 l y1 y2 y3 g (aJ hg) (bJ bg aa) h (aJ N) (bJ bh aa)
  a1 (aJ (fF L ea)) (bJ M aa) (aJ L) (aJ ⟨_,ea⟩) b1 (aJ (fF L eb)) (bJ O aa) (aJ L) (aJ ⟨_,eb⟩)
  p (aJ (fF L B)) (bJ bp aa) (aJ L) (aJ ⟨_,B⟩) q (aJ (fF L j)) (bJ bq aa) (aJ L) (aJ ⟨_,j⟩)
  i (aJ hi) (bJ bi aa) p1 (aJ (fF Q S)) (bJ Y aa) (aJ Q) (aJ ⟨_,S⟩) q1 (aJ (fF Q eq)) (bJ U aa) (aJ Q) (aJ ⟨_,eq⟩)
  _ (aJ rfl) (bJ m1 aa) _ (aJ rfl) (bJ m2 aa) _ (aJ rfl) (bJ m7 aa)
  _ (aJ rfl) (bJ m3 aa) _ (aJ rfl) (bJ m4 aa) _ (aJ rfl) (bJ m8 aa)
  _ (aJ rfl) (bJ m5 aa) _ (aJ rfl) (bJ m6 aa) _ (aJ rfl) (bJ m9 aa) (aJ hN)
  P fb Z (aJ Ef) f1 f2 f3 o (aJ (fF Wv D)) (bJ bo aa) (aJ Wv) (aJ ⟨_,D⟩)
  c1 (aJ (fF Wv ec)) (bJ Wj aa) (aJ Wv) (aJ ⟨_,ec⟩) _ (aJ rfl) (bJ Wl aa) (aJ T)
  sa 0 I (aJ Es) t1 t2 t3 u v t (aJ fun _ _ W h1 h2 h3=>JB V _ _ P fb Z sa I u v t K J W h1 h2 h3 (FR hN Ef) (FR T Es) sf ss E' sz) s1 s2 s3
def G9(V v1 B x y n1 n2 j w)(hc:Calm w V)(F:GV w v1 x n1)(l:GV w B y n2)(hn:n1+n2+1<=12800)(C:n2+n2+1<=12800)(hb:Bd (x/y) j)(L:j<=12800)(I:y≠GQ.i 0 0):
  CV 173 #[.pointer (γ ⟨V,0,δ⟩),v1,B] w fun v w'=>GV w' v (x/y) j:=by
 obtain⟨a,b,d,H,i1,s1⟩:=F;obtain⟨a',b',d',G,Y,s2⟩:=l;obtain⟨u,v,t,h⟩:=fH (x/y);have D:=Y.ne0 I;have E:=i1.Ju Y D h;have sz:=hb.sz h;exact(Ff V v1 B a b d a' b' d' u v t n1 n2 w hc H G s1 s2 hn C (max j (max (n1+n2+1) (n2+n2+1))) aa aa aa (sz.mono aa) i1.dne Y.dne D E).mono fun e w' ⟨z,U,K,J⟩=>⟨z,U,⟨u,v,t,K,h,sz⟩,J⟩
def Qm(v0 q0 n0 v1 q1 n1 w)(WG:GV w v0 q0 n0)(Wu:GV w v1 q1 n1)(H0:Hid (q1≠GQ.i 0 0))(nr)(hn:n0+n1+1<=12800)(Xh:n1+n1+1<=12800)(hb:Bd (q0/q1) nr)(hr:nr<=12800):
  CV 137 #[v0,v1] w fun v w'=>(∃u,v=.tuple #[u,.int .i64 0]/\GV w' u (q0/q1) nr):=by
 have hS:=aeK w;obtain⟨Xf,Xe,Xd,WG,I0,S0⟩:=WG;obtain⟨W,S,D,B,P,L,G,Q,O,H,C,R,rfl,WB,WE,WC⟩:=WG;replace hS:=hS.aX WB;clear WB;replace hS:=hS.aX WE;clear WE;replace hS:=hS.aX WC;clear WC;obtain⟨WW,WV,WJ,Wu,I1,S1⟩:=Wu;obtain⟨Wq,Wn,Wm,Wp,Ws,Wt,Wo,Wl,Z,Y,I,Wj,rfl,Wx,Wy,Ww⟩:=Wu;replace hS:=hS.aX Wx;clear Wx;replace hS:=hS.aX Wy;clear Wy;replace hS:=hS.aX Ww;clear Ww;have l:=(St.al (St.al (St.al hS 42 #[.bool W,.slice S D B,.bool P,.slice L G Q,.bool O,.slice H C R] (g:=w.heap.size) ag) 42 #[.bool Wq,.slice Wn Wm Wp,.bool Ws,.slice Wt Wo Wl,.bool Z,.slice Y I Wj] (g:=(w.heap.size+1)) ag) 42 #[.bool ζ,.slice δ 0 0,.bool ζ,.slice δ 0 0,.bool ζ,.slice δ 0 0] (g:=(w.heap.size+2)) ag);have WH:=(l.aH 2).cell;have WF:=(l.aH 1).cell;go_enter func137,ntmps137;(go_wp2_with fail);clear WH WF;clear l;refine gA4 hS 42 #[.bool W,.slice S D B,.bool P,.slice L G Q,.bool O,.slice H C R] 42 #[.bool Wq,.slice Wn Wm Wp,.bool Ws,.slice Wt Wo Wl,.bool Z,.slice Y I Wj] 42 #[.bool ζ,.slice δ 0 0,.bool ζ,.slice δ 0 0,.bool ζ,.slice δ 0 0] 42 #[.bool W,.slice S D B,.bool P,.slice L G Q,.bool O,.slice H C R,.bool Wq,.slice Wn Wm Wp,.bool Ws,.slice Wt Wo Wl,.bool Z,.slice Y I Wj] ?_;clear hS;intro w1 g2 o2 g3 o3 g4 o4 g9 o9 hS;refine(jk g9 q0 q1 n0 n1 _ (hS.aH 0) ⟨_,_,_,RG.mk (hS.aF 5) (hS.aF 4) (hS.aF 3),I0,S0⟩ aa ⟨_,_,_,RG.mk (hS.aF 2) (hS.aF 1) (hS.aF 0),I1,S1⟩ aa).mono ?_;rintro e w2 ⟨rfl,F⟩;replace hS:=hS.mv F;clear F;have WX:=(hS.aH 2).cell;(go_wp2_with fail);clear WX;refine(F7 _ q1 (n1) _ ⟨_,_,_,RG.mk (hS.aF 2) (hS.aF 1) (hS.aF 0),I1,S1⟩ H0.o).mono ?_;rintro e w3 ⟨rfl,F⟩;replace hS:=hS.mv F;clear F;have Wz:=(St.al hS 197 #[.int .i64 0] (g:=w3.heap.size) ag);have WY:=(Wz.aH 4).cell;have WZ:=(Wz.aH 3).cell;(go_wp2_with fail);clear WY WZ;clear Wz;refine gA1 hS 197 #[.int .i64 0] ?_;clear hS;intro w4 g6 o6 hS;obtain⟨WI,Wv,WA,WK⟩:=fH (q0/q1);have Xi:Sz nr WI Wv WA:=hb.sz WK;refine(kz (G9 g6 _ _ q0 q1 _ _ nr _ (hS.aH 0) ⟨_,_,_,RG.mk (hS.aF 5) (hS.aF 4) (hS.aF 3),I0,S0⟩ ⟨_,_,_,RG.mk (hS.aF 2) (hS.aF 1) (hS.aF 0),I1,S1⟩ aa aa hb hr H0.o) WK).mono ?_;exact Aam
def Uw(g v0 v1 q0 q1 n0 n1 w)(hc:jm w g)(F:GV w v0 q0 n0)(l:GV w v1 q1 n1)(h0:q1≠GQ.i 0 0)(nr)(hn:n0+n1+1<=12800)(Xh:n1+n1+1<=12800)(hb:Bd (q0/q1) nr)(hr:nr<=12800):
  CV 213 #[.pointer (γ ⟨g,0,δ⟩),v0,v1] w fun v w'=>GV w' v (q0/q1) nr:=by
 obtain⟨G,D,H,B,R,L,O,Q,S,Z,Wm,U,rfl⟩:=F.opn;obtain⟨M,Wp,K,V,Wq,Wl,Wt,P,Wn,Ws,Wo,W,rfl⟩:=l.opn;have HX:=aJ F;have HY:=aJ l;clear F l;obtain⟨Y,T,C,j⟩:=an3 w 42 #[.bool G,.slice D H B,.bool R,.slice L O Q,.bool S,.slice Z Wm U] 42 #[.bool M,.slice Wp K V,.bool Wq,.slice Wl Wt P,.bool Wn,.slice Ws Wo W] 42 #[.bool ζ,.slice δ 0 0,.bool ζ,.slice δ 0 0,.bool ζ,.slice δ 0 0];have I:=hc.ext Y;have k0:=Blk.cell I;go_enter func213,ntmps213;(go_wp2_with fail);refine(Qm _ q0 n0 _ q1 n1 _ (HX.ext Y) (HY.ext Y) (aJ h0) nr hn Xh hb hr).mono ?_;exact AbE
end Go.Proofs.YtbfnfkppkmpieaaGreat
