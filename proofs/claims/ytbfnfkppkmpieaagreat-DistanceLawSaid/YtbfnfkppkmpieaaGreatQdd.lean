import Derived.Test.YtbfnfkppkmpieaaGreatQdc
set_option linter.unusedVariables false
set_option linter.unusedSimpArgs false
set_option maxHeartbeats 25600000
set_option maxRecDepth 200000
set_option linter.defProp false
namespace Go.Proofs.YtbfnfkppkmpieaaGreat
open Go.RowKit
open Go.Proofs.Tryz
open Option renaming some->γ,none->δ
open Bool renaming true->ε,false->ζ
open Inhabited renaming default->η
def aS{P ops rest op a w Q}(D:op.guard=δ)(G)(j:op.op=.alloc G)(cs)(l:(P.info? G).map (·.zero)=γ (γ (.agg cs)))(h:∀w',Hid (w'=w.alloc (.cells cs G))->wpList P ops Q rest (a.put op.dst (.pointer (γ ⟨w.heap.size,0,δ⟩))) w'):wpList P ops Q (op::rest) a w:=eP D G j cs l (fun w' e=>h w' (aJ e))
def aL{P ops rest op a w Q}(D:op.guard=δ)(G)(x y:Operand)(B:op.op=.store G x y)(b o cells)(F:a.eval x=.pointer (γ ⟨b,o,δ⟩))(C:a.eval y=.agg cells.toArray)(j:w.there b o cells.length)(hi:(P.info? G).map (·.size)=γ cells.length)(l:∀v∈cells,v.oneCell'=ε)(h:∀w',Hid (w'=puts w b o cells)->wpList P ops Q rest (a.put op.dst undef) w'):wpList P ops Q (op::rest) a w:=aN D G x y B b o cells F C j hi l (fun w' e=>h w' (aJ e))
def bF(w:World)(o:Obj):(w.alloc o).heap.size=w.heap.size+1:=ag
def uk:(prog.info? 102).map (·.zero)=γ (γ (.agg (aM 3 fun _=>zEn).toArray)):=ah
def jA(f):(prog.info? 102).map (·.size)=γ (aM 3 f).length:=by rw[aW];kernel_rfl
def nI(f):(prog.info? 102).map (·.size)=γ (aM 3 f).toArray.size:=by rw[nS];exact jA f
def Blk.rng{w g t cs}(h:Blk w g t cs.toArray):w.rangeAt g 0 cs:=fun t v hv=>by
 rw[aaw];exact(h.cell t).trans (by rw[Ξ];exact hv)
def fA.en{w gx e C E}(h:fA w gx 105 393 (eY C E))(U:e<60){a}(ha:a=33+e*6):w.rangeAt gx a (E e).cells:=fun t v hv=>by
 subst ha;exact h.cell_ (by have:=(μ.1 hv).1;rw[rF] at this;omega) (qp hv)
structure AtS (w wr:World) (n:Nat) (t:TypeId) (g4 g5:Nat) (f:Nat->En):Prop where
 b4:Blk wr g4 t (aM n fun _=>zEn).toArray
 b5:Blk wr g5 t (aM n f).toArray
 x:Ext w wr
 l4:w.heap.size<=g4
 l5:g4<g5
section
variable {w w1 w2 wr wr':World} {g4 g5 n:Nat} {t:TypeId} {f f':Nat->En}
def afz(x:Ext w w1)(j:w2=(w1.alloc (.cells (aM n fun _=>zEn).toArray t)).alloc (.cells (aM n fun _=>zEn).toArray t)):AtS w w2 n t w1.heap.size (w1.heap.size+1) (fun _=>zEn):=by
 subst j;exact⟨(Blk.new _ _ _).alloc _,by have:=Blk.new (w1.alloc (.cells (aM n fun _=>zEn).toArray t)) t (aM n fun _=>zEn).toArray;simpa using this,(x.trans (Ext.new _ _)).trans (Ext.new _ _),x.size,aaI _⟩
def AtS.ext(h:AtS w wr n t g4 g5 f)(x:Ext wr wr'):AtS w wr' n t g4 g5 f:=⟨h.b4.ext x,h.b5.ext x,h.x.trans x,h.l4,h.l5⟩
def AtS.to(h:AtS w wr n t g4 g5 f)(j:∀k,k<n->f k=f' k):AtS w wr n t g4 g5 f':=⟨h.b4,by rw[<-zI j];exact h.b5,h.x,h.l4,h.l5⟩
def AtS.there(h:AtS w wr n t g4 g5 f){i}(hi:i<n):wr.there g5 (i*6) 6:=h.b5.there Acj
def AtS.far(h:AtS w wr n t g4 g5 f):Far (fun k=>k=g5) wr:=fun k j _=>by
 obtain rfl:k=g5:=j;exact⟨_,_,h.b5,dm _ _⟩
def AtS.put(h:AtS w wr n t g4 g5 f){i a}(hi:i<n)(e)(ha:a=i*6)(B:wr'=puts wr g5 a e.cells):AtS w wr' n t g4 g5 (upd f i e)/\Mod (fun k=>k=g5) wr wr':=by
 subst B;subst ha;have j:Mod (fun k=>k=g5) wr (puts wr g5 (i*6) e.cells):=Mod.puts _ _ _ _ rfl;have l4:=h.l4;have l5:=h.l5;refine⟨⟨h.b4.mod j (by show ¬g4=g5;omega),?_,fC h.x j (fun k l=>by have l:k=g5:=l;omega),h.l4,h.l5⟩,j⟩;have:=bR (i*6) e.cells h.b5;rw[mF e hi] at this;exact this
def AtS.fin(h:AtS w wr n t g4 g5 f)(B:wr'=puts wr g4 0 (aM n f)):Blk wr' g4 t (aM n f).toArray/\Ext w wr'/\∀v q m,GV wr v q m->GV wr' v q m:=by
 subst B;have l:Mod (fun k=>k=g4) wr (puts wr g4 0 (aM n f)):=Mod.puts _ _ _ _ rfl;have l4:=h.l4;refine⟨?_,fC h.x l (fun k j=>by have j:k=g4:=j;omega),fun v q m hv=>hv.mod l (fun k j _=>by
  obtain rfl:k=g4:=j;exact⟨_,_,h.b4,dm _ _⟩)⟩
 have:=bR 0 (aM n f) h.b4;exact Abp
end
def U7(gx node:Nat)(C E w)(J:fA w gx 105 393 (eY C E))(hn:node<=17):
  CE 47 #[.pointer (γ ⟨gx,0,δ⟩),.int .i64 (node:Int)] w (.agg (aM 3 fun k=>E (k*18+node)).toArray):=by
 have S:=aJ J;have L:=aJ hn;clear J hn;go_enter func47,ntmps47;(go_wp2_with (refine aS rfl 102 rfl _ uk (fun w1 Q=>Hid.o ?_)));refine aJ ?_;refine Qp ?_;replace Q:=Hid.o Q;subst Q;(go_wp2_with (refine aS rfl 102 rfl _ uk (fun w2 Q=>Hid.o ?_)));refine aJ ?_;refine Qp ?_;replace Q:=Hid.o Q;have F:=aJ (afz (n:=3) (t:=102) (Ext.refl w) Q);clear Q;(try simp only[bF]);generalize w.heap.size+1=g5 at F⊢;generalize w.heap.size=g4 at F⊢;go_wp2_with fail
 go_loopw [7] (fun iv wr=>∃i:Nat,i<=3/\iv=.int .i64 i/\AtS w wr 3 102 g4 g5 (fun k=>if k<i then E (k*18+node) else zEn)) (fun iv _=>3-(intOf iv).toNat)
 case atStart=>exact⟨0,aa,rfl,F.to (fun k _=>by rw[θ aa])⟩
 case round=>
  clear F;rename World=>wr;obtain⟨i,hi,rfl,M⟩:=hrel;have I:=aJ M;clear M;by_cases B:i<3
  .have hd:decide ((i:Int)<3)=ε:=ae;have q1:(0:Int)<=(i:Int):=aa;have q2:(i:Int)<3:=aa;have T:(0:Int)<=(node:Int):=aa;have V:(node:Int)<18:=by have:=L.o;omega
   obtain⟨e,U⟩:∃e,E (i*18+node)=e:=⟨_,rfl⟩;have R:=aJ U;have l:Hid (wr.rangeAt gx (33+i*108+node*6) e.cells):=aJ (by rw[<-U];exact(S.ext I.x).en (e:=i*18+node) (by have:=L.o;omega) aa);have O:=aJ (I.there B);clear U;(go_wp2_with (refine σ rfl 42 _ rfl gx (33+i*108+node*6) rf (e.cells) _ l.o aby rfl bE (Hid.o ?_)));refine aJ ?_;refine Qp ?_;(iterate 3 (try (first|go_values|go_skip|go_guarded|go_step|go_upon|go_in|go_back|go_simp)));refine aL rfl 42 (.tmp 19) (.tmp 18) rfl g5 (i*6) (e.cells) rf rf O.o bE (dM e) (fun P Q=> ?_);refine Qp ?_;replace Q:=Hid.o Q;have j:=aJ ((I.put B e rfl Q).1.to (f':=fun k=>if k<i+1 then E (k*18+node) else zEn) (fun k _=>by
    by_cases K:k=i
    .subst K;rw[upd_same,ι aa,R.o]
    .rw[upd_ne K];by_cases H:k<i
     .rw[ι H,ι aa]
     .rw[θ H,θ aa]))
   clear I l O Q;go_wp2_with fail
   go_roundw
   case rel=>exact⟨i+1,aa,au,j.o⟩
   case measure=>simp[intOf];omega
  .obtain rfl:i=3:=aa;have hd:decide ((3:Int)<3)=ζ:=aj;obtain⟨f,G⟩:∃f:Nat->En,(fun k=>E (k*18+node))=f:=⟨_,rfl⟩;have j:=aJ (I.to (f':=f) (fun k N=>by rw[ι N,<-G]));have Y:=aJ G;clear G I;have l:=aJ j.b5.rng;have O:Hid (wr.there g4 0 (aM 3 f).length):=aJ (j.b4.there AbI);(go_wp2_with (refine σ rfl 102 _ rfl g5 (0) rf (aM 3 f) _ l.o Bn rfl (jA _) (Hid.o ?_)));refine aJ ?_;refine Qp ?_;refine aL rfl 102 (.tmp 4) (.tmp 21) rfl g4 (0) (aM 3 f) rf rf O.o (jA _) (bY 3 _) (fun P Q=> ?_);refine Qp ?_;replace Q:=Hid.o Q;have D:=aJ (j.fin Q);clear Q;(go_wp2_with fail);exact iC rfl rfl rf D.o.1 Bn rfl (nI _) ⟨by rw[Y.o],D.o.2.1⟩
noncomputable def bef (bs:List BrD) (k:Nat):GQ:=nJ (lv bs) (rwx (lv bs)) (cnt (lv bs) 18) (usd (lv bs) 1 bs) (feed (rwx (lv bs)) (usd (lv bs) 1 bs)) k
noncomputable def drp (bs:List BrD) (fN s k:Nat):GQ:=nJ (lv bs) (rwx (lv bs)) (cnt (lv bs) 18) (usd (lv bs) s bs) (unit (rwx (lv bs) fN)) k
noncomputable def fcu (bs:List BrD) (fN:Nat) (kind r:Int) (n:Nat):GQ:=gP kind (bef bs fN) (drp bs fN 1 fN) (drp bs fN 0 fN) (GQ.i r 0) n
noncomputable def vbe (bs:List BrD) (n k:Nat):GQ:=if n=1 then bef bs k else GQ.i 0 0
noncomputable def vlt (bs:List BrD) (fN:Nat) (kind r:Int) (n k:Nat):GQ:=vbe bs n k-fcu bs fN kind r n*drp bs fN (min n 1) k
section
variable {bs:List BrD} {fN:Nat}
theorem Nn(hb:∀b∈bs,iD b)(Z:bs.length<=23)(k):Bd (bef bs k) 841:=by
 unfold bef;by_cases h:lv bs k=ε
 .rw[rV h];exact JM hb Z (Or.inl rfl) rfl ((ae2 (fun k j=>sI hb j)).lt _ h)
 .rw[mH Ab6];exact Aa0
theorem OE(hb:∀b∈bs,iD b)(Z:bs.length<=23)(s k):Bd (drp bs fN s k) 841:=by
 unfold drp;by_cases h:lv bs k=ε
 .rw[rV h];exact JM hb Z (Or.inr ⟨_,rfl⟩) rfl ((ae2 (fun k j=>sI hb j)).lt _ h)
 .rw[mH Ab6];exact Aa0
def Uz(hb:∀b∈bs,iD b)(Z:bs.length<=23)(s fN):∃M,M≠GQ.i 0 0/\Wh M (q2 420)/\(∀k,s=1->Wh (M*bef bs k) (q2 420))/\∀k,Wh (M*drp bs fN s k) (q2 420):=by
 obtain⟨C,l⟩:=Om hb Z (lv bs) s;obtain⟨M,D,B,H,j⟩:=(xP hb s).den l (EG (yE hb).none) C (rwx (lv bs) fN);rw[<-OV];exact⟨M,D,B,fun k hs=>by subst hs;exact H k,j⟩
def yT(hb:∀b∈bs,iD b)(Z:bs.length<=23)(l:lv bs fN=ε):∃M0 M1,Seen M0 M1 (bef bs fN) (drp bs fN 1 fN) (drp bs fN 0 fN)/\(∀k,Wh (M1*bef bs k) (q2 420))/\(∀k,Wh (M1*drp bs fN 1 k) (q2 420))/\∀k,Wh (M0*drp bs fN 0 k) (q2 420):=by
 obtain⟨M1,D,F,B,j⟩:=Uz hb Z 1 fN;obtain⟨M0,C,G,_,b4⟩:=Uz hb Z 0 fN;exact⟨M0,M1,⟨C,D,G,F,B fN rfl,j fN,b4 fN,(xP hb 1).drive l,(xP hb 0).drive l⟩,fun k=>B k rfl,j,b4⟩
def Pq(hb:∀b∈bs,iD b)(Z:bs.length<=23)(j:lv bs fN=ε)(kind){r}(B:0<=r)(l:r<=1000)(n):Bd (fcu bs fN kind r n) 2600:=by
 obtain⟨M0,M1,h,_⟩:=yT hb Z j;exact h.bd kind B l n
end
noncomputable def iL (bs:List BrD) (fN:Nat) (f:dZ) (n k:Nat):GQ:=if f.kind≠0/\lv bs fN=ε then vlt bs fN f.kind f.r n k else vbe bs n k
noncomputable def xq (bs:List BrD) (fN:Nat) (f:dZ) (n:Nat):GQ:=if f.kind≠0/\lv bs fN=ε then fcu bs fN f.kind f.r n else GQ.i 0 0
noncomputable def Ol (bs:List BrD) (fN:Nat) (f:dZ) (way:Option BrD) (n:Nat):GQ:=
 match way with
 |none=>GQ.i 0 0
 |some b=>if 13<=b.a/\lv bs b.a=ε then (iL bs fN f n b.a-iL bs fN f n b.b-(if n=1 then GQ.i b.emf 0 else GQ.i 0 0))/b.zs (min n 1) else GQ.i 0 0
noncomputable def j6 (s:StD) (p:dA) (f:dZ) (i n:Nat):GQ:=
 let x:=s.bays.getD i η
 if x.kind=1 then iL (bI s p f) (dK s p f) f n (dY s p x.obj.toNat x.en.toNat)
 else if x.kind=2 then
  match fV s p i with
  |some b=>iL (bI s p f) (dK s p f) f n b.a
  |none=>if n=1 then GQ.i (s.srcs.getD x.obj.toNat η).emf 0 else GQ.i 0 0
 else GQ.i 0 0
noncomputable def rQ (s:StD) (p:dA) (f:dZ) (i n:Nat):GQ:=Ol (bI s p f) (dK s p f) f (way s p f i) n
section
variable {bs:List BrD} {fN:Nat} {f:dZ}
theorem RL{s k}(h:lv bs k=ζ):drp bs fN s k=GQ.i 0 0:=by unfold drp;exact mH h
theorem Rj{k}(h:lv bs k=ζ):bef bs k=GQ.i 0 0:=by unfold bef;exact mH h
theorem AP{n k}(h:lv bs k=ζ):iL bs fN f n k=GQ.i 0 0:=by
 have hb:vbe bs n k=GQ.i 0 0:=by unfold vbe;rw[Rj h,ac3]
 unfold iL;split
 .unfold vlt;rw[hb,RL h,GQ.bL];ext<;>simp only[GQ.bX,GQ.cu,GQ.bU,GQ.bS]<;>grind
 .exact hb
structure Den (bs:List BrD) (fN:Nat) (f:dZ) (D:GQ):Prop where
 ne:D≠GQ.i 0 0
 wd:Wh D (q2 2200)
 v:∀n k,Wh (D*iL bs fN f n k) (q2 2200)
 i:∀n,Wh (D*xq bs fN f n) (q2 2200)
theorem afv(hb:∀b∈bs,iD b)(Z:bs.length<=23)(C:0<=f.r/\f.r<=1000):∃D,Den bs fN f D:=by
 by_cases h:f.kind≠0/\lv bs fN=ε
 .obtain⟨M0,M1,hS,l,j,B⟩:=yT hb Z h.2;obtain⟨K,J⟩:=hS.cur f.kind C.1 C.2;refine⟨M0*(M1*K),GQ.ik hS.m0 (GQ.ik hS.m1 J.k0),gI (eD hS.w0 (eD hS.w1 J.wk)) aa,fun n k=> ?_,fun n=> ?_⟩
  .unfold iL;rw[ι h];unfold vlt;have hv:Wh (M0*(M1*K)*vbe bs n k) (q2 2199):=by
    unfold vbe;split
    .have e:M0*(M1*K)*bef bs k=M0*(K*(M1*bef bs k)):=by ext<;>simp only[GQ.aR,GQ.aQ]<;>grind
     rw[e];exact gI (eD hS.w0 (eD J.wk (l k))) aa
    .rw[GQ.bL];exact gG _
   have hd:Wh (M0*(M1*K)*(fcu bs fN f.kind f.r n*drp bs fN (min n 1) k)) (q2 2199):=by
    have ha:Wh (K*fcu bs fN f.kind f.r n) (q2 1278):=J.wa n;by_cases hn:n=0
    .have e:M0*(M1*K)*(fcu bs fN f.kind f.r n*drp bs fN (min n 1) k)=M1*((K*fcu bs fN f.kind f.r n)*(M0*drp bs fN (min n 1) k)):=by ext<;>simp only[GQ.aR,GQ.aQ]<;>grind
     rw[e];have:=B k;rw[show min n 1=0 by omega];exact gI (eD hS.w1 (eD ha this)) aa
    .have e:M0*(M1*K)*(fcu bs fN f.kind f.r n*drp bs fN (min n 1) k)=M0*((K*fcu bs fN f.kind f.r n)*(M1*drp bs fN (min n 1) k)):=by ext<;>simp only[GQ.aR,GQ.aQ]<;>grind
     rw[e];have:=j k;rw[show min n 1=1 by omega];exact gI (eD hS.w0 (eD ha this)) aa
   rw[GQ.kW,pO 2199,abU];exact hv.sub hd
  .unfold xq;rw[ι h];have e:M0*(M1*K)*fcu bs fN f.kind f.r n=M0*(M1*(K*fcu bs fN f.kind f.r n)):=by ext<;>simp only[GQ.aR,GQ.aQ]<;>grind
   rw[e];exact gI (eD hS.w0 (eD hS.w1 (J.wa n))) aa
 .obtain⟨M,l,j,B,_⟩:=Uz hb Z 1 fN;refine⟨M,l,gI j aa,fun n k=> ?_,fun n=> ?_⟩
  .unfold iL;rw[θ h];unfold vbe;split
   .exact gI (B k rfl) aa
   .rw[GQ.bL];exact gG _
  .unfold xq;rw[θ h,GQ.bL];exact gG _
end
def CZ{α:Type}{f y:α->GQ}{d}{P:α->Prop}:∀l:List α,(∀a∈l,(¬P a/\f a=GQ.i 0 0)\/(P a/\f a=y a*d/\(y a).im<0))->∃Y:GQ,gm f l=Y*d/\Y.im<=0/\((∃a∈l,P a)->Y.im<0)
 |[],_=>⟨GQ.i 0 0,(GQ.eO _).symm,by simp only[GQ.bS];grind,fun⟨a,h,_⟩=>absurd h ag⟩
 |a::l,h=>by
  obtain⟨Y,B,C,D⟩:=CZ l (fun x F=>h x (ib _ F));rcases h a q9 with ⟨hn,j⟩|⟨hp,j,G⟩
  .refine⟨Y,?_,C,fun⟨b,hb,Q⟩=> ?_⟩
   .show gm f l+f a=_;rw[B,j,GQ.add_zero']
   .rcases ψ.1 hb with rfl|hb
    .exact absurd Q hn
    .exact D ⟨b,hb,Q⟩
  .refine⟨Y+y a,?_,?_,fun _=> ?_⟩
   .show gm f l+f a=_;rw[B,j];ext<;>simp only[GQ.bf,GQ.aY,GQ.aR,GQ.aQ]<;>grind
   .simp only[GQ.aY];grind
   .simp only[GQ.aY];grind
theorem xU.GH{L rw_ n us}(h:xU L rw_ n us){v k o}(H:L k=ε)(hv:v (rw_ k)=GQ.i 0 0)(B:k≠o)(N:∀b∈us,(b.a=k->b.b=o)/\(b.b=k->b.a=o))(J:∃b∈us,b.a=k\/b.b=k):
  nJ L rw_ n us v k=nJ L rw_ n us v o:=by
 have C:=h.kcl (v:=v) H;rw[hv] at C;obtain⟨Y,G,_,I⟩:=CZ (f:=fun b=>b.at_ k (nJ L rw_ n us v)) (y:=Nb.y) (d:=nJ L rw_ n us v k-nJ L rw_ n us v o) (P:=fun b=>b.a=k\/b.b=k) us (fun b hb=>by
  by_cases hp:b.a=k\/b.b=k
  .refine Or.inr ⟨hp,?_,h.im b hb⟩;unfold Nb.at_;rcases hp with e|e
   .have D:=(N b hb).1 e;rw[ι e.symm,θ aa,e,D,GQ.add_zero']
   .have D:=(N b hb).2 e;rw[θ aa,ι e.symm,e,D];ext<;>simp only[GQ.bf,GQ.aY,GQ.bU,GQ.bS]<;>grind
  .refine Or.inl ⟨hp,?_⟩;unfold Nb.at_;rw[θ (fun e=>hp (Or.inl e.symm)),θ (fun e=>hp (Or.inr e.symm)),GQ.add_zero'])
 rw[G] at C;have l:=I J;have j:Y≠GQ.i 0 0:=fun e=>by rw[e] at l;simp only[GQ.bS] at l;grind
 exact ae3 (by
  by_cases F:nJ L rw_ n us v k-nJ L rw_ n us v o=GQ.i 0 0
  .exact F
  .exact absurd C (GQ.ik j F))
section
variable {s:StD} {p:dA} {f:dZ}
theorem vI(h:iT s)(l e):∀n,n<=s.bays.length->vD s p l e n=2*l+e\/13<=vD s p l e n
 |0,_=>Or.inl rfl
 |n+1,hn=>by
  show(if mE s p l e n=ε then iw s p n else vD s p l e n)=_\/13<=(if mE s p l e n=ε then iw s p n else vD s p l e n);split
  .exact Or.inr (by unfold iw;omega)
  .exact vI h l e n aa
theorem uS(h:iT s){l e}(j:dY s p l e<13):dY s p l e=2*l+e:=by
 rcases vI (p:=p) h l e _ (κ _) with B|B
 .exact B
 .unfold dY at j;omega
def zB{b}:∀n,b∈fM s p n->∃i,i<n/\fV s p i=γ b
 |0,h=>absurd h (by simp[fM])
 |n+1,h=>by
  have G:b∈fM s p n++(fV s p n).toList:=h;rw[aag] at G;rcases G with G|G
  .obtain⟨i,hi,e⟩:=zB n G;exact⟨i,aa,e⟩
  .refine⟨n,aa,?_⟩;cases hb:fV s p n with
   |none=>rw[hb] at G;simp at G
   |some c=>rw[hb] at G;simp only[Option.toList_some,Z6] at G;rw[G]
theorem yl{b}:∀n,b∈eU s p f n->∃l e,l<n/\e<=1/\b=half s p f l e
 |0,h=>absurd h (by simp[eU])
 |n+1,h=>by
  have G:b∈eU s p f n++jg s p f n:=h;rw[aag] at G;rcases G with G|G
  .obtain⟨l,e,Z,U,j⟩:=yl n G;exact⟨l,e,aa,U,j⟩
  .unfold jg at G;split at G
   .simp only[ψ,RS,aaU] at G;rcases G with rfl|rfl
    .exact⟨n,0,aa,aa,rfl⟩
    .exact⟨n,1,aa,aa,rfl⟩
   .simp only[ψ,RS,aaU] at G;exact⟨n,0,aa,aa,G⟩
def sM{b}:∀n l,l<n->b∈jg s p f l->b∈eU s p f n
 |0,l,h,_=>absurd h aa
 |n+1,l,h,hb=>by
  show b∈eU s p f n++jg s p f n;rw[aag];by_cases e:l=n
  .subst e;exact Or.inr hb
  .exact Or.inl (sM n l aa hb)
theorem oP(l e):(half s p f l e).a=dY s p l e:=by unfold half;simp only[];split<;>rfl
theorem Pn(l e):(half s p f l e).emf=0:=by unfold half;simp only[];split<;>rfl
theorem Eu{l e}(h:iB f l=ε):(half s p f l e).b=12:=by unfold half;simp only[];rw[ι h]
theorem pJ{l e}(h:iB f l=ζ):(half s p f l e).b=dY s p l (1-e):=by unfold half;simp only[];rw[θ (by rw[h];decide)]
theorem Hr{l e}(Z:l<s.lines.length)(U:e<=1):half s p f l e∈bI s p f\/iB f l=ζ/\e=1/\half s p f l 0∈bI s p f:=by
 unfold bI;cases B:iB f l with
 |true=>
  refine Or.inl (aag.2 (Or.inr (sM _ l Z ?_)));unfold jg;rw[ι B];have j:e=0\/e=1:=aa;rcases j with rfl|rfl<;>simp
 |false=>
  have C:half s p f l 0∈fM s p s.bays.length++eU s p f s.lines.length:=by
   refine aag.2 (Or.inr (sM _ l Z ?_));unfold jg;rw[θ (by rw[B];decide)];simp
  have j:e=0\/e=1:=aa;rcases j with rfl|rfl
  .exact Or.inl C
  .exact Or.inr ⟨rfl,rfl,C⟩
def LJ(h:iT s)(J:lD s.buses.length s.lines.length f){l e}(Z:l<s.lines.length)(U:e<=1):lv (bI s p f) (half s p f l e).a=lv (bI s p f) (half s p f l e).b:=by
 have D:=(qQ (p:=p) h J).2;have H:=yE D;have V:∀b∈bI s p f,b.a≠17->b.b≠17->lv (bI s p f) b.a=lv (bI s p f) b.b:=fun b hb ha C=>by
  cases B:lv (bI s p f) b.a with
  |true=>exact((H.closed b hb (Or.inr (Or.inl B))).2 C).symm
  |false=>
   cases I:lv (bI s p f) b.b with
   |false=>rfl
   |true=>rw[(H.closed b hb (Or.inr (Or.inr I))).1 ha] at B;cases B
 have Y (T:Nat) (G:T<=1):dY s p l T<17:=(rP h (by have:=h.nl;omega) G _ (κ _)).1;rcases Hr (p:=p) (f:=f) Z U with F|⟨j,rfl,F⟩
 .refine V _ F (by rw[oP];have:=Y e U;omega) ?_;cases j:iB f l with
  |true=>rw[Eu j];decide
  |false=>rw[pJ j];have:=Y (1-e) aa;omega
 .have:=V _ F (by rw[oP];have:=Y 0 aa;omega) (by rw[pJ j];have:=Y (1-0) aa;omega);rw[oP,pJ j] at this⊢;exact this.symm
theorem Oy(h:iT s){l e}(Z:l<s.lines.length)(U:e<=1)(F:dY s p l e<13){b}(hb:b∈bI s p f):(b.a=dY s p l e->b.b=(half s p f l e).b)/\(b.b=dY s p l e->b.a=(half s p f l e).b):=by
 have M:=h.nl;have J:=uS (p:=p) h F;unfold bI at hb;rcases aag.1 hb with hb|hb
 .obtain⟨i,hi,H⟩:=zB _ hb;have:=xe h hi H;exact⟨fun C=>aa,fun C=>aa⟩
 .obtain⟨D,T,B,G,rfl⟩:=yl _ hb;rw[oP];have j (x:Nat) (L:x<=1) (C:dY s p D x=dY s p l e):D=l/\x=e:=by
   have:=uS (p:=p) h (l:=D) (e:=x) aa;omega
  refine⟨fun C=> ?_,fun C=> ?_⟩
  .obtain⟨rfl,rfl⟩:=j T G C;rfl
  .cases I:iB f D with
   |true=>
    rw[Eu I] at C;have:=(rP (p:=p) h (l:=l) (e:=e) aa U _ (κ _)).2;unfold dY at C;omega
   |false=>
    rw[pJ I] at C;obtain⟨rfl,K⟩:=j (1-T) aa C;rw[pJ I,show T=1-e by omega]
theorem Ms(h:iT s)(R:lD s.buses.length s.lines.length f){l e}(Z:l<s.lines.length)(U:e<=1)(n):
  iL (bI s p f) (dK s p f) f n (half s p f l e).a-iL (bI s p f) (dK s p f) f n (half s p f l e).b=Ol (bI s p f) (dK s p f) f (γ (half s p f l e)) n*(half s p f l e).zs (min n 1):=by
 have J:=(qQ (p:=p) h R).2;have O:=wI (p:=p) h R Z U;have j:=LJ (p:=p) h R Z U;have h6:=h.nl;unfold Ol;simp only[Pn];by_cases P:13<=(half s p f l e).a/\lv (bI s p f) (half s p f l e).a=ε
 .rw[ι P,aeQ (O.ne _),ac3];ext<;>simp only[GQ.bX,GQ.cu,GQ.bU,GQ.bS]<;>grind
 .rw[θ P,GQ.eO];have D:iL (bI s p f) (dK s p f) f n (half s p f l e).a=iL (bI s p f) (dK s p f) f n (half s p f l e).b:=by
   cases G:lv (bI s p f) (half s p f l e).a with
   |false=>rw[AP G,AP (j.symm.trans G)]
   |true=>
    have I:dY s p l e<13:=by
     have h2:¬13<=(half s p f l e).a:=fun T=>P ⟨T,G⟩;rw[oP] at h2;omega
    have M:=uS (p:=p) h I;have B:(half s p f l e).a≠(half s p f l e).b:=by
     rw[oP];cases L:iB f l with
     |true=>rw[Eu L];have:=(rP (p:=p) h (l:=l) (e:=e) aa U _ (κ _)).2;unfold dY;exact this
     |false=>
      rw[pJ L];rcases vI (p:=p) h l (1-e) _ (κ _) with T|T
      .unfold dY at M⊢;omega
      .unfold dY at I⊢;omega
    have N:∀sq,∀b∈usd (lv (bI s p f)) sq (bI s p f),(b.a=(half s p f l e).a->b.b=(half s p f l e).b)/\(b.b=(half s p f l e).a->b.a=(half s p f l e).b):=fun sq b hb=>by
     obtain⟨c,hc,rfl⟩:=aad.1 hb;rw[oP];exact Oy h Z U I (abb.1 hc).1
    have W:∀sq,∃b∈usd (lv (bI s p f)) sq (bI s p f),b.a=(half s p f l e).a\/b.b=(half s p f l e).a:=fun sq=>by
     rcases Hr (p:=p) (f:=f) Z U with V|⟨L,rfl,V⟩
     .exact⟨(half s p f l e).nb sq,aaP (abb.2 ⟨V,by simp[used,G,B]⟩),Or.inl rfl⟩
     .have Y:(half s p f l 0).b=(half s p f l 1).a:=by rw[pJ L,oP]
      have K:(half s p f l 1).b=(half s p f l 0).a:=by rw[pJ L,oP]
      refine⟨(half s p f l 0).nb sq,aaP (abb.2 ⟨V,?_⟩),Or.inr Y⟩;rw[K] at j B;simp[used,<-j,G,Y,aaO B]
    have C:bef (bI s p f) (half s p f l e).a=bef (bI s p f) (half s p f l e).b:=by
     have H:=xP J 1;refine H.GH G ?_ B (N 1) (W 1);rw[H.SF G];refine Ct _ fun b hb=> ?_;unfold Nb.src;refine θ fun hc=> ?_;have:=(N 1 b hb).1 hc.2.symm;rw[hc.1] at this;rw[<-this] at j;rw[(yE J).none,G] at j;cases j
    have F:∀sq,lv (bI s p f) (dK s p f)=ε->drp (bI s p f) (dK s p f) sq (half s p f l e).a=drp (bI s p f) (dK s p f) sq (half s p f l e).b:=fun sq Q=>by
     have H:=xP J sq;refine H.GH G ?_ B (N sq) (W sq);show(if rwx (lv (bI s p f)) (half s p f l e).a=rwx (lv (bI s p f)) (dK s p f) then GQ.i 1 0 else GQ.i 0 0)=_;refine θ fun hc=> ?_;have K:=H.r.inj _ _ G Q hc;rw[oP,M] at K;unfold dK at K;split at K
     .omega
     .split at K<;>omega
    unfold iL;split
    .rename_i S
     unfold vlt vbe;rw[C,F _ S.2]
    .unfold vbe;rw[C]
  rw[D];ext<;>simp only[GQ.bX,GQ.cu,GQ.bU,GQ.bS]<;>grind
end
def Dp {α:Type} (P R Q O L M J K N j I H l F B G C D:α):Nat->α
 |1=>P
 |2=>R
 |3=>Q
 |4=>O
 |5=>L
 |6=>M
 |7=>J
 |8=>K
 |9=>N
 |10=>j
 |11=>I
 |12=>H
 |13=>l
 |14=>F
 |15=>B
 |16=>G
 |17=>C
 |_=>D
def RA (w:World) (v:Value) (z1 D J F B H l L G R K Y W Z I j U V:Int):Prop:=
 ∃(S:Nat->Bool) (A:Nat->Option Addr) (N C:Nat->Nat),v=.agg #[.bool (S 1),.slice (A 1) (N 1) (C 1),.bool (S 2),.slice (A 2) (N 2) (C 2),.bool (S 3),.slice (A 3) (N 3) (C 3),.bool (S 4),.slice (A 4) (N 4) (C 4),.bool (S 5),.slice (A 5) (N 5) (C 5),.bool (S 6),.slice (A 6) (N 6) (C 6),.bool (S 7),.slice (A 7) (N 7) (C 7),.bool (S 8),.slice (A 8) (N 8) (C 8),.bool (S 9),.slice (A 9) (N 9) (C 9),.bool (S 10),.slice (A 10) (N 10) (C 10),.bool (S 11),.slice (A 11) (N 11) (C 11),.bool (S 12),.slice (A 12) (N 12) (C 12),.bool (S 13),.slice (A 13) (N 13) (C 13),.bool (S 14),.slice (A 14) (N 14) (C 14),.bool (S 15),.slice (A 15) (N 15) (C 15),.bool (S 16),.slice (A 16) (N 16) (C 16),.bool (S 17),.slice (A 17) (N 17) (C 17),.bool (S 18),.slice (A 18) (N 18) (C 18)]/\RI w (iv (S 1) (A 1) (N 1) (C 1)) z1/\RI w (iv (S 2) (A 2) (N 2) (C 2)) D/\RI w (iv (S 3) (A 3) (N 3) (C 3)) J/\RI w (iv (S 4) (A 4) (N 4) (C 4)) F/\RI w (iv (S 5) (A 5) (N 5) (C 5)) B/\RI w (iv (S 6) (A 6) (N 6) (C 6)) H/\RI w (iv (S 7) (A 7) (N 7) (C 7)) l/\RI w (iv (S 8) (A 8) (N 8) (C 8)) L/\RI w (iv (S 9) (A 9) (N 9) (C 9)) G/\RI w (iv (S 10) (A 10) (N 10) (C 10)) R/\RI w (iv (S 11) (A 11) (N 11) (C 11)) K/\RI w (iv (S 12) (A 12) (N 12) (C 12)) Y/\RI w (iv (S 13) (A 13) (N 13) (C 13)) W/\RI w (iv (S 14) (A 14) (N 14) (C 14)) Z/\RI w (iv (S 15) (A 15) (N 15) (C 15)) I/\RI w (iv (S 16) (A 16) (N 16) (C 16)) j/\RI w (iv (S 17) (A 17) (N 17) (C 17)) U/\RI w (iv (S 18) (A 18) (N 18) (C 18)) V
def RA.mk{w s1 A1 n1 c1 s2 A2 n2 c2 s3 A3 n3 c3 s4 A4 n4 c4 s5 A5 n5 c5 s6 A6 n6 c6 s7 A7 n7 T s8 A8 n8 c8 s9 A9 n9 c9 P Q l M L O F C N J B G S WK Wm c13 WI WE WG c14 Wp Ww Wo Wq Wv WH Wx Wz Wl WM Wn Wt WA WB j Wy z1 z2 z3 z4 z5 z6 z7 z8 z9 R K Y W Z I Wj U V}(h1:RI w (iv s1 A1 n1 c1) z1)(h2:RI w (iv s2 A2 n2 c2) z2)(h3:RI w (iv s3 A3 n3 c3) z3)(h4:RI w (iv s4 A4 n4 c4) z4)(H:RI w (iv s5 A5 n5 c5) z5)(h6:RI w (iv s6 A6 n6 c6) z6)(h7:RI w (iv s7 A7 n7 T) z7)(h8:RI w (iv s8 A8 n8 c8) z8)(h9:RI w (iv s9 A9 n9 c9) z9)(WY:RI w (iv P Q l M) R)(WL:RI w (iv L O F C) K)(WF:RI w (iv N J B G) Y)(WC:RI w (iv S WK Wm c13) W)(XY:RI w (iv WI WE WG c14) Z)(Ws:RI w (iv Wp Ww Wo Wq) I)(Wu:RI w (iv Wv WH Wx Wz) Wj)(D:RI w (iv Wl WM Wn Wt) U)(WJ:RI w (iv WA WB j Wy) V):RA w (.agg #[.bool s1,.slice A1 n1 c1,.bool s2,.slice A2 n2 c2,.bool s3,.slice A3 n3 c3,.bool s4,.slice A4 n4 c4,.bool s5,.slice A5 n5 c5,.bool s6,.slice A6 n6 c6,.bool s7,.slice A7 n7 T,.bool s8,.slice A8 n8 c8,.bool s9,.slice A9 n9 c9,.bool P,.slice Q l M,.bool L,.slice O F C,.bool N,.slice J B G,.bool S,.slice WK Wm c13,.bool WI,.slice WE WG c14,.bool Wp,.slice Ww Wo Wq,.bool Wv,.slice WH Wx Wz,.bool Wl,.slice WM Wn Wt,.bool WA,.slice WB j Wy]) z1 z2 z3 z4 z5 z6 z7 z8 z9 R K Y W Z I Wj U V:=
 ⟨Dp s1 s2 s3 s4 s5 s6 s7 s8 s9 P L N S WI Wp Wv Wl WA,Dp A1 A2 A3 A4 A5 A6 A7 A8 A9 Q O J WK WE Ww WH WM WB,Dp n1 n2 n3 n4 n5 n6 n7 n8 n9 l F B Wm WG Wo Wx Wn j,Dp c1 c2 c3 c4 c5 c6 T c8 c9 M C G c13 c14 Wq Wz Wt Wy,rfl,h1,h2,h3,h4,H,h6,h7,h8,h9,WY,WL,WF,WC,XY,Ws,Wu,D,WJ⟩
def Nf{cs:Array Value}(h:cs.size=36):(prog.info? 45).map (·.size)=γ cs.size:=by rw[h];kernel_rfl
def UZ{fn:Func}{R:Ending->World->Prop}{a:Act}{w:World}{t u g:Nat}{cs:Array Value}(l:fn.results= #[.cell t 45,.tmp u])(hd:a.defers=[])(hp:a.tmps[t]?.getD undef=.pointer (γ ⟨g,0,δ⟩))(hb:Blk w g 45 cs)(j:R (.returned (.tuple #[.agg cs,a.tmps.getD u undef])) w)(hs:cs.size=36:=by rfl):bodyPost prog fn R .ret a w:=
 aak (v:=.tuple #[.agg cs,a.tmps.getD u undef]) (by simp[results,l,hp,asAddr,ab0 w g 45 45 cs (0,0) _ hb aam rfl (Nf hs)]) hd j
def St.row{w W:World}{bs bs':List Bk}{fs}(h:St w W bs fs)(i:Nat){g:Nat}{t cs cs'}(e:bs[i]? =γ (g,t,cs))(G:Own w g)(hn:kD cs=ε)(C:bs.set i (g,t,cs')=bs'):St w (W.setRow g cs') bs' fs:=by
 have hb:=h.blk i e;refine⟨(Only.setRow W g cs').ext h.ext G,fun p hp=> ?_,C ▸ Il (p:=(g,t,cs)) e h.nd,fun q hq=> ?_⟩
 .obtain⟨j,l⟩:=abM hp;rw[<-C] at l;have V:i<bs.length:=(μ.1 e).1;by_cases B:i=j
  .subst B;rw[abx V] at l;injection l with l;subst l;exact aeq W g _ _ _ _ hb
  .rw[aav B] at l;exact(Only.setRow W g cs').blk (h.blks p (xx l)) (zA h.nd (fun h=>B h.symm) l e)
 .obtain⟨A',n',c',F,D⟩:=h.nums q hq;exact⟨A',n',c',F,D.only (Only.setRow W g cs') hb (sG hn)⟩
def AV (w:World) (v:Value) (M p1 p2:PQ) (n:Nat):Prop:=∃z1 C H D B G l J F R K Y W Z I j U V:Int,RA w v z1 C H D B G l J F R K Y W Z I j U V/\Is M.u z1 C H/\Sz n z1 C H/\Is M.v D B G/\Sz n D B G/\Is p1.u l J F/\Sz n l J F/\Is p1.v R K Y/\Sz n R K Y/\Is p2.u W Z I/\Sz n W Z I/\Is p2.v j U V/\Sz n j U V
def ph0 (x y z:GQ):PQ:=⟨x+(y+z),GQ.i 0 0⟩
def ph1 (x y z:GQ):PQ:=⟨aeF 2 x (-1) (y+z) 2,aeF 1 z (-1) y 2*aeG 1⟩
def ph2 (x y z:GQ):PQ:=⟨aeF 2 x (-1) (y+z) 2,aeF 1 y (-1) z 2*aeG 1⟩
def PQ.sc (p:PQ) (c:GQ):PQ:=⟨p.u*c,p.v*c⟩
def phq (q:Nat->GQ) (m:Nat):PQ:=if m=0 then ph0 (q 0) (q 1) (q 2) else if m=1 then ph1 (q 0) (q 1) (q 2) else ph2 (q 0) (q 1) (q 2)
def phv (q:Nat->GQ) (sh m:Nat):PQ:=phq q ((m+3-sh)%3)*PQ.zp (8*sh%12)
def PQ.zero:PQ:=⟨GQ.i 0 0,GQ.i 0 0⟩
section
variable {q q' x y:Nat->GQ} {c z r:GQ} {m:Nat}
def MO:phq q 0=ph0 (q 0) (q 1) (q 2):=rfl
def L9:phq q 1=ph1 (q 0) (q 1) (q 2):=rfl
def MI:phq q 2=ph2 (q 0) (q 1) (q 2):=rfl
def aeV(p t:PQ)(c):(p*t).sc c=p.sc c*t:=by
 ext<;>simp only[PQ.sc,PQ.tT,PQ.sZ,GQ.aR,GQ.aQ,GQ.bf,GQ.aY,GQ.bU,GQ.bS]<;>grind
def aeO(p s t:PQ):(p+s)*t=p*t+s*t:=by
 ext<;>simp only[PQ.iZ,PQ.iR,PQ.tT,PQ.sZ,GQ.aR,GQ.aQ,GQ.bf,GQ.aY,GQ.bU,GQ.bS]<;>grind
def aeY(t):PQ.zero*t=PQ.zero:=by
 ext<;>simp only[PQ.zero,PQ.tT,PQ.sZ,GQ.aR,GQ.aQ,GQ.bf,GQ.aY,GQ.bU,GQ.bS]<;>grind
def agh(c):PQ.zero.sc c=PQ.zero:=by
 ext<;>simp only[PQ.zero,PQ.sc,GQ.aR,GQ.aQ,GQ.bU,GQ.bS]<;>grind
theorem R9(h:∀n,n<3->q n=x n-y n)(m):phq q m=phq x m+(phq y m).sc (GQ.i (-1) 0):=by
 unfold phq;rw[h 0 aa,h 1 aa,h 2 aa];split
 .ext<;>simp only[ph0,ph1,ph2,aeF,aeG,PQ.sc,PQ.zero,PQ.iZ,PQ.iR,GQ.aR,GQ.aQ,GQ.bf,GQ.aY,GQ.bX,GQ.cu,GQ.bU,GQ.bS]<;>grind
 .split
  .ext<;>simp only[ph0,ph1,ph2,aeF,aeG,PQ.sc,PQ.zero,PQ.iZ,PQ.iR,GQ.aR,GQ.aQ,GQ.bf,GQ.aY,GQ.bX,GQ.cu,GQ.bU,GQ.bS]<;>grind
  .ext<;>simp only[ph0,ph1,ph2,aeF,aeG,PQ.sc,PQ.zero,PQ.iZ,PQ.iR,GQ.aR,GQ.aQ,GQ.bf,GQ.aY,GQ.bX,GQ.cu,GQ.bU,GQ.bS]<;>grind
theorem FE(h:∀n,n<3->q n=GQ.i 0 0)(m):phq q m=PQ.zero:=by
 unfold phq;rw[h 0 aa,h 1 aa,h 2 aa];split
 .ext<;>simp only[ph0,ph1,ph2,aeF,aeG,PQ.sc,PQ.zero,PQ.iZ,PQ.iR,GQ.aR,GQ.aQ,GQ.bf,GQ.aY,GQ.bX,GQ.cu,GQ.bU,GQ.bS]<;>grind
 .split
  .ext<;>simp only[ph0,ph1,ph2,aeF,aeG,PQ.sc,PQ.zero,PQ.iZ,PQ.iR,GQ.aR,GQ.aQ,GQ.bf,GQ.aY,GQ.bX,GQ.cu,GQ.bU,GQ.bS]<;>grind
  .ext<;>simp only[ph0,ph1,ph2,aeF,aeG,PQ.sc,PQ.zero,PQ.iZ,PQ.iR,GQ.aR,GQ.aQ,GQ.bf,GQ.aY,GQ.bX,GQ.cu,GQ.bU,GQ.bS]<;>grind
theorem Lu(h:∀n,n<3->q n=c*x n)(m):phq q m=(phq x m).sc c:=by
 unfold phq;rw[h 0 aa,h 1 aa,h 2 aa];split
 .ext<;>simp only[ph0,ph1,ph2,aeF,aeG,PQ.sc,PQ.zero,PQ.iZ,PQ.iR,GQ.aR,GQ.aQ,GQ.bf,GQ.aY,GQ.bX,GQ.cu,GQ.bU,GQ.bS]<;>grind
 .split
  .ext<;>simp only[ph0,ph1,ph2,aeF,aeG,PQ.sc,PQ.zero,PQ.iZ,PQ.iR,GQ.aR,GQ.aQ,GQ.bf,GQ.aY,GQ.bX,GQ.cu,GQ.bU,GQ.bS]<;>grind
  .ext<;>simp only[ph0,ph1,ph2,aeF,aeG,PQ.sc,PQ.zero,PQ.iZ,PQ.iR,GQ.aR,GQ.aQ,GQ.bf,GQ.aY,GQ.bX,GQ.cu,GQ.bU,GQ.bS]<;>grind
def J7:phq q 0+(phq q 1+phq q 2)=⟨GQ.i 3 0*q 0,GQ.i 0 0⟩:=by
 rw[MO,L9,MI];ext<;>simp only[ph0,ph1,ph2,aeF,aeG,PQ.sc,PQ.zero,PQ.iZ,PQ.iR,GQ.aR,GQ.aQ,GQ.bf,GQ.aY,GQ.bX,GQ.cu,GQ.bU,GQ.bS]<;>grind
def phx (q:Nat->GQ) (m:Nat):PQ:=phq (fun n=>if n=0 then GQ.i 0 0 else q n) m
theorem nN(m):phq q m=phx q m+⟨q 0,GQ.i 0 0⟩:=by
 unfold phx phq;simp only[Ad,show ¬(1=0) by decide,show ¬(2=0) by decide,abv];split
 .ext<;>simp only[ph0,ph1,ph2,aeF,aeG,PQ.sc,PQ.zero,PQ.iZ,PQ.iR,GQ.aR,GQ.aQ,GQ.bf,GQ.aY,GQ.bX,GQ.cu,GQ.bU,GQ.bS]<;>grind
 .split
  .ext<;>simp only[ph0,ph1,ph2,aeF,aeG,PQ.sc,PQ.zero,PQ.iZ,PQ.iR,GQ.aR,GQ.aQ,GQ.bf,GQ.aY,GQ.bX,GQ.cu,GQ.bU,GQ.bS]<;>grind
  .ext<;>simp only[ph0,ph1,ph2,aeF,aeG,PQ.sc,PQ.zero,PQ.iZ,PQ.iR,GQ.aR,GQ.aQ,GQ.bf,GQ.aY,GQ.bX,GQ.cu,GQ.bU,GQ.bS]<;>grind
def xL(l:q 1=x 1*z)(j:q 2=x 2*z)(m):phx q m=(phx x m).sc z:=by
 refine Lu (c:=z) (fun n hn=> ?_) m;show(if n=0 then GQ.i 0 0 else q n)=z*(if n=0 then GQ.i 0 0 else x n);split
 .rw[GQ.bL]
 .have B:n=1\/n=2:=aa;rcases B with rfl|rfl
  .rw[l,GQ.dX]
  .rw[j,GQ.dX]
def P6(l:q 1=x 1*z)(j:q 2=x 2*z)(a b):phq q a+(phq q b).sc (GQ.i (-1) 0)=(phq x a+(phq x b).sc (GQ.i (-1) 0)).sc z:=by
 rw[nN (q:=q) a,nN (q:=q) b,nN (q:=x) a,nN (q:=x) b,xL l j a,xL l j b];generalize phx x a=p;generalize phx x b=t;generalize q 0=u;generalize x 0=v;ext<;>simp only[PQ.sc,PQ.iZ,PQ.iR,GQ.aR,GQ.aQ,GQ.bf,GQ.aY,GQ.bU,GQ.bS]<;>grind
end
def Cnd (kind:Int) (r:GQ) (i v:Nat->PQ):Prop:=
 if kind<=3 then i 1=PQ.zero/\i 2=PQ.zero/\v 0=(i 0).sc r
 else if kind<=6 then i 0=PQ.zero/\i 1+i 2=PQ.zero/\v 1+(v 2).sc (GQ.i (-1) 0)=(i 1).sc r
 else if kind<=9 then i 0=PQ.zero/\v 1=v 2/\v 1=(i 1+i 2).sc r
 else i 0+(i 1+i 2)=PQ.zero/\∀n,n<3->v n=(i n).sc r
theorem Cnd.mul{kind r i v}(h:Cnd kind r i v)(t):Cnd kind r (fun n=>i n*t) (fun n=>v n*t):=by
 unfold Cnd at*
 by_cases l:kind<=3
 .rw[ι l] at h⊢;simp only[];rw[h.1,h.2.1,h.2.2,aeY,aeV];exact⟨rfl,rfl,rfl⟩
 .rw[θ l] at h⊢;by_cases j:kind<=6
  .rw[ι j] at h⊢;simp only[];rw[h.1,aeV,aeV,<-aeO,<-aeO,h.2.1,h.2.2,aeY];exact⟨rfl,rfl,rfl⟩
  .rw[θ j] at h⊢;by_cases B:kind<=9
   .rw[ι B] at h⊢;simp only[];rw[<-aeO,aeV,<-h.2.2,h.1,h.2.1,aeY];exact⟨rfl,rfl,rfl⟩
   .rw[θ B] at h⊢;simp only[];rw[<-aeO,<-aeO,h.1,aeY];exact⟨rfl,fun n hn=>by rw[h.2 n hn,aeV]⟩
theorem Cnd.zero{kind r i v}(hi:∀n,i n=PQ.zero)(hv:∀n,v n=PQ.zero):Cnd kind r i v:=by
 have j:PQ.zero+PQ.zero=PQ.zero:=by ext<;>simp only[PQ.zero,PQ.iZ,PQ.iR,GQ.bf,GQ.aY,GQ.bU,GQ.bS]<;>grind
 unfold Cnd;simp only[hi,hv,agh,j];split
 .exact⟨trivial,trivial,trivial⟩
 .split
  .exact⟨trivial,trivial,trivial⟩
  .split
   .exact⟨trivial,trivial,trivial⟩
   .exact⟨trivial,fun _ _=>trivial⟩
theorem Seen.cond{M0 M1 v z1 z0}(h:Seen M0 M1 v z1 z0)(kind){r}(M:0<=r/\r<=1000)(U)(H:∀n,n<3->U n=(if n=1 then v else GQ.i 0 0)-gP kind v z1 z0 (GQ.i r 0) n*(if n=0 then z0 else z1)):
  Cnd kind (GQ.i r 0) (phq (gP kind v z1 z0 (GQ.i r 0))) (phq U):=by
 have u0:U 0=GQ.i 0 0-gP kind v z1 z0 (GQ.i r 0) 0*z0:=H 0 aa;have u1:U 1=v-gP kind v z1 z0 (GQ.i r 0) 1*z1:=H 1 aa;have u2:U 2=GQ.i 0 0-gP kind v z1 z0 (GQ.i r 0) 2*z1:=H 2 aa;unfold Cnd;by_cases l:kind<=3
 .rw[ι l];have f (n:Nat):gP kind v z1 z0 (GQ.i r 0) n=v/(z1*GQ.i 2 0+z0+GQ.i r 0*GQ.i 3 0):=by unfold gP;rw[ι l]
  simp only[MO,L9,MI,u0,u1,u2,f];have e:=aeQ (x:=v) (h.neA r);generalize v/(z1*GQ.i 2 0+z0+GQ.i r 0*GQ.i 3 0)=I at e⊢;subst e;refine⟨?_,?_,?_⟩<;>ext<;>simp only[ph0,ph1,ph2,aeF,aeG,PQ.sc,PQ.zero,PQ.iZ,PQ.iR,GQ.aR,GQ.aQ,GQ.bf,GQ.aY,GQ.bX,GQ.cu,GQ.bU,GQ.bS]<;>grind
 .rw[θ l];by_cases B:kind<=6
  .rw[ι B];have f0:gP kind v z1 z0 (GQ.i r 0) 0=GQ.i 0 0:=by unfold gP;rw[θ l,ι B];rfl
   have D:gP kind v z1 z0 (GQ.i r 0) 1=v/(z1*GQ.i 2 0+GQ.i r 0):=by unfold gP;rw[θ l,ι B];rfl
   have F:gP kind v z1 z0 (GQ.i r 0) 2=GQ.i 0 0-v/(z1*GQ.i 2 0+GQ.i r 0):=by unfold gP;rw[θ l,ι B];rfl
   simp only[MO,L9,MI,u0,u1,u2,f0,D,F];have e:=aeQ (x:=v) (h.neB r);generalize v/(z1*GQ.i 2 0+GQ.i r 0)=I at e⊢;subst e;refine⟨?_,?_,?_⟩<;>ext<;>simp only[ph0,ph1,ph2,aeF,aeG,PQ.sc,PQ.zero,PQ.iZ,PQ.iR,GQ.aR,GQ.aQ,GQ.bf,GQ.aY,GQ.bX,GQ.cu,GQ.bU,GQ.bS]<;>grind
  .rw[θ B];by_cases C:kind<=9
   .rw[ι C];obtain⟨_,_,_,_,nb,j⟩:=h.VO M.1 M.2;have f0:gP kind v z1 z0 (GQ.i r 0) 0=GQ.i 0 0-v/(z1+z1*(z0+GQ.i r 0*GQ.i 3 0)/(z1+(z0+GQ.i r 0*GQ.i 3 0)))*z1/(z1+(z0+GQ.i r 0*GQ.i 3 0)):=by unfold gP;rw[θ l,θ B,ι C];rfl
    have D:gP kind v z1 z0 (GQ.i r 0) 1=v/(z1+z1*(z0+GQ.i r 0*GQ.i 3 0)/(z1+(z0+GQ.i r 0*GQ.i 3 0))):=by unfold gP;rw[θ l,θ B,ι C];rfl
    have F:gP kind v z1 z0 (GQ.i r 0) 2=GQ.i 0 0-v/(z1+z1*(z0+GQ.i r 0*GQ.i 3 0)/(z1+(z0+GQ.i r 0*GQ.i 3 0)))*(z0+GQ.i r 0*GQ.i 3 0)/(z1+(z0+GQ.i r 0*GQ.i 3 0)):=by unfold gP;rw[θ l,θ B,ι C];rfl
    simp only[MO,L9,MI,u0,u1,u2,f0,D,F];clear f0 D F u0 u1 u2 H;generalize L:z0+GQ.i r 0*GQ.i 3 0=w at nb j⊢;have e:=aeQ (x:=v) j;generalize v/(z1+z1*w/(z1+w))=I at e⊢;have G:=aeQ (x:=I*w) nb;have J:=aeQ (x:=I*z1) nb;have ec:=aeQ (x:=z1*w) nb;generalize I*w/(z1+w)=a at G⊢;generalize I*z1/(z1+w)=b at J⊢;generalize z1*w/(z1+w)=c at e ec;have N:I*c=z1*a:=aeZ (c:=z1+w) (by rw[GQ.cK,GQ.cK,ec,G];ext<;>simp only[GQ.aR,GQ.aQ]<;>grind) nb;have P:a+b=I:=aeZ (c:=z1+w) (by
     have:(a+b)*(z1+w)=a*(z1+w)+b*(z1+w):=by ext<;>simp only[GQ.aR,GQ.aQ,GQ.bf,GQ.aY]<;>grind
     rw[this,G,J];ext<;>simp only[GQ.aR,GQ.aQ,GQ.bf,GQ.aY]<;>grind) nb
    have K:b*w=a*z1:=aeZ (c:=z1+w) (by
     have i1:b*w*(z1+w)=b*(z1+w)*w:=by ext<;>simp only[GQ.aR,GQ.aQ,GQ.bf,GQ.aY]<;>grind
     have Y:a*z1*(z1+w)=a*(z1+w)*z1:=by ext<;>simp only[GQ.aR,GQ.aQ,GQ.bf,GQ.aY]<;>grind
     rw[i1,Y,G,J];ext<;>simp only[GQ.aR,GQ.aQ]<;>grind) nb
    have Q:v=I*z1+z1*a:=by rw[<-e,<-N];ext<;>simp only[GQ.aR,GQ.aQ,GQ.bf,GQ.aY]<;>grind
    clear G J ec e N nb j h;rw[<-L] at K;clear L;subst Q;subst P;have r1:=congrArg GQ.re K;have r2:=congrArg GQ.im K;simp only[GQ.aR,GQ.aQ,GQ.bf,GQ.aY,GQ.bU,GQ.bS] at r1 r2;refine⟨?_,?_,?_⟩<;>ext<;>simp only[ph0,ph1,ph2,aeF,aeG,PQ.sc,PQ.zero,PQ.iZ,PQ.iR,GQ.aR,GQ.aQ,GQ.bf,GQ.aY,GQ.bX,GQ.cu,GQ.bU,GQ.bS]<;>grind
   .rw[θ C];have f0:gP kind v z1 z0 (GQ.i r 0) 0=GQ.i 0 0:=by unfold gP;rw[θ l,θ B,θ C];rfl
    have D:gP kind v z1 z0 (GQ.i r 0) 1=v/(z1+GQ.i r 0):=by unfold gP;rw[θ l,θ B,θ C];rfl
    have F:gP kind v z1 z0 (GQ.i r 0) 2=GQ.i 0 0:=by unfold gP;rw[θ l,θ B,θ C];rfl
    have e:=aeQ (x:=v) (h.neD r);refine⟨?_,fun n hn=> ?_⟩
    .rw[J7,f0];ext<;>simp only[ph0,ph1,ph2,aeF,aeG,PQ.sc,PQ.zero,PQ.iZ,PQ.iR,GQ.aR,GQ.aQ,GQ.bf,GQ.aY,GQ.bX,GQ.cu,GQ.bU,GQ.bS]<;>grind
    .have O:n=0\/n=1\/n=2:=aa;rcases O with rfl|rfl|rfl
     all_goals
      simp only[MO,L9,MI,u0,u1,u2,f0,D,F];generalize v/(z1+GQ.i r 0)=I at e⊢;subst e;ext<;>simp only[ph0,ph1,ph2,aeF,aeG,PQ.sc,PQ.zero,PQ.iZ,PQ.iR,GQ.aR,GQ.aQ,GQ.bf,GQ.aY,GQ.bX,GQ.cu,GQ.bU,GQ.bS]<;>grind
def nL (q:Nat->GQ) (D:GQ):Prop:=D≠GQ.i 0 0/\Wh D (q2 2250)/\∀n,Fr D 0 2250 (q n)
def FrP (D:GQ) (h e:Nat) (p:PQ):Prop:=Fr D h e p.u/\Fr D h e p.v
section
variable {D:GQ} {h e:Nat} {p t:PQ} {q:Nat->GQ}
def FrP.le{T}(j:FrP D h e p)(U:e<=T):FrP D h T p:=⟨j.1.le U,j.2.le U⟩
def FrP.add(l:FrP D h e p)(j:FrP D h e t):FrP D h (e+1) (p+t):=⟨l.1.add j.1,l.2.add j.2⟩
def FrP.sc{c k}(j:FrP D h e p)(hc:Wh c (q2 k)):FrP D h (e+k) (p.sc c):=⟨j.1.Mo hc,j.2.Mo hc⟩
def PT{a b k}(h:a.natAbs+b.natAbs<=2^k):Wh (GQ.i a b) (q2 k):=⟨a,b,rfl,h⟩
def agi{x y}(j:Fr D h e x)(l:Fr D h e y):Fr D h (e+1) (aeF 1 x 1 y 1):=by
 have:aeF 1 x 1 y 1=x+y:=by ext<;>simp only[aeF,GQ.bf,GQ.aY]<;>grind
 rw[this];exact j.add l
def afR{x y}(j:Fr D h e x)(l:Fr D h e y):Fr D (h+1) (e+1) (aeF 1 x (-1) y 2):=by
 have:aeF 1 x (-1) y 2=(x-y)*⟨1/2,0⟩:=by ext<;>simp only[aeF,GQ.bX,GQ.cu,GQ.aR,GQ.aQ]<;>grind
 rw[this];exact(j.sub l).half
def agw{x y}(j:Fr D h e x)(l:Fr D h e y):Fr D (h+1) (e+2) (aeF 2 x (-1) y 2):=by
 have:aeF 2 x (-1) y 2=(x*GQ.i 2 0-y)*⟨1/2,0⟩:=by ext<;>simp only[aeF,GQ.bX,GQ.cu,GQ.aR,GQ.aQ,GQ.bU,GQ.bS]<;>grind
 rw[this];exact((j.Mo (k:=1) (PT aj)).sub (l.le aa)).half
def afI{x}(j:Fr D h e x):Fr D h e (x*aeG 1):=by
 have:=j.Mo (c:=aeG 1) (k:=0) ⟨0,1,by ext<;>simp only[aeG,GQ.aR,GQ.aQ,GQ.bU,GQ.bS]<;>grind,aj⟩;exact this
theorem afm(B:Fr D 0 e (q 0))(l:Fr D 0 e (q 1))(j:Fr D 0 e (q 2))(m:Nat):FrP D 1 (e+3) (phq q m):=by
 have hs:=l.add j;have z:∀h e,Fr D h e (GQ.i 0 0):=fun h e=>Fr.zero;have hb:=(agw (B.le (by omega:e<=e+1)) hs);unfold phq;split
 .exact⟨((B.le (by omega:e<=e+1)).add hs).up,z _ _⟩
 .split
  .exact⟨hb,(afI (afR j l)).le aa⟩
  .exact⟨hb,(afI (afR l j)).le aa⟩
def FrP.zp{sh}(hp:FrP D h e p)(hs:sh<3):FrP D (h+1) (e+4) (p*PQ.zp (8*sh%12)):=by
 have V:∀(a b:GQ),Wh (a*GQ.i 2 0) (q2 1)->Wh (b*GQ.i 2 0) (q2 1)->FrP D (h+1) (e+4) (p*⟨a,b⟩):=fun a b ha hb=>by
  have B (x:GQ):x=x*GQ.i 2 0*⟨1/2,0⟩:=by ext<;>simp only[GQ.aR,GQ.aQ,GQ.bU,GQ.bS]<;>grind
  have m1 {x c:GQ} (l:Fr D h e x) (hc:Wh (c*GQ.i 2 0) (q2 1)):Fr D (h+1) (e+1) (x*c):=by
   have:x*c=x*(c*GQ.i 2 0)*⟨1/2,0⟩:=by ext<;>simp only[GQ.aR,GQ.aQ,GQ.bU,GQ.bS]<;>grind
   rw[this];exact(l.Mo hc).half
  refine⟨?_,?_⟩
  .show Fr D (h+1) (e+4) (p.u*a+GQ.i 3 0*(p.v*b));exact((m1 hp.1 ha).le (by omega:e+1<=e+3)).add ((m1 hp.2 hb).VW (k:=2) (PT aj))
  .show Fr D (h+1) (e+4) (p.u*b+p.v*a);exact((m1 hp.1 hb).add (m1 hp.2 ha)).le aa
 have j:sh=0\/sh=1\/sh=2:=aa;rcases j with rfl|rfl|rfl
 .rw[show 8*0%12=0 by rfl,PQ.zp0];exact V _ _ ⟨2,0,by ext<;>simp only[GQ.aR,GQ.aQ,GQ.bU,GQ.bS]<;>grind,aj⟩ ⟨0,0,by ext<;>simp only[GQ.aR,GQ.aQ,GQ.bU,GQ.bS]<;>grind,aj⟩
 .rw[show 8*1%12=8 by rfl,PQ.zp8];exact V _ _ ⟨-1,0,by ext<;>simp only[GQ.aR,GQ.aQ,GQ.bU,GQ.bS]<;>grind,aj⟩ ⟨0,-1,by ext<;>simp only[GQ.aR,GQ.aQ,GQ.bU,GQ.bS]<;>grind,aj⟩
 .rw[show 8*2%12=4 by rfl,PQ.zp4];exact V _ _ ⟨-1,0,by ext<;>simp only[GQ.aR,GQ.aQ,GQ.bU,GQ.bS]<;>grind,aj⟩ ⟨0,1,by ext<;>simp only[GQ.aR,GQ.aQ,GQ.bU,GQ.bS]<;>grind,aj⟩
def nL.phv(hq:nL q D){sh:Nat}(hs:sh<3)(m:Nat):FrP D 2 2257 (phv q sh m):=FrP.zp (afm (hq.2.2 0) (hq.2.2 1) (hq.2.2 2) _) hs
def FrP.bd(hp:FrP D h e p)(C:Wh D (q2 2250))(B:D≠GQ.i 0 0){n}(l:e+(h+2250)<n)(j:h+2250+(h+2250)<n):Bd p.u n/\Bd p.v n:=⟨hp.1.bd C B l j,hp.2.bd C B l j⟩
def nL.bd(hq:nL q D)(n):Bd (q n) 4600:=(hq.2.2 n).bd hq.2.1 hq.1 aa aa
def nL.sum(hq:nL q D):Bd (aeF 1 (q 1) 1 (q 2) 1) 4600:=(agi (hq.2.2 1) (hq.2.2 2)).bd hq.2.1 hq.1 aa aa
def nL.phq(hq:nL q D)(m:Nat):Bd (phq q m).u 4600/\Bd (phq q m).v 4600:=(afm (hq.2.2 0) (hq.2.2 1) (hq.2.2 2) m).bd hq.2.1 hq.1 aa aa
end
section
variable {bs:List BrD} {fN:Nat} {f:dZ} {D:GQ}
def Den.JH(h:Den bs fN f D)(k):nL (fun n=>iL bs fN f n k) D:=⟨h.ne,gI h.wd aa,fun n=>(afe (h.v n k)).le aa⟩
def Den.VT(h:Den bs fN f D):nL (xq bs fN f) D:=⟨h.ne,gI h.wd aa,fun n=>(afe (h.i n)).le aa⟩
def iD.zw{b}(h:iD b)(sq):∃j:GQ,j≠GQ.i 0 0/\Wh j (q2 15)/\∀x:GQ,x/b.zs sq*j=x*GQ.i b.d 0:=by
 obtain⟨_,j,C,l,D⟩:=K8 (if sq=0 then b.z0 else b.z1) (h.zi sq) h.n h.d;refine⟨j,C,l.mono (by show 32000<=2^15;decide),fun x=> ?_⟩;rw[<-D];have B:x/b.zs sq*b.zs sq=x:=aeQ (h.ne sq);have H:x/b.zs sq*(b.zs sq*GQ.i b.d 0)=x/b.zs sq*b.zs sq*GQ.i b.d 0:=(GQ.cK _ _ _).symm;exact H.trans (by rw[B])
def Den.Uu(h:Den bs fN f D)(way:Option BrD)(H:∀b,way=γ b->iD b):∃E,nL (Ol bs fN f way) E:=by
 cases way with
 |none=>exact⟨D,h.ne,gI h.wd aa,fun n=>Fr.zero⟩
 |some b=>
  have hb:=H b rfl;obtain⟨z0,n0,w0,F⟩:=hb.zw 0;obtain⟨z1,n1,w1,I⟩:=hb.zw 1;refine⟨D*(z0*z1),GQ.ik h.ne (GQ.ik n0 n1),gI (eD h.wd (eD w0 w1)) aa,fun n=> ?_⟩;refine afe ?_;show Wh (D*(z0*z1)*(if 13<=b.a/\lv bs b.a=ε then (iL bs fN f n b.a-iL bs fN f n b.b-(if n=1 then GQ.i b.emf 0 else GQ.i 0 0))/b.zs (min n 1) else GQ.i 0 0)) (q2 2250);split
  .have j:Wh (if n=1 then GQ.i b.emf 0 else GQ.i 0 0) (q2 20):=by
    split
    .exact nA (by have:=hb.emf;show b.emf.natAbs<=2^20;omega)
    .exact gG _
   have B:Wh (D*(iL bs fN f n b.a-iL bs fN f n b.b-(if n=1 then GQ.i b.emf 0 else GQ.i 0 0))) (q2 2221):=by
    have J:=gI (h.v n b.a) (by omega:2200<=2219);have K:=gI (h.v n b.b) (by omega:2200<=2219);have G:=eD h.wd j;rw[GQ.kW,GQ.kW,pO 2220,abU];refine Wh.sub ?_ G;rw[pO 2219,abU];exact J.sub K
   have hd:Wh (GQ.i b.d 0) (q2 4):=nA (by have:=hb.d;show b.d.natAbs<=2^4;omega);generalize iL bs fN f n b.a-iL bs fN f n b.b-(if n=1 then GQ.i b.emf 0 else GQ.i 0 0)=X at B⊢;by_cases hn:n=0
   .rw[show min n 1=0 by omega];have l:D*(z0*z1)*(X/b.zs 0)=D*X*(GQ.i b.d 0*z1):=by
     have:=F X;have C:D*(z0*z1)*(X/b.zs 0)=D*(X/b.zs 0*z0)*z1:=by generalize X/b.zs 0=y;ext<;>simp only[GQ.aR,GQ.aQ]<;>grind
     rw[C,this];ext<;>simp only[GQ.aR,GQ.aQ]<;>grind
    rw[l];exact gI (eD B (eD hd w1)) aa
   .rw[show min n 1=1 by omega];have l:D*(z0*z1)*(X/b.zs 1)=D*X*(GQ.i b.d 0*z0):=by
     have:=I X;have C:D*(z0*z1)*(X/b.zs 1)=D*(X/b.zs 1*z1)*z0:=by generalize X/b.zs 1=y;ext<;>simp only[GQ.aR,GQ.aQ]<;>grind
     rw[C,this];ext<;>simp only[GQ.aR,GQ.aQ]<;>grind
    rw[l];exact gI (eD B (eD hd w0)) aa
  .rw[GQ.bL];exact gG _
def nL.const(m)(j:m.natAbs<=2^20):nL (fun n=>if n=1 then GQ.i m 0 else GQ.i 0 0) (GQ.i 1 0):=
 ⟨aj,gI (PT (a:=1) (b:=0) (k:=0) aj) aa,fun n=>afe (by
  rw[GQ.jJ];show Wh (if n=1 then GQ.i m 0 else GQ.i 0 0) (q2 2250);split
  .exact gI (nA (by exact j):Wh _ (q2 20)) aa
  .exact gG _)⟩
end
section
variable {s:StD} {p:dA} {f:dZ} {D:GQ}
theorem Den.seqB(hs:iT s)(h:Den (bI s p f) (dK s p f) f D){i}(hi:i<s.bays.length):∃E,nL (j6 s p f i) E:=by
 unfold j6;simp only[];by_cases B:(s.bays.getD i η).kind=1
 .simp only[ι B];exact⟨D,h.JH _⟩
 .simp only[θ B];by_cases j:(s.bays.getD i η).kind=2
  .simp only[ι j];cases hb:fV s p i with
   |some b=>exact⟨D,h.JH _⟩
   |none=>
    have C:=Qu (hs.obj i hi) j;have l:=hs.src (s.bays.getD i η).obj.toNat aa;unfold jE at l;simp only[υ] at l;have U:=fe.1 l.1.1;exact⟨_,nL.const _ aa⟩
  .simp only[θ j];exact⟨D,h.ne,gI h.wd aa,fun n=>Fr.zero⟩
theorem AO(h:iT s)(j:lD s.buses.length s.lines.length f){i}(hi:i<s.bays.length){b}(hb:way s p f i=γ b):iD b:=by
 unfold way at hb;split at hb
 .rename_i l
  injection hb with hb;subst hb;have B:=MF (h.obj i hi) l;have U:=IW (h.rng i hi);exact wI h j aa aa
 .exact(xe h hi hb).1
end
structure oW (w:World) (bv:BrV) (b:BrD):Prop where
 pa:bv.a=b.a
 pb:bv.b=b.b
 z0:GV w bv.z0.v (b.zs 0) 64
 z1:GV w bv.z1.v (b.zs 1) 64
 e:GV w bv.e.v (GQ.i b.emf 0) 64
def oW.ext{w w' bv b}(h:oW w bv b)(x:Ext w w'):oW w' bv b:=⟨h.pa,h.pb,h.z0.ext x,h.z1.ext x,h.e.ext x⟩
def oW.fo{S w w' bv b}(h:oW w bv b)(m:Mod S w w')(j:gu S w):oW w' bv b:=⟨h.pa,h.pb,h.z0.fo m j,h.z1.fo m j,h.e.fo m j⟩
def lJ (w:World) (k:Nat) (e:Nat->En) (f:Nat->GQ) (n:Nat):Prop:=∀j,j<k->GV w (e j).v (f j) n
def lJ.ext{w w' k n e f}(h:lJ w k e f n)(x:Ext w w'):lJ w' k e f n:=fun j l=>(h j l).ext x
inductive NR where
 |any
 |gv (q:GQ) (n:Nat)
 |row (k:Nat) (f:Nat->GQ) (n:Nat)
 |box (t:TypeId) (cs:Array Value)
 |eq (u:Value)
 |br (b:BrD)
 |mk (n:Nat) (t:TypeId) (cs:Array Value)
def NR.holds:NR->Nat->Nat->Value->World->Prop
 | .any,_,_,_,_=>True
 | .gv q n,_,_,v,w=>∃e:En,v=e.v/\GV w e.v q n
 | .row k f n,_,_,v,w=>∃e:Nat->En,v=.agg (aM k e).toArray/\lJ w k e f n
 | .box t cs,lo,hi,v,w=>v=.pointer (γ ⟨lo,0,δ⟩)/\lo<hi/\Blk w lo t cs
 | .eq u,_,_,v,_=>v=u
 | .mk n t cs,lo,hi,v,w=>v=.slice (γ ⟨lo,0,δ⟩) n n/\lo<hi/\Blk w lo t cs
 | .br b,lo,hi,v,w=>v=.pointer (γ ⟨lo,0,δ⟩)/\lo<hi/\∃bv:BrV,Blk w lo 167 bv.cs.toArray/\oW w bv b
def ags(f:NR){lo hi v w w'}(h:f.holds lo hi v w)(x:Ext w w'):f.holds lo hi v w':=by
 cases f with
 |any=>trivial
 |gv q n=>obtain⟨e,l,j⟩:=h;exact⟨e,l,j.ext x⟩
 |row k f n=>obtain⟨e,l,j⟩:=h;exact⟨e,l,j.ext x⟩
 |box t cs=>exact⟨h.1,h.2.1,h.2.2.ext x⟩
 |eq u=>exact h
 |br b=>obtain⟨l,j,bv,C,B⟩:=h;exact⟨l,j,bv,C.ext x,B.ext x⟩
 |mk n t cs=>exact⟨h.1,h.2.1,h.2.2.ext x⟩
def afq{q n lo hi v w}(h:NR.holds (.gv q n) lo hi v w):GV w v q n:=by
 obtain⟨e,rfl,j⟩:=h;exact j
def AR{k e T}(h:aM k e=aM k T){j}(l:j<k):e j=T j:=by
 have hc:(e j).cells=(T j).cells:=by
  apply aap;intro t;by_cases B:t<6
  .rw[<-dO (f:=e) B l,<-dO (f:=T) B l,h]
  .rw[Be Abg,Be Abg]
 generalize e j=a at hc⊢;generalize T j=b at hc⊢;cases a;cases b
 simpa[En.cells,and_assoc] using hc
def aeW{k n lo hi e f w}(h:NR.holds (.row k f n) lo hi (.agg (aM k e).toArray) w):lJ w k e f n:=by
 obtain⟨T,l,C⟩:=h;injection l with l;have D:aM k e=aM k T:=by simpa using congrArg Array.toList l
 exact fun j B=>by rw[AR D B];exact C j B
def TI:List (Nat×NR)->Nat->NR
 |[],_=> .any
 |p::r,i=>bif Nat.beq p.1 i then p.2 else TI r i
def U3:List (Nat×NR)->Nat->Bool
 |[],_=>ζ
 |p::r,i=>Nat.beq p.1 i||U3 r i
def NRs (l:List (Nat×NR)):Nat->Nat->Nat->Value->World->Prop:=fun i lo hi v w=>(TI l i).holds lo hi v w
def PM(l):∀i lo hi v w w',NRs l i lo hi v w->Ext w w'->NRs l i lo hi v w':=fun _ _ _ _ _ _ h x=>ags _ h x
def mW (w:World) (X:Nat) (v:Value) (o:Option BrD):Prop:=
 match o with
 |none=>v=.pointer δ
 |some b=>∃(g k:Nat) (bv:BrV),v=.pointer (γ ⟨g,k,δ⟩)/\g≠X/\g<w.heap.size/\(∀t u,bv.cs[t]? =γ u->w.cell? ⟨g,k+t,δ⟩=γ u)/\bv.a=b.a/\bv.b=b.b/\GV w bv.z0.v (b.zs 0) 64/\GV w bv.z1.v (b.zs 1) 64/\GV w bv.e.v (GQ.i b.emf 0) 64
def mW.ext{w w' X v}{o:Option BrD}(h:mW w X v o)(x:Ext w w'):mW w' X v o:=by
 cases o with
 |none=>exact h
 |some b=>
  obtain⟨g,k,bv,B,j,F,l,H,G,C,D,I⟩:=h;exact⟨g,k,bv,B,j,π F x.size,fun t u N=>x.cell_ (l t u N),H,G,C.ext x,D.ext x,I.ext x⟩
theorem mW.mod{w w' X v}{o:Option BrD}(h:mW w X v o)(m:Mod (fun k=>k=X) w w')(l:gu (fun k=>k=X) w):mW w' X v o:=by
 cases o with
 |none=>exact h
 |some b=>
  obtain⟨g,k,bv,F,B,C,D,H,J,G,I,K⟩:=h;refine⟨g,k,bv,F,B,π C m.size,fun t u N=> ?_,H,J,G.fo m l,I.fo m l,K.fo m l⟩;have j:=D t u N;unfold World.cell? at j⊢;simp only[m.block g C B] at j⊢;exact j
def mW.new{w X Y v}{o:Option BrD}(h:mW w X v o)(l:w.heap.size<=Y):mW w Y v o:=by
 cases o with
 |none=>exact h
 |some b=>
  obtain⟨g,k,bv,B,D,C,j⟩:=h;exact⟨g,k,bv,B,aa,C,j⟩
structure mY (w:World) (X:Nat) (C:Nat->Value) (E:Nat->En) (s:StD) (p:dA) (f:dZ):Prop where
 v:∀n k,n<3->k<18->GV w (E (n*18+k)).v (iL (bI s p f) (dK s p f) f n k) 4400
 i:∀n,n<3->GV w (E (54+n)).v (xq (bI s p f) (dK s p f) f n) 4400
 seen:f.kind≠0->lv (bI s p f) (dK s p f)=ε->GV w (E 57).v (bef (bI s p f) (dK s p f)) 4400/\GV w (E 58).v (drp (bI s p f) (dK s p f) 0 (dK s p f)) 4400/\GV w (E 59).v (drp (bI s p f) (dK s p f) 1 (dK s p f)) 4400
 live:∀k,k<18->C (15+k)=.bool (lv (bI s p f) k)
 ends:∀l e,l<6->e<2->C (1+2*l+e)=.int .i64 (dY s p l e:Nat)
 faulty:C 14=.int .i64 (dK s p f:Nat)
 c0:∃A n c,C 0=.slice A n c
 bays:∃(BA:Option Addr) (bc:Nat) (wv:Nat->Value),C 13=.slice BA s.bays.length bc/\Arr w BA s.bays.length 1 (fun i=>[wv i])/\∀i,i<s.bays.length->mW w X (wv i) (way s p f i)
def mY.ext{w w' X C E s p f}(h:mY w X C E s p f)(x:Ext w w'):mY w' X C E s p f:=by
 refine⟨fun n k hn D=>(h.v n k hn D).ext x,fun n hn=>(h.i n hn).ext x,fun l j=> ?_,h.live,h.ends,h.faulty,h.c0,?_⟩
 .obtain⟨a,b,c⟩:=h.seen l j;exact⟨a.ext x,b.ext x,c.ext x⟩
 .obtain⟨B,bc,wv,l,j,F⟩:=h.bays;exact⟨B,bc,wv,l,j.ext x,fun i hi=>(F i hi).ext x⟩
def mY.new{w X Y C E s p f}(h:mY w X C E s p f)(l:w.heap.size<=Y):mY w Y C E s p f:=by
 obtain⟨B,bc,wv,D,j,F⟩:=h.bays;exact⟨h.v,h.i,h.seen,h.live,h.ends,h.faulty,h.c0,B,bc,wv,D,j,fun i hi=>(F i hi).new l⟩
def mY.one{w X C E s p f}(h:mY w X C E s p f):∀i,i<33->(C i).oneCell'=ε:=fun i hi=>by
 by_cases l:i=0
 .subst l;obtain⟨A,n,c,e⟩:=h.c0;rw[e];rfl
 .by_cases F:i<13
  .have:=h.ends ((i-1)/2) ((i-1)%2) aa (Ab _ aa);rw[show 1+2*((i-1)/2)+(i-1)%2=i by omega] at this;rw[this];rfl
  .by_cases j:i=13
   .subst j;obtain⟨D,bc,wv,e,_⟩:=h.bays;rw[e];rfl
   .by_cases B:i=14
    .subst B;rw[h.faulty];rfl
    .have:=h.live (i-15) aa;rw[show 15+(i-15)=i by omega] at this;rw[this];rfl
def gl (C:Nat->Value) (E:Nat->En):List Value:=(List.range 393).map (eY C E)
def vJ(C E):(gl C E).length=393:=by simp[gl]
theorem NT{C E}(h:∀i,i<33->(C i).oneCell'=ε):∀v∈gl C E,v.oneCell'=ε:=by
 intro v hv;obtain⟨i,hi,rfl⟩:=aad.1 hv;by_cases j:i<33
 .rw[dz j];exact h i j
 .unfold eY;rw[θ j];have l:(i-33)%6<(E ((i-33)/6)).cells.length:=by rw[rF];exact Ab _ aa
  rw[ν l];exact dM _ _ (abk _)
def ug(C E):(prog.info? 105).map (·.size)=γ (gl C E).length:=by rw[vJ];kernel_rfl
def zC (i:Nat):Value:=if i=0 then .slice δ 0 0 else if i<13 then .int .i64 0 else if i=13 then .slice δ 0 0 else if i=14 then .int .i64 0 else .bool ζ
def xV:(prog.info? 105).map (·.zero)=γ (γ (.agg (gl zC fun _=>zEn).toArray)):=ah
def O1{w g C E}(h:Blk w g 105 (gl C E).toArray):fA w g 105 393 (eY C E):=h
def G7{w g C C' E E'}(h:Blk w g 105 (gl C E).toArray):w.there g 0 (gl C' E').length:=h.there (by rw[nS,vJ,vJ];omega)
def TT{w W W' g C C' E E'}(B:Ext w W)(D:w.heap.size<=g)(hb:Blk W g 105 (gl C E).toArray)(l:W'=puts W g 0 (gl C' E')):Blk W' g 105 (gl C' E').toArray/\Ext w W':=by
 subst l;refine⟨?_,fC B (Mod.puts (S:=fun k=>k=g) _ _ _ _ rfl) (fun k j=>by have j:k=g:=j;omega)⟩;have:=bR 0 (gl C' E') hb;rw[fU _ _ (by rw[vJ,vJ])] at this;exact this
def tR{P:Program}{L:Nat}{Q:Exit->Act->World->Prop}{a:Act}{w:World}{l:List Oper}(n:Nat)(m:List (Nat×NR)){q:Prop}(h:q)(t:q->wpT P l.toArray w (U3 m) (NRs m) (fun F a'=>∀w',dS w (NRs m) F w'->wpList P l.toArray Q (l.drop n) a' w') (l.take n) 0 Book.none a:=by
   intro h;simp only[aao,abj,ρ,χ];exact h)(j:P.follows .mixedOrders=ε:=by kernel_rfl)(O:Region.lexTailB .any l.toArray n=ε:=by kernel_rfl):(Code.region L l.toArray ε).wp P Q a w:=iV n (U3 m) (NRs m) (PM _) j O (t h)
def dS.hR{w W:World}{Φ:Nat->Nat->Nat->Value->World->Prop}{F:Book}(h:dS w Φ F W)(i:Nat){v:Value}{lo hi n:Nat}{q:GQ}(l:F i=γ (v,lo,hi):=by rfl)(j:Φ i lo hi v W=NR.holds (.gv q n) lo hi v W:=by rfl):Hid (GV W v q n):=aJ (afq (j ▸ h.at_ i l))
def MQ(N v0 q0 v1 q1 v2 q2 w)(WG:GV w v0 q0 N)(Wu:GV w v1 q1 N)(WA:GV w v2 q2 N)(hs:Bd (aeF 1 q1 1 q2 1) N)(hn:2*N+65<=12800):
  CV 85 #[v0,v1,v2] w fun v w'=>(∃u,v=.tuple #[u,.int .i64 0]/\AV w' u (⟨aeF 1 q0 1 (aeF 1 q1 1 q2 1) 1,GQ.i 0 0⟩) (⟨aeF 2 q0 (-1) (aeF 1 q1 1 q2 1) 2,aeF 1 q2 (-1) q1 2*aeG 1⟩) (⟨aeF 2 q0 (-1) (aeF 1 q1 1 q2 1) 2,aeF 1 q1 (-1) q2 2*aeG 1⟩) (N+N+65)):=by
 have hS:=aeK w;obtain⟨Xf,Xe,Xd,WG,I0,S0⟩:=WG;obtain⟨W,S,D,B,P,L,G,Q,O,H,C,R,rfl,WB,WE,WC⟩:=WG;replace hS:=hS.aX WB;clear WB;replace hS:=hS.aX WE;clear WE;replace hS:=hS.aX WC;clear WC;obtain⟨WW,WV,WJ,Wu,I1,S1⟩:=Wu;obtain⟨Wq,Wn,Wm,Wp,Ws,Wt,Wo,Wl,Z,Y,I,Wj,rfl,Wx,Wy,Ww⟩:=Wu;replace hS:=hS.aX Wx;clear Wx;replace hS:=hS.aX Wy;clear Wy;replace hS:=hS.aX Ww;clear Ww;obtain⟨Xk,Xm,Xl,WA,I2,S2⟩:=WA;obtain⟨Xg,WU,WR,WS,WM,WO,WK,WP,WT,Xi,U,WN,rfl,Xr,Xt,Xq⟩:=WA;replace hS:=hS.aX Xr;clear Xr;replace hS:=hS.aX Xt;clear Xt;replace hS:=hS.aX Xq;clear Xq;have l:=(St.al (St.al (St.al (St.al hS 42 #[.bool W,.slice S D B,.bool P,.slice L G Q,.bool O,.slice H C R] (g:=w.heap.size) ag) 42 #[.bool Wq,.slice Wn Wm Wp,.bool Ws,.slice Wt Wo Wl,.bool Z,.slice Y I Wj] (g:=(w.heap.size+1)) ag) 42 #[.bool Xg,.slice WU WR WS,.bool WM,.slice WO WK WP,.bool WT,.slice Xi U WN] (g:=(w.heap.size+2)) ag) 45 #[.bool ζ,.slice δ 0 0,.bool ζ,.slice δ 0 0,.bool ζ,.slice δ 0 0,.bool ζ,.slice δ 0 0,.bool ζ,.slice δ 0 0,.bool ζ,.slice δ 0 0,.bool ζ,.slice δ 0 0,.bool ζ,.slice δ 0 0,.bool ζ,.slice δ 0 0,.bool ζ,.slice δ 0 0,.bool ζ,.slice δ 0 0,.bool ζ,.slice δ 0 0,.bool ζ,.slice δ 0 0,.bool ζ,.slice δ 0 0,.bool ζ,.slice δ 0 0,.bool ζ,.slice δ 0 0,.bool ζ,.slice δ 0 0,.bool ζ,.slice δ 0 0] (g:=(w.heap.size+3)) ag);have WH:=(l.aH 3).cell;have WF:=(l.aH 2).cell;have WX:=(l.aH 1).cell;go_enter func85,ntmps85;(go_wp2_with fail);clear WH WF WX;clear l;refine gA5 hS 42 #[.bool W,.slice S D B,.bool P,.slice L G Q,.bool O,.slice H C R] 42 #[.bool Wq,.slice Wn Wm Wp,.bool Ws,.slice Wt Wo Wl,.bool Z,.slice Y I Wj] 42 #[.bool Xg,.slice WU WR WS,.bool WM,.slice WO WK WP,.bool WT,.slice Xi U WN] 45 #[.bool ζ,.slice δ 0 0,.bool ζ,.slice δ 0 0,.bool ζ,.slice δ 0 0,.bool ζ,.slice δ 0 0,.bool ζ,.slice δ 0 0,.bool ζ,.slice δ 0 0,.bool ζ,.slice δ 0 0,.bool ζ,.slice δ 0 0,.bool ζ,.slice δ 0 0,.bool ζ,.slice δ 0 0,.bool ζ,.slice δ 0 0,.bool ζ,.slice δ 0 0,.bool ζ,.slice δ 0 0,.bool ζ,.slice δ 0 0,.bool ζ,.slice δ 0 0,.bool ζ,.slice δ 0 0,.bool ζ,.slice δ 0 0,.bool ζ,.slice δ 0 0] 42 #[.bool W,.slice S D B,.bool P,.slice L G Q,.bool O,.slice H C R,.bool Wq,.slice Wn Wm Wp,.bool Ws,.slice Wt Wo Wl,.bool Z,.slice Y I Wj,.bool Xg,.slice WU WR WS,.bool WM,.slice WO WK WP,.bool WT,.slice Xi U WN] ?_;clear hS;intro w1 g3 o3 g4 o4 g5 o5 g6 o6 Xa Ym hS;refine(zQ Xa q0 q1 q2 N N N _ (hS.aH 0) ⟨_,_,_,RG.mk (hS.aF 8) (hS.aF 7) (hS.aF 6),I0,S0⟩ aa ⟨_,_,_,RG.mk (hS.aF 5) (hS.aF 4) (hS.aF 3),I1,S1⟩ aa ⟨_,_,_,RG.mk (hS.aF 2) (hS.aF 1) (hS.aF 0),I2,S2⟩ aa).mono ?_;rintro e w2 ⟨rfl,F⟩;replace hS:=hS.mv F;clear F;have Wz:=(St.al hS 197 #[.int .i64 0] (g:=w2.heap.size) ag);have WY:=(Wz.aH 4).cell;have WZ:=(Wz.aH 3).cell;(go_wp2_with fail);clear WY WZ;clear Wz;refine gA1 hS 197 #[.int .i64 0] ?_;clear hS;intro w3 g8 o8 hS;obtain⟨bh,bb,a2,Yj⟩:=fH (aeF (1) q1 (1) q2 (1));have aB:Sz N bh bb a2:=hs.sz Yj;refine(kz (iI g8 _ _ q1 q2 (1) (1) (1) _ _ _ (hS.aH 0) ⟨_,_,_,RG.mk (hS.aF 5) (hS.aF 4) (hS.aF 3),I1,S1⟩ ⟨_,_,_,RG.mk (hS.aF 2) (hS.aF 1) (hS.aF 0),I2,S2⟩ aa aa aa aa aa aa aa aa) Yj).mono ?_;rintro e w4 ⟨v_,rfl,M,F⟩;replace hS:=hS.mv F;clear F;obtain⟨ax,Yl,ar,aw,ap,Yn,av,aq,ao,Yk,az,ay,rfl,Zy,YU,ad⟩:=M;replace hS:=hS.aX Zy;clear Zy;replace hS:=hS.aX YU;clear YU;replace hS:=hS.aX ad;clear ad;have Xb:=(St.al hS 42 #[.bool ζ,.slice δ 0 0,.bool ζ,.slice δ 0 0,.bool ζ,.slice δ 0 0] (g:=w4.heap.size) ag);have Xc:=(Xb.aH 0).cell;have Xj:=(Xb.aH 0).frozen;have Wv:=(St.al hS 42 #[.bool ax,.slice Yl ar aw,.bool ap,.slice Yn av aq,.bool ao,.slice Yk az ay] (g:=w4.heap.size) ag);have XD:=(Wv.aH 1).cell;have Zi:=(St.al (St.al hS 42 #[.bool ax,.slice Yl ar aw,.bool ap,.slice Yn av aq,.bool ao,.slice Yk az ay] (g:=w4.heap.size) ag) 45 #[.bool ζ,.slice δ 0 0,.bool ζ,.slice δ 0 0,.bool ζ,.slice δ 0 0,.bool ζ,.slice δ 0 0,.bool ζ,.slice δ 0 0,.bool ζ,.slice δ 0 0,.bool ζ,.slice δ 0 0,.bool ζ,.slice δ 0 0,.bool ζ,.slice δ 0 0,.bool ζ,.slice δ 0 0,.bool ζ,.slice δ 0 0,.bool ζ,.slice δ 0 0,.bool ζ,.slice δ 0 0,.bool ζ,.slice δ 0 0,.bool ζ,.slice δ 0 0,.bool ζ,.slice δ 0 0,.bool ζ,.slice δ 0 0,.bool ζ,.slice δ 0 0] (g:=(w4.heap.size+1)) ag);have XF:=(Zi.aH 7).cell;have Xo:=(Zi.aH 1).cell;(go_wp2_with fail);clear Xc Xj XD XF Xo;clear Xb Wv Zi;refine gA2 hS 42 #[.bool ax,.slice Yl ar aw,.bool ap,.slice Yn av aq,.bool ao,.slice Yk az ay] 45 #[.bool ζ,.slice δ 0 0,.bool ζ,.slice δ 0 0,.bool ζ,.slice δ 0 0,.bool ζ,.slice δ 0 0,.bool ζ,.slice δ 0 0,.bool ζ,.slice δ 0 0,.bool ζ,.slice δ 0 0,.bool ζ,.slice δ 0 0,.bool ζ,.slice δ 0 0,.bool ζ,.slice δ 0 0,.bool ζ,.slice δ 0 0,.bool ζ,.slice δ 0 0,.bool ζ,.slice δ 0 0,.bool ζ,.slice δ 0 0,.bool ζ,.slice δ 0 0,.bool ζ,.slice δ 0 0,.bool ζ,.slice δ 0 0,.bool ζ,.slice δ 0 0] ?_;clear hS;intro w5 g9 o9 g10 Xz hS;obtain⟨a9,bj,be,aG⟩:=fH (aeF (1) q0 (1) (aeF (1) q1 (1) q2 (1)) (1));have bw:Sz (N+N+65) a9 bj be:=(aeT (m:=1) ⟨_,_,_,I0,S0⟩ ⟨_,_,_,Yj,aB⟩ aa aa aa aa aa aa aa).sz aG;refine(kz (iI g8 _ _ q0 (aeF (1) q1 (1) q2 (1)) (1) (1) (1) _ _ _ (hS.aH 2) ⟨_,_,_,RG.mk (hS.aF 11) (hS.aF 10) (hS.aF 9),I0,S0⟩ ⟨_,_,_,RG.mk (hS.aF 2) (hS.aF 1) (hS.aF 0),Yj,aB⟩ aa aa aa aa aa aa aa aa) aG).mono ?_;rintro e w6 ⟨v_,rfl,M,F⟩;replace hS:=hS.mv F;clear F;obtain⟨XM,Xu,XO,Xx,XJ,V,XN,Xv,XQ,Xp,Xy,XP,rfl,YR,ZN,ZW⟩:=M;replace hS:=hS.aX YR;clear YR;replace hS:=hS.aX ZN;clear ZN;replace hS:=hS.aX ZW;clear ZW;(go_wp2_with fail);refine(I8 _).mono ?_;rintro e w7 ⟨v_,rfl,M,F⟩;replace hS:=hS.mv F;clear F;obtain⟨ZZ,XV,Zx,Yu,YZ,XC,ZX,Zw,ZJ,Xh,Yp,ZM,rfl,YT,YS,Zz⟩:=M;replace hS:=hS.aX YT;clear YT;replace hS:=hS.aX YS;clear YS;replace hS:=hS.aX Zz;clear Zz;have XH:=(hS.aH 0).cell;have XI:=(hS.aH 0).frozen;have Zd:=hS.pt 0 0 [.bool XM,.slice Xu XO Xx,.bool XJ,.slice V XN Xv,.bool XQ,.slice Xp Xy XP,.bool ZZ,.slice XV Zx Yu,.bool YZ,.slice XC ZX Zw,.bool ZJ,.slice Xh Yp ZM] Xz;have XT:=(Zd.aH 7).cell;have XK:=(Zd.aH 1).cell;(go_wp2_with fail);clear XH XI XT XK;clear Zd;replace hS:=hS.pt 0 0 [.bool XM,.slice Xu XO Xx,.bool XJ,.slice V XN Xv,.bool XQ,.slice Xp Xy XP,.bool ZZ,.slice XV Zx Yu,.bool YZ,.slice XC ZX Zw,.bool ZJ,.slice Xh Yp ZM] Xz;refine gW hS ?_;clear hS;intro w8 hS;obtain⟨bg,ba,bk,aI⟩:=fH (aeF (2) q0 (-1) (aeF (1) q1 (1) q2 (1)) (2));have bt:Sz (N+N+65) bg ba bk:=(aeT (m:=2) ⟨_,_,_,I0,S0⟩ ⟨_,_,_,Yj,aB⟩ aa aa aa aa aa aa aa).sz aI;refine(kz (iI g8 _ _ q0 (aeF (1) q1 (1) q2 (1)) (2) (-1) (2) _ _ _ (hS.aH 2) ⟨_,_,_,RG.mk (hS.aF 17) (hS.aF 16) (hS.aF 15),I0,S0⟩ ⟨_,_,_,RG.mk (hS.aF 8) (hS.aF 7) (hS.aF 6),Yj,aB⟩ aa aa aa aa aa aa aa aa) aI).mono ?_;rintro e w9 ⟨v_,rfl,M,F⟩;replace hS:=hS.mv F;clear F;obtain⟨ZY,XA,Yr,Z7,Yt,XX,YQ,Zk,Zp,XB,Z9,ZT,rfl,Zc,ZB,ZU⟩:=M;replace hS:=hS.aX Zc;clear Zc;replace hS:=hS.aX ZB;clear ZB;replace hS:=hS.aX ZU;clear ZU;have XL:=(hS.aH 0).cell;have XW:=(hS.aH 0).frozen;have Yw:=hS.pt 0 12 [.bool ZY,.slice XA Yr Z7,.bool Yt,.slice XX YQ Zk,.bool Zp,.slice XB Z9 ZT] Xz;have XR:=(Yw.aH 5).cell;have XU:=(Yw.aH 6).cell;(go_wp2_with fail);clear XL XW XR XU;clear Yw;replace hS:=hS.pt 0 12 [.bool ZY,.slice XA Yr Z7,.bool Yt,.slice XX YQ Zk,.bool Zp,.slice XB Z9 ZT] Xz;refine gW hS ?_;clear hS;intro XE hS;obtain⟨YC,YE,YB,X5⟩:=fH (aeF (1) q2 (-1) q1 (2));have bp:Sz (N+N+65) YC YE YB:=(aeT (m:=2) ⟨_,_,_,I2,S2⟩ ⟨_,_,_,I1,S1⟩ aa aa aa aa aa aa aa).sz X5;refine(kz (iI g8 _ _ q2 q1 (1) (-1) (2) _ _ _ (hS.aH 2) ⟨_,_,_,RG.mk (hS.aF 14) (hS.aF 13) (hS.aF 12),I2,S2⟩ ⟨_,_,_,RG.mk (hS.aF 17) (hS.aF 16) (hS.aF 15),I1,S1⟩ aa aa aa aa aa aa aa aa) X5).mono ?_;rintro e Xn ⟨v_,rfl,M,F⟩;replace hS:=hS.mv F;clear F;obtain⟨ca,Yv,b3,ch,cc,Yx,b0,ce,cd,Yy,b2,cb,rfl,Zl,ZI,ZR⟩:=M;replace hS:=hS.aX Zl;clear Zl;replace hS:=hS.aX ZI;clear ZI;replace hS:=hS.aX ZR;clear ZR;(go_wp2_with fail);obtain⟨a7,a6,a5,a0⟩:=fH ((aeF (1) q2 (-1) q1 (2))*aeG 1);have bx:Sz (N+N+65) a7 a6 a5:=(aeS ⟨_,_,_,X5,bp⟩ 1).sz a0;refine(kz (gM g8 _ (aeF (1) q2 (-1) q1 (2)) (N+N+65) 1 (1) _ rfl (hS.aH 2) ⟨_,_,_,RG.mk (hS.aF 2) (hS.aF 1) (hS.aF 0),X5,bp⟩ aa aa) a0).mono ?_;rintro e XY ⟨v_,rfl,M,F⟩;replace hS:=hS.mv F;clear F;obtain⟨ZF,Xw,Za,ZC,Zg,WI,Yo,Zj,af,WQ,ZH,ai,rfl,Z8,Zt,Zf⟩:=M;replace hS:=hS.aX Z8;clear Z8;replace hS:=hS.aX Zt;clear Zt;replace hS:=hS.aX Zf;clear Zf;have Ye:=(hS.aH 0).cell;have Yc:=(hS.aH 0).frozen;have YY:=hS.pt 0 18 [.bool ZF,.slice Xw Za ZC,.bool Zg,.slice WI Yo Zj,.bool af,.slice WQ ZH ai] Xz;have YI:=(YY.aH 7).cell;have YD:=(YY.aH 1).cell;(go_wp2_with fail);clear Ye Yc YI YD;clear YY;replace hS:=hS.pt 0 18 [.bool ZF,.slice Xw Za ZC,.bool Zg,.slice WI Yo Zj,.bool af,.slice WQ ZH ai] Xz;refine gW hS ?_;clear hS;intro XG hS;obtain⟨bm,a8,bi,aE⟩:=fH (aeF (2) q0 (-1) (aeF (1) q1 (1) q2 (1)) (2));have bV:Sz (N+N+65) bm a8 bi:=(aeT (m:=2) ⟨_,_,_,I0,S0⟩ ⟨_,_,_,Yj,aB⟩ aa aa aa aa aa aa aa).sz aE;refine(kz (iI g8 _ _ q0 (aeF (1) q1 (1) q2 (1)) (2) (-1) (2) _ _ _ (hS.aH 2) ⟨_,_,_,RG.mk (hS.aF 26) (hS.aF 25) (hS.aF 24),I0,S0⟩ ⟨_,_,_,RG.mk (hS.aF 17) (hS.aF 16) (hS.aF 15),Yj,aB⟩ aa aa aa aa aa aa aa aa) aE).mono ?_;rintro e cj ⟨v_,rfl,M,F⟩;replace hS:=hS.mv F;clear F;obtain⟨ZE,WL,ZL,ZQ,YX,T,Yq,am,Zm,W9,ZV,ZP,rfl,ZA,Zv,ZK⟩:=M;replace hS:=hS.aX ZA;clear ZA;replace hS:=hS.aX Zv;clear Zv;replace hS:=hS.aX ZK;clear ZK;have Zo:=(hS.aH 0).cell;have Zn:=(hS.aH 0).frozen;have Ze:=hS.pt 0 24 [.bool ZE,.slice WL ZL ZQ,.bool YX,.slice T Yq am,.bool Zm,.slice W9 ZV ZP] Xz;have bn:=(Ze.aH 6).cell;have a1:=(Ze.aH 5).cell;(go_wp2_with fail);clear Zo Zn bn a1;clear Ze;replace hS:=hS.pt 0 24 [.bool ZE,.slice WL ZL ZQ,.bool YX,.slice T Yq am,.bool Zm,.slice W9 ZV ZP] Xz;refine gW hS ?_;clear hS;intro ci hS;obtain⟨YN,YH,YM,X8⟩:=fH (aeF (1) q1 (-1) q2 (2));have bo:Sz (N+N+65) YN YH YM:=(aeT (m:=2) ⟨_,_,_,I1,S1⟩ ⟨_,_,_,I2,S2⟩ aa aa aa aa aa aa aa).sz X8;refine(kz (iI g8 _ _ q1 q2 (1) (-1) (2) _ _ _ (hS.aH 2) ⟨_,_,_,RG.mk (hS.aF 26) (hS.aF 25) (hS.aF 24),I1,S1⟩ ⟨_,_,_,RG.mk (hS.aF 23) (hS.aF 22) (hS.aF 21),I2,S2⟩ aa aa aa aa aa aa aa aa) X8).mono ?_;rintro e ck ⟨v_,rfl,M,F⟩;replace hS:=hS.mv F;clear F;obtain⟨YL,X9,YP,Yz,YK,Ya,YJ,YG,YO,X7,YF,YA,rfl,Zh,YW,ac⟩:=M;replace hS:=hS.aX Zh;clear Zh;replace hS:=hS.aX YW;clear YW;replace hS:=hS.aX ac;clear ac;(go_wp2_with fail);obtain⟨bl,a3,a4,aP⟩:=fH ((aeF (1) q1 (-1) q2 (2))*aeG 1);have bq:Sz (N+N+65) bl a3 a4:=(aeS ⟨_,_,_,X8,bo⟩ 1).sz aP;refine(kz (gM g8 _ (aeF (1) q1 (-1) q2 (2)) (N+N+65) 1 (1) _ rfl (hS.aH 2) ⟨_,_,_,RG.mk (hS.aF 2) (hS.aF 1) (hS.aF 0),X8,bo⟩ aa aa) aP).mono ?_;rintro e bA ⟨v_,rfl,M,F⟩;replace hS:=hS.mv F;clear F;obtain⟨XZ,j,X4,Yg,Yb,J,X3,Yf,Yh,K,Yd,Yi,rfl,ZG,YV,ZO⟩:=M;replace hS:=hS.aX ZG;clear ZG;replace hS:=hS.aX YV;clear YV;replace hS:=hS.aX ZO;clear ZO;have cg:=(hS.aH 0).cell;have cf:=(hS.aH 0).frozen;have X6:=hS.pt 0 30 [.bool XZ,.slice j X4 Yg,.bool Yb,.slice J X3 Yf,.bool Yh,.slice K Yd Yi] Xz;have b1:=(X6.aH 2).cell;have Zr:=(X6.aH 0);have Zq:=(X6.aH 4);have HT:=aJ (And.intro Zr Zq);clear Zr Zq X6;(iterate 33 (try (first|go_values|go_skip|go_guarded|go_step|go_upon|go_in|go_back|go_simp)));(go_wp2_with (first|(refine wpList_load_row rfl 45 _ rfl g10 rf 45 _ (0,0) _ HT.o.1 aam rfl (Nf rfl) ?_)|(refine wpList_store_row rfl 45 _ _ rfl g6 _ rf rf 45 _ HT.o.2 (Nf rfl) rf ah ?_)));replace hS:=(St.row (St.put (W':=((((((bA.setCell ⟨g10,30,δ⟩ (.bool XZ)).setCell ⟨g10,31,δ⟩ (.slice j X4 Yg)).setCell ⟨g10,32,δ⟩ (.bool Yb)).setCell ⟨g10,33,δ⟩ (.slice J X3 Yf)).setCell ⟨g10,34,δ⟩ (.bool Yh)).setCell ⟨g10,35,δ⟩ (.slice K Yd Yi))) hS 0 30 [.bool XZ,.slice j X4 Yg,.bool Yb,.slice J X3 Yf,.bool Yh,.slice K Yd Yi] (cs':= #[.bool XM,.slice Xu XO Xx,.bool XJ,.slice V XN Xv,.bool XQ,.slice Xp Xy XP,.bool ZZ,.slice XV Zx Yu,.bool YZ,.slice XC ZX Zw,.bool ZJ,.slice Xh Yp ZM,.bool ZY,.slice XA Yr Z7,.bool Yt,.slice XX YQ Zk,.bool Zp,.slice XB Z9 ZT,.bool ZF,.slice Xw Za ZC,.bool Zg,.slice WI Yo Zj,.bool af,.slice WQ ZH ai,.bool ZE,.slice WL ZL ZQ,.bool YX,.slice T Yq am,.bool Zm,.slice W9 ZV ZP,.bool XZ,.slice j X4 Yg,.bool Yb,.slice J X3 Yf,.bool Yh,.slice K Yd Yi]) (bs':=_) rfl Xz rfl rfl ah rfl) 4 (cs':= #[.bool XM,.slice Xu XO Xx,.bool XJ,.slice V XN Xv,.bool XQ,.slice Xp Xy XP,.bool ZZ,.slice XV Zx Yu,.bool YZ,.slice XC ZX Zw,.bool ZJ,.slice Xh Yp ZM,.bool ZY,.slice XA Yr Z7,.bool Yt,.slice XX YQ Zk,.bool Zp,.slice XB Z9 ZT,.bool ZF,.slice Xw Za ZC,.bool Zg,.slice WI Yo Zj,.bool af,.slice WQ ZH ai,.bool ZE,.slice WL ZL ZQ,.bool YX,.slice T Yq am,.bool Zm,.slice W9 ZV ZP,.bool XZ,.slice j X4 Yg,.bool Yb,.slice J X3 Yf,.bool Yh,.slice K Yd Yi]) (bs':=_) rfl o6 ah rfl);exact UZ rfl rfl rfl (hS.aH 4) ⟨_,rfl,⟨_,rfl,_,_,_,_,_,_,_,_,_,_,_,_,_,_,_,_,_,_,RA.mk (hS.aF 23) (hS.aF 22) (hS.aF 21) (hS.aF 20) (hS.aF 19) (hS.aF 18) (hS.aF 17) (hS.aF 16) (hS.aF 15) (hS.aF 11) (hS.aF 10) (hS.aF 9) (hS.aF 8) (hS.aF 7) (hS.aF 6) (hS.aF 2) (hS.aF 1) (hS.aF 0),aG,Sz.mono bw aa,(Qk 0 0),Sz.mono (UJ (n:=1) aa) aa,aI,Sz.mono bt aa,a0,Sz.mono bx aa,aE,Sz.mono bV aa,aP,Sz.mono bq aa⟩,hS.ext⟩
structure kY (w:World) (A0:Option Addr) (n0 c0:Nat) (A1:Option Addr) (n1 c1:Nat) (A2:Option Addr) (n2 c2:Nat) (A3:Option Addr) (n3 c3:Nat) (L:Nat->Hd) (s:StD):Prop where
 buses:Strs w A0 n0 s.buses
 nc:n0<=c0
 mx:n0<=1000000/\n1<=1000000/\n2<=1000000/\n3<=1000000
 l1:s.lines.length=n1
 lines:Arr w A1 n1 5 (fun i=>mo (s.lines.getD i η))
 l2:s.srcs.length=n2
 srcs:Arr w A2 n2 6 (fun i=>xM (s.srcs.getD i η))
 l3:s.bays.length=n3
 bays:Arr w A3 n3 12 (fun i=>ja (s.bays.getD i η) (L i))
 links:∀i,i<n3->Lks w (L i).A (L i).n (s.bays.getD i η).links
section
variable {w w':World} {A0:Option Addr} {n0 c0:Nat} {A1:Option Addr} {n1 c1:Nat} {A2:Option Addr} {n2 c2:Nat} {A3:Option Addr} {n3 c3:Nat} {L:Nat->Hd} {s:StD}
def kY.ext(h:kY w A0 n0 c0 A1 n1 c1 A2 n2 c2 A3 n3 c3 L s)(x:Ext w w'):kY w' A0 n0 c0 A1 n1 c1 A2 n2 c2 A3 n3 c3 L s:=
 ⟨h.buses.ext x,h.nc,h.mx,h.l1,h.lines.ext x,h.l2,h.srcs.ext x,h.l3,h.bays.ext x,fun i hi=>(h.links i hi).ext x⟩
end
def sU:Elem prog 22 9 1 16:=aeU underlying22 (z:=.string ByteArray.empty) ah rfl aa
def Rq(l:List ByteArray):∀u∈l.map Value.string,u.oneCell'=ε:=by
 exact Abd
def lT{α:Type}[Inhabited α]{l:List α}{k}(j:k<l.length):l.take (k+1)=l.take k++[l.getD k η]:=by
 rw[aaS j,φ,ν j];rfl
theorem Tu{s b k}(j:k<s.lines.length):nms s b (k+1) 0 0=nms s b k 0 0++[(s.lines.getD k η).name]:=by
 unfold nms;rw[lT j];simp
theorem Tx{s b l k}(j:k<s.srcs.length):nms s b l (k+1) 0=nms s b l k 0++[(s.srcs.getD k η).name]:=by
 unfold nms;rw[lT j];simp
theorem TK{s b l g k}(j:k<s.bays.length):nms s b l g (k+1)=nms s b l g k++[(s.bays.getD k η).name]:=by
 unfold nms;rw[lT j];simp
theorem Ob{s b}:nms s b 0 0 0=s.buses.take b:=by unfold nms;simp
theorem yS{s b l g q}(C:b<=s.buses.length)(B:l<=s.lines.length)(j:g<=s.srcs.length)(D:q<=s.bays.length):(nms s b l g q).length=b+l+g+q:=by
 unfold nms;simp;omega
def Strs.take{w A n b}{l:List ByteArray}(h:Strs w A n l)(hb:b<=n):Strs w A b (l.take b):=by
 have Z:=h.len;refine⟨ae,fun hp=> ?_⟩;obtain⟨R,e,B,hc⟩:=h.2 aa;refine⟨R,e,B,fun j u N=>hc j u ?_⟩;rw[List.map_take,List.getElem?_take] at N;split at N
 .exact N
 .cases N
def af6{w B n v}{l:List ByteArray}(h:w.ownsRow B 9 1 v n (l.map Value.string)):∃A c,v=.slice A n c/\n<=c/\Strs w A n l:=by
 obtain⟨A,c,e,C,_,j⟩:=iX h;exact⟨A,c,e,C,j⟩
theorem Jl(nm){A0 n0 c0 A1 n1 c1 A2 n2 c2 A3 n3 c3 L s}(w)(hs:kY w A0 n0 c0 A1 n1 c1 A2 n2 c2 A3 n3 c3 L s)(b l g q)(hb:b<=n0)(Z:l<=n1)(hg:g<=n2)(hq:q<=n3):
  Calls prog 65 #[stV nm A0 n0 c0 A1 n1 c1 A2 n2 c2 A3 n3 c3,.int .i64 (b:Int),.int .i64 (l:Int),.int .i64 (g:Int),.int .i64 (q:Int)] w
   fun e w'=>∃A c,e=.returned (.slice A (b+l+g+q) c)/\Strs w' A (b+l+g+q) (nms s b l g q)/\Ext w w':=by
 have B:=hs.nc;have Wp:=hs.mx;obtain⟨m0,m1,m2,m3⟩:=Wp;have S:=(hs.buses.take hb).ext (Ext.new w (.cells #[.string nm,.slice A0 n0 c0,.slice A1 n1 c1,.slice A2 n2 c2,.slice A3 n3 c3] 27));have N:=aJ hs;have HT:=aJ S;clear hs S;have Xb:b<=c0:=aa;unfold stV;obtain⟨-,B2⟩:=an1 w 27 #[.string nm,.slice A0 n0 c0,.slice A1 n1 c1,.slice A2 n2 c2,.slice A3 n3 c3];have M:=aJ B2;clear B2;have C:Hid (((w.alloc (.cells #[.string nm,.slice A0 n0 c0,.slice A1 n1 c1,.slice A2 n2 c2,.slice A3 n3 c3] 27)).alloc (.cells #[] 9)).ownsRow (w.heap.size+1) 9 1 (.slice (γ ⟨w.heap.size+1,0,δ⟩) 0 0) 0 []):=aJ (by
  have:=ab8 (base:=w.heap.size+1) (e:=9) (size:=1) (w.alloc (.cells #[.string nm,.slice A0 n0 c0,.slice A1 n1 c1,.slice A2 n2 c2,.slice A3 n3 c3] 27)) #[] 0 ag Ads ag;simpa using this)
 go_enter func65,ntmps65;(go_wp2_with (at_builtin;refine kL sU rfl (.tmp 15) (.tmp 19) rfl (w.heap.size+1) _ 0 [] rf C.o _ b _ ((s.buses.take b).map Value.string) rf (HT.ext (Ext.new _ _)) (Rq _) aa aa Adj ?_));intro v1 w1 I V;have G:Ext (w.alloc (.cells #[.string nm,.slice A0 n0 c0,.slice A1 n1 c1,.slice A2 n2 c2,.slice A3 n3 c3] 27)) w1:=jW V (Ext.new _ _) (by simp[Value.ownBlock]);have H:=aJ G;have D:Hid (w1.ownsRow (w.heap.size+1) 9 1 v1 (b+0) ((nms s b 0 0 0).map Value.string)):=aJ (by rw[Ob];simpa using I);clear G I V;go_wp2_with fail
 go_loopw [11,12] (fun v i wr=>∃k:Nat,k<=l/\i=.int .i64 (k:Int)/\wr.ownsRow (w.heap.size+1) 9 1 v (b+k) ((nms s b k 0 0).map Value.string)/\Ext (w.alloc (.cells #[.string nm,.slice A0 n0 c0,.slice A1 n1 c1,.slice A2 n2 c2,.slice A3 n3 c3] 27)) wr) (fun _ i _=>l-(intOf i).toNat)
 case atStart=>exact⟨0,aa,rfl,D.o,H.o⟩
 case round=>
  clear D H;obtain⟨k,hk,rfl,I,F⟩:=hrel;have D:=aJ I;have H:=aJ F;have U:w.heap.size<wr.heap.size:=by have:=F.size;simp at this;omega
  have k2:=(M.ext F).cell;clear I F;by_cases Q:k<l
  .have hd:decide (k<l)=ε:=ae;obtain⟨lb,lo,hA,P,hc⟩:=(N.ext ((Ext.new _ _).trans H.o)).lines.at_ (show k<n1 by omega);have K:Hid (nms s b (k+1) 0 0=nms s b k 0 0++[(s.lines.getD k η).name]):=aJ (Tu (by have:=N.l1;omega));subst hA;have O:wr.cell? ⟨lb,lo+k*5,δ⟩=γ (.string (s.lines.getD k η).name):=hc 0 _ rfl;clear hc;generalize (s.lines.getD k η).name=x at O K;(go_wp2_with (at_builtin;refine gK sU rfl (.tmp 26) (.tmp 33) rfl (w.heap.size+1) _ (b+k) _ rf (D.alloc _) wr.heap.size 1 1 [.string x] rf (Blk.new _ _ _) rfl AcI aa aa aa Adj ?_));intro g1 j w2 T R _ _;have J:Hid (w2.ownsRow (w.heap.size+1) 9 1 (.slice (γ ⟨g1,0,δ⟩) (b+k+1) j) (b+(k+1)) ((nms s b (k+1) 0 0).map Value.string)):=aJ Ab3;have W:=aJ (jW R (H.alloc _) (fun g' Y=>by have:=(D.lt g' Y).1;simp;omega));clear T R;go_wp2_with fail
   exact AaX
  .obtain rfl:l=k:=aa
   go_wp2_with fail
   go_loopw [11,13] (fun v i wr=>∃k:Nat,k<=g/\i=.int .i64 (k:Int)/\wr.ownsRow (w.heap.size+1) 9 1 v (b+l+k) ((nms s b l k 0).map Value.string)/\Ext (w.alloc (.cells #[.string nm,.slice A0 n0 c0,.slice A1 n1 c1,.slice A2 n2 c2,.slice A3 n3 c3] 27)) wr) (fun _ i _=>g-(intOf i).toNat)
   case atStart=>exact⟨0,aa,rfl,D.o,H.o⟩
   case round=>
    clear D H;obtain⟨k,hk,rfl,I,F⟩:=hrel;have D:=aJ I;have H:=aJ F;have U:w.heap.size<wr.heap.size:=by have:=F.size;simp at this;omega
    have k2:=(M.ext F).cell;clear I F;by_cases Q:k<g
    .have hd:decide (k<g)=ε:=ae;obtain⟨lb,lo,hA,P,hc⟩:=(N.ext ((Ext.new _ _).trans H.o)).srcs.at_ (show k<n2 by omega);have K:Hid (nms s b l (k+1) 0=nms s b l k 0++[(s.srcs.getD k η).name]):=aJ (Tx (by have:=N.l2;omega));subst hA;have O:wr.cell? ⟨lb,lo+k*6,δ⟩=γ (.string (s.srcs.getD k η).name):=hc 0 _ rfl;clear hc;generalize (s.srcs.getD k η).name=x at O K;(go_wp2_with (at_builtin;refine gK sU rfl (.tmp 40) (.tmp 47) rfl (w.heap.size+1) _ (b+l+k) _ rf (D.alloc _) wr.heap.size 1 1 [.string x] rf (Blk.new _ _ _) rfl AcI aa aa aa Adj ?_));intro g1 j w2 T R _ _;have J:Hid (w2.ownsRow (w.heap.size+1) 9 1 (.slice (γ ⟨g1,0,δ⟩) (b+l+k+1) j) (b+l+(k+1)) ((nms s b l (k+1) 0).map Value.string)):=aJ Ab3;have W:=aJ (jW R (H.alloc _) (fun g' Y=>by have:=(D.lt g' Y).1;simp;omega));clear T R;go_wp2_with fail
     exact AaX
    .obtain rfl:g=k:=aa
     go_wp2_with fail
     go_loopw [11,14] (fun v i wr=>∃k:Nat,k<=q/\i=.int .i64 (k:Int)/\wr.ownsRow (w.heap.size+1) 9 1 v (b+l+g+k) ((nms s b l g k).map Value.string)/\Ext (w.alloc (.cells #[.string nm,.slice A0 n0 c0,.slice A1 n1 c1,.slice A2 n2 c2,.slice A3 n3 c3] 27)) wr) (fun _ i _=>q-(intOf i).toNat)
     case atStart=>exact⟨0,aa,rfl,D.o,H.o⟩
     case round=>
      clear D H;obtain⟨k,hk,rfl,I,F⟩:=hrel;have D:=aJ I;have H:=aJ F;have U:w.heap.size<wr.heap.size:=by have:=F.size;simp at this;omega
      have k2:=(M.ext F).cell;clear I F;by_cases Q:k<q
      .have hd:decide (k<q)=ε:=ae;obtain⟨lb,lo,hA,P,hc⟩:=(N.ext ((Ext.new _ _).trans H.o)).bays.at_ (show k<n3 by omega);have K:Hid (nms s b l g (k+1)=nms s b l g k++[(s.bays.getD k η).name]):=aJ (TK (by have:=N.l3;omega));subst hA;have O:wr.cell? ⟨lb,lo+k*12,δ⟩=γ (.string (s.bays.getD k η).name):=hc 0 _ rfl;clear hc;generalize (s.bays.getD k η).name=x at O K;(go_wp2_with (at_builtin;refine gK sU rfl (.tmp 54) (.tmp 61) rfl (w.heap.size+1) _ (b+l+g+k) _ rf (D.alloc _) wr.heap.size 1 1 [.string x] rf (Blk.new _ _ _) rfl AcI aa aa aa Adj ?_));intro g1 j w2 T R _ _;have J:Hid (w2.ownsRow (w.heap.size+1) 9 1 (.slice (γ ⟨g1,0,δ⟩) (b+l+g+k+1) j) (b+l+g+(k+1)) ((nms s b l g (k+1)).map Value.string)):=aJ Ab3;have W:=aJ (jW R (H.alloc _) (fun g' Y=>by have:=(D.lt g' Y).1;simp;omega));clear T R;go_wp2_with fail
       exact AaX
      .obtain rfl:q=k:=aa;(go_wp2_with fail);obtain⟨A,c,rfl,hc,hr⟩:=af6 D.o;go_wp2;go_ret;exact⟨A,c,rfl,hr,(Ext.new _ _).trans H.o⟩
def Arr.bay{w:World}{A:Option Addr}{n i:Nat}{f:Nat->gJ}{g:Nat->Hd}(h:Arr w A n 12 (fun i=>ja (f i) (g i)))(hi:i<n):
  ∃lb lo,A=γ ⟨lb,lo,δ⟩/\lb<w.heap.size/\w.cell? ⟨lb,lo+i*12,δ⟩=γ (.string (f i).name)/\w.cell? ⟨lb,lo+i*12+1,δ⟩=γ (.int .i64 (f i).kind)/\w.cell? ⟨lb,lo+i*12+2,δ⟩=γ (.int .i64 (f i).obj)/\w.cell? ⟨lb,lo+i*12+3,δ⟩=γ (.int .i64 (f i).en)/\w.cell? ⟨lb,lo+i*12+4,δ⟩=γ (.int .i64 (f i).z.r)/\w.cell? ⟨lb,lo+i*12+5,δ⟩=γ (.int .i64 (f i).z.x)/\w.cell? ⟨lb,lo+i*12+6,δ⟩=γ (.slice (g i).A (g i).n (g i).c)/\w.cell? ⟨lb,lo+i*12+7,δ⟩=γ (.bool (f i).closed)/\w.cell? ⟨lb,lo+i*12+8,δ⟩=γ (.int .i64 (f i).ct)/\w.cell? ⟨lb,lo+i*12+9,δ⟩=γ (.int .i64 (f i).vt)/\w.cell? ⟨lb,lo+i*12+10,δ⟩=γ (.int .i64 (f i).sat)/\w.cell? ⟨lb,lo+i*12+11,δ⟩=γ (.int .i64 (f i).travel):=by
 obtain⟨lb,lo,j,hb,hc⟩:=h.at_ hi;exact⟨lb,lo,j,hb,hc 0 _ rfl,hc 1 _ rfl,hc 2 _ rfl,hc 3 _ rfl,hc 4 _ rfl,hc 5 _ rfl,hc 6 _ rfl,hc 7 _ rfl,hc 8 _ rfl,hc 9 _ rfl,hc 10 _ rfl,hc 11 _ rfl⟩
def ER{α:Type}[Inhabited α]{p:α->Bool}{l:List α}:∀{k:Nat},k<=l.length->(∀j,j<k->p (l.getD j η)=ζ)->(l.take k).any p=ζ
 |0,_,_=>ag
 |k+1,hk,h=>by
  rw[lT aa,List.any_append,ER aa (fun j B=>h j aa)];simp[-List.getD_eq_getElem?_getD,h k aa]
def any_some{α:Type}[Inhabited α]{p:α->Bool}{l:List α}{k i}(j:k<i)(hi:i<=l.length)(h:p (l.getD k η)=ε):(l.take i).any p=ε:=by
 rw[List.any_eq_true];refine⟨l.getD k η,?_,h⟩;rw[φ,ν aa];rw[List.mem_take_iff_getElem];exact⟨k,aa,rfl⟩
theorem qC{x y}(h:x.kind≠y.kind\/x.obj≠y.obj\/x.en≠y.en):lC x y=ζ:=by
 unfold lC;rcases h with h|h|h<;>simp[h]
theorem Ck{x y}(l:x.kind=y.kind)(j:x.obj=y.obj)(B:x.en=y.en):lC x y=ε:=by
 unfold lC;simp[l,j,B]
theorem EW(nm){A0 n0 c0 A1 n1 c1 A2 n2 c2 A3 n3 c3 L s}(w)(hs:kY w A0 n0 c0 A1 n1 c1 A2 n2 c2 A3 n3 c3 L s)(i)(hi:i<n3):
  CE 68 #[stV nm A0 n0 c0 A1 n1 c1 A2 n2 c2 A3 n3 c3,.int .i64 (i:Int)] w (.int .i64 (su s i)):=by
 have S:=hs.l1;have T:=hs.l2;have W:=hs.l3;have Wp:=hs.mx;have XJ:s.buses.length=n0:=hs.buses.len;have C:=hs.links i hi;have O:Hid (su s i=if jc n1 n2 (s.bays.getD i η)=0 then
  (if bZ (s.bays.getD i η)=ε then (if mV (s.bays.take i) (s.bays.getD i η)=ε then 12 else gL n0 (s.bays.getD i η)) else 2)
 else jc n1 n2 (s.bays.getD i η)):=aJ (by rw[<-S,<-T,<-XJ];rfl)
 have HS:=aJ hs;have Z:=aJ W;obtain⟨m0,m1,m2,m3⟩:=Wp;clear S T W XJ;obtain⟨lb,lo,N,hb,e0,e1,e2,e3,e4,e5,e6,e7,e8,e9,WA,WG⟩:=hs.bays.bay hi;have HA:=aJ N;rw[N];clear hs N;revert e0 e1 e2 e3 e4 e5 e6 e7 e8 e9 WA WG O C;generalize U:s.bays.getD i η=b;generalize L i=h;intro C O e0 e1 e2 e3 e4 e5 e6 e7 e8 e9 WA WG;have WR:=aJ U;have R:=aJ C;clear U C;obtain⟨E0,B2,B3⟩:=an2 w 27 #[.string nm,.slice A0 n0 c0,.slice A1 n1 c1,.slice A2 n2 c2,.slice (γ ⟨lb,lo,δ⟩) n3 c3] 57 #[.string b.name,.int .i64 b.kind,.int .i64 b.obj,.int .i64 b.en,.int .i64 b.z.r,.int .i64 b.z.x,.slice h.A h.n h.c,.bool b.closed,.int .i64 b.ct,.int .i64 b.vt,.int .i64 b.sat,.int .i64 b.travel];have Y:=aJ B2;have M:=aJ B3;have D:=aJ E0;clear B2 B3 E0;unfold stV;generalize ho:jc n1 n2 b=B at O;have HO:=aJ ho;clear ho;by_cases h0:B=0
 rotate_left
 .have q0:((B:Int) !=0)=ε:=by simp;exact h0
  have V:Hid (su s i=B):=aJ (by rw[O.o,θ h0]);clear h0;go_enter ada,ac4;(go_wp2_with fail);refine(pK nm A0 n0 c0 A1 n1 c1 A2 n2 c2 _ n3 c3 b h.A h.n h.c _).mono ?_;rintro e w1 ⟨rfl,F⟩;rw[HO.o];(go_wp2_with fail);go_ret;exact⟨aO V.symm,D.trans F⟩
 subst h0;cases P:bZ b
 .have V:Hid (su s i=2):=aJ (by rw[O.o,ι rfl,θ (by rw[P];decide)]);have I:=aJ P;clear P;go_enter ada,ac4;(go_wp2_with fail);refine(pK nm A0 n0 c0 A1 n1 c1 A2 n2 c2 _ n3 c3 b h.A h.n h.c _).mono ?_;rintro e w1 ⟨rfl,F⟩;rw[HO.o];have k3:=(M.ext F).cell;have H:=aJ (D.trans F);clear F;(go_wp2_with fail);refine(tq b h.A h.n h.c _).mono ?_;rintro e w2 ⟨rfl,F⟩;rw[I.o];(go_wp2_with fail);go_ret;exact⟨aO V.symm,H.trans F⟩
 have I:=aJ P;have V:Hid (su s i=if mV (s.bays.take i) b=ε then 12 else gL n0 b):=aJ (by rw[O.o,ι rfl,ι P]);clear P O;by_cases J:b.kind=3
 .have q3:((b.kind:Int) !=3)=ζ:=by simp[J]
  have l:Hid (su s i=gL n0 b):=aJ (by rw[V.o,θ (by simp[mV,J])]);clear J;go_enter ada,ac4;(go_wp2_with fail);refine(pK nm A0 n0 c0 A1 n1 c1 A2 n2 c2 _ n3 c3 b h.A h.n h.c _).mono ?_;rintro e w1 ⟨rfl,F⟩;rw[HO.o];have k3:=(M.ext F).cell;have H:=aJ F;clear F;(go_wp2_with fail);refine(tq b h.A h.n h.c _).mono ?_;rintro e w2 ⟨rfl,F⟩;rw[I.o];replace H:=H.aC F;have k3:=(M.ext H.o).cell;have k2:=(Y.ext H.o).cell;clear F;(go_wp2_with fail);refine wp_loop_rounds 1 ?_;rw[rounds_succ];by_cases Q:0<i
  .have d0:decide (0<i)=ε:=ae;exact AaL
  .have d0:decide (0<i)=ζ:=ae;exact AaL
 .have q3:((b.kind:Int) !=3)=ε:=by simp;exact J
  have Xh:=aJ J;clear J;go_enter ada,ac4;(go_wp2_with fail);refine(pK nm A0 n0 c0 A1 n1 c1 A2 n2 c2 _ n3 c3 b h.A h.n h.c _).mono ?_;rintro e w1 ⟨rfl,F⟩;rw[HO.o];have k3:=(M.ext F).cell;have H:=aJ F;clear F;(go_wp2_with fail);refine(tq b h.A h.n h.c _).mono ?_;rintro e w2 ⟨rfl,F⟩;rw[I.o];replace H:=H.aC F;clear F k3;go_wp2_with fail
  go_loopw [7] (fun j wr=>∃k:Nat,k<=i/\j=.int .i64 (k:Int)/\(∀j,j<k->lC b (s.bays.getD j η)=ζ)/\Ext ((w.alloc (.cells #[.string nm,.slice A0 n0 c0,.slice A1 n1 c1,.slice A2 n2 c2,.slice (γ ⟨lb,lo,δ⟩) n3 c3] 27)).alloc (.cells #[.string b.name,.int .i64 b.kind,.int .i64 b.obj,.int .i64 b.en,.int .i64 b.z.r,.int .i64 b.z.x,.slice h.A h.n h.c,.bool b.closed,.int .i64 b.ct,.int .i64 b.vt,.int .i64 b.sat,.int .i64 b.travel] 57)) wr) (fun j _=>i-(intOf j).toNat)
  case atStart=>exact⟨0,aa,rfl,by intros;omega,H.o⟩
  case round=>
   clear H;obtain⟨k,hk,rfl,hz,F⟩:=hrel;have HZ:=aJ hz;have H:=aJ F;have k2:=(Y.ext F).cell;have k3:=(M.ext F).cell;clear hz F;by_cases Wj:k<i
   .have d0:decide (k<i)=ε:=ae;obtain⟨K,G,N,WF,f0,f1,f2,f3,_⟩:=(HS.ext (D.trans H.o)).bays.bay (show k<n3 by omega);rw[HA.o] at N;simp only[aaC,ace,ac2] at N;obtain⟨rfl,rfl⟩:=N;clear f0;generalize hy:s.bays.getD k η=y at f1 f2 f3;have HY:=aJ hy;clear hy;have J:k<n3:=aa;by_cases g1:y.kind=b.kind
    .have t1:((y.kind:Int)==b.kind)=ε:=by simp;exact g1
     by_cases g2:y.obj=b.obj
     .have t2:((y.obj:Int)==b.obj)=ε:=by simp;exact g2
      by_cases g3:y.en=b.en
      .have t3:((y.en:Int)==b.en)=ε:=by simp;exact g3
       have HC:Hid (mV (s.bays.take i) b=ε):=aJ (by
        unfold mV;rw[any_some Wj AbK (by rw[HY.o];exact Ck g1.symm g2.symm g3.symm),pq Xh.o];rfl)
       clear g1 g2 g3;(go_wp2_with fail);go_quiet (fail);(go_wp2_with fail);go_ret;exact⟨aO (by rw[V.o,ι HC.o]),(D.trans H.o).drewN _⟩
      .have t3:((y.en:Int)==b.en)=ζ:=by simp;exact g3
       have HN:Hid (lC b (s.bays.getD k η)=ζ):=aJ (by rw[HY.o];exact qC (.inr (.inr (fun e=>g3 e.symm))));clear g1 g2 g3;(go_wp2_with fail);go_quiet (fail);go_wp2_with fail
       go_roundw
       case rel=>exact⟨k+1,aa,au,(fun j hj=>by
        by_cases e:j=k
        .rw[e];exact HN.o
        .exact HZ.o j aa),H.drewN _⟩
       case measure=>simp[intOf];omega
     .have t2:((y.obj:Int)==b.obj)=ζ:=by simp;exact g2
      have HN:Hid (lC b (s.bays.getD k η)=ζ):=aJ (by rw[HY.o];exact qC (.inr (.inl (fun e=>g2 e.symm))));clear g1 g2;(go_wp2_with fail);go_quiet (fail);go_wp2_with fail
      go_roundw
      case rel=>exact⟨k+1,aa,au,(fun j hj=>by
       by_cases e:j=k
       .rw[e];exact HN.o
       .exact HZ.o j aa),H.drewN _⟩
      case measure=>simp[intOf];omega
    .have t1:((y.kind:Int)==b.kind)=ζ:=by simp;exact g1
     have HN:Hid (lC b (s.bays.getD k η)=ζ):=aJ (by rw[HY.o];exact qC (.inl (fun e=>g1 e.symm)));clear g1;(go_wp2_with fail);go_quiet (fail);go_wp2_with fail
     go_roundw
     case rel=>exact⟨k+1,aa,au,(fun j hj=>by
      by_cases e:j=k
      .rw[e];exact HN.o
      .exact HZ.o j aa),H.drewN _⟩
     case measure=>simp[intOf];omega
   .obtain rfl:i=k:=aa;have HC:Hid (su s i=gL n0 b):=aJ (by rw[V.o,θ (by unfold mV;rw[ER AbK HZ.o];simp)]);(go_wp2_with fail);refine(vH nm A0 n0 c0 A1 n1 c1 A2 n2 c2 _ n3 c3 b h.A h.n h.c _ (R.ext (D.trans H.o))).mono ?_;rintro e w3 ⟨rfl,F⟩;(go_wp2_with fail);go_ret;exact⟨aO HC.symm,(D.trans H.o).trans F⟩
def wM(nm){A0 n0 c0 A1 n1 c1 A2 n2 c2 A3 n3 c3 L s}(w)(hs:kY w A0 n0 c0 A1 n1 c1 A2 n2 c2 A3 n3 c3 L s)(b l g q n)(hb:b<=n0)(Z:l<=n1)(j:g<=n2)(hq:q<=n3)(hn:b+l+g+q=n):
  Calls prog 65 #[stV nm A0 n0 c0 A1 n1 c1 A2 n2 c2 A3 n3 c3,.int .i64 (b:Int),.int .i64 (l:Int),.int .i64 (g:Int),.int .i64 (q:Int)] w
   fun e w'=>∃A c,e=.returned (.slice A n c)/\Strs w' A n (nms s b l g q)/\Ext w w':=by
 subst hn;exact Jl nm w hs b l g q hb Z j hq
def Strs.getD{w A n k}{l:List ByteArray}(h:Strs w A n l)(B:k<n):∃R,A=γ R/\R.block<w.heap.size/\w.cell? (R.add k)=γ (.string (l.getD k η)):=by
 obtain⟨R,x,e,hb,j,hc⟩:=h.at_ B;refine⟨R,e,hb,?_⟩;rw[φ,j];exact hc
theorem Pj{s}(j:fT s.name=ε)(l:rZ s=ε):chk s=(if dJ (uR s) s.buses.length=0 then
    if dJ (lu s) s.lines.length=0 then
     if dJ (tQ s) s.srcs.length=0 then dJ (uZ s) s.bays.length
     else dJ (tQ s) s.srcs.length
    else dJ (lu s) s.lines.length
   else dJ (uR s) s.buses.length):=by
 unfold chk;rw[ι j,ι l]
theorem TE{s}(h:fT s.name=ζ):chk s=7:=by unfold chk;rw[θ (by rw[h];decide)]
theorem TB{s}(j:fT s.name=ε)(l:rZ s=ζ):chk s=3:=by unfold chk;rw[ι j,θ (by rw[l];decide)]
theorem FC{A0 n0 c0 A1 n1 c1 A2 n2 c2 A3 n3 c3 L s}(w)(hs:kY w A0 n0 c0 A1 n1 c1 A2 n2 c2 A3 n3 c3 L s):
  CE 31 #[stV s.name A0 n0 c0 A1 n1 c1 A2 n2 c2 A3 n3 c3] w (.int .i64 (chk s)):=by
 have Q:∀w:World,Calls prog 63 #[.string s.name] w fun e w'=>e=.returned (.bool (fT s.name))/\w=w':=fun w=>(Cy s.name w).mono (fun e w' N=>⟨N.1,N.2.symm⟩);have Wl:s.buses.length=n0:=hs.buses.len;have S:=hs.l1;have T:=hs.l2;have Wx:=hs.l3;have Wp:=hs.mx;obtain⟨m0,m1,m2,m3⟩:=Wp;have HS:=aJ hs;clear hs;have Wz:=aJ Wl;have F:=aJ S;have Wm:=aJ T;have Z:=aJ Wx;unfold stV;cases hn:fT s.name
 .have V:Hid (chk s=7):=aJ (TE hn);clear Wl S T Wx;go_enter aen,adA;(go_wp2_with (first|(go_at_call 63;refine(Q _).mono ?_;rintro e w1 ⟨rfl,rfl⟩)));go_ret;exact⟨aO V.symm,Ext.new _ _⟩
 cases hc:rZ s
 .have V:Hid (chk s=3):=aJ (TB hn hc);have WI:¬(1<=n0/\n0<=4/\n1<=6/\n2<=4/\n3<=16):=by
   exact AcR
  clear Wl S T Wx hc;have HC:=aJ WI;clear WI;by_cases U:n0<1
  .have d0:decide ((n0:Int)<1)=ε:=ae;clear U;exact Aan
  have d0:decide ((n0:Int)<1)=ζ:=ae;by_cases t1:4<n0
  .have d1:decide ((4:Int)<(n0:Int))=ε:=ae;clear t1;exact Aan
  have d1:decide ((4:Int)<(n0:Int))=ζ:=ae;by_cases t2:6<n1
  .have d2:decide ((6:Int)<(n1:Int))=ε:=ae;clear t2;exact Aan
  have d2:decide ((6:Int)<(n1:Int))=ζ:=ae;by_cases t3:4<n2
  .have d3:decide ((4:Int)<(n2:Int))=ε:=ae;clear t3;exact Aan
  have d3:decide ((4:Int)<(n2:Int))=ζ:=ae;by_cases t4:16<n3
  .have d4:decide ((16:Int)<(n3:Int))=ε:=ae;clear t4;exact Aan
  exact Ac7
 have V:=aJ (Pj hn hc);have WH:1<=n0/\n0<=4/\n1<=6/\n2<=4/\n3<=16:=by
  unfold rZ at hc;rw[Wl,S,T,Wx] at hc;simp at hc;omega
 obtain⟨g0,B,g1,g2,g3⟩:=WH;clear hc;rw[Wl,S,T,Wx] at V;clear Wl S T Wx;have d0:decide ((n0:Int)<1)=ζ:=ae;have d1:decide ((4:Int)<(n0:Int))=ζ:=ae;have d2:decide ((6:Int)<(n1:Int))=ζ:=ae;have d3:decide ((4:Int)<(n2:Int))=ζ:=ae;have d4:decide ((16:Int)<(n3:Int))=ζ:=ae;obtain⟨-,B1⟩:=an1 w 27 #[.string s.name,.slice A0 n0 c0,.slice A1 n1 c1,.slice A2 n2 c2,.slice A3 n3 c3];have G:=aJ B1;clear B1;have D:Hid (Ext w (w.alloc (.cells #[.string s.name,.slice A0 n0 c0,.slice A1 n1 c1,.slice A2 n2 c2,.slice A3 n3 c3] 27))):=aJ (Ext.new _ _);go_enter aen,adA;(go_wp2_with (first|(go_at_call 63;refine(Q _).mono ?_;rintro e w1 ⟨rfl,rfl⟩)));go_quiet (fail);(go_wp2_with fail);clear d0 d1 d2 d3 d4 Q;have H:Hid (Ext (w.alloc (.cells #[.string s.name,.slice A0 n0 c0,.slice A1 n1 c1,.slice A2 n2 c2,.slice A3 n3 c3] 27)) ((w.alloc (.cells #[.string s.name,.slice A0 n0 c0,.slice A1 n1 c1,.slice A2 n2 c2,.slice A3 n3 c3] 27)).drewN nq)):=aJ ((Ext.refl _).drewN _);go_loopw [7] (fun i wr=>∃k:Nat,k<=n0/\i=.int .i64 (k:Int)/\(∀j,j<k->uR s j=0)/\Ext (w.alloc (.cells #[.string s.name,.slice A0 n0 c0,.slice A1 n1 c1,.slice A2 n2 c2,.slice A3 n3 c3] 27)) wr) (fun i _=>n0-(intOf i).toNat)
 case atStart=>exact⟨0,aa,rfl,by intros;omega,H.o⟩
 case round=>
  clear H;obtain⟨k,hk,rfl,hz,hx⟩:=hrel;have WJ:=aJ hz;have H:=aJ hx;have WX:w.heap.size<wr.heap.size:=by have:=hx.size;simp at this;omega
  have C:=(G.ext hx).cell;clear hz hx;by_cases Wj:k<n0
  .have hd:decide (k<n0)=ε:=ae;have l:=aJ (HS.ext (D.trans H.o));obtain⟨R,hA,hb,e0⟩:=l.buses.getD Wj;have O:Hid (uR s k=dU (nms s k 0 0 0) (s.buses.getD k η)):=aJ rfl;generalize s.buses.getD k η=x at e0 O;subst hA;generalize Wo:dU (nms s k 0 0 0) x=ne at O;have WM:=aJ Wo;clear Wo;have Y1:=aK.blk (G.ext H.o);have Y2:=fun x:aK wr=>aK.cell e0 x;(go_wp2_with fail);refine bQ 9 [(ε,0),(ε,1),(ε,3),(ε,4),(ε,5),(ε,6),(ε,7),(ζ,2),(ζ,8)] ah ah ?_;refine aV [0,1,3,4,5,6,7] [(ζ,2),(ζ,8)] _ ah ?_;simp only[cZ,aZ,ξ,ο];(repeat (go_big_quiet_step (fail)));refine τ ?_;refine aT 2 [(ζ,8)] ah ?_;intro K J;simp only[aZ];(go_wp2_with fail);refine(wM s.name _ (l.ext ((Ext.refl wr).drew)) k 0 0 0 k (show k<=n0 by omega) (Ex _) (Ex _) (Ex _) rfl).mono ?_;rintro e w2 ⟨A,c,rfl,hr,hx⟩;have I:=aJ hr;have P:=((Ext.refl wr).drew).trans hx;have W:=aJ P;clear hx hr;(go_wp2_with fail);refine J _ _ ⟨⟨w2,P⟩,rfl⟩ ?_;clear J K P;refine aT 8 [] ah ?_;intro K J;simp only[aZ];(go_wp2_with fail);refine(rA x _ _ _ _ _ I.o aa).mono ?_;rintro e w3 ⟨rfl,rfl⟩;rw[WM.o];(go_wp2_with fail);refine J _ _ ⟨⟨w2,W.o⟩,rfl⟩ ?_;clear J K Y1 Y2;simp only[bT,ρ,χ];have C:=(G.ext (H.trans W.o)).cell;by_cases WV:ne=0
   rotate_left
   .have q0:((ne:Int) !=0)=ε:=by simp;exact WV
    have q1:((ne:Int)==0)=ζ:=by simp;exact WV
    have Y:Hid (uR s k=ne):=O;have HV:=aJ WV;clear WV;(go_wp2_with fail);go_ret;exact⟨aO (by
     have h:=dB WJ.o Y.o HV.o Wj;rw[V.o];skip
     first|exact h|(rw[θ AbQ];exact h)),(D.trans H.o).trans W.o⟩
   subst WV;have Y:Hid (uR s k=0):=O;go_wp2_with fail
   go_roundw
   case rel=>exact⟨k+1,aa,au,fP WJ.o Y.o,H.trans W.o⟩
   case measure=>simp[intOf];omega
  .obtain rfl:n0=k:=aa;clear Wj WX C;go_wp2_with fail
   go_loopw [9] (fun i wr=>∃k:Nat,k<=n1/\i=.int .i64 (k:Int)/\(∀j,j<k->lu s j=0)/\Ext (w.alloc (.cells #[.string s.name,.slice A0 n0 c0,.slice A1 n1 c1,.slice A2 n2 c2,.slice A3 n3 c3] 27)) wr) (fun i _=>n1-(intOf i).toNat)
   case atStart=>exact⟨0,aa,rfl,by intros;omega,H.o⟩
   case round=>
    clear H;obtain⟨k,hk,rfl,hz,hx⟩:=hrel;have WK:=aJ hz;have H:=aJ hx;have WX:w.heap.size<wr.heap.size:=by have:=hx.size;simp at this;omega
    have C:=(G.ext hx).cell;clear hz hx;by_cases Wj:k<n1
    .have hd:decide (k<n1)=ε:=ae;have l:=aJ (HS.ext (D.trans H.o));obtain⟨lb,lo,hA,hb,hc⟩:=l.lines.at_ Wj;have e0:wr.cell? ⟨lb,lo+k*5,δ⟩=γ (.string (s.lines.getD k η).name):=hc 0 _ rfl;have e1:wr.cell? ⟨lb,lo+k*5+1,δ⟩=γ (.int .i64 (s.lines.getD k η).z1.r):=hc 1 _ rfl;have e2:wr.cell? ⟨lb,lo+k*5+2,δ⟩=γ (.int .i64 (s.lines.getD k η).z1.x):=hc 2 _ rfl;have e3:wr.cell? ⟨lb,lo+k*5+3,δ⟩=γ (.int .i64 (s.lines.getD k η).z0.r):=hc 3 _ rfl;have e4:wr.cell? ⟨lb,lo+k*5+4,δ⟩=γ (.int .i64 (s.lines.getD k η).z0.x):=hc 4 _ rfl;clear hc;have O:Hid (lu s k=if dU (nms s n0 k 0 0) (s.lines.getD k η).name=0 then (if (okZ (s.lines.getD k η).z1&&okZ (s.lines.getD k η).z0)=ε then 0 else 2) else dU (nms s n0 k 0 0) (s.lines.getD k η).name):=aJ (by rw[<-Wz.o];rfl);generalize s.lines.getD k η=x at e0 e1 e2 e3 e4 O;subst hA;generalize Wo:dU (nms s n0 k 0 0) x.name=ne at O;have WM:=aJ Wo;clear Wo;have Y1:=aK.blk (G.ext H.o);have Y2:=fun x:aK wr=>aK.cell e0 x;(go_wp2_with fail);refine bQ 11 [(ε,0),(ε,1),(ε,2),(ε,4),(ε,5),(ε,6),(ε,7),(ε,8),(ε,9),(ζ,3),(ζ,10)] ah ah ?_;refine aV [0,1,2,4,5,6,7,8,9] [(ζ,3),(ζ,10)] _ ah ?_;simp only[cZ,aZ,ξ,ο];(repeat (go_big_quiet_step (fail)));refine τ ?_;refine aT 3 [(ζ,10)] ah ?_;intro K J;simp only[aZ];(go_wp2_with fail);refine(wM s.name _ (l.ext ((Ext.refl wr).drew)) n0 k 0 0 (n0+k) (κ _) (show k<=n1 by omega) (Ex _) (Ex _) rfl).mono ?_;rintro e w2 ⟨A,c,rfl,hr,hx⟩;have I:=aJ hr;have P:=((Ext.refl wr).drew).trans hx;have W:=aJ P;clear hx hr;(go_wp2_with fail);refine J _ _ ⟨⟨w2,P⟩,rfl⟩ ?_;clear J K P;refine aT 10 [] ah ?_;intro K J;simp only[aZ];(go_wp2_with fail);refine(rA x.name _ _ _ _ _ I.o aa).mono ?_;rintro e w3 ⟨rfl,rfl⟩;rw[WM.o];(go_wp2_with fail);refine J _ _ ⟨⟨w2,W.o⟩,rfl⟩ ?_;clear J K Y1 Y2;simp only[bT,ρ,χ];have C:=(G.ext (H.trans W.o)).cell;by_cases WV:ne=0
     rotate_left
     .have q0:((ne:Int) !=0)=ε:=by simp;exact WV
      have q1:((ne:Int)==0)=ζ:=by simp;exact WV
      have Y:Hid (lu s k=ne):=aJ (by rw[O.o,θ WV]);have HV:=aJ WV;clear WV;(go_wp2_with fail);go_ret;exact⟨aO (by
       have h:=dB WK.o Y.o HV.o Wj;rw[V.o];rw[ι (dh WJ.o)]
       first|exact h|(rw[θ AbQ];exact h)),(D.trans H.o).trans W.o⟩
     subst WV;generalize Wt:okZ x.z1=z1 at O;generalize WG:okZ x.z0=z0 at O;have Wn:=aJ Wt;have M:=aJ WG;clear Wt WG;have Ww:lb<w2.heap.size:=π hb W.size;have XW:w.heap.size<w2.heap.size:=π WX W.size;replace e0:=W.cell_ e0;replace e1:=W.cell_ e1;replace e2:=W.cell_ e2;replace e3:=W.cell_ e3;replace e4:=W.cell_ e4;cases z1
     .have Y:Hid (lu s k=2):=aJ Acs;have HV:Hid ((2:Int)≠0):=aJ aj;(go_wp2_with fail);refine(bK x.z1 _).mono ?_;rintro e w4 ⟨rfl,rfl⟩;rw[Wn.o];(go_wp2_with fail);go_ret;exact⟨aO (by
       have h:=dB WK.o Y.o HV.o Wj;rw[V.o];rw[ι (dh WJ.o)]
       first|exact h|(rw[θ AbQ];exact h)),(D.trans H.o).trans (W.alloc _)⟩
     cases z0
     .have Y:Hid (lu s k=2):=aJ Acs;have HV:Hid ((2:Int)≠0):=aJ aj;(go_wp2_with fail);refine(bK x.z1 _).mono ?_;rintro e w4 ⟨rfl,rfl⟩;rw[Wn.o];(go_wp2_with fail);refine(bK x.z0 _).mono ?_;rintro e w5 ⟨rfl,rfl⟩;rw[M.o];(go_wp2_with fail);go_ret;exact⟨aO (by
       have h:=dB WK.o Y.o HV.o Wj;rw[V.o];rw[ι (dh WJ.o)]
       first|exact h|(rw[θ AbQ];exact h)),(D.trans H.o).trans ((W.alloc _).alloc _)⟩
     have Y:Hid (lu s k=0):=aJ Acs;(go_wp2_with fail);refine(bK x.z1 _).mono ?_;rintro e w4 ⟨rfl,rfl⟩;rw[Wn.o];(go_wp2_with fail);refine(bK x.z0 _).mono ?_;rintro e w5 ⟨rfl,rfl⟩;rw[M.o];go_wp2_with fail
     go_roundw
     case rel=>exact⟨k+1,aa,au,fP WK.o Y.o,H.trans ((W.alloc _).alloc _)⟩
     case measure=>simp[intOf];omega
    .obtain rfl:n1=k:=aa;clear Wj WX C;go_wp2_with fail
     go_loopw [11] (fun i wr=>∃k:Nat,k<=n2/\i=.int .i64 (k:Int)/\(∀j,j<k->tQ s j=0)/\Ext (w.alloc (.cells #[.string s.name,.slice A0 n0 c0,.slice A1 n1 c1,.slice A2 n2 c2,.slice A3 n3 c3] 27)) wr) (fun i _=>n2-(intOf i).toNat)
     case atStart=>exact⟨0,aa,rfl,by intros;omega,H.o⟩
     case round=>
      clear H;obtain⟨k,hk,rfl,hz,hx⟩:=hrel;have WY:=aJ hz;have H:=aJ hx;have WX:w.heap.size<wr.heap.size:=by have:=hx.size;simp at this;omega
      have C:=(G.ext hx).cell;clear hz hx;by_cases Wj:k<n2
      .have hd:decide (k<n2)=ε:=ae;have l:=aJ (HS.ext (D.trans H.o));obtain⟨lb,lo,hA,hb,hc⟩:=l.srcs.at_ Wj;have e0:wr.cell? ⟨lb,lo+k*6,δ⟩=γ (.string (s.srcs.getD k η).name):=hc 0 _ rfl;have e1:wr.cell? ⟨lb,lo+k*6+1,δ⟩=γ (.int .i64 (s.srcs.getD k η).emf):=hc 1 _ rfl;have e2:wr.cell? ⟨lb,lo+k*6+2,δ⟩=γ (.int .i64 (s.srcs.getD k η).z1.r):=hc 2 _ rfl;have e3:wr.cell? ⟨lb,lo+k*6+3,δ⟩=γ (.int .i64 (s.srcs.getD k η).z1.x):=hc 3 _ rfl;have e4:wr.cell? ⟨lb,lo+k*6+4,δ⟩=γ (.int .i64 (s.srcs.getD k η).z0.r):=hc 4 _ rfl;have e5:wr.cell? ⟨lb,lo+k*6+5,δ⟩=γ (.int .i64 (s.srcs.getD k η).z0.x):=hc 5 _ rfl;clear hc;have O:Hid (tQ s k=if dU (nms s n0 n1 k 0) (s.srcs.getD k η).name=0 then (if jE (s.srcs.getD k η)=ε then 0 else 2) else dU (nms s n0 n1 k 0) (s.srcs.getD k η).name):=aJ (by rw[<-Wz.o,<-F.o];rfl);generalize s.srcs.getD k η=x at e0 e1 e2 e3 e4 e5 O;subst hA;generalize Wo:dU (nms s n0 n1 k 0) x.name=ne at O;have WM:=aJ Wo;clear Wo;have Y1:=aK.blk (G.ext H.o);have Y2:=fun x:aK wr=>aK.cell e0 x;(go_wp2_with fail);refine bQ 12 [(ε,0),(ε,1),(ε,2),(ε,3),(ε,5),(ε,6),(ε,7),(ε,8),(ε,9),(ε,10),(ζ,4),(ζ,11)] ah ah ?_;refine aV [0,1,2,3,5,6,7,8,9,10] [(ζ,4),(ζ,11)] _ ah ?_;simp only[cZ,aZ,ξ,ο];(repeat (go_big_quiet_step (fail)));refine τ ?_;refine aT 4 [(ζ,11)] ah ?_;intro K J;simp only[aZ];(go_wp2_with fail);refine(wM s.name _ (l.ext ((Ext.refl wr).drew)) n0 n1 k 0 (n0+n1+k) (κ _) (κ _) (show k<=n2 by omega) (Ex _) rfl).mono ?_;rintro e w2 ⟨A,c,rfl,hr,hx⟩;have I:=aJ hr;have P:=((Ext.refl wr).drew).trans hx;have W:=aJ P;clear hx hr;(go_wp2_with fail);refine J _ _ ⟨⟨w2,P⟩,rfl⟩ ?_;clear J K P;refine aT 11 [] ah ?_;intro K J;simp only[aZ];(go_wp2_with fail);refine(rA x.name _ _ _ _ _ I.o aa).mono ?_;rintro e w3 ⟨rfl,rfl⟩;rw[WM.o];(go_wp2_with fail);refine J _ _ ⟨⟨w2,W.o⟩,rfl⟩ ?_;clear J K Y1 Y2;simp only[bT,ρ,χ];have C:=(G.ext (H.trans W.o)).cell;by_cases WV:ne=0
       rotate_left
       .have q0:((ne:Int) !=0)=ε:=by simp;exact WV
        have q1:((ne:Int)==0)=ζ:=by simp;exact WV
        have Y:Hid (tQ s k=ne):=aJ (by rw[O.o,θ WV]);have HV:=aJ WV;clear WV;(go_wp2_with fail);go_ret;exact⟨aO (by
         have h:=dB WY.o Y.o HV.o Wj;rw[V.o];rw[ι (dh WJ.o)];rw[ι (dh WK.o)]
         first|exact h|(rw[θ AbQ];exact h)),(D.trans H.o).trans W.o⟩
       subst WV;generalize Wt:jE x=z1 at O;have Wn:=aJ Wt;clear Wt;have Ww:lb<w2.heap.size:=π hb W.size;have XW:w.heap.size<w2.heap.size:=π WX W.size;replace e0:=W.cell_ e0;replace e1:=W.cell_ e1;replace e2:=W.cell_ e2;replace e3:=W.cell_ e3;replace e4:=W.cell_ e4;replace e5:=W.cell_ e5;cases z1
       .have Y:Hid (tQ s k=2):=aJ Acs;have HV:Hid ((2:Int)≠0):=aJ aj;(go_wp2_with fail);refine(yw x _).mono ?_;rintro e w4 ⟨rfl,hx⟩;have WL:=aJ (W.trans hx);clear hx;rw[Wn.o];(go_wp2_with fail);go_ret;exact⟨aO (by
         have h:=dB WY.o Y.o HV.o Wj;rw[V.o];rw[ι (dh WJ.o)];rw[ι (dh WK.o)]
         first|exact h|(rw[θ AbQ];exact h)),(D.trans H.o).trans WL.o⟩
       have Y:Hid (tQ s k=0):=aJ Acs;(go_wp2_with fail);refine(yw x _).mono ?_;rintro e w4 ⟨rfl,hx⟩;have WL:=aJ (W.trans hx);clear hx;rw[Wn.o];go_wp2_with fail
       go_roundw
       case rel=>exact⟨k+1,aa,au,fP WY.o Y.o,H.trans WL.o⟩
       case measure=>simp[intOf];omega
      .obtain rfl:n2=k:=aa;clear Wj WX C;go_wp2_with fail
       go_loopw [13] (fun i wr=>∃k:Nat,k<=n3/\i=.int .i64 (k:Int)/\(∀j,j<k->uZ s j=0)/\Ext (w.alloc (.cells #[.string s.name,.slice A0 n0 c0,.slice A1 n1 c1,.slice A2 n2 c2,.slice A3 n3 c3] 27)) wr) (fun i _=>n3-(intOf i).toNat)
       case atStart=>exact⟨0,aa,rfl,by intros;omega,H.o⟩
       case round=>
        clear H;obtain⟨k,hk,rfl,hz,hx⟩:=hrel;have WN:=aJ hz;have H:=aJ hx;have WX:w.heap.size<wr.heap.size:=by have:=hx.size;simp at this;omega
        have C:=(G.ext hx).cell;clear hz hx;by_cases Wj:k<n3
        .have hd:decide (k<n3)=ε:=ae;have l:=aJ (HS.ext (D.trans H.o));obtain⟨lb,lo,hA,hb,hc⟩:=l.bays.at_ Wj;have e0:wr.cell? ⟨lb,lo+k*12,δ⟩=γ (.string (s.bays.getD k η).name):=hc 0 _ rfl;clear hc;have O:Hid (uZ s k=if dU (nms s n0 n1 n2 k) (s.bays.getD k η).name=0 then su s k else dU (nms s n0 n1 n2 k) (s.bays.getD k η).name):=aJ (by rw[<-Wz.o,<-F.o,<-Wm.o];rfl);generalize s.bays.getD k η=x at e0 O;subst hA;generalize Wo:dU (nms s n0 n1 n2 k) x.name=ne at O;have WM:=aJ Wo;clear Wo;have Y1:=aK.blk (G.ext H.o);have Y2:=fun x:aK wr=>aK.cell e0 x;(go_wp2_with fail);refine bQ 13 [(ε,0),(ε,1),(ε,2),(ε,3),(ε,4),(ε,6),(ε,7),(ε,8),(ε,9),(ε,10),(ε,11),(ζ,5),(ζ,12)] ah ah ?_;refine aV [0,1,2,3,4,6,7,8,9,10,11] [(ζ,5),(ζ,12)] _ ah ?_;simp only[cZ,aZ,ξ,ο];(repeat (go_big_quiet_step (fail)));refine τ ?_;refine aT 5 [(ζ,12)] ah ?_;intro K J;simp only[aZ];(go_wp2_with fail);refine(wM s.name _ (l.ext ((Ext.refl wr).drew)) n0 n1 n2 k (n0+n1+n2+k) (κ _) (κ _) (κ _) (show k<=n3 by omega) rfl).mono ?_;rintro e w2 ⟨A,c,rfl,hr,hx⟩;have I:=aJ hr;have P:=((Ext.refl wr).drew).trans hx;have W:=aJ P;clear hx hr;(go_wp2_with fail);refine J _ _ ⟨⟨w2,P⟩,rfl⟩ ?_;clear J K P;refine aT 12 [] ah ?_;intro K J;simp only[aZ];(go_wp2_with fail);refine(rA x.name _ _ _ _ _ I.o aa).mono ?_;rintro e w3 ⟨rfl,rfl⟩;rw[WM.o];(go_wp2_with fail);refine J _ _ ⟨⟨w2,W.o⟩,rfl⟩ ?_;clear J K Y1 Y2;simp only[bT,ρ,χ];have C:=(G.ext (H.trans W.o)).cell;by_cases WV:ne=0
         rotate_left
         .have q0:((ne:Int) !=0)=ε:=by simp;exact WV
          have q1:((ne:Int)==0)=ζ:=by simp;exact WV
          have Y:Hid (uZ s k=ne):=aJ (by rw[O.o,θ WV]);have HV:=aJ WV;clear WV;(go_wp2_with fail);go_ret;exact⟨aO (by
           have h:=dB WN.o Y.o HV.o Wj;rw[V.o];rw[ι (dh WJ.o)];rw[ι (dh WK.o)];rw[ι (dh WY.o)]
           first|exact h|(rw[θ AbQ];exact h)),(D.trans H.o).trans W.o⟩
         subst WV;generalize Wt:su s k=be at O;have Wn:=aJ Wt;clear Wt;by_cases WE:be=0
         .subst WE;have Y:Hid (uZ s k=0):=aJ Acs;(go_wp2_with fail);refine(EW s.name _ (l.ext W.o) k Wj).mono ?_;rintro e w4 ⟨rfl,hx⟩;have WL:=aJ (W.trans hx);clear hx;rw[Wn.o];go_wp2_with fail
          go_roundw
          case rel=>exact⟨k+1,aa,au,fP WN.o Y.o,H.trans WL.o⟩
          case measure=>simp[intOf];omega
         .have q0:((be:Int) !=0)=ε:=by simp;exact WE
          have Y:Hid (uZ s k=be):=aJ Acs;have HV:=aJ WE;clear WE;(go_wp2_with fail);refine(EW s.name _ (l.ext W.o) k Wj).mono ?_;rintro e w4 ⟨rfl,hx⟩;have WL:=aJ (W.trans hx);clear hx;rw[Wn.o];(go_wp2_with fail);go_ret;exact⟨aO (by
           have h:=dB WN.o Y.o HV.o Wj;rw[V.o];rw[ι (dh WJ.o)];rw[ι (dh WK.o)];rw[ι (dh WY.o)]
           first|exact h|(rw[θ AbQ];exact h)),(D.trans H.o).trans WL.o⟩
        .obtain rfl:n3=k:=aa;clear Wj WX C;(go_wp2_with fail);go_ret;exact⟨aO (by rw[V.o,ι (dh WJ.o),ι (dh WK.o),ι (dh WY.o),dh WN.o]),D.trans H.o⟩
def Nam (w:World) (M n:Nat) (l:List ByteArray):Prop:=
 ∃D:DataW Unit,w.ownsMap prog 9 (plainElem prog 4) M n D/\Maps.IsMap D/\∀s:ByteArray,s.size<=maxLen->D.atKey (.string s.data.toList) (.lit (.bool ζ))=.lit (.bool (uD s l))
def zO:Maps.Keyed prog 9:=Maps.string_keyed ac5
def Qo{s}(hs:s.size<=maxLen):keyOf prog 9 (.string s)=γ (.string s.data.toList):=WideMaps.keyOf_string_mk ac5 hs
def CP(s x):∀l:List ByteArray,uD s (l++[x])=(uD s l||decide (x=s))
 |[]=>by simp[uD]
 |y::l=>by
  show(decide (y=s)||uD s (l++[x]))=(decide (y=s)||uD s l||decide (x=s));rw[CP s x l,Bool.or_assoc]
theorem vw{H:Type}{P e}(U:P.underlying e=γ .bool){v}{z:DataW H×List MemPlace}(h:plainElem P e v=γ z):∃x,v=.bool x/\z=(.lit (.bool x),[]):=by
 unfold plainElem at h;rw[U] at h;cases v<;>simp at h
 exact⟨_,rfl,h.symm⟩
section
variable {w w':World} {M n:Nat} {l:List ByteArray}
def OT(w:World):Nam (w.alloc (.map #[] 0)) w.heap.size 0 []:=
 ⟨_,World.ownsMap_made w _ _ _,⟨_,rfl⟩,fun s _=>rfl⟩
def Nam.ext(h:Nam w M n l)(x:Ext w w'):Nam w' M n l:=by
 obtain⟨D,B,C,G⟩:=h;have Z:=B.lt;obtain⟨F,j,hb,r⟩:=B;exact⟨D,⟨F,j,(x.block M Z).trans hb,r⟩,C,G⟩
def Nam.lt(h:Nam w M n l):M<w.heap.size:=by obtain⟨D,j,_⟩:=h;exact j.lt
def Nam.look(h:Nam w M n l)(s)(hs:s.size<=maxLen):(Instr.lookup 183 (.map (γ M)) (.string s) ζ).run prog w=.ok (.bool (uD s l)) w:=by
 obtain⟨D,C,_,F⟩:=h;obtain⟨v,ps,B,hv⟩:=C.lookup zO abu (by kernel_rfl:(zeroValue 4).run prog w=.ok (.bool ζ) w) (ab5 aaV ζ) (Qo hs);rw[B];rw[F s hs] at hv;obtain⟨x,rfl,j⟩:=vw aaV hv;simp only[Prod.mk.injEq,DataW.lit.injEq,Lit.bool.injEq] at j;rw[j.1]
def Nam.put{D:DataW Unit}(F:w.ownsMap prog 9 (plainElem prog 4) M n D)(j:Maps.IsMap D)(C:∀s:ByteArray,s.size<=maxLen->D.atKey (.string s.data.toList) (.lit (.bool ζ))=.lit (.bool (uD s l))){x}(B:w'.ownsMap prog 9 (plainElem prog 4) M (n+1) (D.put (.string x.data.toList) (.lit (.bool ε)))):Nam w' M (n+1) (l++[x]):=by
 refine⟨_,B,?_,fun s hs=> ?_⟩
 .obtain⟨G,rfl⟩:=j;exact⟨_,rfl⟩
 .rw[CP];by_cases e:x=s
  .subst e;rw[Maps.atKey_put_same j (by first|exact True.intro|simp[WideAt.IsKeyLit])];simp
  .rw[Maps.atKey_put_other (fun T=>e (by
    injection T with T;cases s with|mk a=>cases x with|mk b=>exact congrArg ByteArray.mk (Array.toList_inj.1 T.symm))),C s hs]
   simp[e]
end
def lZ{S w w' base e size n v xs}(h:w.ownsRow base e size v n xs)(m:Mod S w w')(hs:∀g,v.ownBlock=γ g->¬S g):w'.ownsRow base e size v n xs:=by
 refine⟨h.1,?_⟩;rcases h.2 with hn|⟨g,F,cur,hv,hb,l,j⟩
 .exact .inl hn
 .subst hv;exact .inr ⟨g,F,cur,rfl,hb,(m.block g (abd.1 l).1 (hs g rfl)).trans l,j⟩
def Mod.grown{S w w' row}(h:w.grownBy w' row)(hs:∀g,row=γ g->S g):Mod S w w':=
 ⟨h.os,h.tape,h.output,h.size,fun k j hn=>h.block k j (fun e=>hn (hs k e.symm))⟩
def Mod.below{S w w' B}(h:Mod S w w')(hs:∀k,S k->B<=k)(O:B<=w.heap.size):Below B w w':=
 ⟨h.os,h.tape,h.output,h.size,fun k j=>h.block k (π j O) (fun e=>by have:=hs k e;omega)⟩
def Nam.mod{S w w' M n}{l:List ByteArray}(h:Nam w M n l)(m:Mod S w w')(hs:¬S M):Nam w' M n l:=by
 have Z:=h.lt;obtain⟨D,⟨C,j,hb,r⟩,B,F⟩:=h;exact⟨D,⟨C,j,(m.block M Z hs).trans hb,r⟩,B,F⟩
structure BSt (w:World) (M B:Nat) (l:List ByteArray) (m0 m1 m2:Nat) (bs:List (gJ×Hd)):Prop where
 ord:M<B
 nm:Nam w M l.length l
 rows:∃v0 v1 v2 v3,Blk w B 185 #[.string ByteArray.empty,v0,v1,v2,v3,.map (γ M)]/\(∃xs,w.ownsRow (B+1) 9 1 v0 m0 xs)/\(∃xs,w.ownsRow (B+1) 63 5 v1 m1 xs)/\
  (∃xs,w.ownsRow (B+1) 83 6 v2 m2 xs)/\w.ownsRow (B+1) 57 12 v3 bs.length (bs.flatMap fun x=>ja x.1 x.2)
section
variable {w w':World} {M B m0 m1 m2:Nat} {l:List ByteArray} {bs:List (gJ×Hd)}
def BSt.ext(h:BSt w M B l m0 m1 m2 bs)(x:Ext w w'):BSt w' M B l m0 m1 m2 bs:=by
 obtain⟨J,G,v0,v1,I,F,hb,⟨j,C⟩,⟨K,L⟩,⟨N,D⟩,H⟩:=h;exact⟨J,G.ext x,v0,v1,I,F,hb.ext x,⟨j,fE C x⟩,⟨K,fE L x⟩,⟨N,fE D x⟩,fE H x⟩
end
def zy(w):Calls prog 71 #[] w fun e w'=>e=.returned (.pointer (γ ⟨w.heap.size+1,0,δ⟩))/\BSt w' w.heap.size (w.heap.size+1) [] 0 0 0 []/\Ext w w':=by
 have j:= @run_makeMap prog;go_enter func71,ntmps71;go_wp2;go_ret;refine⟨rfl,⟨aaI _,(OT w).ext (Ext.new _ _),_,_,_,_,aeE _ _ ag,⟨_,aaA _ _ _ _⟩,⟨_,aaA _ _ _ _⟩,⟨_,aaA _ _ _ _⟩,aaA _ _ _ _⟩,(Ext.new _ _).trans (Ext.new _ _)⟩
theorem iH{w M B m0 m1 m2}{l:List ByteArray}{bs:List (gJ×Hd)}(h:BSt w M B l m0 m1 m2 bs)(s):
  Calls prog 114 #[.pointer (γ ⟨B,0,δ⟩),.string s] w fun e w'=>e=.returned (.int .i64 (dU l s))/\w=w':=by
 have Q:∀w:World,Calls prog 70 #[.string s] w fun e w'=>e=.returned (.bool (fT s))/\w=w':=fun w=>(Hq s w).mono (fun e w' N=>⟨N.1,N.2.symm⟩);cases hn:fT s
 .have I:Hid (dU l s=7):=aJ (by simp[dU,hn]);go_enter func114,ntmps114;(go_wp2_with (first|(go_at_call 70;refine(Q _).mono ?_;rintro e w1 ⟨rfl,rfl⟩)));go_ret;exact⟨aO I.symm,rfl⟩
 .have j:s.size<=maxLen:=by
   have:=hn;simp only[fT,υ,Θ] at this;unfold maxLen;omega
  obtain⟨_,D,v0,v1,H,G,hb,_⟩:=h;have C:=D.look s j;have kB:=hb.cell;have I:Hid (dU l s=if uD s l=ε then 8 else 0):=aJ (by simp only[dU,hn];rfl);clear D j;cases hi:uD s l
  all_goals
   rw[hi] at C;have F:=aJ hi;clear hi;go_enter func114,ntmps114;(go_wp2_with (first|(go_at_call 70;refine(Q _).mono ?_;rintro e w1 ⟨rfl,rfl⟩)));go_ret;exact⟨aO (by rw[I.o,F.o];rfl),rfl⟩
def iM{w w' M B e T size j n n' v K xs l}(R:w.ownsRow (B+1) e size v n xs)(H:w.ownsRow (B+1) T j K n' l)(D:e≠T)(N:M<B)(m:Mod (fun k=>k=M\/k=B\/K.ownBlock=γ k\/w.heap.size<=k) w w'):w'.ownsRow (B+1) e size v n xs:=by
 refine lZ R m fun g F=> ?_;have G:=R.lt g F;rintro(h|h|h|h)
 .omega
 .omega
 .rcases yx R H D with C|C
  .rw[F] at C;cases C
  .exact C (F.trans h.symm)
 .omega
def step_mod{w w2 j:World}{M B}{o:Obj}{v:Value}{i u}(R:w.grownBy w2 (γ M))(L:(w2.alloc o).grownBy j v.ownBlock):
  Mod (fun k=>k=M\/k=B\/v.ownBlock=γ k\/w.heap.size<=k) w (j.setCell ⟨B,i,δ⟩ u):=
 ((((Mod.grown R (fun g e=> .inl (by injection e with e;exact e.symm))).trans (aeI (Ext.new _ _))).trans (Mod.grown L (fun g e=> .inr (.inr (.inl e))))).trans (Mod.only (Only.set _ _ _ _) (.inr (.inl rfl))))
def kv{w w' M B v e size n xs}(R:w.ownsRow (B+1) e size v n xs)(N:M<B)(O:B<w.heap.size)(m:Mod (fun k=>k=M\/k=B\/v.ownBlock=γ k\/w.heap.size<=k) w w'):Below M w w':=
 m.below (fun k h=>by
  rcases h with h|h|h|h
  .omega
  .omega
  .have:=(R.lt k h).1;omega
  .omega) aa
def oI{w2 j M B n}{o:Obj}{v i u}{l:List ByteArray}{e size k xs}(h:Nam w2 M n l)(R:w2.ownsRow (B+1) e size v k xs)(N:M<B)(L:(w2.alloc o).grownBy j v.ownBlock):
  Nam (j.setCell ⟨B,i,δ⟩ u) M n l:=
 h.mod (S:=fun k=>k=B\/v.ownBlock=γ k) (((aeI (Ext.new _ _)).trans (Mod.grown L (fun g e=> .inr e))).trans (Mod.only (Only.set _ _ _ _) (.inl rfl))) (by
  rintro(h|h)
  .omega
  .have:=(R.lt M h).1;omega)
theorem rY{s}(h:fT s=ε):s.size<=maxLen:=by
 simp only[fT,υ,Θ] at h;unfold maxLen;omega
theorem vY{l:List ByteArray}{s}(h:dU l s=0):fT s=ε:=by
 unfold dU at h;split at h
 .assumption
 .cases h
def QW{w M B m0 m1 m2}{l:List ByteArray}{bs:List (gJ×Hd)}(h:BSt w M B l m0 m1 m2 bs)(s)(Z:l.length<=1000)(J:m0<=1000):
  Calls prog 73 #[.pointer (γ ⟨B,0,δ⟩),.string s] w fun e w'=>e=.returned (.int .i64 (dU l s))/\Below M w w'/\(dU l s=0->BSt w' M B (l++[s]) (m0+1) m1 m2 bs):=by
 have HB:=aJ h;generalize U:dU l s=en;have HE:=aJ U;by_cases Q:en=0
 rotate_left
 .have q0:((en:Int) !=0)=ε:=by simp;exact Q
  have HN:=aJ Q;clear h U Q;go_enter func73,ntmps73;(go_wp2_with fail);refine(iH HB.o s).mono ?_;rintro e w1 ⟨rfl,rfl⟩;rw[HE.o];go_wp2;go_ret;exact⟨rfl,aci _ _,fun e=>absurd e HN.o⟩
 .subst Q;have V:=rY (vY U);obtain⟨N,hN,v0,v1,v2,v3,hb,⟨x0,r0⟩,⟨x1,r1⟩,⟨x2,r2⟩,r3⟩:=h;obtain⟨D,d1,d2,d3⟩:=hN;have kB:=hb.cell;have j:=hb.frozen;have Xa:=aJ hb;have H:=aJ r0;have R1:=aJ r1;have R2:=aJ r2;have R3:=aJ r3;have D1:=aJ d1;have D2:=aJ d2;have D3:=aJ d3;have I:=hb.lt;clear U hb r0 r1 r2 r3 d1 d2 d3;go_enter func73,ntmps73;(go_wp2_with fail);refine(iH HB.o s).mono ?_;rintro e w1 ⟨rfl,rfl⟩;rw[HE.o];(go_wp2_with (first|(at_mapUpdate;refine abN _ rfl _ _ _ 183 rfl 9 4 zO abu (plainElem prog 4) M l.length D rfl D1.o Ads _ _ (.string s.data.toList) rfl rfl (Qo V) (.lit (.bool ε)) [] (ab5 aaV ε) ?_)));intro w2 T R;have C:=dW R Xa.o AcY;have r2:w2.ownsRow (B+1) 9 1 v0 m0 x0:=H.kept R (.inr (fun e=>by have:=(H.lt M e).1;omega));have XW:=R.size;have RR:=aJ r2;have G2:=aJ R;have WV:=aJ T;have k2:=C.cell;have f2:=C.frozen;have Wq:=aJ C;clear C r2 R T kB j;have Wu:B<w2.heap.size:=aa;(go_wp2_with (at_builtin;refine gK sU rfl (.tmp 22) (.tmp 24) rfl (B+1) _ m0 _ rf (RR.alloc _) w2.heap.size 1 1 [.string s] rf (Blk.new _ _ _) rfl AcI aa aa aa Adj ?_));intro g F w3 K L G W;have O:=dW L (Wq.alloc _) (ig RR.o (aaI _));have k3:=O.cell;have f3:=O.frozen;have Ww:=O.lt;have Wm:=aJ O;have G3:=aJ L;have P:=aJ K;clear O L K G W k2 f2;go_wp2;go_ret;have J:=step_mod (B:=B) (i:=1) (u:=.slice (γ ⟨g,0,δ⟩) (m0+1) F) G2.o G3.o;refine⟨rfl,kv H.o N I J,fun _=>⟨N,?_,_,_,_,_,Wm.qg 1 _,⟨_,lZ P.o (Mod.only (S:=fun k=>k=B) (Only.set _ _ _ _) rfl) (fun g' Y=>by have:=(P.lt g' Y).1;omega)⟩,⟨_,iM R1.o H.o aj N J⟩,⟨_,iM R2.o H.o aj N J⟩,iM R3.o H.o aj N J⟩⟩;have hn:=oI (B:=B) (i:=1) (u:=.slice (γ ⟨g,0,δ⟩) (m0+1) F) (Nam.put D1.o D2.o D3.o WV.o) RR.o N G3.o;simpa using hn
structure mM (w:World) (bs:List Nat) where
 val:World
 kept:∀b∈bs,val.heap[b]? =w.heap[b]?
instance (w:World) (bs:List Nat):Nonempty (mM w bs):=⟨⟨w,fun _ _=>rfl⟩⟩
def mM.blk{w bs g t cs}(h:Blk w g t cs)(j:g∈bs)(x:mM w bs)(i):x.val.cell? ⟨g,i,δ⟩=cs[i]? :=
 (show Blk x.val g t cs from (x.kept g j).trans h).cell i
def mP{P:Program}{Q L a}{w:World}{l:List Oper}(n f S)(F post:List (Bool×Nat))(T:P.follows .mixedOrders=ε)(O:(Region.noSelect l.toArray&&Region.sinkB .any l.toArray n&&Region.chainB .any l.toArray n&&decide (n<l.length)&&decide (F.length+(post.length+1)=n)&&sK l.toArray n f post F (Array.replicate l.length ζ))=ε)(hS:S w.drew)(h:kF P l.toArray S (fun a' w'=>wpList P l.toArray Q (l.drop n) a' w') f post F a w.drew):(Code.region L l.toArray ε).wp P Q a w:=by
 simp only[υ,Θ] at O;obtain⟨⟨⟨⟨⟨C,hs⟩,hc⟩,hn⟩,V⟩,D⟩:=O;have K:n<l.toArray.size:=by simpa using hn
 have G:HeadInv .any l.toArray n (Array.replicate l.length ζ):=
  ⟨ag,fun j I _ Z=>AaJ,fun t _ R=>ade (by simpa using R) (aaK _ _)⟩
 have H:=kR (P:=P) C hs hc K F _ a w.drew G D hS h;have J:(l.drop n).length=l.toArray.size-n:=ag;have M:=mh (P:=P) (Q:=Q) (n:=n) (g:=l.toArray.size-n) (fun B a' w' N=>by
  have:=ab3 (P:=P) (ops:=l.toArray) (md:=.any) (Q':=Q) (l.drop n) n B a' w' (fun j=>ag) (by rw[J];exact N.1) N.2;rwa[J] at this) _ _ _ _ H
 exact AbW
def TH (l:sj):Value:=.agg #[.string l.name,.int .i64 l.z1.r,.int .i64 l.z1.x,.int .i64 l.z0.r,.int .i64 l.z0.x]
def CW:Elem prog 23 63 5 48:=aeU underlying23 (z:=.agg #[.string ByteArray.empty,.int .i64 0,.int .i64 0,.int .i64 0,.int .i64 0]) ah rfl aa
def GZ:Elem prog 24 83 6 56:=aeU underlying24 (z:=.agg #[.string ByteArray.empty,.int .i64 0,.int .i64 0,.int .i64 0,.int .i64 0,.int .i64 0]) ah rfl aa
theorem Qc{w M B m0 m1 m2}{l:List ByteArray}{bs:List (gJ×Hd)}(h:BSt w M B l m0 m1 m2 bs)(x)(Z:l.length<=1000)(hm:m1<=1000):
  Calls prog 75 #[.pointer (γ ⟨B,0,δ⟩),TH x] w fun e w'=>e=.returned (.int .i64 (if dU l x.name=0 then (if (okZ x.z1&&okZ x.z0)=ε then 0 else 2) else dU l x.name))/\Below M w w'/\((if dU l x.name=0 then (if (okZ x.z1&&okZ x.z0)=ε then 0 else 2) else dU l x.name)=0->BSt w' M B (l++[x.name]) m0 (m1+1) m2 bs):=by
 have HB:=aJ (h.ext (Ext.new w (.cells #[.string x.name,.int .i64 x.z1.r,.int .i64 x.z1.x,.int .i64 x.z0.r,.int .i64 x.z0.x] 63)));generalize hr:(if dU l x.name=0 then (if (okZ x.z1&&okZ x.z0)=ε then 0 else 2) else dU l x.name)=en;have HE:=aJ hr;clear hr;generalize U:dU l x.name=ne at HE;have WM:=aJ U;have N:=h.ord;have Xi:B<w.heap.size:=by obtain⟨_,_,_,_,_,_,hb,_⟩:=h;exact hb.lt
 have WW:Hid (Below M w (w.alloc (.cells #[.string x.name,.int .i64 x.z1.r,.int .i64 x.z1.x,.int .i64 x.z0.r,.int .i64 x.z0.x] 63))):=aJ ((Ext.new _ _).mono aa);obtain⟨-,Xk⟩:=an1 w 63 #[.string x.name,.int .i64 x.z1.r,.int .i64 x.z1.x,.int .i64 x.z0.r,.int .i64 x.z0.x];have WP:=aJ Xk;clear Xk;unfold TH;by_cases h0:ne=0
 rotate_left
 .have q0:((ne:Int) !=0)=ε:=by simp;exact h0
  have V:Hid (en=ne):=aJ (by rw[<-HE.o,θ h0]);have HN:=aJ h0;clear h U h0;go_enter adb,ac6;exact Adn
 subst h0;have WE:=rY (vY U);have V:Hid (en=if (okZ x.z1&&okZ x.z0)=ε then 0 else 2):=aJ Adv;clear U HE;cases H:okZ x.z1
 .have C:=aJ H;clear H;have HV:Hid (en=2):=aJ (by rw[V.o,C.o];rfl);clear h;go_enter adb,ac6;(go_wp2_with fail);refine(iH HB.o x.name).mono ?_;rintro e w1 ⟨rfl,rfl⟩;rw[WM.o];exact Adc
 cases WG:okZ x.z0
 .have C:=aJ H;have WJ:=aJ WG;clear H WG;have HV:Hid (en=2):=aJ (by rw[V.o,C.o,WJ.o];rfl);clear h;go_enter adb,ac6;(go_wp2_with fail);refine(iH HB.o x.name).mono ?_;rintro e w1 ⟨rfl,rfl⟩;rw[WM.o];exact Acd
 have C:=aJ H;have WJ:=aJ WG;clear H WG;have HV:Hid (en=0):=aJ (by rw[V.o,C.o,WJ.o];rfl);have j:Ext w (((w.alloc (.cells #[.string x.name,.int .i64 x.z1.r,.int .i64 x.z1.x,.int .i64 x.z0.r,.int .i64 x.z0.x] 63)).alloc (.cells #[.int .i64 x.z1.r,.int .i64 x.z1.x] 54)).alloc (.cells #[.int .i64 x.z0.r,.int .i64 x.z0.x] 54)):=(Ext.new _ _).trans (show Ext (w.alloc (.cells #[.string x.name,.int .i64 x.z1.r,.int .i64 x.z1.x,.int .i64 x.z0.r,.int .i64 x.z0.x] 63)) (((w.alloc (.cells #[.string x.name,.int .i64 x.z1.r,.int .i64 x.z1.x,.int .i64 x.z0.r,.int .i64 x.z0.x] 63)).alloc (.cells #[.int .i64 x.z1.r,.int .i64 x.z1.x] 54)).alloc (.cells #[.int .i64 x.z0.r,.int .i64 x.z0.x] 54)) from ((Ext.new _ _).alloc _));have WS:Hid (Below M w (((w.alloc (.cells #[.string x.name,.int .i64 x.z1.r,.int .i64 x.z1.x,.int .i64 x.z0.r,.int .i64 x.z0.x] 63)).alloc (.cells #[.int .i64 x.z1.r,.int .i64 x.z1.x] 54)).alloc (.cells #[.int .i64 x.z0.r,.int .i64 x.z0.x] 54))):=aJ (j.mono aa);have WU:=aJ (WP.ext (show Ext (w.alloc (.cells #[.string x.name,.int .i64 x.z1.r,.int .i64 x.z1.x,.int .i64 x.z0.r,.int .i64 x.z0.x] 63)) (((w.alloc (.cells #[.string x.name,.int .i64 x.z1.r,.int .i64 x.z1.x,.int .i64 x.z0.r,.int .i64 x.z0.x] 63)).alloc (.cells #[.int .i64 x.z1.r,.int .i64 x.z1.x] 54)).alloc (.cells #[.int .i64 x.z0.r,.int .i64 x.z0.x] 54)) from ((Ext.new _ _).alloc _)));obtain⟨_,hN,v0,v1,v2,v3,hb,⟨x0,r0⟩,⟨x1,r1⟩,⟨x2,r2⟩,r3⟩:=h;have WQ:Hid (∀g,v1.ownBlock=γ g->g<w.heap.size):=aJ (fun g e=>(r1.lt g e).2);replace hN:=hN.ext j;replace hb:=hb.ext j;replace r0:=fE r0 j;replace r1:=fE r1 j;replace r2:=fE r2 j;replace r3:=fE r3 j;obtain⟨D,d1,d2,d3⟩:=hN;have Xa:=aJ hb;have R0:=aJ r0;have R1:=aJ r1;have R2:=aJ r2;have R3:=aJ r3;have D1:=aJ d1;have D2:=aJ d2;have D3:=aJ d3;have Wp:=hb.lt;have Y1:=aK.blk hb;have Y2:=aK.blk WU.o;clear hb r0 r1 r2 r3 d1 d2 d3;go_enter adb,ac6;(go_wp2_with fail);refine(iH HB.o x.name).mono ?_;rintro e w1 ⟨rfl,rfl⟩;rw[WM.o];(go_wp2_with fail);refine(bP x.z1 _).mono ?_;rintro e w1 ⟨rfl,rfl⟩;rw[C.o];(go_wp2_with fail);refine(bP x.z0 _).mono ?_;rintro e w1 ⟨rfl,rfl⟩;rw[WJ.o];(go_wp2_with fail);refine bQ 6 [(ε,0),(ε,4),(ε,5),(ζ,1),(ε,2),(ε,3)] ah ah ?_;refine aV [0,4,5] [(ζ,1),(ε,2),(ε,3)] _ ah ?_;simp only[cZ,aZ,ξ,ο];(repeat (go_big_quiet_step (fail)));refine τ ?_;refine aT 1 [(ε,2),(ε,3)] ah ?_;intro K J;simp only[aZ];(go_wp2_with fail);refine J _ _ ⟨⟨_,(Ext.refl _).drew⟩,rfl⟩ ?_;clear J K;refine aV [2,3] [] _ ah ?_;simp only[cZ,aZ,ξ,ο];(repeat (go_big_quiet_step (fail)));refine τ ?_;simp only[bT,ρ,χ];clear Y1 Y2;(go_wp2_with (first|(at_mapUpdate;refine abN _ rfl _ _ _ 183 rfl 9 4 zO abu (plainElem prog 4) M l.length D rfl D1.drew Ads _ _ (.string x.name.data.toList) rfl rfl (Qo WE) (.lit (.bool ε)) [] (ab5 aaV ε) ?_)));intro w2 T R;have WB:=dW R (Xa.drew) AcY;have P:=dW R (WU.drew) AcY;have G2:Hid ((((w.alloc (.cells #[.string x.name,.int .i64 x.z1.r,.int .i64 x.z1.x,.int .i64 x.z0.r,.int .i64 x.z0.x] 63)).alloc (.cells #[.int .i64 x.z1.r,.int .i64 x.z1.x] 54)).alloc (.cells #[.int .i64 x.z0.r,.int .i64 x.z0.x] 54)).grownBy w2 (γ M)):=aJ ⟨R.os,R.tape,R.output,R.size,R.block⟩;have r2:w2.ownsRow (B+1) 63 5 v1 m1 x1:=R1.kept G2.o (.inr (fun e=>by have:=(R1.lt M e).1;omega));have RR:=aJ r2;have WV:=aJ T;have Wu:=WB.lt;have Q:=P.lt;have Y1:=fun(x:mM w2 [B,w.heap.size])=>x.blk WB ag;have Y2:=fun(x:mM w2 [B,w.heap.size])=>x.blk P ag;have Wq:=aJ WB;have W:=aJ P;clear WB P r2 T R;(go_wp2_with fail);refine mP 9 7 (fun w'=>∃x:mM w2 [B,w.heap.size],w'=x.val) [(ε,0),(ε,1),(ε,6),(ζ,2),(ε,3),(ε,4),(ε,5)] [(ζ,8)] ah ah ⟨⟨w2.drew,fun _ _=>rfl⟩,rfl⟩ ?_;refine gQ [0,1,6] [(ζ,2),(ε,3),(ε,4),(ε,5)] _ ah ?_;simp only[cZ,aZ,ξ,ο];(repeat (go_big_quiet_step (fail)));refine τ ?_;refine rJ 2 [(ε,3),(ε,4),(ε,5)] ah ah ?_ ?_
 .intro K J;simp only[aZ];(go_wp2_with fail);refine J _ _ ⟨⟨w2.drew,fun _ _=>rfl⟩,rfl⟩ ?_;clear J K;refine gQ [3,4,5] [] _ ah ?_;simp only[cZ,aZ,ξ,ο];(repeat (go_big_quiet_step (fail)));refine τ ?_;refine rR ah ?_;intro K J;simp only[aZ];(go_wp2_with fail);refine J _ _ ⟨⟨w2.drew.alloc (.cells #[.string x.name,.int .i64 x.z1.r,.int .i64 x.z1.x,.int .i64 x.z0.r,.int .i64 x.z0.x] 63),fun b hb=>aat _ _ b AbS⟩,rfl⟩ ?_;clear J K;refine aT 8 [] ah ?_;intro K J;simp only[aZ];(go_wp2_with (at_builtin;refine gK CW rfl (.tmp 34) (.tmp 36) rfl (B+1) _ m1 _ rf (aa3 (w:=w2.drew) RR.o _) w2.heap.size 1 1 [.string x.name,.int .i64 x.z1.r,.int .i64 x.z1.x,.int .i64 x.z0.r,.int .i64 x.z0.x] rf (Blk.new w2.drew _ _) rfl AcI aa aa aa Adj ?_));intro g F w3 WF L G Wj;have O:=dW L ((Wq.drew).alloc _) (ig RR.o (aaI _));have I:=dW L ((W.drew).alloc _) (fun e=>by have:=WQ.o _ e;omega);have k3:=O.cell;have f3:=O.frozen;have Ww:=O.lt;have Wm:=aJ O;have Wv:=aJ I;have G3:Hid ((w2.alloc (.cells #[.string x.name,.int .i64 x.z1.r,.int .i64 x.z1.x,.int .i64 x.z0.r,.int .i64 x.z0.x] 63)).grownBy w3 v1.ownBlock):=aJ ⟨L.os,L.tape,L.output,L.size,L.block⟩;have Ws:=aJ WF;clear O I L WF G Wj;(go_wp2_with fail);refine J _ _ ⟨⟨w3,fun b hb=>by
   simp at hb;rcases hb with rfl|rfl
   .exact(Wm.o).trans Wq.symm
   .exact(Wv.o).trans W.symm⟩,rfl⟩ ?_
  exact Aat
 .intro K J;simp only[aZ];(go_wp2_with fail);refine J _ _ ⟨⟨w2.drew.alloc (.cells #[.string x.name,.int .i64 x.z1.r,.int .i64 x.z1.x,.int .i64 x.z0.r,.int .i64 x.z0.x] 63),fun b hb=>aat _ _ b AbS⟩,rfl⟩ ?_;clear J K;show bT _ _ _ _ [(ζ,2),(ε,3),(ε,4),(ε,5),(ζ,8)] _ _;refine aT 2 [(ε,3),(ε,4),(ε,5),(ζ,8)] ah ?_;intro K J;simp only[aZ];(go_wp2_with fail);refine J _ _ ⟨⟨w2.drew.alloc (.cells #[.string x.name,.int .i64 x.z1.r,.int .i64 x.z1.x,.int .i64 x.z0.r,.int .i64 x.z0.x] 63),fun b hb=>aat _ _ b AbS⟩,rfl⟩ ?_;clear J K;refine aV [3,4,5] [(ζ,8)] _ ah ?_;simp only[cZ,aZ,ξ,ο];(repeat (go_big_quiet_step (fail)));refine τ ?_;refine aT 8 [] ah ?_;intro K J;simp only[aZ];(go_wp2_with (at_builtin;refine gK CW rfl (.tmp 34) (.tmp 36) rfl (B+1) _ m1 _ rf (aa3 (w:=w2.drew) RR.o _) w2.heap.size 1 1 [.string x.name,.int .i64 x.z1.r,.int .i64 x.z1.x,.int .i64 x.z0.r,.int .i64 x.z0.x] rf (Blk.new w2.drew _ _) rfl AcI aa aa aa Adj ?_));intro g F w3 WF L G Wj;have O:=dW L ((Wq.drew).alloc _) (ig RR.o (aaI _));have I:=dW L ((W.drew).alloc _) (fun e=>by have:=WQ.o _ e;omega);have k3:=O.cell;have f3:=O.frozen;have Ww:=O.lt;have Wm:=aJ O;have Wv:=aJ I;have G3:Hid ((w2.alloc (.cells #[.string x.name,.int .i64 x.z1.r,.int .i64 x.z1.x,.int .i64 x.z0.r,.int .i64 x.z0.x] 63)).grownBy w3 v1.ownBlock):=aJ ⟨L.os,L.tape,L.output,L.size,L.block⟩;have Ws:=aJ WF;clear O I L WF G Wj;(go_wp2_with fail);refine J _ _ ⟨⟨w3,fun b hb=>by
   simp at hb;rcases hb with rfl|rfl
   .exact(Wm.o).trans Wq.symm
   .exact(Wv.o).trans W.symm⟩,rfl⟩ ?_
  exact Aat
theorem I7{w M B m0 m1 m2}{l:List ByteArray}{bs:List (gJ×Hd)}(h:BSt w M B l m0 m1 m2 bs)(x)(Z:l.length<=1000)(hm:m2<=1000):
  Calls prog 77 #[.pointer (γ ⟨B,0,δ⟩),Rl x] w fun e w'=>e=.returned (.int .i64 (if dU l x.name=0 then (if jE x=ε then 0 else 2) else dU l x.name))/\Below M w w'/\((if dU l x.name=0 then (if jE x=ε then 0 else 2) else dU l x.name)=0->BSt w' M B (l++[x.name]) m0 m1 (m2+1) bs):=by
 have HB:=aJ (h.ext (Ext.new w (.cells #[.string x.name,.int .i64 x.emf,.int .i64 x.z1.r,.int .i64 x.z1.x,.int .i64 x.z0.r,.int .i64 x.z0.x] 83)));generalize hr:(if dU l x.name=0 then (if jE x=ε then 0 else 2) else dU l x.name)=en;have HE:=aJ hr;clear hr;generalize U:dU l x.name=ne at HE;have WM:=aJ U;have N:=h.ord;have Xi:B<w.heap.size:=by obtain⟨_,_,_,_,_,_,hb,_⟩:=h;exact hb.lt
 have WW:Hid (Below M w (w.alloc (.cells #[.string x.name,.int .i64 x.emf,.int .i64 x.z1.r,.int .i64 x.z1.x,.int .i64 x.z0.r,.int .i64 x.z0.x] 83))):=aJ ((Ext.new _ _).mono aa);obtain⟨-,Xk⟩:=an1 w 83 #[.string x.name,.int .i64 x.emf,.int .i64 x.z1.r,.int .i64 x.z1.x,.int .i64 x.z0.r,.int .i64 x.z0.x];have WP:=aJ Xk;clear Xk;unfold Rl;by_cases h0:ne=0
 rotate_left
 .have q0:((ne:Int) !=0)=ε:=by simp;exact h0
  have V:Hid (en=ne):=aJ (by rw[<-HE.o,θ h0]);have HN:=aJ h0;clear h U h0;go_enter acy,acm;exact Adn
 subst h0;have WE:=rY (vY U);have V:Hid (en=if jE x=ε then 0 else 2):=aJ Adv;clear U HE;cases H:btw x.emf 1 1000000
 .have G:=aJ H;clear H;have HV:Hid (en=2):=aJ (by rw[V.o];unfold jE;rw[G.o];rfl);clear h;go_enter acy,acm;(go_wp2_with fail);refine(iH HB.o x.name).mono ?_;rintro e w1 ⟨rfl,rfl⟩;rw[WM.o];(go_wp2_with fail);refine(dC _ _ _ _).mono ?_;rintro e w1 ⟨rfl,rfl⟩;rw[G.o];go_wp2;go_ret;exact⟨aO HV.symm,WW.o,fun e=>absurd (HV.symm.trans e) aj⟩
 cases Q:okZ x.z1
 .have G:=aJ H;have C:=aJ Q;clear H Q;have HV:Hid (en=2):=aJ (by rw[V.o];unfold jE;rw[G.o,C.o];rfl);clear h;go_enter acy,acm;(go_wp2_with fail);refine(iH HB.o x.name).mono ?_;rintro e w1 ⟨rfl,rfl⟩;rw[WM.o];(go_wp2_with fail);refine(dC _ _ _ _).mono ?_;rintro e w1 ⟨rfl,rfl⟩;rw[G.o];exact Adc
 cases WG:okZ x.z0
 .have G:=aJ H;have C:=aJ Q;have WJ:=aJ WG;clear H Q WG;have HV:Hid (en=2):=aJ (by rw[V.o];unfold jE;rw[G.o,C.o,WJ.o];rfl);clear h;go_enter acy,acm;(go_wp2_with fail);refine(iH HB.o x.name).mono ?_;rintro e w1 ⟨rfl,rfl⟩;rw[WM.o];(go_wp2_with fail);refine(dC _ _ _ _).mono ?_;rintro e w1 ⟨rfl,rfl⟩;rw[G.o];exact Acd
 have G:=aJ H;have C:=aJ Q;have WJ:=aJ WG;clear H Q WG;have HV:Hid (en=0):=aJ (by rw[V.o];unfold jE;rw[G.o,C.o,WJ.o];rfl);have j:Ext w (((w.alloc (.cells #[.string x.name,.int .i64 x.emf,.int .i64 x.z1.r,.int .i64 x.z1.x,.int .i64 x.z0.r,.int .i64 x.z0.x] 83)).alloc (.cells #[.int .i64 x.z1.r,.int .i64 x.z1.x] 54)).alloc (.cells #[.int .i64 x.z0.r,.int .i64 x.z0.x] 54)):=(Ext.new _ _).trans (show Ext (w.alloc (.cells #[.string x.name,.int .i64 x.emf,.int .i64 x.z1.r,.int .i64 x.z1.x,.int .i64 x.z0.r,.int .i64 x.z0.x] 83)) (((w.alloc (.cells #[.string x.name,.int .i64 x.emf,.int .i64 x.z1.r,.int .i64 x.z1.x,.int .i64 x.z0.r,.int .i64 x.z0.x] 83)).alloc (.cells #[.int .i64 x.z1.r,.int .i64 x.z1.x] 54)).alloc (.cells #[.int .i64 x.z0.r,.int .i64 x.z0.x] 54)) from ((Ext.new _ _).alloc _));have WS:Hid (Below M w (((w.alloc (.cells #[.string x.name,.int .i64 x.emf,.int .i64 x.z1.r,.int .i64 x.z1.x,.int .i64 x.z0.r,.int .i64 x.z0.x] 83)).alloc (.cells #[.int .i64 x.z1.r,.int .i64 x.z1.x] 54)).alloc (.cells #[.int .i64 x.z0.r,.int .i64 x.z0.x] 54))):=aJ (j.mono aa);have WU:=aJ (WP.ext (show Ext (w.alloc (.cells #[.string x.name,.int .i64 x.emf,.int .i64 x.z1.r,.int .i64 x.z1.x,.int .i64 x.z0.r,.int .i64 x.z0.x] 83)) (((w.alloc (.cells #[.string x.name,.int .i64 x.emf,.int .i64 x.z1.r,.int .i64 x.z1.x,.int .i64 x.z0.r,.int .i64 x.z0.x] 83)).alloc (.cells #[.int .i64 x.z1.r,.int .i64 x.z1.x] 54)).alloc (.cells #[.int .i64 x.z0.r,.int .i64 x.z0.x] 54)) from ((Ext.new _ _).alloc _)));obtain⟨_,hN,v0,v1,v2,v3,hb,⟨x0,r0⟩,⟨x1,r1⟩,⟨x2,r2⟩,r3⟩:=h;have WQ:Hid (∀g,v2.ownBlock=γ g->g<w.heap.size):=aJ (fun g e=>(r2.lt g e).2);replace hN:=hN.ext j;replace hb:=hb.ext j;replace r0:=fE r0 j;replace r1:=fE r1 j;replace r2:=fE r2 j;replace r3:=fE r3 j;obtain⟨D,d1,d2,d3⟩:=hN;have Xa:=aJ hb;have R0:=aJ r0;have R1:=aJ r1;have R2:=aJ r2;have R3:=aJ r3;have D1:=aJ d1;have D2:=aJ d2;have D3:=aJ d3;have Wp:=hb.lt;have Y1:=aK.blk hb;have Y2:=aK.blk WU.o;clear hb r0 r1 r2 r3 d1 d2 d3;go_enter acy,acm;(go_wp2_with fail);refine(iH HB.o x.name).mono ?_;rintro e w1 ⟨rfl,rfl⟩;rw[WM.o];(go_wp2_with fail);refine(dC _ _ _ _).mono ?_;rintro e w1 ⟨rfl,rfl⟩;rw[G.o];(go_wp2_with fail);refine(bP x.z1 _).mono ?_;rintro e w1 ⟨rfl,rfl⟩;rw[C.o];(go_wp2_with fail);refine(bP x.z0 _).mono ?_;rintro e w1 ⟨rfl,rfl⟩;rw[WJ.o];(go_wp2_with fail);refine bQ 6 [(ε,0),(ε,4),(ε,5),(ζ,1),(ε,2),(ε,3)] ah ah ?_;refine aV [0,4,5] [(ζ,1),(ε,2),(ε,3)] _ ah ?_;simp only[cZ,aZ,ξ,ο];(repeat (go_big_quiet_step (fail)));refine τ ?_;refine aT 1 [(ε,2),(ε,3)] ah ?_;intro K J;simp only[aZ];(go_wp2_with fail);refine J _ _ ⟨⟨_,(Ext.refl _).drew⟩,rfl⟩ ?_;clear J K;refine aV [2,3] [] _ ah ?_;simp only[cZ,aZ,ξ,ο];(repeat (go_big_quiet_step (fail)));refine τ ?_;simp only[bT,ρ,χ];clear Y1 Y2;(go_wp2_with (first|(at_mapUpdate;refine abN _ rfl _ _ _ 183 rfl 9 4 zO abu (plainElem prog 4) M l.length D rfl D1.drew Ads _ _ (.string x.name.data.toList) rfl rfl (Qo WE) (.lit (.bool ε)) [] (ab5 aaV ε) ?_)));intro w2 T R;have WB:=dW R (Xa.drew) AcY;have P:=dW R (WU.drew) AcY;have G2:Hid ((((w.alloc (.cells #[.string x.name,.int .i64 x.emf,.int .i64 x.z1.r,.int .i64 x.z1.x,.int .i64 x.z0.r,.int .i64 x.z0.x] 83)).alloc (.cells #[.int .i64 x.z1.r,.int .i64 x.z1.x] 54)).alloc (.cells #[.int .i64 x.z0.r,.int .i64 x.z0.x] 54)).grownBy w2 (γ M)):=aJ ⟨R.os,R.tape,R.output,R.size,R.block⟩;have r2:w2.ownsRow (B+1) 83 6 v2 m2 x2:=R2.kept G2.o (.inr (fun e=>by have:=(R2.lt M e).1;omega));have RR:=aJ r2;have WV:=aJ T;have Wu:=WB.lt;have WR:=P.lt;have Y1:=fun(x:mM w2 [B,w.heap.size])=>x.blk WB ag;have Y2:=fun(x:mM w2 [B,w.heap.size])=>x.blk P ag;have Wq:=aJ WB;have W:=aJ P;clear WB P r2 T R;(go_wp2_with fail);refine mP 9 7 (fun w'=>∃x:mM w2 [B,w.heap.size],w'=x.val) [(ε,0),(ε,1),(ε,6),(ζ,2),(ε,3),(ε,4),(ε,5)] [(ζ,8)] ah ah ⟨⟨w2.drew,fun _ _=>rfl⟩,rfl⟩ ?_;refine gQ [0,1,6] [(ζ,2),(ε,3),(ε,4),(ε,5)] _ ah ?_;simp only[cZ,aZ,ξ,ο];(repeat (go_big_quiet_step (fail)));refine τ ?_;refine rJ 2 [(ε,3),(ε,4),(ε,5)] ah ah ?_ ?_
 .intro K J;simp only[aZ];(go_wp2_with fail);refine J _ _ ⟨⟨w2.drew,fun _ _=>rfl⟩,rfl⟩ ?_;clear J K;refine gQ [3,4,5] [] _ ah ?_;simp only[cZ,aZ,ξ,ο];(repeat (go_big_quiet_step (fail)));refine τ ?_;refine rR ah ?_;intro K J;simp only[aZ];(go_wp2_with fail);refine J _ _ ⟨⟨w2.drew.alloc (.cells #[.string x.name,.int .i64 x.emf,.int .i64 x.z1.r,.int .i64 x.z1.x,.int .i64 x.z0.r,.int .i64 x.z0.x] 83),fun b hb=>aat _ _ b AbH⟩,rfl⟩ ?_;clear J K;refine aT 8 [] ah ?_;intro K J;simp only[aZ];(go_wp2_with (at_builtin;refine gK GZ rfl (.tmp 40) (.tmp 42) rfl (B+1) _ m2 _ rf (aa3 (w:=w2.drew) RR.o _) w2.heap.size 1 1 [.string x.name,.int .i64 x.emf,.int .i64 x.z1.r,.int .i64 x.z1.x,.int .i64 x.z0.r,.int .i64 x.z0.x] rf (Blk.new w2.drew _ _) rfl AcI aa aa aa Adj ?_));intro g F w3 WF L I Wj;have O:=dW L ((Wq.drew).alloc _) (ig RR.o (aaI _));have Wl:=dW L ((W.drew).alloc _) (fun e=>by have:=WQ.o _ e;omega);have k3:=O.cell;have f3:=O.frozen;have Ww:=O.lt;have Wm:=aJ O;have Wv:=aJ Wl;have G3:Hid ((w2.alloc (.cells #[.string x.name,.int .i64 x.emf,.int .i64 x.z1.r,.int .i64 x.z1.x,.int .i64 x.z0.r,.int .i64 x.z0.x] 83)).grownBy w3 v2.ownBlock):=aJ ⟨L.os,L.tape,L.output,L.size,L.block⟩;have Ws:=aJ WF;clear O Wl L WF I Wj;(go_wp2_with fail);refine J _ _ ⟨⟨w3,fun b hb=>by
   simp at hb;rcases hb with rfl|rfl
   .exact(Wm.o).trans Wq.symm
   .exact(Wv.o).trans W.symm⟩,rfl⟩ ?_
  exact Aau
 .intro K J;simp only[aZ];(go_wp2_with fail);refine J _ _ ⟨⟨w2.drew.alloc (.cells #[.string x.name,.int .i64 x.emf,.int .i64 x.z1.r,.int .i64 x.z1.x,.int .i64 x.z0.r,.int .i64 x.z0.x] 83),fun b hb=>aat _ _ b AbH⟩,rfl⟩ ?_;clear J K;show bT _ _ _ _ [(ζ,2),(ε,3),(ε,4),(ε,5),(ζ,8)] _ _;refine aT 2 [(ε,3),(ε,4),(ε,5),(ζ,8)] ah ?_;intro K J;simp only[aZ];(go_wp2_with fail);refine J _ _ ⟨⟨w2.drew.alloc (.cells #[.string x.name,.int .i64 x.emf,.int .i64 x.z1.r,.int .i64 x.z1.x,.int .i64 x.z0.r,.int .i64 x.z0.x] 83),fun b hb=>aat _ _ b AbH⟩,rfl⟩ ?_;clear J K;refine aV [3,4,5] [(ζ,8)] _ ah ?_;simp only[cZ,aZ,ξ,ο];(repeat (go_big_quiet_step (fail)));refine τ ?_;refine aT 8 [] ah ?_;intro K J;simp only[aZ];(go_wp2_with (at_builtin;refine gK GZ rfl (.tmp 40) (.tmp 42) rfl (B+1) _ m2 _ rf (aa3 (w:=w2.drew) RR.o _) w2.heap.size 1 1 [.string x.name,.int .i64 x.emf,.int .i64 x.z1.r,.int .i64 x.z1.x,.int .i64 x.z0.r,.int .i64 x.z0.x] rf (Blk.new w2.drew _ _) rfl AcI aa aa aa Adj ?_));intro g F w3 WF L I Wj;have O:=dW L ((Wq.drew).alloc _) (ig RR.o (aaI _));have Wl:=dW L ((W.drew).alloc _) (fun e=>by have:=WQ.o _ e;omega);have k3:=O.cell;have f3:=O.frozen;have Ww:=O.lt;have Wm:=aJ O;have Wv:=aJ Wl;have G3:Hid ((w2.alloc (.cells #[.string x.name,.int .i64 x.emf,.int .i64 x.z1.r,.int .i64 x.z1.x,.int .i64 x.z0.r,.int .i64 x.z0.x] 83)).grownBy w3 v2.ownBlock):=aJ ⟨L.os,L.tape,L.output,L.size,L.block⟩;have Ws:=aJ WF;clear O Wl L WF I Wj;(go_wp2_with fail);refine J _ _ ⟨⟨w3,fun b hb=>by
   simp at hb;rcases hb with rfl|rfl
   .exact(Wm.o).trans Wq.symm
   .exact(Wv.o).trans W.symm⟩,rfl⟩ ?_
  exact Aau
theorem Ib{w M B m0 m1 m2}{l:List ByteArray}{bs:List (gJ×Hd)}(h:BSt w M B l m0 m1 m2 bs)(b A n c)(hL:Lks w A n b.links)(hm:m0<=1000):
    CE 118 #[.pointer (γ ⟨B,0,δ⟩),yK b A n c] w (.int .i64 (gL m0 b)):=by
  have Z:=hL.1;have HL:=aJ hL;clear hL;have H:=aJ Z;clear Z;obtain⟨_,_,v0,v1,v2,v3,hb,⟨x0,r0⟩,_⟩:=h;obtain⟨A0,c0,rfl,_,_,_⟩:=iX r0;have Wp:=hb.lt;have Xa:=aJ hb;clear r0 hb;unfold yK;by_cases h1:n<1
  · have d1:decide ((n:Int)<1)=ε:=ae;have V:Hid (gL m0 b=3):=aJ (qM (Or.inl Adu));exact Ac1
  have d1:decide ((n:Int)<1)=ζ:=ae;by_cases h2:2<n
  · have d2:decide ((2:Int)<(n:Int))=ε:=ae;have V:Hid (gL m0 b=3):=aJ (qM (Or.inr (Or.inl Adu)));exact Ac1
  have d2:decide ((2:Int)<(n:Int))=ζ:=ae;by_cases h3:b.kind=3/\n≠2
  · obtain⟨hk,Xh⟩:=h3;have d3:((b.kind:Int)==3)=ε:=by simp[hk]
    have d4:((n:Int) !=2)=ε:=ae;have V:Hid (gL m0 b=3):=aJ (qM (Or.inr (Or.inr ⟨hk,by have:=H.o;omega⟩)));clear Xh hk;exact Ac1
  have V:Hid (gL m0 b=dJ (gT m0 b) n):=aJ (by
    have N:=H.o;have e:=CS (nb:=m0) (x:=b) aa aa (fun hk=>by
      by_cases e:n=2
      · omega
      · exact absurd (And.intro hk e) h3)
    rw[N] at e;exact e)
  have H3:=aJ h3;clear h3;have hd:(∃k3:Bool,((b.kind:Int)==3)=k3/\(k3=ε->((n:Int) !=2)=ζ)):=⟨_,rfl,fun h=>by
    have hk:b.kind=3:=by simpa using h
    have:=H3.o;simp;omega⟩
  obtain⟨k3,d3,d4⟩:=hd;cases k3
  (all_goals (first|(replace d4:=d4 rfl)|clear d4));all_goals
    obtain⟨E0,B3⟩:=an1 w 57 #[.string b.name,.int .i64 b.kind,.int .i64 b.obj,.int .i64 b.en,.int .i64 b.z.r,.int .i64 b.z.x,.slice A n c,.bool b.closed,.int .i64 b.ct,.int .i64 b.vt,.int .i64 b.sat,.int .i64 b.travel];have Wq:=aJ (Xa.ext E0);have Wm:=aJ B3;have D:=aJ E0;clear B3 E0;go_enter func118,ntmps118;go_wp2_with fail
    go_loopw [29] (fun i wr=>∃k:Nat,k<=n/\i=.int .i64 (k:Int)/\(∀j,j<k->gT m0 b j=0)/\Ext (w.alloc (.cells #[.string b.name,.int .i64 b.kind,.int .i64 b.obj,.int .i64 b.en,.int .i64 b.z.r,.int .i64 b.z.x,.slice A n c,.bool b.closed,.int .i64 b.ct,.int .i64 b.vt,.int .i64 b.sat,.int .i64 b.travel] 57)) wr) (fun i _=>n-(intOf i).toNat)
    case atStart=>exact⟨0,aa,rfl,by intros;omega,Ext.refl _⟩
    case round=>
      obtain⟨k,hk,rfl,hz,hx⟩:=hrel;have HZ:=aJ hz;have HX:=aJ hx;have WB:=Wq.ext hx;have O:=Wm.ext hx;have k2:=WB.cell;have k3:=O.cell;have Y:B<wr.heap.size:=WB.lt;have WX:w.heap.size<wr.heap.size:=O.lt;clear hz hx WB O;by_cases Wj:k<n
      · have hd:decide ((k:Int)<(n:Int))=ε:=ae;obtain⟨lb,lo,hA,hb,hc⟩:=(HL.ext (D.trans HX.o)).2.at_ Wj;subst hA;have e0:wr.cell? ⟨lb,lo+k*2,δ⟩=γ (.int .i64 (b.links.getD k η).bus):=hc 0 _ rfl;have e1:wr.cell? ⟨lb,lo+k*2+1,δ⟩=γ (.int .i64 (b.links.getD k η).pos):=hc 1 _ rfl;clear hc;have F:Hid (gT m0 b k=if btw (b.links.getD k η).bus 0 ((m0:Int)-1)=ε then
    (if (b.links.getD k η).pos≠1/\((b.links.getD k η).pos≠0\/b.kind=3) then 16
     else if 0<k/\(b.links.getD (k-1) η).bus=(b.links.getD k η).bus then 12 else 0)
  else 9):=aJ rfl
        generalize b.links.getD k η=lk at e0 e1 F;obtain⟨bus,pos⟩:=lk;dsimp only at e0 e1 F;have I:IntKind.i64.wrap ((m0:Int)-1)=(m0:Int)-1:=IntWalk.i64_in _ aa;by_cases WE:btw bus 0 ((m0:Int)-1)=ε
        rotate_left
        · have P:btw bus 0 ((m0:Int)-1)=ζ:=by simpa using WE
          have Q:=aJ P;clear P;have HE:Hid (gT m0 b k=9):=aJ (by rw[F.o,θ WE]);clear WE;have HW:=aJ (fun w:World=>(dC bus 0 ((m0:Int)-1) w).mono (fun e w1 N=>And.intro N.1 N.2.symm));rw[Q.o] at HW;exact Aak
        have HW:=aJ (fun w:World=>(dC bus 0 ((m0:Int)-1) w).mono (fun e w1 N=>And.intro N.1 N.2.symm));rw[WE] at HW;have C:Hid (¬(pos≠1/\(pos≠0\/b.kind=3))->gT m0 b k=if 0<k/\(b.links.getD (k-1) η).bus=bus then 12 else 0):=aJ (fun h=>by
          rw[F.o,ι WE,θ h])
        have L:Hid ((pos≠1/\(pos≠0\/b.kind=3))->gT m0 b k=16):=aJ (fun h=>by
          rw[F.o,ι WE,ι h])
        clear F WE;by_cases hp:pos=1
        · subst hp;by_cases WT:k=0
          · subst WT;rw[aa0,Nq] at e0 e1;have HE:Hid (gT m0 b 0=0):=aJ (by rw[C.o ag,θ aa]);exact AcJ
          · obtain rfl:k=1:=aa;obtain⟨K,G,hA,WF,hc⟩:=(HL.ext (D.trans HX.o)).2.at_ (show 0<n by omega);simp only[aaC,ace,ac2] at hA;obtain⟨rfl,rfl⟩:=hA;have f0:wr.cell? ⟨lb,lo,δ⟩=γ (.int .i64 (b.links.getD 0 η).bus):=by
              exact Adk
            clear hc;rw[show lo+1*2=lo+2 from rfl] at e0 e1;by_cases W:(b.links.getD 0 η).bus=bus
            · have HE:Hid (gT m0 b 1=12):=aJ (by rw[C.o ag,ι ⟨aa,W⟩]);exact Acc
            · have HE:Hid (gT m0 b 1=0):=aJ (by rw[C.o ag,θ (fun h=>W h.2)]);exact AbG
        by_cases J:pos=0
        · subst J;by_cases Wy:b.kind=3
          · first
            |(exfalso;simp[Wy] at d3;done)
            |
              skip;have HE:Hid (gT m0 b k=16):=aJ (L.o ⟨aj,Or.inr Wy⟩);exact Aak
          · first
            |(exfalso;simp at d3;exact Wy d3)
            |
              skip;by_cases WT:k=0
              · subst WT;rw[aa0,Nq] at e0 e1;have HE:Hid (gT m0 b 0=0):=aJ (by rw[C.o (by simp;exact Wy),θ aa]);exact AcJ
              · obtain rfl:k=1:=aa;obtain⟨K,G,hA,WF,hc⟩:=(HL.ext (D.trans HX.o)).2.at_ (show 0<n by omega);simp only[aaC,ace,ac2] at hA;obtain⟨rfl,rfl⟩:=hA;have f0:wr.cell? ⟨lb,lo,δ⟩=γ (.int .i64 (b.links.getD 0 η).bus):=by
                  exact Adk
                clear hc;rw[show lo+1*2=lo+2 from rfl] at e0 e1;by_cases W:(b.links.getD 0 η).bus=bus
                · have HE:Hid (gT m0 b 1=12):=aJ (by rw[C.o (by simp;exact Wy),ι ⟨aa,W⟩]);exact Acc
                · have HE:Hid (gT m0 b 1=0):=aJ (by rw[C.o (by simp;exact Wy),θ (fun h=>W h.2)]);exact AbG
        · have q6:((pos:Int)==1)=ζ:=by simp;exact hp
          have U:((pos:Int) !=1)=ε:=by simp;exact hp
          have S:((pos:Int)==0)=ζ:=by simp;exact J
          have R:((pos:Int) !=0)=ε:=by simp;exact J
          have HE:Hid (gT m0 b k=16):=aJ (L.o ⟨hp,Or.inl J⟩);clear hp J;exact Aak
      · obtain rfl:k=n:=aa;go_wp2;go_ret;exact⟨aO (by rw[V.o];exact(dh HZ.o).symm),D.trans HX.o⟩
def Gh:Elem prog 25 57 12 120:=aeU underlying25 (z:=.agg #[.string ByteArray.empty,.int .i64 0,.int .i64 0,.int .i64 0,.int .i64 0,.int .i64 0,.slice δ 0 0,.bool ζ,.int .i64 0,.int .i64 0,.int .i64 0,.int .i64 0]) ah rfl aa
def Da (l:List ByteArray) (m0 m1 m2:Nat) (bs:List (gJ×Hd)) (b:gJ):Int:=
 if dU l b.name=0 then (if jc m1 m2 b=0 then (if bZ b=ε then (if mV (bs.map Prod.fst) b=ε then 12 else gL m0 b) else 2) else jc m1 m2 b) else dU l b.name
def Q6(bs:List (gJ×Hd)){k t}(j:k<bs.length)(l:t<12):(bs.flatMap fun x=>ja x.1 x.2)[k*12+t]? =(ja (bs[k]).1 (bs[k]).2)[t]? :=by
 induction bs generalizing k with
 |nil=>simp at j
 |cons x bs ih=>
  rw[List.flatMap_cons];have Z:(ja x.1 x.2).length=12:=rfl;cases k with
  |zero=>
   rw[Ω (by rw[Z];omega)];simp
  |succ k=>
   rw[nG (by rw[Z];omega),Z,show(k+1)*12+t-12=k*12+t by omega];rw[ih (by simpa using j)];rfl
theorem Tn{w:World}{B n}{v:Value}{bs:List (gJ×Hd)}(h:w.ownsRow B 57 12 v n (bs.flatMap fun x=>ja x.1 x.2))(hn:n=bs.length){k}(C:k<bs.length):
  ∃g,v.ownBlock=γ g/\g<w.heap.size/\(∃c,v=.slice (γ ⟨g,0,δ⟩) n c)/\∀t u,t<12->(ja (bs[k]).1 (bs[k]).2)[t]? =γ u->w.cell? ⟨g,k*12+t,δ⟩=γ u:=by
 subst hn;rcases h.2 with ⟨_,D⟩|⟨g,F,cur,rfl,hb,l,_⟩
 .omega
 .refine⟨g,rfl,(abd.1 l).1,⟨F,rfl⟩,fun t u j N=> ?_⟩;have:=h.cells (g:=g) rfl (k*12+t) u ((Q6 bs C j).trans N);rwa[show(Addr.add ⟨g,0,δ⟩ (k*12+t))=⟨g,k*12+t,δ⟩ by unfold Addr.add;split<;>simp_all] at this
theorem SI{bs:List (gJ×Hd)}{b}(h:∀j (l:j<bs.length),lC b (bs[j]).1=ζ):mV (bs.map Prod.fst) b=ζ:=by
 unfold mV;have:(bs.map Prod.fst).any (lC b)=ζ:=by
  rw[List.any_eq_false];intro x C;obtain⟨y,B,rfl⟩:=aad.1 C;obtain⟨j,l,rfl⟩:=acv B;rw[h j l];decide
 rw[this,Bool.and_false]
theorem Oj{bs:List (gJ×Hd)}{b}(B:b.kind≠3){j}(l:j<bs.length)(h:lC b (bs[j]).1=ε):mV (bs.map Prod.fst) b=ε:=by
 unfold mV;have:(bs.map Prod.fst).any (lC b)=ε:=by
  rw[List.any_eq_true];exact⟨(bs[j]).1,aaP (abk l),h⟩
 rw[this,Bool.and_true,pq B]
theorem Sn{w M B m0 m1 m2}{l:List ByteArray}{bs:List (gJ×Hd)}(h:BSt w M B l m0 m1 m2 bs)(b hd)(hL:Lks w hd.A hd.n b.links)(Z:l.length<=1000)(hm:m0<=1000/\m1<=1000/\m2<=1000/\bs.length<=1000):
    Calls prog 79 #[.pointer (γ ⟨B,0,δ⟩),yK b hd.A hd.n hd.c] w fun e w'=>e=.returned (.int .i64 (Da l m0 m1 m2 bs b))/\Below M w w'/\(Da l m0 m1 m2 bs b=0->BSt w' M B (l++[b.name]) m0 m1 m2 (bs++[(b,hd)])):=by
  obtain⟨W9,Xb,WI,XM⟩:=hm;have HL:=aJ hL;clear hL;have H:=aJ h;have HB:=aJ (h.ext (Ext.new w (.cells #[.string b.name,.int .i64 b.kind,.int .i64 b.obj,.int .i64 b.en,.int .i64 b.z.r,.int .i64 b.z.x,.slice hd.A hd.n hd.c,.bool b.closed,.int .i64 b.ct,.int .i64 b.vt,.int .i64 b.sat,.int .i64 b.travel] 57)));generalize hr:Da l m0 m1 m2 bs b=en;unfold Da at hr;have HE:=aJ hr;clear hr;generalize U:dU l b.name=ne at HE;have WM:=aJ U;have N:=h.ord;obtain⟨_,_,v0,v1,v2,v3,hb,⟨x0,r0⟩,⟨x1,r1⟩,⟨x2,r2⟩,r3⟩:=h;obtain⟨A1,c1,rfl,_,_,_⟩:=iX r1;obtain⟨A2,c2,rfl,_,_,_⟩:=iX r2;have Xi:B<w.heap.size:=hb.lt;have Wz:=hb.ext (Ext.new w (.cells #[.string b.name,.int .i64 b.kind,.int .i64 b.obj,.int .i64 b.en,.int .i64 b.z.r,.int .i64 b.z.x,.slice hd.A hd.n hd.c,.bool b.closed,.int .i64 b.ct,.int .i64 b.vt,.int .i64 b.sat,.int .i64 b.travel] 57));have kB:=Wz.cell;have Xa:=aJ Wz;have R3:=aJ r3;have WW:Hid (Below M w (w.alloc (.cells #[.string b.name,.int .i64 b.kind,.int .i64 b.obj,.int .i64 b.en,.int .i64 b.z.r,.int .i64 b.z.x,.slice hd.A hd.n hd.c,.bool b.closed,.int .i64 b.ct,.int .i64 b.vt,.int .i64 b.sat,.int .i64 b.travel] 57))):=aJ ((Ext.new _ _).mono aa);have Wt:Hid (Ext w (w.alloc (.cells #[.string b.name,.int .i64 b.kind,.int .i64 b.obj,.int .i64 b.en,.int .i64 b.z.r,.int .i64 b.z.x,.slice hd.A hd.n hd.c,.bool b.closed,.int .i64 b.ct,.int .i64 b.vt,.int .i64 b.sat,.int .i64 b.travel] 57))):=aJ (Ext.new _ _);obtain⟨-,Xk⟩:=an1 w 57 #[.string b.name,.int .i64 b.kind,.int .i64 b.obj,.int .i64 b.en,.int .i64 b.z.r,.int .i64 b.z.x,.slice hd.A hd.n hd.c,.bool b.closed,.int .i64 b.ct,.int .i64 b.vt,.int .i64 b.sat,.int .i64 b.travel];have WP:=aJ Xk;clear Xk hb Wz r0 r1 r2 r3;unfold yK;have NM:=aJ (iH HB.o b.name);rw[WM.o] at NM;by_cases h0:ne=0
  rotate_left
  · have q0:((ne:Int) !=0)=ε:=by simp;exact h0
    have V:Hid (en=ne):=aJ (by rw[<-HE.o,θ h0]);have HN:=aJ h0;clear U h0;go_enter acz,acn;(go_wp2_with fail);refine NM.mono ?_;rintro e w1 ⟨rfl,rfl⟩;go_wp2;go_ret;exact⟨aO V.symm,WW.o,fun e=>absurd (V.symm.trans e) HN.o⟩
  subst h0;have WE:=rY (vY U);have V:Hid (en=(if jc m1 m2 b=0 then (if bZ b=ε then (if mV (bs.map Prod.fst) b=ε then 12 else gL m0 b) else 2) else jc m1 m2 b)):=aJ Adv;clear U HE;by_cases h1:b.kind=1\/b.kind=2\/b.kind=3
  rotate_left
  · have q1:((b.kind:Int)==1)=ζ:=ae;have q2:((b.kind:Int)==2)=ζ:=ae;have q3:((b.kind:Int)==3)=ζ:=ae;have ho:jc m1 m2 b=10:=by unfold jc;rw[θ aa,θ aa,θ aa]
    have HV:Hid (en=10):=aJ (by rw[V.o,ho];rfl);clear ho h1;go_enter acz,acn;(go_wp2_with fail);refine NM.mono ?_;exact Acp
  have Xj:∃(cnt:Nat) (C k2 k3:Bool),cnt<=1000/\((b.kind:Int)==1)=C/\((b.kind:Int)==2)=k2/\((b.kind:Int)==3)=k3/\((b.kind:Int) !=3)= !k3/\jc m1 m2 b=(if btw b.obj 0 ((cnt:Int)-1)=ε then 0 else 9)/\(k3=decide (b.kind=3))/\
      ((C=ε/\k3=ζ/\cnt=m1)\/(C=ζ/\k2=ε/\k3=ζ/\cnt=m2)\/(C=ζ/\k2=ζ/\k3=ε/\cnt=1)):=by
    rcases h1 with h1|h1|h1
    · exact⟨m1,ε,ζ,ζ,Xb,by simp[h1],by simp[h1],by simp[h1],by simp[h1],by unfold jc;rw[ι h1],by simp[h1],.inl ⟨rfl,rfl,rfl⟩⟩
    · exact⟨m2,ζ,ε,ζ,WI,by simp[h1],by simp[h1],by simp[h1],by simp[h1],by unfold jc;rw[θ aa,ι h1],by simp[h1],.inr (.inl ⟨rfl,rfl,rfl,rfl⟩)⟩
    · exact⟨1,ζ,ζ,ε,aa,by simp[h1],by simp[h1],by simp[h1],by simp[h1],by
        unfold jc;rw[θ aa,θ aa,ι h1];by_cases h0:b.obj=0
        · rw[ι h0,ι Ade]
        · rw[θ h0,θ Ade],by simp[h1],.inr (.inr ⟨rfl,rfl,rfl,rfl⟩)⟩
  obtain⟨cnt,C,k2,k3,Xu,q1,q2,q3,q4,ho,Wy,WH⟩:=Xj;clear h1;have HO:=aJ ho;clear ho;have HW:=aJ (fun w:World=>dC b.obj 0 ((cnt:Int)-1) w);have I:=aJ (fun w:World=>Im b hd.A hd.n hd.c w);generalize Wx:btw b.obj 0 ((cnt:Int)-1)=bo at HO HW;have Xh:=aJ Wy;clear Wy Wx;generalize WN:bZ b=rg at V I;clear WN;rcases WH with ⟨rfl,rfl,rfl⟩|⟨rfl,rfl,rfl,rfl⟩|⟨rfl,rfl,rfl,rfl⟩
  all_goals
    cases bo
    · have HV:Hid (en=9):=aJ (by rw[V.o,HO.o];rfl);go_enter acz,acn;(go_wp2_with fail);refine NM.mono ?_;rintro e w1 ⟨rfl,rfl⟩;(go_wp2_with fail);refine(HW.o _).mono ?_;exact Acp
    cases rg
    · have HV:Hid (en=2):=aJ (by rw[V.o,HO.o];rfl);go_enter acz,acn;(go_wp2_with fail);refine NM.mono ?_;rintro e w1 ⟨rfl,rfl⟩;(go_wp2_with fail);refine(HW.o _).mono ?_;rintro e w1 ⟨rfl,rfl⟩;(go_wp2_with fail);refine(I.o _).mono ?_;rintro e w2 ⟨rfl,hx⟩;have HX:=aJ hx;clear hx;go_wp2;go_ret;exact⟨aO HV.symm,WW.trans (HX.mono ae),fun e=>absurd (HV.symm.trans e) aj⟩
    have HV:Hid (en=if mV (bs.map Prod.fst) b=ε then 12 else gL m0 b):=aJ (by rw[V.o,HO.o];rfl);go_enter acz,acn;(go_wp2_with fail);refine NM.mono ?_;rintro e w1 ⟨rfl,rfl⟩;(go_wp2_with fail);refine(HW.o _).mono ?_;rintro e w1 ⟨rfl,rfl⟩;(go_wp2_with fail);refine(I.o _).mono ?_;rintro e w2 ⟨rfl,hx⟩;have HX:=aJ hx;have Xn:=(Xa.ext hx).cell;clear kB hx V HO HW I NM WM;obtain⟨A3,c3,Xg,_,_,_⟩:=iX R3.o;have Xf:=aJ Xg;rw[Xg] at Xn;clear Xg;(go_wp2_with fail);clear Xn;go_loopw [52] (fun i wr=>∃k:Nat,k<=bs.length/\i=.int .i64 (k:Int)/\(b.kind≠3->∀j (hj:j<bs.length),j<k->lC b (bs[j]).1=ζ)/\Ext (w.alloc (.cells #[.string b.name,.int .i64 b.kind,.int .i64 b.obj,.int .i64 b.en,.int .i64 b.z.r,.int .i64 b.z.x,.slice hd.A hd.n hd.c,.bool b.closed,.int .i64 b.ct,.int .i64 b.vt,.int .i64 b.sat,.int .i64 b.travel] 57)) wr) (fun i _=>bs.length-(intOf i).toNat)
    case atStart=>exact⟨0,aa,rfl,by intros;omega,HX.o⟩
    case round=>
      clear HX;obtain⟨k,hk,rfl,hz,hx⟩:=hrel;have HZ:=aJ hz;have HX:=aJ hx;have Xc:=WP.ext hx;have kX:=Xc.cell;have WX:w.heap.size<wr.heap.size:=Xc.lt;clear hz hx Xc;by_cases Wj:k<bs.length
      · have WO:decide (k<bs.length)=ε:=ae;obtain⟨g,Xl,R,⟨cc,L⟩,hc⟩:=Tn (fE R3.o (Wt.trans HX.o)) rfl Wj;rw[Xf.o] at L;injection L with X7 _ _;subst X7;have e0:wr.cell? ⟨g,k*12,δ⟩=γ (.string (bs[k]).1.name):=hc 0 _ aa rfl;have e1:wr.cell? ⟨g,k*12+1,δ⟩=γ (.int .i64 (bs[k]).1.kind):=hc 1 _ aa rfl;have e2:wr.cell? ⟨g,k*12+2,δ⟩=γ (.int .i64 (bs[k]).1.obj):=hc 2 _ aa rfl;have e3:wr.cell? ⟨g,k*12+3,δ⟩=γ (.int .i64 (bs[k]).1.en):=hc 3 _ aa rfl;have e4:wr.cell? ⟨g,k*12+4,δ⟩=γ (.int .i64 (bs[k]).1.z.r):=hc 4 _ aa rfl;have e5:wr.cell? ⟨g,k*12+5,δ⟩=γ (.int .i64 (bs[k]).1.z.x):=hc 5 _ aa rfl;have e6:wr.cell? ⟨g,k*12+6,δ⟩=γ (.slice (bs[k]).2.A (bs[k]).2.n (bs[k]).2.c):=hc 6 _ aa rfl;have e7:wr.cell? ⟨g,k*12+7,δ⟩=γ (.bool (bs[k]).1.closed):=hc 7 _ aa rfl;have e8:wr.cell? ⟨g,k*12+8,δ⟩=γ (.int .i64 (bs[k]).1.ct):=hc 8 _ aa rfl;have e9:wr.cell? ⟨g,k*12+9,δ⟩=γ (.int .i64 (bs[k]).1.vt):=hc 9 _ aa rfl;have WA:wr.cell? ⟨g,k*12+10,δ⟩=γ (.int .i64 (bs[k]).1.sat):=hc 10 _ aa rfl;have WG:wr.cell? ⟨g,k*12+11,δ⟩=γ (.int .i64 (bs[k]).1.travel):=hc 11 _ aa rfl;have Xo:=aJ (rfl:(bs[k]).1=(bs[k]).1);clear hc Xl;generalize hy:(bs[k]).1=y at e0 e1 e2 e3 e4 e5 e7 e8 e9 WA WG;generalize (bs[k]).2=Xq at e6;have HY:=aJ hy;clear hy Xo;by_cases g1:b.kind=y.kind
        rotate_left
        · have t1:((b.kind:Int)==y.kind)=ζ:=by simp;exact g1
          have HN:Hid (lC b (bs[k]).1=ζ):=aJ (by rw[HY.o];exact qC (.inl g1));clear g1
          first
          |
            have Wy:b.kind≠3:=by simpa using q3
            skip;(
             have WZ:=aJ Wy;clear Wy;go_wp2_with fail
             go_roundw
             case rel=>exact⟨k+1,aa,au,fun h j hj WJ=>by
               by_cases e:j=k
               · subst e;exact HN.o
               · exact HZ.o h j hj aa,HX.alloc _⟩
             case measure=>simp[intOf];omega)
          |(have Wy:b.kind=3:=Adq;have WZ:=aJ Wy;clear Wy;go_wp2_with fail;go_roundw;(case rel=>exact⟨k+1,aa,au,fun h=>absurd WZ.o h,HX.alloc _⟩);(case measure=>simp[intOf];omega))
        have t1:((b.kind:Int)==y.kind)=ε:=by simp;exact g1
        by_cases g2:b.obj=y.obj
        rotate_left
        · have t2:((b.obj:Int)==y.obj)=ζ:=by simp;exact g2
          have HN:Hid (lC b (bs[k]).1=ζ):=aJ (by rw[HY.o];exact qC (.inr (.inl g2)));clear g1 g2
          first
          |
            have Wy:b.kind≠3:=by simpa using q3
            skip;(
             have WZ:=aJ Wy;clear Wy;go_wp2_with fail
             go_roundw
             case rel=>exact⟨k+1,aa,au,fun h j hj WJ=>by
               by_cases e:j=k
               · subst e;exact HN.o
               · exact HZ.o h j hj aa,HX.alloc _⟩
             case measure=>simp[intOf];omega)
          |(have Wy:b.kind=3:=Adq;have WZ:=aJ Wy;clear Wy;go_wp2_with fail;go_roundw;(case rel=>exact⟨k+1,aa,au,fun h=>absurd WZ.o h,HX.alloc _⟩);(case measure=>simp[intOf];omega))
        have t2:((b.obj:Int)==y.obj)=ε:=by simp;exact g2
        by_cases g3:b.en=y.en
        rotate_left
        · have t3:((b.en:Int)==y.en)=ζ:=by simp;exact g3
          have HN:Hid (lC b (bs[k]).1=ζ):=aJ (by rw[HY.o];exact qC (.inr (.inr g3)));clear g1 g2 g3
          first
          |
            have Wy:b.kind≠3:=by simpa using q3
            skip;(
             have WZ:=aJ Wy;clear Wy;go_wp2_with fail
             go_roundw
             case rel=>exact⟨k+1,aa,au,fun h j hj WJ=>by
               by_cases e:j=k
               · subst e;exact HN.o
               · exact HZ.o h j hj aa,HX.alloc _⟩
             case measure=>simp[intOf];omega)
          |(have Wy:b.kind=3:=Adq;have WZ:=aJ Wy;clear Wy;go_wp2_with fail;go_roundw;(case rel=>exact⟨k+1,aa,au,fun h=>absurd WZ.o h,HX.alloc _⟩);(case measure=>simp[intOf];omega))
        have t3:((b.en:Int)==y.en)=ε:=by simp;exact g3
        have HN:Hid (lC b (bs[k]).1=ε):=aJ (by rw[HY.o];exact Ck g1 g2 g3);clear g1 g2 g3
        first
        |(have Wy:b.kind≠3:=Adq;have HC:Hid (en=12):=aJ (by rw[HV.o,ι (Oj Wy Wj HN.o)]);clear Wy;go_wp2_with fail;go_ret;exact⟨aO HC.symm,WW.trans ((HX.alloc _).mono ae),fun e=>absurd (HC.symm.trans e) aj⟩)
        |(have Wy:b.kind=3:=Adq;have WZ:=aJ Wy;clear Wy;go_wp2_with fail;go_roundw;(case rel=>exact⟨k+1,aa,au,fun h=>absurd WZ.o h,HX.alloc _⟩);(case measure=>simp[intOf];omega))
      · obtain rfl:bs.length=k:=aa;have HC:Hid (en=gL m0 b):=aJ (by
          rw[HV.o,θ];by_cases Wy:b.kind=3
          · unfold mV;rw[Γ (fun h=>h Wy)];simp
          · rw[SI (fun j hj=>HZ.o Wy j hj hj)];decide)
        clear Wj HV;(go_wp2_with fail);refine(Ib (HB.ext HX.o) b hd.A hd.n hd.c (HL.ext (Wt.trans HX.o)) W9).mono ?_;rintro e w4 ⟨rfl,hx⟩;rw[<-HC.o];have WK:=Wt.trans (HX.trans hx);have WL:=aJ (HX.trans hx);clear hx;by_cases Xd:en=0
        rotate_left
        · have q0:((en:Int) !=0)=ε:=by simp;exact Xd
          have HN:=aJ Xd;clear Xd;have WT:=aJ WK;clear WK;(go_wp2_with fail);go_ret;exact⟨rfl,WT.mono aa,fun e=>absurd e HN.o⟩
        · subst Xd;clear kX;obtain⟨_,hN,Xt,Xr,Xp,Xe,G,⟨y0,r0⟩,⟨y1,r1⟩,⟨y2,r2⟩,r3⟩:=H.o;have WQ:Hid (∀g,Xe.ownBlock=γ g->g<w.heap.size):=aJ (fun g e=>(r3.lt g e).2);replace hN:=hN.ext WK;replace G:=G.ext WK;replace r0:=fE r0 WK;replace r1:=fE r1 WK;replace r2:=fE r2 WK;replace r3:=fE r3 WK;obtain⟨D,d1,d2,d3⟩:=hN;have Q:=WP.ext WL.o;have WS:Hid (Below M w w4):=aJ (WK.mono aa);have WU:=aJ Q;have Xm:=aJ G;have R0:=aJ r0;have R1:=aJ r1;have R2:=aJ r2;have WY:=aJ r3;have D1:=aJ d1;have D2:=aJ d2;have D3:=aJ d3;have Wp:=G.lt;have Y1:=aK.blk G;have Y2:=aK.blk Q;clear G Q r0 r1 r2 r3 d1 d2 d3 WK;(go_wp2_with fail);refine bQ 6 [(ε,0),(ε,4),(ε,5),(ζ,1),(ε,2),(ε,3)] ah ah ?_;refine aV [0,4,5] [(ζ,1),(ε,2),(ε,3)] _ ah ?_;simp only[cZ,aZ,ξ,ο];(repeat (go_big_quiet_step (fail)));refine τ ?_;refine aT 1 [(ε,2),(ε,3)] ah ?_;intro K J;simp only[aZ];(go_wp2_with fail);refine J _ _ ⟨⟨_,(Ext.refl _).drew⟩,rfl⟩ ?_;clear J K;refine aV [2,3] [] _ ah ?_;simp only[cZ,aZ,ξ,ο];(repeat (go_big_quiet_step (fail)));refine τ ?_;simp only[bT,ρ,χ];clear Y1 Y2;(go_wp2_with (first|(at_mapUpdate;refine abN _ rfl _ _ _ 183 rfl 9 4 zO abu (plainElem prog 4) M l.length D rfl D1.drew Ads _ _ (.string b.name.data.toList) rfl rfl (Qo WE) (.lit (.bool ε)) [] (ab5 aaV ε) ?_)));intro w2 T R;have WB:=dW R (Xm.drew) AcY;have P:=dW R (WU.drew) AcY;have G2:Hid (w4.grownBy w2 (γ M)):=aJ ⟨R.os,R.tape,R.output,R.size,R.block⟩;have r2:w2.ownsRow (B+1) 57 12 Xe bs.length (bs.flatMap fun x=>ja x.1 x.2):=WY.kept G2.o (.inr (fun e=>by have:=(WY.lt M e).1;omega));have RR:=aJ r2;have WV:=aJ T;have Wu:=WB.lt;have WR:=P.lt;have Y1:=fun(x:mM w2 [B,w.heap.size])=>x.blk WB ag;have Y2:=fun(x:mM w2 [B,w.heap.size])=>x.blk P ag;have Wq:=aJ WB;have W:=aJ P;clear WB P r2 T R;(go_wp2_with fail);refine mP 9 7 (fun w'=>∃x:mM w2 [B,w.heap.size],w'=x.val) [(ε,0),(ε,1),(ε,6),(ζ,2),(ε,3),(ε,4),(ε,5)] [(ζ,8)] ah ah ⟨⟨w2.drew,fun _ _=>rfl⟩,rfl⟩ ?_;refine gQ [0,1,6] [(ζ,2),(ε,3),(ε,4),(ε,5)] _ ah ?_;simp only[cZ,aZ,ξ,ο];(repeat (go_big_quiet_step (fail)));refine τ ?_;refine rJ 2 [(ε,3),(ε,4),(ε,5)] ah ah ?_ ?_
          · intro K J;simp only[aZ];(go_wp2_with fail);refine J _ _ ⟨⟨w2.drew,fun _ _=>rfl⟩,rfl⟩ ?_;clear J K;refine gQ [3,4,5] [] _ ah ?_;simp only[cZ,aZ,ξ,ο];(repeat (go_big_quiet_step (fail)));refine τ ?_;refine rR ah ?_;intro K J;simp only[aZ];(go_wp2_with fail);refine J _ _ ⟨⟨w2.drew.alloc (.cells #[.string b.name,.int .i64 b.kind,.int .i64 b.obj,.int .i64 b.en,.int .i64 b.z.r,.int .i64 b.z.x,.slice hd.A hd.n hd.c,.bool b.closed,.int .i64 b.ct,.int .i64 b.vt,.int .i64 b.sat,.int .i64 b.travel] 57),fun b hb=>aat _ _ b AbH⟩,rfl⟩ ?_;clear J K;refine aT 8 [] ah ?_;intro K J;simp only[aZ];(go_wp2_with (at_builtin;refine gK Gh rfl (.tmp 98) (.tmp 100) rfl (B+1) _ bs.length _ rf (aa3 (w:=w2.drew) RR.o _) w2.heap.size 1 1 [.string b.name,.int .i64 b.kind,.int .i64 b.obj,.int .i64 b.en,.int .i64 b.z.r,.int .i64 b.z.x,.slice hd.A hd.n hd.c,.bool b.closed,.int .i64 b.ct,.int .i64 b.vt,.int .i64 b.sat,.int .i64 b.travel] rf (Blk.new w2.drew _ _) rfl AcI aa aa aa Adj ?_));intro g F w3 WF L Wo Wj;have O:=dW L ((Wq.drew).alloc _) (ig RR.o (aaI _));have Wl:=dW L ((W.drew).alloc _) (fun e=>by have:=WQ.o _ e;omega);have k3:=O.cell;have f3:=O.frozen;have Ww:=O.lt;have Wm:=aJ O;have Wv:=aJ Wl;have G3:Hid ((w2.alloc (.cells #[.string b.name,.int .i64 b.kind,.int .i64 b.obj,.int .i64 b.en,.int .i64 b.z.r,.int .i64 b.z.x,.slice hd.A hd.n hd.c,.bool b.closed,.int .i64 b.ct,.int .i64 b.vt,.int .i64 b.sat,.int .i64 b.travel] 57)).grownBy w3 Xe.ownBlock):=aJ ⟨L.os,L.tape,L.output,L.size,L.block⟩;have Ws:=aJ WF;clear O Wl L WF Wo Wj;(go_wp2_with fail);refine J _ _ ⟨⟨w3,fun b hb=>by
              simp at hb;rcases hb with rfl|rfl
              · exact(Wm.o).trans Wq.symm
              · exact(Wv.o).trans W.symm⟩,rfl⟩ ?_
            exact Aap
          · intro K J;simp only[aZ];(go_wp2_with fail);refine J _ _ ⟨⟨w2.drew.alloc (.cells #[.string b.name,.int .i64 b.kind,.int .i64 b.obj,.int .i64 b.en,.int .i64 b.z.r,.int .i64 b.z.x,.slice hd.A hd.n hd.c,.bool b.closed,.int .i64 b.ct,.int .i64 b.vt,.int .i64 b.sat,.int .i64 b.travel] 57),fun b hb=>aat _ _ b AbH⟩,rfl⟩ ?_;clear J K;show bT _ _ _ _ [(ζ,2),(ε,3),(ε,4),(ε,5),(ζ,8)] _ _;refine aT 2 [(ε,3),(ε,4),(ε,5),(ζ,8)] ah ?_;intro K J;simp only[aZ];(go_wp2_with fail);refine J _ _ ⟨⟨w2.drew.alloc (.cells #[.string b.name,.int .i64 b.kind,.int .i64 b.obj,.int .i64 b.en,.int .i64 b.z.r,.int .i64 b.z.x,.slice hd.A hd.n hd.c,.bool b.closed,.int .i64 b.ct,.int .i64 b.vt,.int .i64 b.sat,.int .i64 b.travel] 57),fun b hb=>aat _ _ b AbH⟩,rfl⟩ ?_;clear J K;refine aV [3,4,5] [(ζ,8)] _ ah ?_;simp only[cZ,aZ,ξ,ο];(repeat (go_big_quiet_step (fail)));refine τ ?_;refine aT 8 [] ah ?_;intro K J;simp only[aZ];(go_wp2_with (at_builtin;refine gK Gh rfl (.tmp 98) (.tmp 100) rfl (B+1) _ bs.length _ rf (aa3 (w:=w2.drew) RR.o _) w2.heap.size 1 1 [.string b.name,.int .i64 b.kind,.int .i64 b.obj,.int .i64 b.en,.int .i64 b.z.r,.int .i64 b.z.x,.slice hd.A hd.n hd.c,.bool b.closed,.int .i64 b.ct,.int .i64 b.vt,.int .i64 b.sat,.int .i64 b.travel] rf (Blk.new w2.drew _ _) rfl AcI aa aa aa Adj ?_));intro g F w3 WF L Wo Wj;have O:=dW L ((Wq.drew).alloc _) (ig RR.o (aaI _));have Wl:=dW L ((W.drew).alloc _) (fun e=>by have:=WQ.o _ e;omega);have k3:=O.cell;have f3:=O.frozen;have Ww:=O.lt;have Wm:=aJ O;have Wv:=aJ Wl;have G3:Hid ((w2.alloc (.cells #[.string b.name,.int .i64 b.kind,.int .i64 b.obj,.int .i64 b.en,.int .i64 b.z.r,.int .i64 b.z.x,.slice hd.A hd.n hd.c,.bool b.closed,.int .i64 b.ct,.int .i64 b.vt,.int .i64 b.sat,.int .i64 b.travel] 57)).grownBy w3 Xe.ownBlock):=aJ ⟨L.os,L.tape,L.output,L.size,L.block⟩;have Ws:=aJ WF;clear O Wl L WF Wo Wj;(go_wp2_with fail);refine J _ _ ⟨⟨w3,fun b hb=>by
              simp at hb;rcases hb with rfl|rfl
              · exact(Wm.o).trans Wq.symm
              · exact(Wv.o).trans W.symm⟩,rfl⟩ ?_
            exact Aap
def lI (s:StD) (L:Nat->Hd) (k:Nat):List (gJ×Hd):=(List.range k).map fun i=>(s.bays.getD i η,L i)
theorem yB(s L k):lI s L (k+1)=lI s L k++[(s.bays.getD k η,L k)]:=by
 unfold lI;rw[abX,aaN];rfl
theorem H7(s L k):(lI s L k).length=k:=by unfold lI;simp
def Bo{s L}:∀{k:Nat},k<=s.bays.length->(lI s L k).map Prod.fst=s.bays.take k
 |0,_=>by simp[lI]
 |k+1,h=>by
  rw[yB,aaN,Bo aa,lT aa];rfl
def Jj{w0 w M B A0 n0 c0 A1 n1 c1 A2 n2 c2 A3 n3 c3 L s}(hs:kY w0 A0 n0 c0 A1 n1 c1 A2 n2 c2 A3 n3 c3 L s)(G:Below M w0 w)(hM:w0.heap.size<=M)(g0:n0<=4)(g1:n1<=6)(g2:n2<=4)(g3:n3<=16)(O:BSt w M B (nms s 0 0 0 0) 0 0 0 []):
  Calls prog 72 #[.slice A0 n0 c0,.func (Fn.func 73) #[.pointer (γ ⟨B,0,δ⟩)] #[]] w fun e w'=>e=.returned (.int .i64 (dJ (uR s) n0))/\Below M w w'/\(dJ (uR s) n0=0->BSt w' M B (nms s n0 0 0 0) n0 0 0 []):=by
 have Wl:s.buses.length=n0:=hs.buses.len;have S:=hs.l1;have T:=hs.l2;have Wx:=hs.l3;have Wp:=hs.mx;have HS:=aJ hs;have HB:=aJ O;have H:=aJ G;have Wz:=aJ Wl;have F:=aJ S;have Wm:=aJ T;have Z:=aJ Wx;obtain⟨m0,m1,m2,m3⟩:=Wp;have J:M<w.heap.size:=O.nm.lt;clear hs O G Wl S T Wx;go_enter func72,ntmps72;go_wp2_with fail
 go_loopw [10] (fun i wr=>∃k:Nat,k<=n0/\i=.int .i64 (k:Int)/\(∀j,j<k->uR s j=0)/\BSt wr M B (nms s k 0 0 0) k 0 0 []/\Below M w wr) (fun i _=>n0-(intOf i).toNat)
 case atStart=>exact⟨0,aa,rfl,by intros;omega,HB.o,aci _ _⟩
 case round=>
  clear HB;obtain⟨k,hk,rfl,hz,O,hx⟩:=hrel;have HZ:=aJ hz;have HB:=aJ O;have HX:=aJ hx;have Q:M<wr.heap.size:=O.nm.lt;have WQ:B<wr.heap.size:=by obtain⟨_,_,_,_,_,_,hb,_⟩:=O;exact hb.lt
  have l:=aJ (HS.ext (w':=wr) ((H.trans hx).mono hM));clear hz O hx;by_cases Wj:k<n0
  .have hd:decide (k<n0)=ε:=ae;obtain⟨R,hA,hb,e0⟩:=l.buses.getD Wj;have HN:Hid (nms s (k+1) 0 0 0=nms s k 0 0 0++[s.buses.getD k η]):=aJ (by
    rw[Ob,Ob];exact lT Ac5)
   have C:Hid (uR s k=dU (nms s k 0 0 0) (s.buses.getD k η)):=aJ rfl;generalize s.buses.getD k η=x at e0 C HN;subst hA;(go_wp2_with fail);refine(QW HB.o x (by rw[yS Ac5 (Ex _) (Ex _) (Ex _)];omega) aa).mono ?_;rintro e w2 ⟨rfl,P,N⟩;rw[<-C.o];rw[<-C.o,<-HN.o] at N;have W:=aJ (HX.trans P);have V:=aJ N;clear P N;generalize D:uR s k=K at C V;have I:=aJ D;clear D C;by_cases U:K=0
   rotate_left
   .have q0:((K:Int) !=0)=ε:=by simp;exact U
    have HE:=aJ U;clear U;have Y:Hid (K=dJ (uR s) n0):=aJ (dB HZ.o I.o HE.o Wj);exact Acg
   .subst U;have WB:=V.o rfl;have WR:=aJ WB;clear WB V;go_wp2_with fail
    exact AaB
  .obtain rfl:n0=k:=aa;exact AcL
def IE{w0 w M B A0 n0 c0 A1 n1 c1 A2 n2 c2 A3 n3 c3 L s}(hs:kY w0 A0 n0 c0 A1 n1 c1 A2 n2 c2 A3 n3 c3 L s)(G:Below M w0 w)(hM:w0.heap.size<=M)(g0:n0<=4)(g1:n1<=6)(g2:n2<=4)(g3:n3<=16)(O:BSt w M B (nms s n0 0 0 0) n0 0 0 []):
  Calls prog 74 #[.slice A1 n1 c1,.func (Fn.func 75) #[.pointer (γ ⟨B,0,δ⟩)] #[]] w fun e w'=>e=.returned (.int .i64 (dJ (lu s) n1))/\Below M w w'/\(dJ (lu s) n1=0->BSt w' M B (nms s n0 n1 0 0) n0 n1 0 []):=by
 have V:s.buses.length=n0:=hs.buses.len;have S:=hs.l1;have T:=hs.l2;have Wx:=hs.l3;have Wp:=hs.mx;have HS:=aJ hs;have HB:=aJ O;have H:=aJ G;have Wz:=aJ V;have F:=aJ S;have Wm:=aJ T;have Z:=aJ Wx;obtain⟨m0,m1,m2,m3⟩:=Wp;have J:M<w.heap.size:=O.nm.lt;clear hs O G V S T Wx;go_enter func74,ntmps74;go_wp2_with fail
 go_loopw [10] (fun i wr=>∃k:Nat,k<=n1/\i=.int .i64 (k:Int)/\(∀j,j<k->lu s j=0)/\BSt wr M B (nms s n0 k 0 0) n0 k 0 []/\Below M w wr) (fun i _=>n1-(intOf i).toNat)
 case atStart=>exact⟨0,aa,rfl,by intros;omega,HB.o,aci _ _⟩
 case round=>
  clear HB;obtain⟨k,hk,rfl,hz,O,hx⟩:=hrel;have HZ:=aJ hz;have HB:=aJ O;have HX:=aJ hx;have Q:M<wr.heap.size:=O.nm.lt;have WQ:B<wr.heap.size:=by obtain⟨_,_,_,_,_,_,hb,_⟩:=O;exact hb.lt
  have l:=aJ (HS.ext (w':=wr) ((H.trans hx).mono hM));clear hz O hx;by_cases Wj:k<n1
  .have hd:decide (k<n1)=ε:=ae;obtain⟨lb,lo,hA,hb,hc⟩:=l.lines.at_ Wj;have e0:wr.cell? ⟨lb,lo+k*5,δ⟩=γ (.string (s.lines.getD k η).name):=hc 0 _ rfl;have e1:wr.cell? ⟨lb,lo+k*5+1,δ⟩=γ (.int .i64 (s.lines.getD k η).z1.r):=hc 1 _ rfl;have e2:wr.cell? ⟨lb,lo+k*5+2,δ⟩=γ (.int .i64 (s.lines.getD k η).z1.x):=hc 2 _ rfl;have e3:wr.cell? ⟨lb,lo+k*5+3,δ⟩=γ (.int .i64 (s.lines.getD k η).z0.r):=hc 3 _ rfl;have e4:wr.cell? ⟨lb,lo+k*5+4,δ⟩=γ (.int .i64 (s.lines.getD k η).z0.x):=hc 4 _ rfl;clear hc;have HN:Hid (nms s n0 (k+1) 0 0=nms s n0 k 0 0++[(s.lines.getD k η).name]):=aJ (Tu Adi);have C:Hid (lu s k=if dU (nms s n0 k 0 0) (s.lines.getD k η).name=0 then (if (okZ (s.lines.getD k η).z1&&okZ (s.lines.getD k η).z0)=ε then 0 else 2) else dU (nms s n0 k 0 0) (s.lines.getD k η).name):=aJ (by rw[<-Wz.o];rfl);generalize s.lines.getD k η=x at e0 e1 e2 e3 e4 C HN;subst hA;(go_wp2_with fail);refine(Qc (HB.ext (Ext.new _ _)) x (by rw[yS Ac5 Adi (Ex _) (Ex _)];omega) aa).mono ?_;rintro e w2 ⟨rfl,P,N⟩;rw[<-C.o];rw[<-C.o,<-HN.o] at N;have W:=aJ ((HX.trans ((Ext.new wr _).mono aa)).trans P);have R:=aJ N;clear P N;generalize D:lu s k=K at C R;have I:=aJ D;clear D C;by_cases U:K=0
   rotate_left
   .have q0:((K:Int) !=0)=ε:=by simp;exact U
    have HE:=aJ U;clear U;have Y:Hid (K=dJ (lu s) n1):=aJ (dB HZ.o I.o HE.o Wj);exact Acg
   .subst U;have WB:=R.o rfl;have WR:=aJ WB;clear WB R;go_wp2_with fail
    exact AaB
  .obtain rfl:n1=k:=aa;exact AcL
def JG{w0 w M B A0 n0 c0 A1 n1 c1 A2 n2 c2 A3 n3 c3 L s}(hs:kY w0 A0 n0 c0 A1 n1 c1 A2 n2 c2 A3 n3 c3 L s)(G:Below M w0 w)(hM:w0.heap.size<=M)(g0:n0<=4)(g1:n1<=6)(g2:n2<=4)(g3:n3<=16)(O:BSt w M B (nms s n0 n1 0 0) n0 n1 0 []):
  Calls prog 76 #[.slice A2 n2 c2,.func (Fn.func 77) #[.pointer (γ ⟨B,0,δ⟩)] #[]] w fun e w'=>e=.returned (.int .i64 (dJ (tQ s) n2))/\Below M w w'/\(dJ (tQ s) n2=0->BSt w' M B (nms s n0 n1 n2 0) n0 n1 n2 []):=by
 have V:s.buses.length=n0:=hs.buses.len;have S:=hs.l1;have T:=hs.l2;have Wx:=hs.l3;have Wp:=hs.mx;have HS:=aJ hs;have HB:=aJ O;have H:=aJ G;have Wz:=aJ V;have F:=aJ S;have Wm:=aJ T;have Z:=aJ Wx;obtain⟨m0,m1,m2,m3⟩:=Wp;have J:M<w.heap.size:=O.nm.lt;clear hs O G V S T Wx;go_enter func76,ntmps76;go_wp2_with fail
 go_loopw [10] (fun i wr=>∃k:Nat,k<=n2/\i=.int .i64 (k:Int)/\(∀j,j<k->tQ s j=0)/\BSt wr M B (nms s n0 n1 k 0) n0 n1 k []/\Below M w wr) (fun i _=>n2-(intOf i).toNat)
 case atStart=>exact⟨0,aa,rfl,by intros;omega,HB.o,aci _ _⟩
 case round=>
  clear HB;obtain⟨k,hk,rfl,hz,O,hx⟩:=hrel;have HZ:=aJ hz;have HB:=aJ O;have HX:=aJ hx;have Q:M<wr.heap.size:=O.nm.lt;have WQ:B<wr.heap.size:=by obtain⟨_,_,_,_,_,_,hb,_⟩:=O;exact hb.lt
  have l:=aJ (HS.ext (w':=wr) ((H.trans hx).mono hM));clear hz O hx;by_cases Wj:k<n2
  .have hd:decide (k<n2)=ε:=ae;obtain⟨lb,lo,hA,hb,hc⟩:=l.srcs.at_ Wj;have e0:wr.cell? ⟨lb,lo+k*6,δ⟩=γ (.string (s.srcs.getD k η).name):=hc 0 _ rfl;have e1:wr.cell? ⟨lb,lo+k*6+1,δ⟩=γ (.int .i64 (s.srcs.getD k η).emf):=hc 1 _ rfl;have e2:wr.cell? ⟨lb,lo+k*6+2,δ⟩=γ (.int .i64 (s.srcs.getD k η).z1.r):=hc 2 _ rfl;have e3:wr.cell? ⟨lb,lo+k*6+3,δ⟩=γ (.int .i64 (s.srcs.getD k η).z1.x):=hc 3 _ rfl;have e4:wr.cell? ⟨lb,lo+k*6+4,δ⟩=γ (.int .i64 (s.srcs.getD k η).z0.r):=hc 4 _ rfl;have e5:wr.cell? ⟨lb,lo+k*6+5,δ⟩=γ (.int .i64 (s.srcs.getD k η).z0.x):=hc 5 _ rfl;clear hc;have HN:Hid (nms s n0 n1 (k+1) 0=nms s n0 n1 k 0++[(s.srcs.getD k η).name]):=aJ (Tx (by have:=Wm.o;omega));have C:Hid (tQ s k=if dU (nms s n0 n1 k 0) (s.srcs.getD k η).name=0 then (if jE (s.srcs.getD k η)=ε then 0 else 2) else dU (nms s n0 n1 k 0) (s.srcs.getD k η).name):=aJ (by rw[<-Wz.o,<-F.o];rfl);generalize s.srcs.getD k η=x at e0 e1 e2 e3 e4 e5 C HN;subst hA;(go_wp2_with fail);refine(I7 (HB.ext (Ext.new _ _)) x (by rw[yS Ac5 Adi (by have:=Wm.o;omega) (Ex _)];omega) aa).mono ?_;rintro e w2 ⟨rfl,P,N⟩;rw[<-C.o];rw[<-C.o,<-HN.o] at N;have W:=aJ ((HX.trans ((Ext.new wr _).mono aa)).trans P);have R:=aJ N;clear P N;generalize D:tQ s k=K at C R;have I:=aJ D;clear D C;by_cases U:K=0
   rotate_left
   .have q0:((K:Int) !=0)=ε:=by simp;exact U
    have HE:=aJ U;clear U;have Y:Hid (K=dJ (tQ s) n2):=aJ (dB HZ.o I.o HE.o Wj);exact Acg
   .subst U;have WB:=R.o rfl;have WR:=aJ WB;clear WB R;go_wp2_with fail
    exact AaB
  .obtain rfl:n2=k:=aa;exact AcL
theorem Jc{w0 w M B A0 n0 c0 A1 n1 c1 A2 n2 c2 A3 n3 c3 L s}(hs:kY w0 A0 n0 c0 A1 n1 c1 A2 n2 c2 A3 n3 c3 L s)(G:Below M w0 w)(hM:w0.heap.size<=M)(g0:n0<=4)(g1:n1<=6)(g2:n2<=4)(g3:n3<=16)(O:BSt w M B (nms s n0 n1 n2 0) n0 n1 n2 (lI s L 0)):
  Calls prog 78 #[.slice A3 n3 c3,.func (Fn.func 79) #[.pointer (γ ⟨B,0,δ⟩)] #[]] w fun e w'=>e=.returned (.int .i64 (dJ (uZ s) n3))/\Below M w w'/\(dJ (uZ s) n3=0->BSt w' M B (nms s n0 n1 n2 n3) n0 n1 n2 (lI s L n3)):=by
 have Wl:s.buses.length=n0:=hs.buses.len;have S:=hs.l1;have T:=hs.l2;have Wx:=hs.l3;have Wp:=hs.mx;have HS:=aJ hs;have HB:=aJ O;have H:=aJ G;have Wz:=aJ Wl;have F:=aJ S;have Wm:=aJ T;have Z:=aJ Wx;obtain⟨m0,m1,m2,m3⟩:=Wp;have J:M<w.heap.size:=O.nm.lt;clear hs O G Wl S T Wx;go_enter func78,ntmps78;go_wp2_with fail
 go_loopw [10] (fun i wr=>∃k:Nat,k<=n3/\i=.int .i64 (k:Int)/\(∀j,j<k->uZ s j=0)/\BSt wr M B (nms s n0 n1 n2 k) n0 n1 n2 (lI s L k)/\Below M w wr) (fun i _=>n3-(intOf i).toNat)
 case atStart=>exact⟨0,aa,rfl,by intros;omega,HB.o,aci _ _⟩
 case round=>
  clear HB;obtain⟨k,hk,rfl,hz,O,hx⟩:=hrel;have HZ:=aJ hz;have HB:=aJ O;have HX:=aJ hx;have Q:M<wr.heap.size:=O.nm.lt;have WQ:B<wr.heap.size:=by obtain⟨_,_,_,_,_,_,hb,_⟩:=O;exact hb.lt
  have l:=aJ (HS.ext (w':=wr) ((H.trans hx).mono hM));clear hz O hx;by_cases Wj:k<n3
  .have hd:decide (k<n3)=ε:=ae;obtain⟨lb,lo,hA,hb,e0,e1,e2,e3,e4,e5,e6,e7,e8,e9,WA,WG⟩:=l.bays.bay Wj;have R:=aJ (l.links k Wj);have HN:Hid (nms s n0 n1 n2 (k+1)=nms s n0 n1 n2 k++[(s.bays.getD k η).name]):=aJ (TK AbK);have V:Hid (uZ s k=Da (nms s n0 n1 n2 k) n0 n1 n2 (lI s L k) (s.bays.getD k η)):=aJ (by
    have h3:=Z.o;unfold Da;rw[Bo aa,<-Wz.o,<-F.o,<-Wm.o];rfl)
   have C:Hid (lI s L (k+1)=lI s L k++[(s.bays.getD k η,L k)]):=aJ (yB s L k);generalize s.bays.getD k η=x at e0 e1 e2 e3 e4 e5 e6 e7 e8 e9 WA WG V HN R C;generalize L k=N at e0 e1 e2 e3 e4 e5 e6 e7 e8 e9 WA WG R C;subst hA;(go_wp2_with fail);refine(Sn (HB.ext (Ext.new _ _)) x N (R.ext (Ext.new _ _)) (by rw[yS Ac5 Adi (by have:=Wm.o;omega) AbK];omega) ⟨aa,aa,aa,by rw[H7];omega⟩).mono ?_;rintro e w2 ⟨rfl,P,Wo⟩;rw[<-V.o];rw[<-V.o,<-HN.o,<-C.o] at Wo;have W:=aJ ((HX.trans ((Ext.new wr _).mono aa)).trans P);have Wq:=aJ Wo;clear P Wo;generalize D:uZ s k=K at V Wq;have I:=aJ D;clear D V;by_cases U:K=0
   rotate_left
   .have q0:((K:Int) !=0)=ε:=by simp;exact U
    have HE:=aJ U;clear U;have Y:Hid (K=dJ (uZ s) n3):=aJ (dB HZ.o I.o HE.o Wj);exact Acg
   .subst U;have WB:=Wq.o rfl;have WR:=aJ WB;clear WB Wq;go_wp2_with fail
    exact AaB
  .obtain rfl:n3=k:=aa;exact AcL
def UT(w):Calls prog 71 #[] w fun e w'=>∃M,w.heap.size=M/\e=.returned (.pointer (γ ⟨M+1,0,δ⟩))/\BSt w' M (M+1) [] 0 0 0 []/\Ext w w':=
 (zy w).mono fun e w' ⟨l,j,B⟩=>⟨_,rfl,l,j,B⟩
theorem yz{A0 n0 c0 A1 n1 c1 A2 n2 c2 A3 n3 c3 L s}(w)(hs:kY w A0 n0 c0 A1 n1 c1 A2 n2 c2 A3 n3 c3 L s):
  CE 40 #[stV s.name A0 n0 c0 A1 n1 c1 A2 n2 c2 A3 n3 c3] w (.int .i64 (chk s)):=by
 have P:∀(fn:Fn) (first F:Array Value) (w:World),(Instr.makeFunc fn first F).run prog w=.ok (.func fn first F) w:=fun _ _ _ _=>rfl;have Q:∀w:World,Calls prog 70 #[.string s.name] w fun e w'=>e=.returned (.bool (fT s.name))/\w=w':=fun w=>(Hq s.name w).mono (fun e w' N=>⟨N.1,N.2.symm⟩);have NM:=aJ Q;clear Q;have Wl:s.buses.length=n0:=hs.buses.len;have S:=hs.l1;have T:=hs.l2;have Wx:=hs.l3;have HS:=aJ (hs.ext (Ext.new w (.cells #[.string s.name,.slice A0 n0 c0,.slice A1 n1 c1,.slice A2 n2 c2,.slice A3 n3 c3] 27)));clear hs;unfold stV;have D:Hid (Ext w (w.alloc (.cells #[.string s.name,.slice A0 n0 c0,.slice A1 n1 c1,.slice A2 n2 c2,.slice A3 n3 c3] 27))):=aJ (Ext.new _ _);cases hn:fT s.name
 .have V:Hid (chk s=7):=aJ (TE hn);rw[hn] at NM;clear Wl S T Wx;exact Aaq
 rw[hn] at NM;cases hc:rZ s
 .have V:Hid (chk s=3):=aJ (TB hn hc);have WI:¬(1<=n0/\n0<=4/\n1<=6/\n2<=4/\n3<=16):=by
   exact AcR
  clear Wl S T Wx hc;have HC:=aJ WI;clear WI;by_cases U:n0=0
  .have d0:((n0:Int)==0)=ε:=ae;clear U;exact Aaq
  have d0:((n0:Int)==0)=ζ:=ae;by_cases t1:4<n0
  .have d1:decide ((4:Int)<(n0:Int))=ε:=ae;clear t1;exact Aaq
  have d1:decide ((4:Int)<(n0:Int))=ζ:=ae;by_cases t2:6<n1
  .have d2:decide ((6:Int)<(n1:Int))=ε:=ae;clear t2;exact Aaq
  have d2:decide ((6:Int)<(n1:Int))=ζ:=ae;by_cases t3:4<n2
  .have d3:decide ((4:Int)<(n2:Int))=ε:=ae;clear t3;exact Aaq
  have d3:decide ((4:Int)<(n2:Int))=ζ:=ae;by_cases t4:16<n3
  .have d4:decide ((16:Int)<(n3:Int))=ε:=ae;clear t4;exact Aaq
  exact Ac7
 have V:=aJ (Pj hn hc);have WH:1<=n0/\n0<=4/\n1<=6/\n2<=4/\n3<=16:=by
  unfold rZ at hc;rw[Wl,S,T,Wx] at hc;simp at hc;omega
 obtain⟨g0,B,g1,g2,g3⟩:=WH;clear hc;rw[Wl,S,T,Wx] at V;clear Wl S T Wx;have d0:((n0:Int)==0)=ζ:=ae;have d1:decide ((4:Int)<(n0:Int))=ζ:=ae;have d2:decide ((6:Int)<(n1:Int))=ζ:=ae;have d3:decide ((4:Int)<(n2:Int))=ζ:=ae;have d4:decide ((16:Int)<(n3:Int))=ζ:=ae;obtain⟨-,G⟩:=ah1 w 27 #[.string s.name,.slice A0 n0 c0,.slice A1 n1 c1,.slice A2 n2 c2,.slice A3 n3 c3];go_enter func40,ntmps40;(go_wp2_with fail);refine(NM.o _).mono ?_;rintro e w1 ⟨rfl,rfl⟩;(go_wp2_with fail);refine(UT _).mono ?_;rintro e w1 ⟨M,hM,rfl,O,hx⟩;have HM:=aJ hM;have R:Hid (Below M (w.alloc (.cells #[.string s.name,.slice A0 n0 c0,.slice A1 n1 c1,.slice A2 n2 c2,.slice A3 n3 c3] 27)) w1):=aJ (hM ▸ hx);have W:=aJ O;have J:w.heap.size<M:=by rw[<-hM];simp
 have C:=(G.ext hx).cell;clear hM hx O d0 d1 d2 d3 d4;(go_wp2_with fail);refine(Jj HS.o R.o Acn B g1 g2 g3 W.o).mono ?_;rintro e w2 ⟨rfl,hx,O⟩;generalize Y:dJ (uR s) n0=en at O;have H:=aJ Y;clear Y;have j:=aJ (R.trans hx);have l:=aJ O;clear hx O R C;have R:=j;clear j;have C:=(show Blk w2 w.heap.size 27 #[.string s.name,.slice A0 n0 c0,.slice A1 n1 c1,.slice A2 n2 c2,.slice A3 n3 c3] from G.below R.o J).cell;by_cases h0:en=0
 rotate_left
 .have q0:((en:Int)==0)=ζ:=by simp;exact h0
  have HV:Hid (chk s=en):=aJ (by
   rw[V.o];rw[θ (by rw[H.o];exact h0),H.o])
  exact AbP
 subst h0;have Z:=l.o rfl;clear W l;have W:=aJ Z;clear Z;(go_wp2_with fail);refine(IE HS.o R.o Acn B g1 g2 g3 W.o).mono ?_;rintro e w2 ⟨rfl,hx,O⟩;generalize Y:dJ (lu s) n1=en at O;have I:=aJ Y;clear Y;have j:=aJ (R.trans hx);have l:=aJ O;clear hx O R C;have R:=j;clear j;have C:=(show Blk w2 w.heap.size 27 #[.string s.name,.slice A0 n0 c0,.slice A1 n1 c1,.slice A2 n2 c2,.slice A3 n3 c3] from G.below R.o J).cell;by_cases h0:en=0
 rotate_left
 .have q0:((en:Int)==0)=ζ:=by simp;exact h0
  have HV:Hid (chk s=en):=aJ (by
   rw[V.o];rw[ι H.o];rw[θ (by rw[I.o];exact h0),I.o])
  exact AbP
 subst h0;have Z:=l.o rfl;clear W l;have W:=aJ Z;clear Z;(go_wp2_with fail);refine(JG HS.o R.o Acn B g1 g2 g3 W.o).mono ?_;rintro e w2 ⟨rfl,hx,O⟩;generalize Y:dJ (tQ s) n2=en at O;have K:=aJ Y;clear Y;have j:=aJ (R.trans hx);have l:=aJ O;clear hx O R C;have R:=j;clear j;have C:=(show Blk w2 w.heap.size 27 #[.string s.name,.slice A0 n0 c0,.slice A1 n1 c1,.slice A2 n2 c2,.slice A3 n3 c3] from G.below R.o J).cell;by_cases h0:en=0
 rotate_left
 .have q0:((en:Int)==0)=ζ:=by simp;exact h0
  have HV:Hid (chk s=en):=aJ (by
   rw[V.o];rw[ι H.o];rw[ι I.o];rw[θ (by rw[K.o];exact h0),K.o])
  exact AbP
 subst h0;have Z:=l.o rfl;clear W l;have W:=aJ Z;clear Z;(go_wp2_with fail);refine(Jc HS.o R.o Acn B g1 g2 g3 W.o).mono ?_;rintro e w2 ⟨rfl,hx,O⟩;generalize Y:dJ (uZ s) n3=en at O;have F3:=aJ Y;clear Y;have j:=aJ (R.trans hx);have l:=aJ O;clear hx O R C;have R:=j;clear j;have C:=(show Blk w2 w.heap.size 27 #[.string s.name,.slice A0 n0 c0,.slice A1 n1 c1,.slice A2 n2 c2,.slice A3 n3 c3] from G.below R.o J).cell;go_wp2;go_ret;exact⟨aO (by rw[V.o,ι H.o,ι I.o,ι K.o,F3.o]),D.trans (R.mono (by rw[<-HM.o];exact κ _))⟩
def oU (f:dZ):Value:=.agg #[.int .i64 f.kind,.bool f.line,.int .i64 f.obj,.int .i64 f.num,.int .i64 f.den,.int .i64 f.r]
section
variable {nb nl:Nat} {f:dZ}
theorem UF(h:f.kind=0/\f.line=ζ/\f.obj=0/\f.num=0/\f.den=0/\f.r=0):iF nb nl f=0:=by
 have:f=⟨0,ζ,0,0,0,0⟩:=by obtain⟨a,b,c,d,e,g⟩:=f;simp at h⊢;exact h
 unfold iF;rw[ι this]
theorem uO(j:¬(f.kind=0/\f.line=ζ/\f.obj=0/\f.num=0/\f.den=0/\f.r=0))(h:¬(1<=f.kind/\f.kind<=10)):iF nb nl f=10:=by
 unfold iF;rw[θ (fun e=>j (by rw[e];simp)),θ (by rw[fe];exact h)]
theorem yN(j:1<=f.kind/\f.kind<=10):iF nb nl f=(if btw f.obj 0 ((if f.line=ε then (nl:Int) else (nb:Int))-1)=ε then
   if f.line=ε/\(f.den<2\/16<f.den\/f.num<1\/f.den-1<f.num) then 2
   else if f.line=ζ/\(f.num≠0\/f.den≠0) then 2
   else if btw f.r 0 1000=ε then 0 else 2
  else 9):=by
 have l:f≠⟨0,ζ,0,0,0,0⟩:=fun e=>by rw[e] at j;simp at j
 unfold iF;rw[θ l,ι (by rw[fe];exact j)]
def EB(j:1<=f.kind/\f.kind<=10)(cnt:Nat)(hc:(if f.line=ε then (nl:Int) else (nb:Int))=(cnt:Int))(h:f.obj<0\/(cnt:Int)<=f.obj):iF nb nl f=9:=by
 rw[yN j,hc,θ Ade]
def Er(j:1<=f.kind/\f.kind<=10)(Z:f.line=ε)(l:¬(f.obj<0\/(nl:Int)<=f.obj))(h:f.den<2\/16<f.den\/f.num<1\/f.den-1<f.num):iF nb nl f=2:=by
 rw[yN j,ι (by rw[ι Z,fe];omega),ι ⟨Z,h⟩]
def Oz(j:1<=f.kind/\f.kind<=10)(Z:f.line=ζ)(l:¬(f.obj<0\/(nb:Int)<=f.obj))(h:f.num≠0\/f.den≠0):iF nb nl f=2:=by
 rw[yN j,ι (by rw[θ (by rw[Z];decide),fe];omega),θ (fun e=>by rw[Z] at e;cases e.1),ι ⟨Z,h⟩]
def PL(j:1<=f.kind/\f.kind<=10)(cnt:Nat)(hc:(if f.line=ε then (nl:Int) else (nb:Int))=(cnt:Int))(C:¬(f.obj<0\/(cnt:Int)<=f.obj))(B:f.line=ε->¬(f.den<2\/16<f.den\/f.num<1\/f.den-1<f.num))(l:f.line=ζ->¬(f.num≠0\/f.den≠0)):
  iF nb nl f=if f.r<0\/1000<f.r then 2 else 0:=by
 rw[yN j,hc,ι Ade,θ (fun e=>B e.1 e.2),θ (fun e=>l e.1 e.2)];by_cases h:f.r<0\/1000<f.r
 .rw[ι h,θ Ade]
 .rw[θ h,ι Ade]
end
theorem Ay(nm){A0 n0 c0 A1 n1 c1 A2 n2 c2 A3 n3 c3}(f w):
  CE 41 #[stV nm A0 n0 c0 A1 n1 c1 A2 n2 c2 A3 n3 c3,oU f] w (.int .i64 (iF n0 n1 f)):=by
 unfold stV oU;by_cases z1:f.kind=0
 .have q1:((f.kind:Int)==0)=ε:=by simp[z1]
  have B:decide (f.kind<1)=ε:=ae;have V:=aJ z1;clear z1;cases z2:f.line
  rotate_left
  .have M:¬(f.kind=0/\f.line=ζ/\f.obj=0/\f.num=0/\f.den=0/\f.r=0):=fun e=>by rw[z2] at e;cases e.2.1
   clear z2;exact Ace
  have Z2:=aJ z2;clear z2;by_cases Y:f.obj=0
  rotate_left
  .have q3:((f.obj:Int)==0)=ζ:=by simp;exact Y
   have M:¬(f.kind=0/\f.line=ζ/\f.obj=0/\f.num=0/\f.den=0/\f.r=0):=fun e=>Y aa;clear Y;exact Ace
  have q3:((f.obj:Int)==0)=ε:=by simp[Y]
  have Z3:=aJ Y;clear Y;by_cases U:f.num=0
  rotate_left
  .have q4:((f.num:Int)==0)=ζ:=by simp;exact U
   have M:¬(f.kind=0/\f.line=ζ/\f.obj=0/\f.num=0/\f.den=0/\f.r=0):=fun e=>U aa;clear U;exact Ace
  have q4:((f.num:Int)==0)=ε:=by simp[U]
  have C:=aJ U;clear U;by_cases S:f.den=0
  rotate_left
  .have T:((f.den:Int)==0)=ζ:=by simp;exact S
   have M:¬(f.kind=0/\f.line=ζ/\f.obj=0/\f.num=0/\f.den=0/\f.r=0):=fun e=>S aa;clear S;exact Ace
  have T:((f.den:Int)==0)=ε:=by simp[S]
  have G:=aJ S;clear S;by_cases W:f.r=0
  rotate_left
  .have q6:((f.r:Int)==0)=ζ:=by simp;exact W
   have M:¬(f.kind=0/\f.line=ζ/\f.obj=0/\f.num=0/\f.den=0/\f.r=0):=fun e=>W aa;clear W;exact Ace
  have q6:((f.r:Int)==0)=ε:=by simp[W]
  have K:=aJ W;clear W;have L:Hid (iF n0 n1 f=0):=aJ (UF ⟨V.o,Z2.o,Z3.o,C.o,G.o,K.o⟩);exact Aag
 have q1:((f.kind:Int)==0)=ζ:=by simp;exact z1
 have M:¬(f.kind=0/\f.line=ζ/\f.obj=0/\f.num=0/\f.den=0/\f.r=0):=fun e=>z1 e.1;by_cases a1:f.kind<1
 .have d1:decide (f.kind<1)=ε:=ae;have L:Hid (iF n0 n1 f=10):=aJ (uO M aa);exact Aag
 have d1:decide (f.kind<1)=ζ:=ae;by_cases a2:10<f.kind
 .have d2:decide (10<f.kind)=ε:=ae;have L:Hid (iF n0 n1 f=10):=aJ (uO M aa);exact Aag
 have d2:decide (10<f.kind)=ζ:=ae;have hk:1<=f.kind/\f.kind<=10:=⟨aa,aa⟩;have j:=aJ hk;clear hk M;cases Z:f.line
 rotate_left
 .have O:Hid (f.line=ε):=aJ Z;have R:Hid ((if f.line=ε then (n1:Int) else (n0:Int))=(n1:Nat)):=aJ (by rw[Z];rfl);clear Z;by_cases b1:f.obj<0
  .have d3:decide (f.obj<0)=ε:=ae;have L:Hid (iF n0 n1 f=9):=aJ (EB j.o n1 R.o (.inl b1));exact Aag
  have d3:decide (f.obj<0)=ζ:=ae;by_cases b2:(n1:Int)<=f.obj
  .have d4:decide ((n1:Int)<=f.obj)=ε:=ae;have L:Hid (iF n0 n1 f=9):=aJ (EB j.o n1 R.o (.inr b2));exact Aag
  have d4:decide ((n1:Int)<=f.obj)=ζ:=ae;have ho:¬(f.obj<0\/(n1:Int)<=f.obj):=aa;have N:=aJ ho;clear ho;by_cases Q:f.den<2
  .have d5:decide (f.den<2)=ε:=ae;have L:Hid (iF n0 n1 f=2):=aJ (Er j.o O.o N.o (.inl Q));exact Aag
  have d5:decide (f.den<2)=ζ:=ae;by_cases P:16<f.den
  .have l:decide (16<f.den)=ε:=ae;have L:Hid (iF n0 n1 f=2):=aJ (Er j.o O.o N.o (.inr (.inl P)));exact Aag
  have l:decide (16<f.den)=ζ:=ae;by_cases e3:f.num<1
  .have F:decide (f.num<1)=ε:=ae;have L:Hid (iF n0 n1 f=2):=aJ (Er j.o O.o N.o (.inr (.inr (.inl e3))));exact Aag
  have F:decide (f.num<1)=ζ:=ae;by_cases e4:f.den-1<f.num
  .have J:decide (f.den-1<f.num)=ε:=ae;have H:decide (f.den<=f.num)=ε:=ae;have L:Hid (iF n0 n1 f=2):=aJ (Er j.o O.o N.o (.inr (.inr (.inr e4))));exact Aag
  have J:decide (f.den-1<f.num)=ζ:=ae;have H:decide (f.den<=f.num)=ζ:=ae;have I:=aJ (PL j.o n1 R.o N.o (fun _=>aa) (fun e=>by rw[O.o] at e;cases e));exact AbF
 .have O:Hid (f.line=ζ):=aJ Z;have R:Hid ((if f.line=ε then (n1:Int) else (n0:Int))=(n0:Nat)):=aJ (by rw[Z];rfl);clear Z;by_cases b1:f.obj<0
  .have d3:decide (f.obj<0)=ε:=ae;have L:Hid (iF n0 n1 f=9):=aJ (EB j.o n0 R.o (.inl b1));exact Aag
  have d3:decide (f.obj<0)=ζ:=ae;by_cases b2:(n0:Int)<=f.obj
  .have d4:decide ((n0:Int)<=f.obj)=ε:=ae;have L:Hid (iF n0 n1 f=9):=aJ (EB j.o n0 R.o (.inr b2));exact Aag
  have d4:decide ((n0:Int)<=f.obj)=ζ:=ae;have ho:¬(f.obj<0\/(n0:Int)<=f.obj):=aa;have N:=aJ ho;clear ho;by_cases Q:f.num=0
  rotate_left
  .have d5:((f.num:Int) !=0)=ε:=by simp;exact Q
   have HE:=aJ Q;clear Q;have L:Hid (iF n0 n1 f=2):=aJ (Oz j.o O.o N.o (.inl HE.o));exact Aag
  have d5:((f.num:Int) !=0)=ζ:=by simp[Q]
  have E1:=aJ Q;clear Q;by_cases P:f.den=0
  rotate_left
  .have l:((f.den:Int) !=0)=ε:=by simp;exact P
   have HE:=aJ P;clear P;have L:Hid (iF n0 n1 f=2):=aJ (Oz j.o O.o N.o (.inr HE.o));exact Aag
  have l:((f.den:Int) !=0)=ζ:=by simp[P]
  have E2:=aJ P;clear P;have I:=aJ (PL j.o n0 R.o N.o (fun e=>by rw[O.o] at e;cases e) (fun _=>by have:=E1.o;have:=E2.o;omega));exact AbF
theorem yA{A0 n0 c0 A1 n1 c1 A2 n2 c2 A3 n3 c3 L s}(w)(hs:kY w A0 n0 c0 A1 n1 c1 A2 n2 c2 A3 n3 c3 L s)(f):
  CE 10 #[stV s.name A0 n0 c0 A1 n1 c1 A2 n2 c2 A3 n3 c3,oU f] w (.int .i64 (FB s f)):=by
 have l:s.buses.length=n0:=hs.buses.len;have S:=hs.l1;have D:Hid (Ext w ((w.alloc (.cells #[.string s.name,.slice A0 n0 c0,.slice A1 n1 c1,.slice A2 n2 c2,.slice A3 n3 c3] 27)).alloc (.cells #[.int .i64 f.kind,.bool f.line,.int .i64 f.obj,.int .i64 f.num,.int .i64 f.den,.int .i64 f.r] 33))):=aJ ((Ext.new _ _).trans (Ext.new _ _));have J:=aJ (hs.ext D.o);clear hs;obtain⟨-,G,F⟩:=ah2 w 27 #[.string s.name,.slice A0 n0 c0,.slice A1 n1 c1,.slice A2 n2 c2,.slice A3 n3 c3] 33 #[.int .i64 f.kind,.bool f.line,.int .i64 f.obj,.int .i64 f.num,.int .i64 f.den,.int .i64 f.r];have V:Hid (FB s f=if chk s=0 then iF n0 n1 f else chk s):=aJ (by rw[<-l,<-S];rfl);clear l S;unfold stV oU;go_enter func10,ntmps10;(go_wp2_with fail);refine(yz _ J.o).mono ?_;rintro e w1 ⟨rfl,j⟩;generalize chk s=en at V;have C:=(G.ext j).cell;have K:=(F.ext j).cell;have I:=aJ j;clear j;by_cases B:en=0
 .subst B;have H:Hid (FB s f=iF n0 n1 f):=aJ (by rw[V.o,ι rfl]);(go_wp2_with fail);refine(Ay s.name f _).mono ?_;rintro e w2 ⟨rfl,j⟩;go_wp2;go_ret;exact⟨aO H.symm,(D.trans I.o).trans j⟩
 .have q0:((en:Int) !=0)=ε:=by simp;exact B
  have H:Hid (FB s f=en):=aJ (by rw[V.o,θ B]);clear B;go_wp2;go_ret;exact⟨aO H.symm,D.trans I.o⟩
def yZ{w0 w2 w' g t cs}(B)(H:Ext w0 w2)(G:w0.heap.size<=g)(hb:Blk w2 g t cs)(hn:kD cs=ε)(j:w'=puts w2 g 0 B):
  Ext w0 w'/\Blk w' g t (fI cs 0 B)/\(∀v q n,GV w2 v q n->GV w' v q n):=by
 have I:Mod (fun k=>k=g) w2 w':=by rw[j];exact Mod.only (fD _ _ _ _) rfl
 have F:Far (fun k=>k=g) w2:=fun k C _=>by
  obtain rfl:k=g:=C;exact⟨_,_,hb,hn⟩
 have D:Ext w0 w':=by rw[j];exact fw (G:Own w0 g) 0 B H
 have l:Blk w' g t (fI cs 0 B):=by rw[j];exact bR 0 B hb
 exact⟨D,l,fun v q n h=>h.mod I F⟩
def kS:(prog.info? 102).map (·.size)=γ (18:Nat):=ah
def nK(a b c:En):∀v∈a.cells++(b.cells++c.cells),v.oneCell'=ε:=by
 intro v hv;rw[aag,aag] at hv;rcases hv with h|h|h
 .exact dM a v h
 .exact dM b v h
 .exact dM c v h
def pk3 (a b c:En) (k:Nat):En:=if k=0 then a else if k=1 then b else c
def vQ(a b c):aM 3 (pk3 a b c)=a.cells++(b.cells++c.cells):=by
 rw[iG,iG,iG];show(([]++a.cells)++b.cells)++c.cells=_;rw[ο,Ha]
def VP(a b c:En):(a.cells++(b.cells++c.cells)).length=18:=rfl
def Ng(l B:List Value)(j:l.length=18)(C:B.length=18):fI l.toArray 0 B=B.toArray:=by
 rw[ji,abj,ο,j,Λ aa,ac9 aa,aaj]
def vU(a b c):(prog.info? 102).map (·.size)=γ (aM 3 (pk3 a b c)).toArray.size:=by
 rw[nS,vQ,VP];exact kS
def vM{w g}{l:List Value}{a b c:En}(h:Blk w g 102 (fI l.toArray 0 (a.cells++(b.cells++c.cells))))(Z:l.length=18):Blk w g 102 (aM 3 (pk3 a b c)).toArray:=by
 rw[Ng _ _ Z (VP a b c)] at h;rw[vQ];exact h
theorem Tf(gx gf C)(f:dZ)(eV Ww XH:En)(v z1 z0 M0 M1 w)(hc:bM w gf)(hg:fA w gx 105 393 C)(cv:∀t u,eV.cells[t]? =γ u->C (375+t)=u)(c0:∀t u,XH.cells[t]? =γ u->C (381+t)=u)(c1:∀t u,Ww.cells[t]? =γ u->C (387+t)=u)(ZL:GV w eV.v v 841)(g1:GV w Ww.v z1 841)(g0:GV w XH.v z0 841)(hS:Seen M0 M1 v z1 z0)(hr:0<=f.r/\f.r<=1000):
  Calls prog 126 #[.pointer (γ ⟨gx,0,δ⟩),.pointer (γ ⟨gf,0,δ⟩),oU f] w fun e w'=>∃(a:Nat->En),e=.returned (.agg (aM 3 a).toArray)/\(∀k,k<3->GV w' (a k).v (gP f.kind v z1 z0 (GQ.i f.r 0) k) 4400)/\Ext w w':=by
 obtain⟨x2,b1,b2⟩:=an2 w 33 #[.int .i64 f.kind,.bool f.line,.int .i64 f.obj,.int .i64 f.num,.int .i64 f.den,.int .i64 f.r] 102 #[.bool ζ,.slice δ 0 0,.bool ζ,.slice δ 0 0,.bool ζ,.slice δ 0 0,.bool ζ,.slice δ 0 0,.bool ζ,.slice δ 0 0,.bool ζ,.slice δ 0 0,.bool ζ,.slice δ 0 0,.bool ζ,.slice δ 0 0,.bool ζ,.slice δ 0 0];have HX:=aJ x2;have Y:=aJ b1;have I:=aJ b2;have HC:=aJ (hc.ext x2);have S:=aJ (hg.ext x2);have K:=aJ (ZL.ext x2);have B:=aJ (g1.ext x2);have G:=aJ (g0.ext x2);have Xt:=aJ cv;have X3:=aJ c0;have Xk:=aJ c1;have WP:=aJ hr;have HS:=aJ hS;clear x2 b1 b2 hc hg ZL g1 g0 cv c0 c1 hr hS;unfold oU;go_enter func126,ntmps126;(go_wp2_with fail);generalize ((w.alloc (.cells #[.int .i64 f.kind,.bool f.line,.int .i64 f.obj,.int .i64 f.num,.int .i64 f.den,.int .i64 f.r] 33)).alloc (.cells #[.bool ζ,.slice δ 0 0,.bool ζ,.slice δ 0 0,.bool ζ,.slice δ 0 0,.bool ζ,.slice δ 0 0,.bool ζ,.slice δ 0 0,.bool ζ,.slice δ 0 0,.bool ζ,.slice δ 0 0,.bool ζ,.slice δ 0 0,.bool ζ,.slice δ 0 0] 102))=w5 at HX Y I HC S K B G⊢;generalize Xo:w.heap.size+1=q2 at I⊢;have WK:Hid (w.heap.size<=q2):=aJ aa;clear Xo;generalize w.heap.size=q1 at Y⊢;have Zv:=aK.cell (S.cell_ (k:=375) aa (Xt.o 0 _ rfl));have Zx:=aK.cell (S.cell_ (k:=376) aa (Xt.o 1 _ rfl));have Zk:=aK.cell (S.cell_ (k:=377) aa (Xt.o 2 _ rfl));have Zp:=aK.cell (S.cell_ (k:=378) aa (Xt.o 3 _ rfl));have YW:=aK.cell (S.cell_ (k:=379) aa (Xt.o 4 _ rfl));have Zo:=aK.cell (S.cell_ (k:=380) aa (Xt.o 5 _ rfl));have YD:=aK.cell (S.cell_ (k:=381) aa (X3.o 0 _ rfl));have Yz:=aK.cell (S.cell_ (k:=382) aa (X3.o 1 _ rfl));have Yy:=aK.cell (S.cell_ (k:=383) aa (X3.o 2 _ rfl));have YB:=aK.cell (S.cell_ (k:=384) aa (X3.o 3 _ rfl));have YF:=aK.cell (S.cell_ (k:=385) aa (X3.o 4 _ rfl));have Yt:=aK.cell (S.cell_ (k:=386) aa (X3.o 5 _ rfl));have Yp:=aK.cell (S.cell_ (k:=387) aa (Xk.o 0 _ rfl));have Yo:=aK.cell (S.cell_ (k:=388) aa (Xk.o 1 _ rfl));have YA:=aK.cell (S.cell_ (k:=389) aa (Xk.o 2 _ rfl));have YE:=aK.cell (S.cell_ (k:=390) aa (Xk.o 3 _ rfl));have Yk:=aK.cell (S.cell_ (k:=391) aa (Xk.o 4 _ rfl));have YC:=aK.cell (S.cell_ (k:=392) aa (Xk.o 5 _ rfl));have Zy:=aK.cell ((Y.cell 5).trans rfl);refine tJ 24 (E8 [(1,.any),(5,.any),(10,.any),(17,.any),(18,.any),(19,.any),(20,.any),(21,.any),(22,.any),(23,.any)]) (NFs [(1,.eq (.pointer (γ ⟨gx,0,δ⟩))),(5,.eq (.pointer (γ ⟨gx,0,δ⟩))),(10,.eq (.pointer (γ ⟨gx,0,δ⟩))),(17,.gv (GQ.i f.r 0) (64)),(18,.pt),(19,.pt),(20,.pt),(21,.pt)]) (PdG [18,19,20,21]) (PoG (fun i=>if i=18 then eV else Ww)) (SG [(22,18),(23,19),(24,20),(25,21)]) (af9 _ _ _ _ rf ah) ah ah ?_;refine Qd ?_;refine lK 1 rf ah ?_;refine Qd ?_;(repeat (go_big_quiet_step (fail)));refine τ ?_;refine jL rf rf rf rf ?_ ?_
 .exact Ac2
 intro v_ XM XJ WA;obtain⟨T,Wv⟩:=WA;obtain rfl:v_=_:=Wv.get;clear Wv T;refine Qp ?_;refine lK 3 rf ah ?_;refine Qd ?_;(repeat (go_big_quiet_step (fail)));refine τ ?_;refine jL rf rf rf rf ?_ ?_
 .exact Ac2
 intro v_ XI Xw WA;obtain⟨T,Wv⟩:=WA;obtain rfl:v_=_:=Wv.get;clear Wv T;refine Qp ?_;refine lK 4 rf ah ?_;refine Qd ?_;(repeat (go_big_quiet_step (fail)));refine τ ?_;refine jL rf rf rf rf ?_ ?_
 .exact Ac2
 intro v_ X8 XV WA;obtain⟨T,Wv⟩:=WA;obtain rfl:v_=_:=Wv.get;clear Wv T;refine Qp ?_;refine lK 6 rf ah ?_;refine Qd ?_;(repeat (go_big_quiet_step (fail)));refine τ ?_;refine jL rf rf rf rf ?_ ?_
 .intro T hW J;clear J;go_simp;exact⟨rfl,(bO gf f.r _ (HC.ext hW) (by have:=WP.o;omega) (by have:=WP.o;omega)).mono fun e w' ⟨v,U,hv,hx⟩=>⟨v,U,hx,fun h=>absurd h aj,Dl hv⟩⟩
 intro v_ Ya X7 WA;obtain⟨T,Wv⟩:=WA;obtain⟨XK,rfl,-⟩:NF.holds (.gv (GQ.i f.r 0) (64)) Ya X7 v_ T:=Wv.get;clear Wv T;refine Qp ?_;refine jL rf rf rf rf ?_ ?_
 .exact Aay
 intro v_ g7 Xf WA;obtain⟨T,Wv⟩:=WA;obtain⟨rfl,WE⟩:NF.holds .pt g7 Xf v_ T:=Wv.get;clear Wv T;refine Qp ?_;refine jL rf rf rf rf ?_ ?_
 .exact Aay
 intro v_ g8 YG WA;obtain⟨T,Wv⟩:=WA;obtain⟨rfl,WC⟩:NF.holds .pt g8 YG v_ T:=Wv.get;clear Wv T;refine Qp ?_;refine jL rf rf rf rf ?_ ?_
 .exact Aay
 intro v_ g9 Yn WA;obtain⟨T,Wv⟩:=WA;obtain⟨rfl,XP⟩:NF.holds .pt g9 Yn v_ T:=Wv.get;clear Wv T;refine Qp ?_;refine jL rf rf rf rf ?_ ?_
 .exact Aay
 intro v_ g10 Xe WA;obtain⟨T,Wv⟩:=WA;obtain⟨rfl,Xd⟩:NF.holds .pt g10 Xe v_ T:=Wv.get;clear Wv T;refine Qp ?_;refine Gt (j:=18) (e:=(.pointer (γ ⟨g7,0,δ⟩),g7,Xf)) rf rf rf rf rf WE rf (fun _ _ _ _=>trivial) ?_ ?_
 .intro T hP;exact Pm rf rf rf (hP rf)
 intro aI;refine Qp ?_;refine Gt (j:=19) (e:=(.pointer (γ ⟨g8,0,δ⟩),g8,YG)) rf rf rf rf rf WC rf (fun _ _ _ _=>trivial) ?_ ?_
 .intro T hP;exact Pm rf rf rf (hP rf)
 intro aE;refine Qp ?_;refine FH ?_;intro w6 J;have F:=J.ext;have D:=J.hV 17;have W:Hid (Blk w6 g7 42 #[.bool eV.s1,.slice eV.A1 eV.n1 eV.c1,.bool eV.s2,.slice eV.A2 eV.n2 eV.c2,.bool eV.s3,.slice eV.A3 eV.n3 eV.c3]):=aJ (J.post 22 18 _ _ rf rf rf).2;have ZP:=aJ (J.lw 18);have V:Hid (Blk w6 g8 42 #[.bool Ww.s1,.slice Ww.A1 Ww.n1 Ww.c1,.bool Ww.s2,.slice Ww.A2 Ww.n2 Ww.c2,.bool Ww.s3,.slice Ww.A3 Ww.n3 Ww.c3]):=aJ (J.post 23 19 _ _ rf rf rf).2;have ZG:=aJ (J.lw 19);have P:Hid (Blk w6 g9 42 #[.bool ζ,.slice δ 0 0,.bool ζ,.slice δ 0 0,.bool ζ,.slice δ 0 0]):=aJ (J.pend 24 20 _ rf rf rf rf).2;have YK:=aJ (J.lw 20);have L:Hid (Blk w6 g10 42 #[.bool ζ,.slice δ 0 0,.bool ζ,.slice δ 0 0,.bool ζ,.slice δ 0 0]):=aJ (J.pend 25 21 _ rf rf rf rf).2;have Yh:=aJ (J.lw 21);have XR:=aJ (J.nn 18 20 WE XP);have XD:=aJ (J.nn 18 21 WE Xd);have XL:=aJ (J.nn 19 20 WC XP);have XC:=aJ (J.nn 19 21 WC Xd);have Xz:=aJ (J.nn 20 21 XP Xd);have XF:=aJ (J.nn 21 20 Xd XP);clear J WE WC XP Xd Zv Zx Zk Zp YW Zo YD Yz Yy YB YF Yt Yp Yo YA YE Yk YC Zy;have O:=aJ (P.there (o:=0) (n:=6) ag);refine aN rfl 42 (.tmp 9) (.tmp 31) rfl g9 0 XH.cells rf rf O.o bE (dM XH) ?_;intro w7 l;refine Qp ?_;obtain⟨F,Wm,M,Wx⟩:=mR XH F YK.o P.o l;clear l O;replace D:=aJ (M _ _ _ D.o);replace W:=aJ (Wx _ _ _ XR.o W.o);replace V:=aJ (Wx _ _ _ XL.o V.o);replace L:=aJ (Wx _ _ _ XF.o L.o);replace P:=aJ Wm;clear Wm M Wx;have O:=aJ (L.there (o:=0) (n:=6) ag);refine aN rfl 42 (.tmp 10) (.tmp 35) rfl g10 0 XK.cells rf rf O.o bE (dM XK) ?_;intro w8 l;refine Qp ?_;obtain⟨F,Wm,M,Wx⟩:=mR XK F Yh.o L.o l;clear l O;replace D:=aJ (M _ _ _ D.o);replace W:=aJ (Wx _ _ _ XD.o W.o);replace V:=aJ (Wx _ _ _ XC.o V.o);replace P:=aJ (Wx _ _ _ Xz.o P.o);replace L:=aJ Wm;clear Wm M Wx;clear XR XD XL XC Xz XF;replace HC:=HC.aA F;replace S:=S.aA F;replace Y:=Y.aA F;replace I:=I.aA F;replace K:=K.aA F;replace B:=B.aA F;replace G:=G.aA F;replace HX:=HX.aC F;clear F;clear ZP;clear ZG;clear YK;clear Yh;(go_wp2_with fail);refine(bO gf 0 _ HC.o aa aa).mono ?_;rintro _ w9 ⟨_,rfl,M,F⟩;replace M:∃e:En,_=e.v/\GV w9 e.v (GQ.i 0 0) (64):=Dl M;obtain⟨Xp,rfl,M⟩:=M;replace HC:=HC.aA F;replace S:=S.aA F;replace Y:=Y.aA F;replace I:=I.aA F;replace K:=K.aA F;replace B:=B.aA F;replace G:=G.aA F;replace D:=D.aA F;replace W:=W.aA F;replace V:=V.aA F;replace P:=P.aA F;replace L:=L.aA F;replace HX:=HX.aC F;have H:=aJ M;clear F M;have F:=Ext.new w9 (.cells #[.bool ζ,.slice δ 0 0,.bool ζ,.slice δ 0 0,.bool ζ,.slice δ 0 0] 42);obtain⟨-,N⟩:=ah1 w9 42 #[.bool ζ,.slice δ 0 0,.bool ζ,.slice δ 0 0,.bool ζ,.slice δ 0 0];replace H:=H.aA F;have O:=aJ (N.there (o:=0) (n:=6) ag);(iterate 5 (try (first|go_values|go_skip|go_guarded|go_step|go_upon|go_in|go_back|go_simp)));refine aN rfl 42 (.tmp 11) (.tmp 37) rfl w9.heap.size 0 Xp.cells rf rf O.o bE (dM Xp) ?_;intro XE l;refine Qp ?_;obtain⟨F,Wm,M,-⟩:=mR Xp F (κ _) N.o l;clear l O;replace H:=aJ (M _ _ _ H.o);replace N:=aJ Wm;replace HC:=HC.aA F;replace S:=S.aA F;replace Y:=Y.aA F;replace I:=I.aA F;replace K:=K.aA F;replace B:=B.aA F;replace G:=G.aA F;replace D:=D.aA F;replace W:=W.aA F;replace V:=V.aA F;replace P:=P.aA F;replace L:=L.aA F;replace HX:=HX.aC F;clear F Wm M;generalize w9.heap.size=Xh at N⊢;by_cases h3:f.kind<=3
 .have Z:=aJ (show f.kind<=3 from h3);clear h3;have kf:=Blk.cell Y.o;have Xc:decide (f.kind<=3)=ε:=pq AbK;(go_wp2_with fail);clear kf Xc;have WO:=aJ (show Bd (v/(z1*GQ.i 2 0+z0+GQ.i f.r 0*GQ.i 3 0)) 2600 by have Q:=HS.bd f.kind WP.o.1 WP.o.2 0;unfold gP at Q;rwa[ι Z.o] at Q);have WM:=aJ (HS.neA f.r);have WN:=aK.blk W.o;have WV:=aK.blk V.o;have WU:=aK.blk P.o;have Wy:=aK.blk L.o;have Wu:=aK.blk N.o;refine tN 15 [(6,.gv (z1*GQ.i 2 0) (906)),(8,.gv ((z1*GQ.i 2 0)+z0) (1812)),(11,.gv ((GQ.i f.r 0)*GQ.i 3 0) (129)),(12,.gv (((z1*GQ.i 2 0)+z0)+((GQ.i f.r 0)*GQ.i 3 0)) (2006)),(13,.gv (v/(((z1*GQ.i 2 0)+z0)+((GQ.i f.r 0)*GQ.i 3 0))) (2600)),(14,.box 42 #[.bool ζ,.slice δ 0 0,.bool ζ,.slice δ 0 0,.bool ζ,.slice δ 0 0])] ?_;refine Qs ?_;refine Ee (fun T J=>um gf Ww.v z1 (841) 2 _ (HC.ext J.1) (B.ext J.1) aa aa) ?_;intro ZK Yw Yx;refine Qs ?_;refine Ee (fun T J=>lW gf ZK.v XH.v (z1*GQ.i 2 0) z0 (906) (841) _ (HC.ext J.1) (aeM (J.f 6 (ZK.v,Yw,Yx))) (G.ext J.1) aa) ?_;intro Z7 Z8 ZE;refine Qs ?_;refine Ee (fun T J=>um gf XK.v (GQ.i f.r 0) (64) 3 _ (HC.ext J.1) (D.ext J.1) aa aa) ?_;intro ZX Yq Yl;refine Ee (fun T J=>lW gf Z7.v ZX.v ((z1*GQ.i 2 0)+z0) ((GQ.i f.r 0)*GQ.i 3 0) (1812) (129) _ (HC.ext J.1) (aeM (J.f 8 (Z7.v,Z8,ZE))) (aeM (J.f 11 (ZX.v,Yq,Yl))) aa) ?_;intro ad Zt Zw;refine Ee (fun T J=>lY gf eV.v ad.v v (((z1*GQ.i 2 0)+z0)+((GQ.i f.r 0)*GQ.i 3 0)) (841) (2006) _ (HC.ext J.1) (K.ext J.1) (aeM (J.f 12 (ad.v,Zt,Zw))) WM.o (2600) aa aa WO.o aa) ?_;intro Xq az aP;refine Eb ?_;intro g12 Zm XA;refine bz ?_;intro Xn J;have F:=J.ext;have XN:=J.hV 6;have XT:=J.hV 8;have XQ:=J.hV 11;have XO:=J.hV 12;have WX:=J.hV 13;have Xm:=J.hB 14;have Yg:=aJ (J.lw 14);clear J WN WV WU Wy Wu XA;have O:=aJ (Xm.there (o:=0) (n:=6) ag);refine aN rfl 42 (.tmp 12) (.tmp 55) rfl g12 0 Xq.cells rf rf O.o bE (dM Xq) ?_;intro XY l;refine Qp ?_;obtain⟨F,Wm,M,Wx⟩:=mR Xq F Yg.o Xm.o l;clear l O;replace XN:=aJ (M _ _ _ XN.o);replace XT:=aJ (M _ _ _ XT.o);replace XQ:=aJ (M _ _ _ XQ.o);replace XO:=aJ (M _ _ _ XO.o);replace WX:=aJ (M _ _ _ WX.o);replace Xm:=aJ Wm;clear Wm M Wx;replace HC:=HC.aA F;replace S:=S.aA F;replace Y:=Y.aA F;replace I:=I.aA F;replace K:=K.aA F;replace B:=B.aA F;replace G:=G.aA F;replace D:=D.aA F;replace H:=H.aA F;replace W:=W.aA F;replace V:=V.aA F;replace P:=P.aA F;replace L:=L.aA F;replace N:=N.aA F;replace HX:=HX.aC F;clear F;clear Yg;have a2:=Blk.cell Xm.o;have O:=aJ (I.there (o:=0) (n:=18) ag);(iterate 17 (try (first|go_values|go_skip|go_guarded|go_step|go_upon|go_in|go_back|go_simp)));refine aN rfl 102 (.tmp 6) (.tmp 59) rfl q2 0 (Xq.cells++(Xq.cells++Xq.cells)) rf rf O.o kS (nK _ _ _) ?_;intro XG l;obtain⟨F,Wm,M⟩:=yZ _ HX.o WK.o I.o rf l;clear l O;have HB:=aJ Wm;have R:=aJ F;have WT:=aJ M;clear F Wm M;(go_wp2_with fail);have Wq:=vM HB.o rfl;refine iC rfl rfl rfl Wq Bn rfl (vU _ _ _) ⟨pk3 Xq Xq Xq,rfl,fun k hk=> ?_,R.o⟩;have h3:k=0\/k=1\/k=2:=aa;rcases h3 with rfl|rfl|rfl
  .exact AcN
  .exact AcN
  .exact AcN
 by_cases h6:f.kind<=6
 .have Z:=aJ (show 3<f.kind/\f.kind<=6 from ⟨aa,h6⟩);clear h3 h6;have kf:=Blk.cell Y.o;have Xc:decide (f.kind<=3)=ζ:=Γ AbK;have Yf:decide (f.kind<=6)=ε:=pq AbK;(go_wp2_with fail);clear kf Xc Yf;have WO:=aJ (show Bd (v/(z1*GQ.i 2 0+GQ.i f.r 0)) 2600 by have Q:=HS.bd f.kind WP.o.1 WP.o.2 1;unfold gP at Q;rwa[θ (show ¬f.kind<=3 by have:=Z.o;omega),ι (show f.kind<=6 by have:=Z.o;omega),θ aj,ι rfl] at Q);have WM:=aJ (HS.neB f.r);have WN:=aK.blk W.o;have WV:=aK.blk V.o;have WU:=aK.blk P.o;have Wy:=aK.blk L.o;have Wu:=aK.blk N.o;refine tN 10 [(5,.gv (z1*GQ.i 2 0) (906)),(7,.gv ((z1*GQ.i 2 0)+(GQ.i f.r 0)) (1035)),(8,.gv (v/((z1*GQ.i 2 0)+(GQ.i f.r 0))) (2600)),(9,.box 42 #[.bool ζ,.slice δ 0 0,.bool ζ,.slice δ 0 0,.bool ζ,.slice δ 0 0])] ?_;refine Qs ?_;refine Ee (fun T J=>um gf Ww.v z1 (841) 2 _ (HC.ext J.1) (B.ext J.1) aa aa) ?_;intro ZZ XU X4;refine Qs ?_;refine Ee (fun T J=>lW gf ZZ.v XK.v (z1*GQ.i 2 0) (GQ.i f.r 0) (906) (64) _ (HC.ext J.1) (aeM (J.f 5 (ZZ.v,XU,X4))) (D.ext J.1) aa) ?_;intro ZH ZN Zz;refine Ee (fun T J=>lY gf eV.v ZH.v v ((z1*GQ.i 2 0)+(GQ.i f.r 0)) (841) (1035) _ (HC.ext J.1) (K.ext J.1) (aeM (J.f 7 (ZH.v,ZN,Zz))) WM.o (2600) aa aa WO.o aa) ?_;intro X6 YS YO;refine Eb ?_;intro XX X9 Yr;refine bz ?_;intro Xn J;have F:=J.ext;have Xb:=J.hV 5;have Xg:=J.hV 7;have WJ:=J.hV 8;have Xr:=J.hB 9;have Yd:=aJ (J.lw 9);clear J WN WV WU Wy Wu Yr;have O:=aJ (Xr.there (o:=0) (n:=6) ag);refine aN rfl 42 (.tmp 13) (.tmp 72) rfl XX 0 X6.cells rf rf O.o bE (dM X6) ?_;intro XY l;refine Qp ?_;obtain⟨F,Wm,M,Wx⟩:=mR X6 F Yd.o Xr.o l;clear l O;replace Xb:=aJ (M _ _ _ Xb.o);replace Xg:=aJ (M _ _ _ Xg.o);replace WJ:=aJ (M _ _ _ WJ.o);replace Xr:=aJ Wm;clear Wm M Wx;replace HC:=HC.aA F;replace S:=S.aA F;replace Y:=Y.aA F;replace I:=I.aA F;replace K:=K.aA F;replace B:=B.aA F;replace G:=G.aA F;replace D:=D.aA F;replace H:=H.aA F;replace W:=W.aA F;replace V:=V.aA F;replace P:=P.aA F;replace L:=L.aA F;replace N:=N.aA F;replace HX:=HX.aC F;clear F;clear Yd;(go_wp2_with fail);have WN:=aK.blk W.o;have WV:=aK.blk V.o;have WU:=aK.blk P.o;have Wy:=aK.blk L.o;have Wu:=aK.blk N.o;have Z9:=aK.blk Xr.o;refine tN 6 [(4,.gv (GQ.i 0 0-(v/((z1*GQ.i 2 0)+(GQ.i f.r 0)))) (2729))] ?_;refine Qs ?_;refine Ee (fun T J=>DC gf X6.v (v/((z1*GQ.i 2 0)+(GQ.i f.r 0))) (2600) _ (HC.ext J.1) (WJ.ext J.1) aa) ?_;intro ZF ZT ZA;simp only[En.v,gv];refine Qs ?_;refine bz ?_;intro XG J;have F:=J.ext;have Ym:=J.hV 4;clear J WN WV WU Wy Wu Z9;replace HC:=HC.aA F;replace S:=S.aA F;replace Y:=Y.aA F;replace I:=I.aA F;replace K:=K.aA F;replace B:=B.aA F;replace G:=G.aA F;replace D:=D.aA F;replace H:=H.aA F;replace Xb:=Xb.aA F;replace Xg:=Xg.aA F;replace WJ:=WJ.aA F;replace HX:=HX.aC F;clear F;have O:=aJ (I.there (o:=0) (n:=18) ag);refine aN rfl 102 (.tmp 6) (.tmp 78) rfl q2 0 (Xp.cells++(X6.cells++ZF.cells)) rf rf O.o kS (nK _ _ _) ?_;intro ay l;refine Qp ?_;obtain⟨F,Wm,M⟩:=yZ _ HX.o WK.o I.o rf l;clear l O;have HB:=aJ Wm;have R:=aJ F;have WT:=aJ M;clear F Wm M;(go_wp2_with fail);have Wq:=vM HB.o rfl;refine iC rfl rfl rfl Wq Bn rfl (vU _ _ _) ⟨pk3 Xp X6 ZF,rfl,fun k hk=> ?_,R.o⟩;have h3:k=0\/k=1\/k=2:=aa;rcases h3 with rfl|rfl|rfl
  .have Q:=(WT.o _ _ _ H.o).up (show 64<=4400 by omega);unfold gP;rw[θ (show ¬f.kind<=3 by have:=Z.o;omega),ι (show f.kind<=6 by have:=Z.o;omega),ι rfl];exact Q
  .have Q:=(WT.o _ _ _ WJ.o).up (show 2600<=4400 by omega);unfold gP;rw[θ (show ¬f.kind<=3 by have:=Z.o;omega),ι (show f.kind<=6 by have:=Z.o;omega),θ aj,ι rfl];exact Q
  .have Q:=(WT.o _ _ _ Ym.o).up (show 2729<=4400 by omega);unfold gP;rw[θ (show ¬f.kind<=3 by have:=Z.o;omega),ι (show f.kind<=6 by have:=Z.o;omega),θ aj,θ aj];exact Q
 by_cases h9:f.kind<=9
 .have Z:=aJ (show 6<f.kind/\f.kind<=9 from ⟨aa,h9⟩);clear h3 h6 h9;have kf:=Blk.cell Y.o;have Xc:decide (f.kind<=3)=ζ:=Γ AbK;have Yf:decide (f.kind<=6)=ζ:=Γ AbK;have Zj:decide (f.kind<=9)=ε:=pq AbK;(go_wp2_with fail);clear kf Xc Yf Zj;obtain⟨ZW,ZC,ZI,ZQ,ZU,ZO⟩:=HS.VO WP.o.1 WP.o.2;have Wn:=aJ ZW;have WB:=aJ ZC;have WS:=aJ ZI;have aw:=aJ ZQ;have Yv:=aJ ZU;have ax:=aJ ZO;clear ZW ZC ZI ZQ ZU ZO;have WN:=aK.blk W.o;have WV:=aK.blk V.o;have WU:=aK.blk P.o;have Wy:=aK.blk L.o;have Wu:=aK.blk N.o;refine tN 7 [(4,.gv ((GQ.i f.r 0)*GQ.i 3 0) (129)),(5,.gv (z0+((GQ.i f.r 0)*GQ.i 3 0)) (1035)),(6,.box 42 #[.bool ζ,.slice δ 0 0,.bool ζ,.slice δ 0 0,.bool ζ,.slice δ 0 0])] ?_;refine Qs ?_;refine Ee (fun T J=>um gf XK.v (GQ.i f.r 0) (64) 3 _ (HC.ext J.1) (D.ext J.1) aa aa) ?_;intro ZB ZV ZJ;refine Ee (fun T J=>lW gf XH.v ZB.v z0 ((GQ.i f.r 0)*GQ.i 3 0) (841) (129) _ (HC.ext J.1) (G.ext J.1) (aeM (J.f 4 (ZB.v,ZV,ZJ))) aa) ?_;intro XW aG aB;refine Eb ?_;intro Xa Xv WL;refine bz ?_;intro Xn J;have F:=J.ext;have Wp:=J.hV 4;have Wj:=J.hV 5;have Wl:=J.hB 6;have WZ:=aJ (J.lw 6);clear J WN WV WU Wy Wu WL;have O:=aJ (Wl.there (o:=0) (n:=6) ag);refine aN rfl 42 (.tmp 14) (.tmp 88) rfl Xa 0 XW.cells rf rf O.o bE (dM XW) ?_;intro XY l;refine Qp ?_;obtain⟨F,Wm,M,Wx⟩:=mR XW F WZ.o Wl.o l;clear l O;replace Wp:=aJ (M _ _ _ Wp.o);replace Wj:=aJ (M _ _ _ Wj.o);replace Wl:=aJ Wm;clear Wm M Wx;replace HC:=HC.aA F;replace S:=S.aA F;replace Y:=Y.aA F;replace I:=I.aA F;replace K:=K.aA F;replace B:=B.aA F;replace G:=G.aA F;replace D:=D.aA F;replace H:=H.aA F;replace W:=W.aA F;replace V:=V.aA F;replace P:=P.aA F;replace L:=L.aA F;replace N:=N.aA F;replace HX:=HX.aC F;clear F;clear WZ;have k8:=Blk.cell V.o;have XZ:=Blk.cell Wl.o;(go_wp2_with fail);refine(lW gf Ww.v XW.v z1 (z0+((GQ.i f.r 0)*GQ.i 3 0)) (841) (1035) _ HC.o B.o Wj.o aa).mono ?_;rintro _ XG ⟨_,rfl,M,F⟩;replace M:∃e:En,_=e.v/\GV XG e.v (z1+(z0+((GQ.i f.r 0)*GQ.i 3 0))) (1941):=Dl M;obtain⟨X5,rfl,M⟩:=M;replace HC:=HC.aA F;replace S:=S.aA F;replace Y:=Y.aA F;replace I:=I.aA F;replace K:=K.aA F;replace B:=B.aA F;replace G:=G.aA F;replace D:=D.aA F;replace H:=H.aA F;replace Wp:=Wp.aA F;replace Wj:=Wj.aA F;replace W:=W.aA F;replace V:=V.aA F;replace P:=P.aA F;replace L:=L.aA F;replace N:=N.aA F;replace Wl:=Wl.aA F;replace HX:=HX.aC F;have Wo:=aJ M;clear F M;have F:=Ext.new XG (.cells #[.bool ζ,.slice δ 0 0,.bool ζ,.slice δ 0 0,.bool ζ,.slice δ 0 0] 42);obtain⟨-,Wt⟩:=ah1 XG 42 #[.bool ζ,.slice δ 0 0,.bool ζ,.slice δ 0 0,.bool ζ,.slice δ 0 0];replace Wo:=Wo.aA F;have O:=aJ (Wt.there (o:=0) (n:=6) ag);(iterate 5 (try (first|go_values|go_skip|go_guarded|go_step|go_upon|go_in|go_back|go_simp)));refine aN rfl 42 (.tmp 15) (.tmp 92) rfl XG.heap.size 0 X5.cells rf rf O.o bE (dM X5) ?_;intro ay l;refine Qp ?_;obtain⟨F,Wm,M,-⟩:=mR X5 F (κ _) Wt.o l;clear l O;replace Wo:=aJ (M _ _ _ Wo.o);replace Wt:=aJ Wm;replace HC:=HC.aA F;replace S:=S.aA F;replace Y:=Y.aA F;replace I:=I.aA F;replace K:=K.aA F;replace B:=B.aA F;replace G:=G.aA F;replace D:=D.aA F;replace H:=H.aA F;replace Wp:=Wp.aA F;replace Wj:=Wj.aA F;replace W:=W.aA F;replace V:=V.aA F;replace P:=P.aA F;replace L:=L.aA F;replace N:=N.aA F;replace Wl:=Wl.aA F;replace HX:=HX.aC F;clear F Wm M;generalize XG.heap.size=W9 at Wt⊢;(go_wp2_with fail);have WN:=aK.blk W.o;have WV:=aK.blk V.o;have WU:=aK.blk P.o;have Wy:=aK.blk L.o;have Wu:=aK.blk N.o;have Xj:=aK.blk Wl.o;have Xy:=aK.blk Wt.o;refine tN 14 [(8,.gv (z1*(z0+((GQ.i f.r 0)*GQ.i 3 0))) (1877)),(10,.gv ((z1*(z0+((GQ.i f.r 0)*GQ.i 3 0)))/(z1+(z0+((GQ.i f.r 0)*GQ.i 3 0)))) (2600)),(11,.gv (z1+((z1*(z0+((GQ.i f.r 0)*GQ.i 3 0)))/(z1+(z0+((GQ.i f.r 0)*GQ.i 3 0))))) (3506)),(12,.gv (v/(z1+((z1*(z0+((GQ.i f.r 0)*GQ.i 3 0)))/(z1+(z0+((GQ.i f.r 0)*GQ.i 3 0)))))) (2600)),(13,.box 42 #[.bool ζ,.slice δ 0 0,.bool ζ,.slice δ 0 0,.bool ζ,.slice δ 0 0])] ?_;refine Qs ?_;refine Ee (fun T J=>uq gf Ww.v XW.v z1 (z0+((GQ.i f.r 0)*GQ.i 3 0)) (841) (1035) _ (HC.ext J.1) (B.ext J.1) (Wj.ext J.1) aa) ?_;intro YN YX Zq;refine Qs ?_;refine Ee (fun T J=>lY gf YN.v X5.v (z1*(z0+((GQ.i f.r 0)*GQ.i 3 0))) (z1+(z0+((GQ.i f.r 0)*GQ.i 3 0))) (1877) (1941) _ (HC.ext J.1) (aeM (J.f 8 (YN.v,YX,Zq))) (Wo.ext J.1) Yv.o (2600) aa aa aw.o aa) ?_;intro YR Ze Zl;refine Ee (fun T J=>lW gf Ww.v YR.v z1 ((z1*(z0+((GQ.i f.r 0)*GQ.i 3 0)))/(z1+(z0+((GQ.i f.r 0)*GQ.i 3 0)))) (841) (2600) _ (HC.ext J.1) (B.ext J.1) (aeM (J.f 10 (YR.v,Ze,Zl))) aa) ?_;intro YL Zr Zg;refine Ee (fun T J=>lY gf eV.v YL.v v (z1+((z1*(z0+((GQ.i f.r 0)*GQ.i 3 0)))/(z1+(z0+((GQ.i f.r 0)*GQ.i 3 0))))) (841) (3506) _ (HC.ext J.1) (K.ext J.1) (aeM (J.f 11 (YL.v,Zr,Zg))) ax.o (2600) aa aa Wn.o aa) ?_;intro Xi ar av;refine Eb ?_;intro WQ Xu XB;refine bz ?_;intro a3 J;have F:=J.ext;have WF:=J.hV 8;have WG:=J.hV 10;have Wz:=J.hV 11;have Ws:=J.hV 12;have WR:=J.hB 13;have Yc:=aJ (J.lw 13);clear J WN WV WU Wy Wu Xj Xy XB;have O:=aJ (WR.there (o:=0) (n:=6) ag);refine aN rfl 42 (.tmp 16) (.tmp 105) rfl WQ 0 Xi.cells rf rf O.o bE (dM Xi) ?_;intro a5 l;refine Qp ?_;obtain⟨F,Wm,M,Wx⟩:=mR Xi F Yc.o WR.o l;clear l O;replace WF:=aJ (M _ _ _ WF.o);replace WG:=aJ (M _ _ _ WG.o);replace Wz:=aJ (M _ _ _ Wz.o);replace Ws:=aJ (M _ _ _ Ws.o);replace WR:=aJ Wm;clear Wm M Wx;replace HC:=HC.aA F;replace S:=S.aA F;replace Y:=Y.aA F;replace I:=I.aA F;replace K:=K.aA F;replace B:=B.aA F;replace G:=G.aA F;replace D:=D.aA F;replace H:=H.aA F;replace Wp:=Wp.aA F;replace Wj:=Wj.aA F;replace Wo:=Wo.aA F;replace W:=W.aA F;replace V:=V.aA F;replace P:=P.aA F;replace L:=L.aA F;replace N:=N.aA F;replace Wl:=Wl.aA F;replace Wt:=Wt.aA F;replace HX:=HX.aC F;clear F;clear Yc;(go_wp2_with fail);have WN:=aK.blk W.o;have WV:=aK.blk V.o;have WU:=aK.blk P.o;have Wy:=aK.blk L.o;have Wu:=aK.blk N.o;have Xj:=aK.blk Wl.o;have Xy:=aK.blk Wt.o;have Yj:=aK.blk WR.o;refine tN 10 [(5,.gv ((v/(z1+((z1*(z0+((GQ.i f.r 0)*GQ.i 3 0)))/(z1+(z0+((GQ.i f.r 0)*GQ.i 3 0))))))*(z0+((GQ.i f.r 0)*GQ.i 3 0))) (3636)),(7,.gv (((v/(z1+((z1*(z0+((GQ.i f.r 0)*GQ.i 3 0)))/(z1+(z0+((GQ.i f.r 0)*GQ.i 3 0))))))*(z0+((GQ.i f.r 0)*GQ.i 3 0)))/(z1+(z0+((GQ.i f.r 0)*GQ.i 3 0)))) (2600)),(8,.gv (GQ.i 0 0-(((v/(z1+((z1*(z0+((GQ.i f.r 0)*GQ.i 3 0)))/(z1+(z0+((GQ.i f.r 0)*GQ.i 3 0))))))*(z0+((GQ.i f.r 0)*GQ.i 3 0)))/(z1+(z0+((GQ.i f.r 0)*GQ.i 3 0))))) (2729)),(9,.box 42 #[.bool ζ,.slice δ 0 0,.bool ζ,.slice δ 0 0,.bool ζ,.slice δ 0 0])] ?_;refine Qs ?_;refine Ee (fun T J=>uq gf Xi.v XW.v (v/(z1+((z1*(z0+((GQ.i f.r 0)*GQ.i 3 0)))/(z1+(z0+((GQ.i f.r 0)*GQ.i 3 0)))))) (z0+((GQ.i f.r 0)*GQ.i 3 0)) (2600) (1035) _ (HC.ext J.1) (Ws.ext J.1) (Wj.ext J.1) aa) ?_;intro YT Za Zc;refine Qs ?_;refine Ee (fun T J=>lY gf YT.v X5.v ((v/(z1+((z1*(z0+((GQ.i f.r 0)*GQ.i 3 0)))/(z1+(z0+((GQ.i f.r 0)*GQ.i 3 0))))))*(z0+((GQ.i f.r 0)*GQ.i 3 0))) (z1+(z0+((GQ.i f.r 0)*GQ.i 3 0))) (3636) (1941) _ (HC.ext J.1) (aeM (J.f 5 (YT.v,Za,Zc))) (Wo.ext J.1) Yv.o (2600) aa aa WB.o aa) ?_;intro YJ YZ Zi;refine Ee (fun T J=>DC gf YJ.v (((v/(z1+((z1*(z0+((GQ.i f.r 0)*GQ.i 3 0)))/(z1+(z0+((GQ.i f.r 0)*GQ.i 3 0))))))*(z0+((GQ.i f.r 0)*GQ.i 3 0)))/(z1+(z0+((GQ.i f.r 0)*GQ.i 3 0)))) (2600) _ (HC.ext J.1) (aeM (J.f 7 (YJ.v,YZ,Zi))) aa) ?_;intro Xx ao am;refine Eb ?_;intro WI YH Yu;refine bz ?_;intro a1 J;have F:=J.ext;have WW:=J.hV 5;have WY:=J.hV 7;have WH:=J.hV 8;have Xl:=J.hB 9;have Ye:=aJ (J.lw 9);clear J WN WV WU Wy Wu Xj Xy Yj Yu;have O:=aJ (Xl.there (o:=0) (n:=6) ag);refine aN rfl 42 (.tmp 17) (.tmp 114) rfl WI 0 Xx.cells rf rf O.o bE (dM Xx) ?_;intro a6 l;refine Qp ?_;obtain⟨F,Wm,M,Wx⟩:=mR Xx F Ye.o Xl.o l;clear l O;replace WW:=aJ (M _ _ _ WW.o);replace WY:=aJ (M _ _ _ WY.o);replace WH:=aJ (M _ _ _ WH.o);replace Xl:=aJ Wm;clear Wm M Wx;replace HC:=HC.aA F;replace S:=S.aA F;replace Y:=Y.aA F;replace I:=I.aA F;replace K:=K.aA F;replace B:=B.aA F;replace G:=G.aA F;replace D:=D.aA F;replace H:=H.aA F;replace Wp:=Wp.aA F;replace Wj:=Wj.aA F;replace Wo:=Wo.aA F;replace WF:=WF.aA F;replace WG:=WG.aA F;replace Wz:=Wz.aA F;replace Ws:=Ws.aA F;replace W:=W.aA F;replace V:=V.aA F;replace P:=P.aA F;replace L:=L.aA F;replace N:=N.aA F;replace Wl:=Wl.aA F;replace Wt:=Wt.aA F;replace WR:=WR.aA F;replace HX:=HX.aC F;clear F;clear Ye;(go_wp2_with fail);have WN:=aK.blk W.o;have WV:=aK.blk V.o;have WU:=aK.blk P.o;have Wy:=aK.blk L.o;have Wu:=aK.blk N.o;have Xj:=aK.blk Wl.o;have Xy:=aK.blk Wt.o;have Yj:=aK.blk WR.o;have ac:=aK.blk Xl.o;refine tN 12 [(5,.gv ((v/(z1+((z1*(z0+((GQ.i f.r 0)*GQ.i 3 0)))/(z1+(z0+((GQ.i f.r 0)*GQ.i 3 0))))))*z1) (3442)),(7,.gv (((v/(z1+((z1*(z0+((GQ.i f.r 0)*GQ.i 3 0)))/(z1+(z0+((GQ.i f.r 0)*GQ.i 3 0))))))*z1)/(z1+(z0+((GQ.i f.r 0)*GQ.i 3 0)))) (2600)),(8,.gv (GQ.i 0 0-(((v/(z1+((z1*(z0+((GQ.i f.r 0)*GQ.i 3 0)))/(z1+(z0+((GQ.i f.r 0)*GQ.i 3 0))))))*z1)/(z1+(z0+((GQ.i f.r 0)*GQ.i 3 0))))) (2729))] ?_;refine Qs ?_;refine Ee (fun T J=>uq gf Xi.v Ww.v (v/(z1+((z1*(z0+((GQ.i f.r 0)*GQ.i 3 0)))/(z1+(z0+((GQ.i f.r 0)*GQ.i 3 0)))))) z1 (2600) (841) _ (HC.ext J.1) (Ws.ext J.1) (B.ext J.1) aa) ?_;intro YU YY YV;refine Qs ?_;refine Ee (fun T J=>lY gf YU.v X5.v ((v/(z1+((z1*(z0+((GQ.i f.r 0)*GQ.i 3 0)))/(z1+(z0+((GQ.i f.r 0)*GQ.i 3 0))))))*z1) (z1+(z0+((GQ.i f.r 0)*GQ.i 3 0))) (3442) (1941) _ (HC.ext J.1) (aeM (J.f 5 (YU.v,YY,YV))) (Wo.ext J.1) Yv.o (2600) aa aa WS.o aa) ?_;intro YI Zh Zf;refine Ee (fun T J=>DC gf YI.v (((v/(z1+((z1*(z0+((GQ.i f.r 0)*GQ.i 3 0)))/(z1+(z0+((GQ.i f.r 0)*GQ.i 3 0))))))*z1)/(z1+(z0+((GQ.i f.r 0)*GQ.i 3 0)))) (2600) _ (HC.ext J.1) (aeM (J.f 7 (YI.v,Zh,Zf))) aa) ?_;intro YP ap aq;simp only[En.v,gv];refine Qs ?_;refine bz ?_;intro a4 J;have F:=J.ext;have ZR:=J.hV 5;have ZM:=J.hV 7;have Yb:=J.hV 8;clear J WN WV WU Wy Wu Xj Xy Yj ac;replace HC:=HC.aA F;replace S:=S.aA F;replace Y:=Y.aA F;replace I:=I.aA F;replace K:=K.aA F;replace B:=B.aA F;replace G:=G.aA F;replace D:=D.aA F;replace H:=H.aA F;replace Wp:=Wp.aA F;replace Wj:=Wj.aA F;replace Wo:=Wo.aA F;replace WF:=WF.aA F;replace WG:=WG.aA F;replace Wz:=Wz.aA F;replace Ws:=Ws.aA F;replace WW:=WW.aA F;replace WY:=WY.aA F;replace WH:=WH.aA F;replace HX:=HX.aC F;clear F;have O:=aJ (I.there (o:=0) (n:=18) ag);refine aN rfl 102 (.tmp 6) (.tmp 126) rfl q2 0 (YP.cells++(Xi.cells++Xx.cells)) rf rf O.o kS (nK _ _ _) ?_;intro a0 l;refine Qp ?_;obtain⟨F,Wm,M⟩:=yZ _ HX.o WK.o I.o rf l;clear l O;have HB:=aJ Wm;have R:=aJ F;have WT:=aJ M;clear F Wm M;(go_wp2_with fail);have Wq:=vM HB.o rfl;refine iC rfl rfl rfl Wq Bn rfl (vU _ _ _) ⟨pk3 YP Xi Xx,rfl,fun k hk=> ?_,R.o⟩;have h3:k=0\/k=1\/k=2:=aa;rcases h3 with rfl|rfl|rfl
  .have Q:=(WT.o _ _ _ Yb.o).up (show 2729<=4400 by omega);unfold gP;rw[θ (show ¬f.kind<=3 by have:=Z.o;omega),θ (show ¬f.kind<=6 by have:=Z.o;omega),ι (show f.kind<=9 by have:=Z.o;omega),ι rfl];exact Q
  .have Q:=(WT.o _ _ _ Ws.o).up (show 2600<=4400 by omega);unfold gP;rw[θ (show ¬f.kind<=3 by have:=Z.o;omega),θ (show ¬f.kind<=6 by have:=Z.o;omega),ι (show f.kind<=9 by have:=Z.o;omega),θ aj,ι rfl];exact Q
  .have Q:=(WT.o _ _ _ WH.o).up (show 2729<=4400 by omega);unfold gP;rw[θ (show ¬f.kind<=3 by have:=Z.o;omega),θ (show ¬f.kind<=6 by have:=Z.o;omega),ι (show f.kind<=9 by have:=Z.o;omega),θ aj,θ aj];exact Q
 have Z:=aJ (show 9<f.kind from aa);clear h3 h6 h9;have kf:=Blk.cell Y.o;have Xc:decide (f.kind<=3)=ζ:=Γ AbK;have Yf:decide (f.kind<=6)=ζ:=Γ AbK;have Zj:decide (f.kind<=9)=ζ:=Γ AbK;(go_wp2_with fail);clear kf Xc Yf Zj;have WO:=aJ (show Bd (v/(z1+GQ.i f.r 0)) 2600 by have Q:=HS.bd f.kind WP.o.1 WP.o.2 1;unfold gP at Q;rwa[θ (show ¬f.kind<=3 by have:=Z.o;omega),θ (show ¬f.kind<=6 by have:=Z.o;omega),θ (show ¬f.kind<=9 by have:=Z.o;omega),ι rfl] at Q);have WM:=aJ (HS.neD f.r);have WN:=aK.blk W.o;have WV:=aK.blk V.o;have WU:=aK.blk P.o;have Wy:=aK.blk L.o;have Wu:=aK.blk N.o;refine tN 10 [(6,.gv (z1+(GQ.i f.r 0)) (970)),(7,.gv (v/(z1+(GQ.i f.r 0))) (2600))] ?_;refine Qs ?_;refine Ee (fun T J=>lW gf Ww.v XK.v z1 (GQ.i f.r 0) (841) (64) _ (HC.ext J.1) (B.ext J.1) (D.ext J.1) aa) ?_;intro YQ Zn Zd;refine Ee (fun T J=>lY gf eV.v YQ.v v (z1+(GQ.i f.r 0)) (841) (970) _ (HC.ext J.1) (K.ext J.1) (aeM (J.f 6 (YQ.v,Zn,Zd))) WM.o (2600) aa aa WO.o aa) ?_;intro YM ai af;simp only[En.v,gv];refine Qs ?_;refine bz ?_;intro Xn J;have F:=J.ext;have ZY:=J.hV 6;have Yi:=J.hV 7;clear J WN WV WU Wy Wu;replace HC:=HC.aA F;replace S:=S.aA F;replace Y:=Y.aA F;replace I:=I.aA F;replace K:=K.aA F;replace B:=B.aA F;replace G:=G.aA F;replace D:=D.aA F;replace H:=H.aA F;replace HX:=HX.aC F;clear F;have O:=aJ (I.there (o:=0) (n:=18) ag);refine aN rfl 102 (.tmp 6) (.tmp 136) rfl q2 0 (Xp.cells++(YM.cells++Xp.cells)) rf rf O.o kS (nK _ _ _) ?_;intro XY l;refine Qp ?_;obtain⟨F,Wm,M⟩:=yZ _ HX.o WK.o I.o rf l;clear l O;have HB:=aJ Wm;have R:=aJ F;have WT:=aJ M;clear F Wm M;(go_wp2_with fail);have Wq:=vM HB.o rfl;refine iC rfl rfl rfl Wq Bn rfl (vU _ _ _) ⟨pk3 Xp YM Xp,rfl,fun k hk=> ?_,R.o⟩;have h3:k=0\/k=1\/k=2:=aa;rcases h3 with rfl|rfl|rfl
 .exact Acf
 .have Q:=(WT.o _ _ _ Yi.o).up (show 2600<=4400 by omega);unfold gP;rw[θ (show ¬f.kind<=3 by have:=Z.o;omega),θ (show ¬f.kind<=6 by have:=Z.o;omega),θ (show ¬f.kind<=9 by have:=Z.o;omega),ι rfl];exact Q
 .exact Acf
def yV:(prog.info? 45).map (·.zero)=γ (γ (.agg (aM 6 fun _=>zEn).toArray)):=ah
def jU:(prog.info? 44).map (·.zero)=γ (γ (.agg (aM 2 fun _=>zEn).toArray)):=ah
def jZ(f):(prog.info? 45).map (·.size)=γ (aM 6 f).length:=by rw[aW];kernel_rfl
def dL(f):(prog.info? 44).map (·.size)=γ (aM 2 f).length:=by rw[aW];kernel_rfl
def Ph3 (w:World) (e:Nat->En) (P:Nat->PQ) (n:Nat):Prop:=∀m,m<3->GV w (e (2*m)).v (P m).u n/\GV w (e (2*m+1)).v (P m).v n
def Ph3.ext{w w' e P n}(h:Ph3 w e P n)(x:Ext w w'):Ph3 w' e P n:=fun m j=>⟨(h m j).1.ext x,(h m j).2.ext x⟩
def two (a b:En) (j:Nat):En:=if j=0 then a else b
def PV.row{w v p n}(h:PV w v p n):∃e:Nat->En,v=.agg (aM 2 e).toArray/\GV w (e 0).v p.u n/\GV w (e 1).v p.v n:=by
 obtain⟨a,b,d,x,y,z,F,I,S,J,T⟩:=h;obtain⟨s1,A1,n1,c1,s2,A2,n2,c2,s3,A3,n3,c3,s4,A4,n4,c4,s5,A5,n5,c5,s6,A6,n6,c6,rfl,B,j,C,l,H,D⟩:=F;exact⟨two ⟨s1,A1,n1,c1,s2,A2,n2,c2,s3,A3,n3,c3⟩ ⟨s4,A4,n4,c4,s5,A5,n5,c5,s6,A6,n6,c6⟩,rfl,⟨a,b,d,RG.mk B j C,I,S⟩,⟨x,y,z,RG.mk l H D,J,T⟩⟩
def aeR{w e p n}(l:GV w (e 0).v p.u n)(B:GV w (e 1).v p.v n):PV w (.agg (aM 2 e).toArray) p n:=by
 obtain⟨a,b,d,j,I,S⟩:=l;obtain⟨x,y,z,W,J,T⟩:=B;refine⟨a,b,d,x,y,z,?_,I,S,J,T⟩;have r1:=j;have r2:=W;exact⟨_,_,_,_,_,_,_,_,_,_,_,_,_,_,_,_,_,_,_,_,_,_,_,_,rfl,j.at1,j.at2,j.at3,W.at1,W.at2,W.at3⟩
def AV.row{w v M p1 p2 n}(h:AV w v M p1 p2 n):∃e:Nat->En,v=.agg (aM 6 e).toArray/\(GV w (e 0).v M.u n/\GV w (e 1).v M.v n)/\(GV w (e 2).v p1.u n/\GV w (e 3).v p1.v n)/\(GV w (e 4).v p2.u n/\GV w (e 5).v p2.v n):=by
 obtain⟨z1,z2,z3,z4,z5,z6,z7,z8,z9,R,K,Y,W,Z,I,Wj,U,V,⟨S,A,N,C,rfl,h1,h2,h3,h4,H,h6,h7,h8,h9,T,WL,WF,P,Q,Ws,Wu,D,WJ⟩,I1,S1,I2,S2,l,S3,B,O,G,F,J,L⟩:=h;refine⟨fun j=>⟨S (3*j+1),A (3*j+1),N (3*j+1),C (3*j+1),S (3*j+2),A (3*j+2),N (3*j+2),C (3*j+2),S (3*j+3),A (3*j+3),N (3*j+3),C (3*j+3)⟩,rfl,⟨⟨_,_,_,RG.mk h1 h2 h3,I1,S1⟩,⟨_,_,_,RG.mk h4 H h6,I2,S2⟩⟩,⟨⟨_,_,_,RG.mk h7 h8 h9,l,S3⟩,⟨_,_,_,RG.mk T WL WF,B,O⟩⟩,⟨⟨_,_,_,RG.mk P Q Ws,G,F⟩,⟨_,_,_,RG.mk Wu D WJ,J,L⟩⟩⟩
def eZ{w W W' g n t f f0}(C:Ext w W)(D:w.heap.size<=g)(hb:Blk W g t (aM n f0).toArray)(B:W'=puts W g 0 (aM n f)):Blk W' g t (aM n f).toArray/\Ext w W'/\∀v q m,GV W v q m->GV W' v q m:=by
 subst B;have l:Mod (fun k=>k=g) W (puts W g 0 (aM n f)):=Mod.puts _ _ _ _ rfl;refine⟨?_,fC C l (fun k j=>by have j:k=g:=j;omega),fun v q m hv=>hv.mod l (fun k j _=>by
  obtain rfl:k=g:=j;exact⟨_,_,hb,dm _ _⟩)⟩
 have:=bR 0 (aM n f) hb;exact Abp
def dF{w g n t f f0}(hb:Blk w g t (aM n f0).toArray):w.there g 0 (aM n f).length:=hb.there AbI
def Me(g e w)(hc:bM w g):
  CE 86 #[.pointer (γ ⟨g,0,δ⟩),.agg (aM 6 e).toArray,.int .i64 0] w (.agg (aM 6 e).toArray):=by
 have F:=aJ hc;clear hc;go_enter func86,ntmps86;(go_wp2_with (refine aS rfl 45 rfl _ yV (fun l Q=>Hid.o ?_)));refine aJ ?_;refine Qp ?_;replace Q:=Hid.o Q;have C:Ext w l:=by rw[Q];exact(Ext.new _ _).alloc _
 have G:Blk l w.heap.size 45 (aM 6 e).toArray:=by rw[Q];exact(Blk.new _ _ _).alloc _
 have j:Blk l (w.heap.size+1) 45 (aM 6 fun _=>zEn).toArray:=by rw[Q];exact aeE _ _ (bF _ _)
 have Z:w.heap.size<=w.heap.size+1:=abT _;(try simp only[bF]);clear Q;generalize w.heap.size+1=g6 at j Z⊢;generalize M:w.heap.size=g4 at G Z⊢;have I:=bM.ext F.o C;have k0:l.cell? ⟨g,0,δ⟩=γ (.int .i64 0):=Blk.cell I 0;have f0:=Blk.frozen I;have P:Ext l (l.setCell ⟨g,0,δ⟩ (.int .i64 0)):=(Ext.refl l).stay I rfl;have W:=aJ (C.trans P);have D:=aJ (G.ext P).rng;have B:=aJ (j.ext P);have H:Hid (w.heap.size<=g6):=aJ aa;clear C P G j Z M I;have O:=aJ (dF (f:=e) B.o);(go_wp2_with (refine σ rfl 45 _ rfl g4 (0) rf (aM 6 e) _ D.o aam rfl (jZ e) (Hid.o ?_)));refine aJ ?_;refine Qp ?_;(go_wp2_with (refine aL rfl 45 (.tmp 6) (.tmp 23) rfl g6 (0) (aM 6 e) rf rf O.o (jZ e) (bY 6 e) (fun L Q=>Hid.o ?_)));refine aJ ?_;refine Qp ?_;replace Q:=Hid.o Q;have hF:=eZ W.o H.o B.o Q;(go_wp2_with fail);exact iC rfl rfl rf hF.1 aam rfl (by rw[nS];exact jZ e) ⟨rfl,hF.2.1⟩
def LZ(g e w)(hc:bM w g):
  CE 171 #[.pointer (γ ⟨g,0,δ⟩),.agg (aM 2 e).toArray,.int .i64 0] w (.agg (aM 2 e).toArray):=by
 have F:=aJ hc;clear hc;go_enter func171,ntmps171;(go_wp2_with (refine aS rfl 44 rfl _ jU (fun l Q=>Hid.o ?_)));refine aJ ?_;refine Qp ?_;replace Q:=Hid.o Q;have C:Ext w l:=by rw[Q];exact(Ext.new _ _).alloc _
 have G:Blk l w.heap.size 44 (aM 2 e).toArray:=by rw[Q];exact(Blk.new _ _ _).alloc _
 have j:Blk l (w.heap.size+1) 44 (aM 2 fun _=>zEn).toArray:=by rw[Q];exact aeE _ _ (bF _ _)
 have Z:w.heap.size<=w.heap.size+1:=abT _;(try simp only[bF]);clear Q;generalize w.heap.size+1=g6 at j Z⊢;generalize M:w.heap.size=g4 at G Z⊢;have I:=bM.ext F.o C;have k0:l.cell? ⟨g,0,δ⟩=γ (.int .i64 0):=Blk.cell I 0;have f0:=Blk.frozen I;have P:Ext l (l.setCell ⟨g,0,δ⟩ (.int .i64 0)):=(Ext.refl l).stay I rfl;have W:=aJ (C.trans P);have D:=aJ (G.ext P).rng;have B:=aJ (j.ext P);have H:Hid (w.heap.size<=g6):=aJ aa;clear C P G j Z M I;have O:=aJ (dF (f:=e) B.o);(go_wp2_with (refine σ rfl 44 _ rfl g4 (0) rf (aM 2 e) _ D.o kC rfl (dL e) (Hid.o ?_)));refine aJ ?_;refine Qp ?_;(go_wp2_with (refine aL rfl 44 (.tmp 6) (.tmp 23) rfl g6 (0) (aM 2 e) rf rf O.o (dL e) (bY 2 e) (fun L Q=>Hid.o ?_)));refine aJ ?_;refine Qp ?_;replace Q:=Hid.o Q;have hF:=eZ W.o H.o B.o Q;(go_wp2_with fail);exact iC rfl rfl rf hF.1 kC rfl (by rw[nS];exact dL e) ⟨rfl,hF.2.1⟩
def Je(g:Nat)(P)(p:PQ)(n K:Nat)(m1:Int)(w)(hc:bM w g)(h0:GV w (P 0).v p.u n)(h1:GV w (P 1).v p.v n)(l1: -9223372036854775808<=m1)(u1:m1<=9223372036854775807)(V:m1%12=(K:Int))(hn:2*n+65<=12800):
  Calls prog 131 #[.pointer (γ ⟨g,0,δ⟩),.agg (aM 2 P).toArray,.int .i64 m1,.func (Fn.func 132) #[] #[]] w fun r w'=>∃e:Nat->En,r=.returned (.agg (aM 2 e).toArray)/\GV w' (e 0).v (p*PQ.zp K).u (n+n+65)/\GV w' (e 1).v (p*PQ.zp K).v (n+n+65)/\Ext w w':=by
 have HC:=aJ hc;have HX:=aJ (aeR h0 h1);clear hc h0 h1;go_enter func131,ntmps131;(go_wp2_with (refine aS rfl 44 rfl _ jU (fun w_ Q=>Hid.o ?_)));refine aJ ?_;refine Qp ?_;replace Q:=Hid.o Q;have S:Ext w w_:=by rw[Q];exact(Ext.new _ _).alloc _
 have D:Blk w_ w.heap.size 44 (aM 2 P).toArray:=by rw[Q];exact(Blk.new _ _ _).alloc _
 have N:Blk w_ (w.heap.size+1) 44 (aM 2 fun _=>zEn).toArray:=by rw[Q];exact aeE _ _ (bF _ _)
 have Z:w.heap.size<=w.heap.size+1:=abT _;(try simp only[bF]);clear Q;generalize w.heap.size+1=g8 at N Z⊢;generalize XG:w.heap.size=g5 at D Z⊢;have k0:w_.cell? ⟨g,0,δ⟩=γ (.int .i64 0):=Blk.cell (bM.ext HC.o S) 0;have R:=aJ S;have W:=aJ D.rng;have G:=aJ N;have HL:Hid (w.heap.size<=g8):=aJ aa;clear S D N Z XG;(go_wp2_with (refine σ rfl 44 _ rfl g5 (0) rf (aM 2 P) _ W.o kC rfl (dL P) (Hid.o ?_)));refine aJ ?_;refine Qp ?_;clear k0;(go_wp2_with fail);refine(Qn _ p n m1 K _ (HX.ext R.o) l1 u1 V hn).mono ?_;rintro _ w2 ⟨_,rfl,⟨u,rfl,l⟩,F⟩;obtain⟨I,rfl,J,C⟩:=l.row;have M:=aJ (And.intro J C);clear J C;replace R:=R.aC F;replace G:=G.aA F;clear l F W;(go_wp2_with (refine aS rfl 44 rfl _ jU (fun Y Q=>Hid.o ?_)));refine aJ ?_;refine Qp ?_;replace Q:=Hid.o Q;have S:Ext w2 Y:=by rw[Q];exact Ext.new _ _
 have hb:Blk Y w2.heap.size 44 (aM 2 fun _=>zEn).toArray:=by rw[Q];exact Blk.new _ _ _
 have O:=aJ (dF (f:=I) hb);have T:=R.size;clear Q;generalize j:w2.heap.size=g10 at hb O⊢;(go_wp2_with (refine aL rfl 44 (.tmp 10) (.tmp 23) rfl g10 (0) (aM 2 I) rf rf O.o (dL I) (bY 2 I) (fun L Q=>Hid.o ?_)));refine aJ ?_;refine Qp ?_;replace Q:=Hid.o Q;obtain⟨Wz,H,Wv⟩:=eZ S aa hb Q;replace R:=R.aC H;replace G:=G.aA H;replace M:=aJ (And.intro (M.o.1.ext H) (M.o.2.ext H));have B:=aJ Wz.rng;clear Wz H Wv hb S O Q T j;(go_wp2_with (refine σ rfl 44 _ rfl g10 (0) rf (aM 2 I) _ B.o kC rfl (dL I) (Hid.o ?_)));refine aJ ?_;refine Qp ?_;(go_wp2_with fail);refine(LZ g I _ (bM.ext HC.o R.o)).mono ?_;rintro _ w3 ⟨rfl,F⟩;replace R:=R.aC F;replace G:=G.aA F;replace M:=aJ (And.intro (M.o.1.ext F) (M.o.2.ext F));clear F B;have O:=aJ (dF (f:=I) G.o);(go_wp2_with (refine aL rfl 44 (.tmp 8) (.tmp 28) rfl g8 (0) (aM 2 I) rf rf O.o (dL I) (bY 2 I) (fun U Q=>Hid.o ?_)));refine aJ ?_;refine Qp ?_;replace Q:=Hid.o Q;have hF:=eZ R.o HL.o G.o Q;(go_wp2_with fail);exact iC rfl rfl rf hF.1 kC rfl (by rw[nS];exact dL I) ⟨I,rfl,hF.2.2 _ _ _ M.o.1,hF.2.2 _ _ _ M.o.2,hF.2.1⟩
def Ql(g:Nat)(l)(p:PQ)(n K:Nat)(m1:Int)(w)(hc:bM w g)(N:GV w (l 0).v p.u n)(P:GV w (l 1).v p.v n)(l1: -9223372036854775808<=m1)(u1:m1<=9223372036854775807)(V:m1%12=(K:Int))(hn:2*n+65<=12800):
  Calls prog 87 #[.pointer (γ ⟨g,0,δ⟩),.agg (aM 2 l).toArray,.int .i64 m1] w fun r w'=>∃e:Nat->En,r=.returned (.agg (aM 2 e).toArray)/\GV w' (e 0).v (p*PQ.zp K).u (n+n+65)/\GV w' (e 1).v (p*PQ.zp K).v (n+n+65)/\Ext w w':=by
 have W:=aJ hc;have U:=aJ (And.intro N P);clear hc N P;go_enter func87,ntmps87;(go_wp2_with (refine aS rfl 44 rfl _ jU (fun I Q=>Hid.o ?_)));refine aJ ?_;refine Qp ?_;replace Q:=Hid.o Q;have T:Ext w I:=by rw[Q];exact(Ext.new _ _).alloc _
 have G:Blk I w.heap.size 44 (aM 2 l).toArray:=by rw[Q];exact(Blk.new _ _ _).alloc _
 have B:Blk I (w.heap.size+1) 44 (aM 2 fun _=>zEn).toArray:=by rw[Q];exact aeE _ _ (bF _ _)
 have Z:w.heap.size<=w.heap.size+1:=abT _;(try simp only[bF]);clear Q;generalize w.heap.size+1=g6 at B Z⊢;generalize M:w.heap.size=g4 at G Z⊢;have R:=aJ T;have H:=aJ G.rng;have j:=aJ B;have Y:Hid (w.heap.size<=g6):=aJ aa;clear T G B Z M;(go_wp2_with (refine σ rfl 44 _ rfl g4 (0) rf (aM 2 l) _ H.o kC rfl (dL l) (Hid.o ?_)));refine aJ ?_;refine Qp ?_;(go_wp2_with fail);refine(Je g l p n K m1 _ (bM.ext W.o R.o) (U.o.1.ext R.o) (U.o.2.ext R.o) l1 u1 V hn).mono ?_;rintro _ w2 ⟨D,rfl,J,C,F⟩;have S:=aJ (And.intro J C);clear J C;replace R:=R.aC F;replace j:=j.aA F;clear F H;have O:=aJ (dF (f:=D) j.o);(go_wp2_with (refine aL rfl 44 (.tmp 6) (.tmp 10) rfl g6 (0) (aM 2 D) rf rf O.o (dL D) (bY 2 D) (fun L Q=>Hid.o ?_)));refine aJ ?_;refine Qp ?_;replace Q:=Hid.o Q;have hF:=eZ R.o Y.o j.o Q;(go_wp2_with fail);exact iC rfl rfl rf hF.1 kC rfl (by rw[nS];exact dL D) ⟨D,rfl,hF.2.2 _ _ _ S.o.1,hF.2.2 _ _ _ S.o.2,hF.2.1⟩
def Bg:∀(xs j:List Value) (cs:Array Value) (k:Nat),fI cs k (xs++j)=fI (fI cs k xs) (k+xs.length) j
 |[],_,_,_=>rfl
 |x::xs,j,cs,k=>by
  show fI (cs.setIfInBounds k x) (k+1) (xs++j)=fI (fI (cs.setIfInBounds k x) (k+1) xs) (k+(xs.length+1)) j;rw[Bg xs j _ (k+1),show k+(xs.length+1)=k+1+xs.length by omega]
def M8{e x m}(B:m<3):fI (aM 6 e).toArray (m*12) (aM 2 x)=(aM 6 (upd (upd e (2*m) (x 0)) (2*m+1) (x 1))).toArray:=by
 have l:aM 2 x=(x 0).cells++(x 1).cells:=by rw[iG,iG];rfl
 have j:fI (aM 6 e).toArray (m*12) ((x 0).cells++(x 1).cells)=fI (fI (aM 6 e).toArray (m*12) (x 0).cells) (m*12+6) (x 1).cells:=Bg _ _ _ _;rw[l,j,show m*12=2*m*6 by omega,mF (x 0) aa,show 2*m*6+6=(2*m+1)*6 by omega,mF (x 1) aa]
def Blk.Ul{w g n j o t f}(h:Blk w g t (aM n f).toArray)(B:j<n)(l:o=j*6):w.rangeAt g o (f j).cells:=fun t v hv=>by
 subst l;have C:t<6:=by have:=(μ.1 hv).1;rwa[rF] at this
 rw[h.cell,Ξ,dO C B];exact hv
structure PhS (w wr:World) (gf g6 g7:Nat) (e1 e:Nat->En) (q:Nat->GQ) (sh i:Nat):Prop where
 c:bM wr gf
 b6:Blk wr g6 45 (aM 6 fun _=>zEn).toArray
 b7:Blk wr g7 45 (aM 6 e).toArray
 v:∀m,m<i->GV wr (e (2*((m+sh)%3))).v (phv q sh ((m+sh)%3)).u 4600/\GV wr (e (2*((m+sh)%3)+1)).v (phv q sh ((m+sh)%3)).v 4600
 u:∀m,m<3->GV wr (e1 (2*m)).v (phq q m).u 4600/\GV wr (e1 (2*m+1)).v (phq q m).v 4600
 x:Ext w wr
 l6:w.heap.size<=g6
 l7:g6<g7
def PhS.ext{w wr wr' gf g6 g7 sh i l e q}(h:PhS w wr gf g6 g7 l e q sh i)(x:Ext wr wr'):PhS w wr' gf g6 g7 l e q sh i:=
 ⟨h.c.ext x,h.b6.ext x,h.b7.ext x,fun m j=>⟨(h.v m j).1.ext x,(h.v m j).2.ext x⟩,fun m j=>⟨(h.u m j).1.ext x,(h.u m j).2.ext x⟩,h.x.trans x,h.l6,h.l7⟩
def PhS.put{w wr wr' gf g6 g7 sh i F e x q}(h:PhS w wr gf g6 g7 F e q sh i)(hi:i<3)(H:GV wr (x 0).v (phv q sh ((i+sh)%3)).u 4600)(I:GV wr (x 1).v (phv q sh ((i+sh)%3)).v 4600)(j:gf<w.heap.size){a}(ha:a=(i+sh)%3*12)(D:wr'=puts wr g7 a (aM 2 x)):PhS w wr' gf g6 g7 F (upd (upd e (2*((i+sh)%3)) (x 0)) (2*((i+sh)%3)+1) (x 1)) q sh (i+1):=by
 subst ha;have C:(i+sh)%3<3:=Ab _ aa;have l:Mod (fun k=>k=g7) wr wr':=by rw[D];exact Mod.puts _ _ _ _ rfl
 have hS:Far (fun k=>k=g7) wr:=fun k B _=>by
  obtain rfl:k=g7:=B;exact⟨_,_,h.b7,dm _ _⟩
 have l6:=h.l6;have l7:=h.l7;refine⟨Blk.mod h.c l (by show ¬gf=g7;omega),h.b6.mod l (by show ¬g6=g7;omega),?_,fun m J=> ?_,fun m W=>⟨(h.u m W).1.mod l hS,(h.u m W).2.mod l hS⟩,fC h.x l (fun k B=>by have B:k=g7:=B;omega),h.l6,h.l7⟩
 .have:=bR ((i+sh)%3*12) (aM 2 x) h.b7;rw[M8 C] at this;rw[D];exact this
 .by_cases G:m=i
  .subst G;rw[upd_ne aa,upd_same,upd_same];exact⟨H.mod l hS,I.mod l hS⟩
  .have K:(m+sh)%3≠(i+sh)%3:=aa;rw[upd_ne aa,upd_ne aa,upd_ne aa,upd_ne aa];have:=h.v m aa;exact⟨this.1.mod l hS,this.2.mod l hS⟩
theorem UM{q sh m}(hs:sh<3)(j:m<3):phv q sh ((m+sh)%3)=phq q m*PQ.zp (8*sh%12):=by
 unfold phv;rw[show((m+sh)%3+3-sh)%3=m by omega]
def PhS.all{w wr gf g6 g7 sh j e q}(h:PhS w wr gf g6 g7 j e q sh 3)(hs:sh<3):Ph3 wr e (phv q sh) 4600:=fun m l=>by
 have:=h.v ((m+3-sh)%3) aa;rw[show((m+3-sh)%3+sh)%3=m by omega] at this;exact this
def Uo{e}{k:Nat}(l:k<3)(w):Sem.run prog (Instr.index 45 (.agg (aM 6 e).toArray) (.int .i64 (k:Int))) w=.ok (.agg (aM 2 fun t=>e (2*k+t)).toArray) w:=by
 have j:k=0\/k=1\/k=2:=aa;rcases j with rfl|rfl|rfl
 all_goals
  simp[Instr.index,abh aam,asIntOf,go_sem,isAgg44,sizeOf44,part,aM,En.cells,abX]
theorem Jm(gf sh:Nat)(a q D w)(hc:bM w gf)(ha:∀k,k<3->GV w (a k).v (q k) 4600)(hq:nL q D)(hs:sh<3):
  Calls prog 44 #[.pointer (γ ⟨gf,0,δ⟩),.agg (aM 3 a).toArray,.int .i64 (sh:Int)] w fun r w'=>∃e:Nat->En,r=.returned (.agg (aM 6 e).toArray)/\Ph3 w' e (phv q sh) 4600/\Ext w w':=by
 have HC:=aJ hc;have HA:=aJ ha;have HQ:=aJ hq;have WO:=aJ hs;have XT:Hid (gf<w.heap.size):=aJ (Blk.lt hc);clear hc ha hq hs;go_enter func44,ntmps44;(go_wp2_with (refine aS rfl 45 rfl _ yV (fun w_ Q=>Hid.o ?_)));refine aJ ?_;refine Qp ?_;replace Q:=Hid.o Q;have hx:Ext w w_:=by rw[Q];exact(Ext.new _ _).alloc _
 have G:Blk w_ w.heap.size 102 (aM 3 a).toArray:=by rw[Q];exact(Blk.new _ _ _).alloc _
 have WA:Blk w_ (w.heap.size+1) 45 (aM 6 fun _=>zEn).toArray:=by rw[Q];exact aeE _ _ (bF _ _)
 have Z:w.heap.size<=w.heap.size+1:=abT _;(try simp only[bF]);clear Q;generalize w.heap.size+1=g6 at WA Z⊢;generalize M:w.heap.size=g4 at G Z⊢;have WP:Hid (w.heap.size<=g6):=aJ aa;clear Z M;(go_wp2_with (refine aS rfl 45 rfl _ yV (fun WM Q=>Hid.o ?_)));refine aJ ?_;refine Qp ?_;replace Q:=Hid.o Q;have H:Ext w_ WM:=by rw[Q];exact Ext.new _ _
 have WT:Blk WM w_.heap.size 45 (aM 6 fun _=>zEn).toArray:=by rw[Q];exact Blk.new _ _ _
 have T:Hid (g6<w_.heap.size):=aJ WA.lt;clear Q;generalize w_.heap.size=g7 at WT T⊢;have HX:=aJ (hx.trans H);have Ww:=aJ (G.ext H);have Ws:=aJ (WA.ext H);have Y:=aJ WT;clear hx H G WA WT;have k0:WM.cell? ⟨gf,0,δ⟩=γ (.int .i64 0):=Blk.cell (bM.ext HC.o HX.o) 0;have S:Hid (WM.rangeAt g4 0 (a 0).cells):=aJ (Ww.Ul (j:=0) aa rfl);have R:Hid (WM.rangeAt g4 6 (a 1).cells):=aJ (Ww.Ul (j:=1) aa rfl);have P:Hid (WM.rangeAt g4 12 (a 2).cells):=aJ (Ww.Ul (j:=2) aa rfl);(go_wp2_with (refine σ rfl 42 _ rfl g4 (0) rf ((a 0).cells) _ S.o aby rfl bE (Hid.o ?_)));refine aJ ?_;refine Qp ?_;(go_wp2_with (refine σ rfl 42 _ rfl g4 (6) rf ((a 1).cells) _ R.o aby rfl bE (Hid.o ?_)));refine aJ ?_;refine Qp ?_;(go_wp2_with (refine σ rfl 42 _ rfl g4 (12) rf ((a 2).cells) _ P.o aby rfl bE (Hid.o ?_)));refine aJ ?_;refine Qp ?_;clear k0 S R P;(go_wp2_with fail);refine(MQ 4600 (a 0).v (q 0) (a 1).v (q 1) (a 2).v (q 2) _ ((HA.o 0 aa).ext HX.o) ((HA.o 1 aa).ext HX.o) ((HA.o 2 aa).ext HX.o) HQ.sum aa).mono ?_;rintro _ w2 ⟨_,rfl,⟨u,rfl,l⟩,F⟩;obtain⟨e1,rfl,V,Wt,Wm⟩:=l.row;have Wu:∀m,m<3->GV w2 (e1 (2*m)).v (phq q m).u 4600/\GV w2 (e1 (2*m+1)).v (phq q m).v 4600:=fun m hm=>by
  have hp:=HQ.phq m;have h3:m=0\/m=1\/m=2:=aa;rcases h3 with rfl|rfl|rfl
  .exact⟨GV.to (q:=(phq q 0).u) (by rw[MO];unfold ph0;have e:q 0+(q 1+q 2)=aeF 1 (q 0) 1 (aeF 1 (q 1) 1 (q 2) 1) 1:=Aa7;rw[e];exact V.1) hp.1,GV.to (q:=(phq q 0).v) V.2 hp.2⟩
  .exact⟨GV.to (q:=(phq q 1).u) (by rw[L9];unfold ph1;have e:q 1+q 2=aeF 1 (q 1) 1 (q 2) 1:=Aa7;rw[e];exact Wt.1) hp.1,GV.to (q:=(phq q 1).v) Wt.2 hp.2⟩
  .exact⟨GV.to (q:=(phq q 2).u) (by rw[MI];unfold ph2;have e:q 1+q 2=aeF 1 (q 1) 1 (q 2) 1:=Aa7;rw[e];exact Wm.1) hp.1,GV.to (q:=(phq q 2).v) Wm.2 hp.2⟩
 have HU:=aJ Wu;replace HX:=HX.aC F;replace Ws:=Ws.aA F;replace Y:=Y.aA F;clear Wu l V Wt Wm F Ww;(go_wp2_with (refine aS rfl 45 rfl _ yV (fun W Q=>Hid.o ?_)));refine aJ ?_;refine Qp ?_;replace Q:=Hid.o Q;have hx:Ext w2 W:=by rw[Q];exact Ext.new _ _
 have WL:Blk W w2.heap.size 45 (aM 6 fun _=>zEn).toArray:=by rw[Q];exact Blk.new _ _ _
 have O:=aJ (dF (f:=e1) WL);have WC:w2.heap.size<=w2.heap.size:=κ _;clear Q;generalize Xg:w2.heap.size=g8 at WL WC O⊢;(go_wp2_with (refine aL rfl 45 (.tmp 8) (.tmp 26) rfl g8 (0) (aM 6 e1) rf rf O.o (jZ e1) (bY 6 e1) (fun L Q=>Hid.o ?_)));refine aJ ?_;refine Qp ?_;replace Q:=Hid.o Q;obtain⟨XE,WB,WW⟩:=eZ hx aa WL Q;clear Q hx WL O;have Wn:=aJ XE.rng;(go_wp2_with (refine σ rfl 45 _ rfl g8 (0) rf (aM 6 e1) _ Wn.o aam rfl (jZ e1) (Hid.o ?_)));refine aJ ?_;refine Qp ?_;(go_wp2_with fail);refine(Me gf e1 _ (bM.ext HC.o (HX.trans WB))).mono ?_;rintro _ w4 ⟨rfl,F⟩;have XV:=XE.ext F;have O:=aJ (dF (f:=e1) XV);(go_wp2_with (refine aL rfl 45 (.tmp 8) (.tmp 31) rfl g8 (0) (aM 6 e1) rf rf O.o (jZ e1) (bY 6 e1) (fun U Q=>Hid.o ?_)));refine aJ ?_;refine Qp ?_;replace Q:=Hid.o Q;obtain⟨XN,B,Wp⟩:=eZ (WB.trans F) aa XV Q;clear Q O XV Wn;have Wn:=aJ XN.rng;replace HX:=HX.aC B;have HS:Hid (PhS w _ gf g6 g7 e1 (fun _=>zEn) q sh 0):=aJ ⟨bM.ext HC.o HX.o,Ws.ext B,Y.ext B,fun m hm=>absurd hm aa,fun m hm=>⟨(HU.o m hm).1.ext B,(HU.o m hm).2.ext B⟩,HX.o,WP.o,T.o⟩;clear HX Ws Y HU XE WB WW F XN B Wp WC Xg WP T;(go_wp2_with (refine σ rfl 45 _ rfl g8 (0) rf (aM 6 e1) _ Wn.o aam rfl (jZ e1) (Hid.o ?_)));refine aJ ?_;refine Qp ?_;clear Wn;go_wp2_with fail
 go_loopw [33] (fun iv wr=>∃i:Nat,i<=3/\iv=.int .i64 i/\∃e,PhS w wr gf g6 g7 e1 e q sh i) (fun iv _=>3-(intOf iv).toNat)
 case atStart=>exact⟨0,aa,rfl,_,HS.o⟩
 case round=>
  clear HS;rename World=>wr;obtain⟨i,hi,rfl,e,hR⟩:=hrel;have I:=aJ hR;clear hR;by_cases Wj:i<3
  .have hd:decide ((i:Int)<3)=ε:=ae;have WE:=Uo (e:=e1) Wj wr;have q1:(0:Int)<=(i:Int):=aa;have q2:(i:Int)<3:=aa;obtain⟨e2,Yl⟩:∃f:Nat->En,(fun t=>e1 (2*i+t))=f:=⟨_,rfl⟩;rw[Yl] at WE;have WS:=aJ Yl;have Wo:(0:Int)<=(sh:Int)/\(sh:Int)<3:=by have:=WO.o;omega
   obtain⟨s0,s1⟩:=Wo;clear Yl;(go_wp2_with (refine aS rfl 44 rfl _ jU (fun Yw Q=>Hid.o ?_)));refine aJ ?_;refine Qp ?_;replace Q:=Hid.o Q;have Wl:Ext wr Yw:=by rw[Q];exact Ext.new _ _
   have XN:Blk Yw wr.heap.size 44 (aM 2 fun _=>zEn).toArray:=by rw[Q];exact Blk.new _ _ _
   have O:=aJ (dF (f:=e2) XN);clear Q WE;generalize Wv:wr.heap.size=Xh at XN O⊢;(go_wp2_with (refine aL rfl 44 (.tmp 11) (.tmp 36) rfl Xh (0) (aM 2 e2) rf rf O.o (dL e2) (bY 2 e2) (fun Wy Q=>Hid.o ?_)));refine aJ ?_;refine Qp ?_;replace Q:=Hid.o Q;obtain⟨WR,N,Wx⟩:=eZ Wl aa XN Q;have Wn:=aJ WR.rng;have K:=aJ N;clear Q O Wl XN WR N Wx Wv;(go_wp2_with (refine σ rfl 44 _ rfl Xh (0) rf (aM 2 e2) _ Wn.o kC rfl (dL e2) (Hid.o ?_)));refine aJ ?_;refine Qp ?_;clear Wn;(go_wp2_with fail);refine(Ql gf e2 (phq q i) 4600 (8*sh%12) _ _ (bM.ext I.c K.o) (by have:=(I.u i Wj).1;rw[<-WS.o];exact this.ext K.o) (by have:=(I.u i Wj).2;rw[<-WS.o];exact this.ext K.o) aa aa aa aa).mono ?_;rintro _ w5 ⟨e3,rfl,J,C,F⟩;have hp:=UM (q:=q) WO.o Wj;rw[<-hp] at J C;have WU:=(HQ.phv WO.o ((i+sh)%3)).bd HQ.o.2.1 HQ.o.1 (n:=4600) aa aa;have Xi:=aJ (GV.to J WU.1);have Xo:=aJ (GV.to C WU.2);replace I:=I.aA (K.trans F);clear J C hp WU F K WS;obtain⟨m,hm⟩:∃m,(i+sh)%3=m:=⟨_,rfl⟩;have XM:m<3:=aa;have Xp:((i:Int)+(sh:Int))%3=(m:Int):=aa;have HM:=aJ hm;clear hm;have p1:(0:Int)<=(m:Int):=aa;have p2:(m:Int)<3:=aa;have O:Hid (w5.there g7 (m*12) (aM 2 e3).length):=aJ (I.b7.there AbI);(go_wp2_with (refine aL rfl 44 (.tmp 46) (.tmp 45) rfl g7 (m*12) (aM 2 e3) rf rf O.o (dL e3) (bY 2 e3) (fun WF Q=>Hid.o ?_)));refine aJ ?_;refine Qp ?_;replace Q:=Hid.o Q;have Wq:=aJ (I.put Wj Xi.o Xo.o XT.o (a:=m*12) (by rw[HM.o]) Q);clear I O Q Xi Xo;go_wp2_with fail
   go_roundw
   case rel=>exact⟨i+1,aa,au,_,Wq.o⟩
   case measure=>simp[intOf];omega
  .obtain rfl:i=3:=aa;have hd:decide ((3:Int)<3)=ζ:=aj;have Wn:=aJ I.b7.rng;have O:=aJ (dF (f:=e) I.b6);(go_wp2_with (refine σ rfl 45 _ rfl g7 (0) rf (aM 6 e) _ Wn.o aam rfl (jZ e) (Hid.o ?_)));refine aJ ?_;refine Qp ?_;(go_wp2_with (refine aL rfl 45 (.tmp 6) (.tmp 48) rfl g6 (0) (aM 6 e) rf rf O.o (jZ e) (bY 6 e) (fun Wz Q=>Hid.o ?_)));refine aJ ?_;refine Qp ?_;replace Q:=Hid.o Q;have hF:=eZ I.x I.l6 I.b6 Q;have ha:=I.all WO.o;(go_wp2_with fail);exact iC rfl rfl rf hF.1 aam rfl (by rw[nS];exact jZ e) ⟨e,rfl,fun m hm=>⟨hF.2.2 _ _ _ (ha m hm).1,hF.2.2 _ _ _ (ha m hm).2⟩,hF.2.1⟩
def VN(x):x-GQ.i 0 0=x:=by ext<;>simp only[GQ.bX,GQ.cu,GQ.bU,GQ.bS]<;>grind
noncomputable def cq (V:Nat->Nat->GQ) (L:Nat->Bool) (o:Option BrD) (n:Nat):GQ:=
 match o with
 |none=>GQ.i 0 0
 |some b=>if 13<=b.a/\L b.a=ε then (V n b.a-V n b.b-(if n=1 then GQ.i b.emf 0 else GQ.i 0 0))/b.zs (min n 1) else GQ.i 0 0
structure CuS (w wr:World) (gf g6 g7:Nat) (a:Nat->En) (q:Nat->GQ) (i:Nat):Prop where
 c:bM wr gf
 s:AtS w wr 3 102 g6 g7 a
 v:∀k,k<3->GV wr (a k).v (if k<i then q k else GQ.i 0 0) 4600
section
variable {w wr wr':World} {gf g6 g7 i:Nat} {a:Nat->En} {q:Nat->GQ}
def CuS.ext(h:CuS w wr gf g6 g7 a q i)(x:Ext wr wr'):CuS w wr' gf g6 g7 a q i:=⟨h.c.ext x,h.s.ext x,fun k j=>(h.v k j).ext x⟩
def CuS.put(h:CuS w wr gf g6 g7 a q i)(j:gf<w.heap.size)(hi:i<3){e}(U:GV wr e.v (q i) 4600)(D:wr'=puts wr g7 (i*6) e.cells):CuS w wr' gf g6 g7 (upd a i e) q (i+1):=by
 obtain⟨G,B⟩:=h.s.put hi e rfl D;have l4:=h.s.l4;have l5:=h.s.l5;refine⟨Blk.mod h.c B (by show ¬gf=g7;omega),G,fun k F=> ?_⟩;by_cases l:k=i
 .subst l;rw[upd_same,ι aa];exact U.mod B h.s.far
 .rw[upd_ne l];have:=(h.v k F).mod B h.s.far;by_cases C:k<i
  .rw[ι C] at this;rw[ι aa];exact this
  .rw[θ C] at this;rw[θ aa];exact this
def CuS.skip(h:CuS w wr gf g6 g7 a q i)(hq:q i=GQ.i 0 0):CuS w wr gf g6 g7 a q (i+1):=⟨h.c,h.s,fun k l=>by
 have:=h.v k l;by_cases j:k<i
 .rw[ι j] at this;rw[ι aa];exact this
 .rw[θ j] at this;by_cases B:k=i
  .subst B;rw[ι aa,hq];exact this
  .rw[θ aa];exact this⟩
end
def Mr(gx gf i nq bc:Nat)(C:Nat->Value)(E:Nat->En)(V:Nat->Nat->GQ)(Lv:Nat->Bool)(o:Option BrD)(BA:Option Addr)(wv:Nat->Value)(w:World)(hc:bM w gf)(hg:fA w gx 105 393 (eY C E))(hV:∀n k,n<3->k<18->GV w (E (n*18+k)).v (V n k) 4400)(hL:∀k,k<18->C (15+k)=.bool (Lv k))(WC:C 13=.slice BA nq bc)(hA:Arr w BA nq 1 (fun i=>[wv i]))(hi:i<nq)(hw:mW w gx (wv i) o)(Wu:∀b,o=γ b->iD b)(Wt:∀b,o=γ b->∀n,n<3->Bd (V n b.a-V n b.b) 4600)(Wl:∀b,o=γ b->Bd (V 1 b.a-V 1 b.b-GQ.i b.emf 0) 4600)(Xn:∀n,Bd (cq V Lv o n) 4600):
  Calls prog 45 #[.pointer (γ ⟨gx,0,δ⟩),.pointer (γ ⟨gf,0,δ⟩),.int .i64 (i:Int)] w fun r w'=>∃a:Nat->En,r=.returned (.agg (aM 3 a).toArray)/\lJ w' 3 a (cq V Lv o) 4600/\Ext w w':=by
 have HC:=aJ hc;have S:=aJ hg;have HV:=aJ hV;have HL:=aJ hL;have Yz:=aJ WC;have HW:=aJ hw;have WH:=aJ Wu;have WK:=aJ Wt;have WY:=aJ Wl;have WN:=aJ Xn;obtain⟨gb,ob,rfl,WL,Xb⟩:=hA.at_ hi;have X3:w.cell? ⟨gb,ob+i,δ⟩=γ (wv i):=by have:=Xb 0 _ rfl;simpa using this
 have Ym:=aJ X3;have XT:Hid (gf<w.heap.size):=aJ (Blk.lt hc);have X6:Hid (gx<w.heap.size):=aJ hg.lt;have X4:=aJ hi;clear hc hg hV hL WC hA hw Wu Wt Wl Xn WL Xb X3 hi;go_enter func45,ntmps45;(go_wp2_with (refine aS rfl 102 rfl _ uk (fun w_ Q=>Hid.o ?_)));refine aJ ?_;refine Qp ?_;replace Q:=Hid.o Q;have HX:Hid (Ext w w_):=aJ (by rw[Q];exact Ext.new _ _);have Ws:Hid (Blk w_ w.heap.size 102 (aM 3 fun _=>zEn).toArray):=aJ (by rw[Q];exact Blk.new _ _ _);clear Q;generalize Xl:w.heap.size=g6 at Ws⊢;have WP:Hid (w.heap.size<=g6):=aJ aa;clear Xl;(go_wp2_with fail);refine(bO gf 0 _ (bM.ext HC.o HX.o) aa aa).mono ?_;rintro _ wa ⟨_,rfl,M,F⟩;obtain⟨P,rfl⟩:=M.en;replace HX:=HX.aC F;replace Ws:=Ws.aA F;have G:=aJ M;clear M F;(go_wp2_with fail);refine(bO gf 0 _ (bM.ext HC.o HX.o) aa aa).mono ?_;rintro _ wb ⟨_,rfl,M,F⟩;obtain⟨fb,rfl⟩:=M.en;replace HX:=HX.aC F;replace Ws:=Ws.aA F;replace G:=G.aA F;have K:=aJ M;clear M F;(go_wp2_with fail);refine(bO gf 0 _ (bM.ext HC.o HX.o) aa aa).mono ?_;rintro _ wc ⟨_,rfl,M,F⟩;obtain⟨fc,rfl⟩:=M.en;replace HX:=HX.aC F;replace Ws:=Ws.aA F;replace G:=G.aA F;replace K:=K.aA F;have WR:=aJ M;clear M F;(iterate 2 (try (first|go_values|go_skip|go_guarded|go_step|go_upon|go_in|go_back|go_simp)));simp only[En.v,gv];(go_wp2_with (refine aS rfl 102 rfl _ uk (fun WM Q=>Hid.o ?_)));refine aJ ?_;refine Qp ?_;replace Q:=Hid.o Q;have F:Ext wc WM:=by rw[Q];exact Ext.new _ _
 have WT:Blk WM wc.heap.size 102 (aM 3 fun _=>zEn).toArray:=by rw[Q];exact Blk.new _ _ _
 have O:Hid (WM.there wc.heap.size 0 18):=aJ (WT.there Acj);have WE:=Ws.lt;clear Q;generalize XB:wc.heap.size=g7 at WT O WE⊢;(go_wp2_with (refine aL rfl 102 (.tmp 7) (.tmp 17) rfl g7 (0) (P.cells++(fb.cells++fc.cells)) rf rf O.o kS (nK _ _ _) (fun W Q=>Hid.o ?_)));refine aJ ?_;refine Qp ?_;replace Q:=Hid.o Q;have WX:W=puts WM g7 0 (aM 3 (pk3 P fb fc)):=by rw[vQ];exact Q
 have HO:=eZ (w:=wc) F aa WT WX;have I:Hid (CuS w W gf g6 g7 (pk3 P fb fc) (cq V Lv o) 0):=aJ ⟨bM.ext HC.o (HX.trans HO.2.1),⟨Ws.ext HO.2.1,HO.1,HX.trans HO.2.1,WP.o,WE⟩,fun k hk=>by
  have h3:k=0\/k=1\/k=2:=aa;rcases h3 with rfl|rfl|rfl
  .exact(HO.2.2 _ _ _ (G.ext F)).up aa
  .exact(HO.2.2 _ _ _ (K.ext F)).up aa
  .exact(HO.2.2 _ _ _ (WR.ext F)).up aa⟩
 clear HX Ws WP G K WR F WT O WE XB WX HO Q;have XY:=(S.ext I.s.x).cell_ (k:=13) aa ((dz aa).trans Yz.o);have kw:=I.s.x.cell_ Ym.o;have q1:(0:Int)<=(i:Int):=aa;have q2:(i:Int)<(nq:Int):=by have:=X4.o;omega
 cases o with
 |none=>
  have WZ:wv i=.pointer δ:=HW.o;rw[WZ] at kw;(go_wp2_with fail);go_quiet (fail);generalize Wp:W.drewN nq=wr;have WJ:Ext W wr:=by rw[<-Wp];exact(Ext.refl _).drewN _
  replace I:=I.aA WJ;clear WJ Wp;have Wn:=aJ I.s.b5.rng;obtain⟨fr,j⟩:∃f:Nat->En,pk3 P fb fc=f:=⟨_,rfl⟩;rw[j] at Wn;have O:=aJ (dF (f:=fr) I.s.b4);have WW:Hid (lJ wr 3 fr (cq V Lv δ) 4600):=aJ (fun k hk=>by rw[<-j];have h:=I.v k hk;rw[θ aa] at h;rw[show cq V Lv δ k=GQ.i 0 0 from rfl];exact h);exact Aal
 |some b=>
  obtain⟨gw,ow,bv,WZ,Wo,Wj,Wz,Xj,Ww,WG,Yj,Yr⟩:=HW.o;rw[WZ] at kw;have L:=aJ Wz;have Xq:=aJ (And.intro WG (And.intro Yj Yr));have U:=aJ (And.intro Xj Ww);have Wu:=WH.o b rfl;have WB:=aJ Wu;have Xr:=Wu.a;have Xd:=Wu.b;clear WZ Wo Wj Wz Xj Ww WG Yj Yr Wu;have Yt:=I.s.x.cell_ (show w.cell? ⟨gw,ow,δ⟩=γ (.int .i64 (b.a:Int)) from by have:=L.o 0 _ rfl;rw[U.o.1] at this;exact this);have Yn:=I.s.x.cell_ (show w.cell? ⟨gw,ow+1,δ⟩=γ (.int .i64 (b.b:Int)) from by have:=L.o 1 _ rfl;rw[U.o.2] at this;exact this);have kl:=(S.ext I.s.x).cell_ (k:=15+b.a) aa ((dz aa).trans (HL.o b.a aa));have p1:(0:Int)<=(b.a:Int):=aa;have p2:(b.a:Int)<18:=aa;have p3:(0:Int)<=(b.b:Int):=aa;have p4:(b.b:Int)<18:=aa;by_cases WC:13<=b.a
  .have hd:decide ((b.a:Int)<13)=ζ:=ae;cases hL:Lv b.a with
   |false=>
    rw[hL] at kl;have Xt:=aJ hL;clear hL;(go_wp2_with fail);go_quiet (fail);generalize Wp:W.drewN nq=wr;have WJ:Ext W wr:=by rw[<-Wp];exact(Ext.refl _).drewN _
    replace I:=I.aA WJ;clear WJ Wp;have Wn:=aJ I.s.b5.rng;obtain⟨fr,j⟩:∃f:Nat->En,pk3 P fb fc=f:=⟨_,rfl⟩;rw[j] at Wn;have O:=aJ (dF (f:=fr) I.s.b4);have WW:Hid (lJ wr 3 fr (cq V Lv (γ b)) 4600):=aJ (fun k hk=>by rw[<-j];have h:=I.v k hk;rw[θ aa] at h;rw[show cq V Lv (γ b) k=GQ.i 0 0 from θ (fun h=>by rw[Xt.o] at h;cases h.2)];exact h);exact Aal
   |true=>
    rw[hL] at kl;have WQ:=aJ hL;have XZ:=aJ WC;clear hL;(go_wp2_with fail);go_quiet (fail);generalize Wp:W.drewN nq=Ya;have WJ:Ext W Ya:=by rw[<-Wp];exact(Ext.refl _).drewN _
    replace I:=I.aA WJ;clear WJ Wp XY kw Yt Yn kl;go_wp2_with fail
    go_loopw [47] (fun iv wr=>∃n:Nat,n<=3/\iv=.int .i64 n/\∃a,CuS w wr gf g6 g7 a (cq V Lv (γ b)) n) (fun iv _=>3-(intOf iv).toNat)
    case atStart=>exact⟨0,aa,rfl,_,I.o⟩
    case round=>
     clear I;rename World=>wr;obtain⟨n,hn,rfl,a,hR⟩:=hrel;have I:=aJ hR;clear hR;by_cases Wj:n<3
     .have hd:decide ((n:Int)<3)=ε:=ae;have q3:(0:Int)<=(n:Int):=aa;have q4:(n:Int)<3:=aa;obtain⟨ea,XX⟩:∃e,E (n*18+b.a)=e:=⟨_,rfl⟩;obtain⟨eb,XW⟩:∃e,E (n*18+b.b)=e:=⟨_,rfl⟩;have WS:Hid (GV wr ea.v (V n b.a) 4400):=aJ (by rw[<-XX];exact(HV.o n b.a Wj aa).ext I.s.x);have Xk:Hid (GV wr eb.v (V n b.b) 4400):=aJ (by rw[<-XW];exact(HV.o n b.b Wj aa).ext I.s.x);have X9:=aJ (S.ext I.s.x);have XC:=aK.cell (show wr.cell? ⟨gx,33+n*108+b.a*6,δ⟩=_ from X9.en (e:=n*18+b.a) (a:=33+n*108+b.a*6) aa aa 0 (.bool ea.s1) AcU);have XN:=aK.cell (show wr.cell? ⟨gx,33+n*108+b.a*6+1,δ⟩=_ from X9.en (e:=n*18+b.a) (a:=33+n*108+b.a*6) aa aa 1 (.slice ea.A1 ea.n1 ea.c1) AcU);have Xx:=aK.cell (show wr.cell? ⟨gx,33+n*108+b.a*6+2,δ⟩=_ from X9.en (e:=n*18+b.a) (a:=33+n*108+b.a*6) aa aa 2 (.bool ea.s2) AcU);have XR:=aK.cell (show wr.cell? ⟨gx,33+n*108+b.a*6+3,δ⟩=_ from X9.en (e:=n*18+b.a) (a:=33+n*108+b.a*6) aa aa 3 (.slice ea.A2 ea.n2 ea.c2) AcU);have XO:=aK.cell (show wr.cell? ⟨gx,33+n*108+b.a*6+4,δ⟩=_ from X9.en (e:=n*18+b.a) (a:=33+n*108+b.a*6) aa aa 4 (.bool ea.s3) AcU);have Xw:=aK.cell (show wr.cell? ⟨gx,33+n*108+b.a*6+5,δ⟩=_ from X9.en (e:=n*18+b.a) (a:=33+n*108+b.a*6) aa aa 5 (.slice ea.A3 ea.n3 ea.c3) AcU);have XE:=aK.cell (show wr.cell? ⟨gx,33+n*108+b.b*6,δ⟩=_ from X9.en (e:=n*18+b.b) (a:=33+n*108+b.b*6) aa aa 0 (.bool eb.s1) Ac8);have Xu:=aK.cell (show wr.cell? ⟨gx,33+n*108+b.b*6+1,δ⟩=_ from X9.en (e:=n*18+b.b) (a:=33+n*108+b.b*6) aa aa 1 (.slice eb.A1 eb.n1 eb.c1) Ac8);have XD:=aK.cell (show wr.cell? ⟨gx,33+n*108+b.b*6+2,δ⟩=_ from X9.en (e:=n*18+b.b) (a:=33+n*108+b.b*6) aa aa 2 (.bool eb.s2) Ac8);have XP:=aK.cell (show wr.cell? ⟨gx,33+n*108+b.b*6+3,δ⟩=_ from X9.en (e:=n*18+b.b) (a:=33+n*108+b.b*6) aa aa 3 (.slice eb.A2 eb.n2 eb.c2) Ac8);have Xv:=aK.cell (show wr.cell? ⟨gx,33+n*108+b.b*6+4,δ⟩=_ from X9.en (e:=n*18+b.b) (a:=33+n*108+b.b*6) aa aa 4 (.bool eb.s3) Ac8);have XH:=aK.cell (show wr.cell? ⟨gx,33+n*108+b.b*6+5,δ⟩=_ from X9.en (e:=n*18+b.b) (a:=33+n*108+b.b*6) aa aa 5 (.slice eb.A3 eb.n3 eb.c3) Ac8);have XA:=aK.cell (I.s.x.cell_ (show w.cell? ⟨gw,ow,δ⟩=γ (.int .i64 (b.a:Int)) from by have:=L.o 0 _ rfl;rw[U.o.1] at this;exact this));have Yv:=aK.cell (I.s.x.cell_ (show w.cell? ⟨gw,ow+1,δ⟩=γ (.int .i64 (b.b:Int)) from by have:=L.o 1 _ rfl;rw[U.o.2] at this;exact this));clear XX XW;(go_wp2_with fail);refine tN 25 [(4,.eq (.pointer (γ ⟨gw,ow,δ⟩))),(7,.eq (.pointer (γ ⟨gx,0,δ⟩))),(15,.eq (.pointer (γ ⟨gw,ow,δ⟩))),(18,.eq (.pointer (γ ⟨gx,0,δ⟩))),(23,.gv (V n b.a-V n b.b) (8865)),(24,.box 42 #[.bool ζ,.slice δ 0 0,.bool ζ,.slice δ 0 0,.bool ζ,.slice δ 0 0])] ?_;refine Qs ?_;refine En_ ?_;intro WV Wx;refine Qs ?_;refine En_ ?_;intro Yx Yh;refine Qs ?_;refine En_ ?_;intro Yw Za;refine Qs ?_;refine En_ ?_;intro Yo Yq;refine Qs ?_;refine Ee (fun T J=>ui gf ea.v eb.v (V n b.a) (V n b.b) 4400 4400 _ (bM.ext I.c J.1) (WS.ext J.1) (Xk.ext J.1) aa) ?_;intro ed Yp Yy;refine Eb ?_;intro g10 Yu XU;refine bz ?_;intro wE J;have F:=J.ext;have XL:=J.hV 23;have Xg:=J.hB 24;have Xa:=aJ (J.low 24 _ rf);clear XU;have R:=aJ F;clear J F;have HD:Hid (GV wE ed.v (V n b.a-V n b.b) 4600):=aJ (GV.to XL.o (WK.o b rfl n Wj));have O:=aJ (Xg.there (o:=0) (n:=6) ag);refine aN rfl 42 (.tmp 10) (.tmp 73) rfl g10 0 ed.cells rf rf O.o bE (dM ed) ?_;intro wf l;refine Qp ?_;obtain⟨F,Wm,M,-⟩:=mR ed R.o Xa.o Xg.o l;have B:=aJ Wm;replace HD:=aJ (M _ _ _ HD.o);have D:=aJ F;have Xf:=aJ (show wr.heap.size<=g10 from Xa.o);clear l O F Wm M R Xg Xa XL WS Xk X9 XA Yv XC XE XN Xu Xx XD XR XP XO Xv Xw XH;obtain⟨m,hm⟩:∃m,min n 1=m:=⟨_,rfl⟩;have Xp:(min (n:Int) 1)=(m:Int):=aa;have WI:m<2:=aa;obtain⟨H,X5⟩:∃e,bv.z m=e:=⟨_,rfl⟩;have Yk:Hid (GV w H.v (b.zs m) 64):=aJ (by rw[<-X5];have h2:m=0\/m=1:=aa;rcases h2 with rfl|rfl<;>first|exact Xq.o.1|exact Xq.o.2.1);have Z:Hid (∀t u,H.cells[t]? =γ u->w.cell? ⟨gw,ow+2+m*6+t,δ⟩=γ u):=aJ (fun t u N=>by rw[show ow+2+m*6+t=ow+(2+m*6+t) by omega];exact L.o _ _ (bv.zat aa (by rw[X5];exact N)));have HM:=aJ hm;clear hm X5;have p5:(0:Int)<=(m:Int):=aa;have p6:(m:Int)<2:=aa;by_cases h1:n=1
      .have XK:((n:Int)==1)=ε:=by rw[h1];rfl
       have XV:=aJ h1;clear h1;have X7:Hid (V n b.a-V n b.b-GQ.i b.emf 0=V n b.a-V n b.b-(if n=1 then GQ.i b.emf 0 else GQ.i 0 0)):=aJ (by rw[ι XV.o]);(go_wp2_with fail);have Wy:=aK.blk B.o;have Ye:=aK.cell (show wf.cell? ⟨gw,ow+14,δ⟩=_ from (I.s.x.trans D.o).cell_ (L.o 14 (.bool bv.e.s1) rfl));have Yc:=aK.cell (show wf.cell? ⟨gw,ow+14+1,δ⟩=_ from (I.s.x.trans D.o).cell_ (L.o 15 (.slice bv.e.A1 bv.e.n1 bv.e.c1) rfl));have Yi:=aK.cell (show wf.cell? ⟨gw,ow+14+2,δ⟩=_ from (I.s.x.trans D.o).cell_ (L.o 16 (.bool bv.e.s2) rfl));have Yb:=aK.cell (show wf.cell? ⟨gw,ow+14+3,δ⟩=_ from (I.s.x.trans D.o).cell_ (L.o 17 (.slice bv.e.A2 bv.e.n2 bv.e.c2) rfl));have Yl:=aK.cell (show wf.cell? ⟨gw,ow+14+4,δ⟩=_ from (I.s.x.trans D.o).cell_ (L.o 18 (.bool bv.e.s3) rfl));have X8:=aK.cell (show wf.cell? ⟨gw,ow+14+5,δ⟩=_ from (I.s.x.trans D.o).cell_ (L.o 19 (.slice bv.e.A3 bv.e.n3 bv.e.c3) rfl));refine tN 7 [(3,.eq (.pointer (γ ⟨gw,ow,δ⟩))),(6,.gv (V n b.a-V n b.b-GQ.i b.emf 0) (4729))] ?_;refine Qs ?_;refine En_ ?_;intro Xo Xi;refine Qs ?_;refine Ee (fun T J=>ui gf ed.v bv.e.v (V n b.a-V n b.b) (GQ.i b.emf 0) 4600 64 _ ((bM.ext I.c D.o).ext J.1) (HD.ext J.1) (((Xq.o.2.2.ext I.s.x).ext D.o).ext J.1) aa) ?_;intro ee Yf Yg;refine bz ?_;intro wE J;have F:=J.ext;have XQ:=J.hV 6;have R:=aJ F;clear J F;have O:=aJ ((B.ext R.o).there (o:=0) (n:=6) ag);refine aN rfl 42 (.tmp 10) (.tmp 82) rfl g10 0 ee.cells rf rf O.o bE (dM ee) ?_;intro wg l;refine Qp ?_;have HO:=eZ (w:=wr) (n:=1) (f:=fun _=>ee) (f0:=fun _=>ed) (D.trans R.o) Xf.o (show Blk wE g10 42 (aM 1 fun _=>ed).toArray from B.ext R.o) l;replace B:Hid (Blk wg g10 42 #[.bool ee.s1,.slice ee.A1 ee.n1 ee.c1,.bool ee.s2,.slice ee.A2 ee.n2 ee.c2,.bool ee.s3,.slice ee.A3 ee.n3 ee.c3]):=aJ HO.1;replace D:=aJ HO.2.1;replace HD:Hid (GV wg ee.v (V n b.a-V n b.b-GQ.i b.emf 0) 4600):=aJ (GV.to (HO.2.2 _ _ _ XQ.o) (by have:=WY.o b rfl;rw[XV.o];exact this));clear l O R XQ HO Wy Ye Yc Yi Yb Yl X8;have kc:wg.cell? ⟨gf,0,δ⟩=γ (.int .i64 0):=((I.ext D.o).c.cell 0).trans rfl;have Xh:=B.cell;have XF:cq V Lv (γ b) n=(V n b.a-V n b.b-GQ.i b.emf 0)/b.zs m:=by rw[<-HM.o];exact(ι ⟨XZ.o,WQ.o⟩).trans (by rw[<-X7.o])
       have Xm:=aJ XF;clear XF;by_cases hz:V n b.a-V n b.b-GQ.i b.emf 0=GQ.i 0 0
       .have HZ:=aJ hz;clear hz;(go_wp2_with fail);refine(xk ee.v (V n b.a-V n b.b-GQ.i b.emf 0) 4600 _ HD.o aa HZ.o).mono ?_;rintro _ wh ⟨rfl,F⟩;have Wq:=aJ ((I.ext (D.trans F)).skip (by rw[Xm.o,HZ.o,afh]));clear kc Xh F I;go_wp2_with fail
        exact AbL
       .have HZ:=aJ hz;clear hz;(go_wp2_with fail);refine(zx ee.v (V n b.a-V n b.b-GQ.i b.emf 0) 4600 _ HD.o aa HZ.o).mono ?_;rintro _ wh ⟨rfl,F⟩;replace D:=D.aC F;replace B:=B.aA F;replace HD:=HD.aA F;clear kc Xh F;(go_wp2_with fail);have Wy:=aK.blk B.o;have Xz:=aK.cell (show wh.cell? ⟨gw,ow+2+m*6,δ⟩=_ from (I.s.x.trans D.o).cell_ (Z.o 0 (.bool H.s1) rfl));have XI:=aK.cell (show wh.cell? ⟨gw,ow+2+m*6+1,δ⟩=_ from (I.s.x.trans D.o).cell_ (Z.o 1 (.slice H.A1 H.n1 H.c1) rfl));have XM:=aK.cell (show wh.cell? ⟨gw,ow+2+m*6+2,δ⟩=_ from (I.s.x.trans D.o).cell_ (Z.o 2 (.bool H.s2) rfl));have Xy:=aK.cell (show wh.cell? ⟨gw,ow+2+m*6+3,δ⟩=_ from (I.s.x.trans D.o).cell_ (Z.o 3 (.slice H.A2 H.n2 H.c2) rfl));have XJ:=aK.cell (show wh.cell? ⟨gw,ow+2+m*6+4,δ⟩=_ from (I.s.x.trans D.o).cell_ (Z.o 4 (.bool H.s3) rfl));have XG:=aK.cell (show wh.cell? ⟨gw,ow+2+m*6+5,δ⟩=_ from (I.s.x.trans D.o).cell_ (Z.o 5 (.slice H.A3 H.n3 H.c3) rfl));have WU:=WN.o n;rw[Xm.o] at WU;have WO:=aJ WU;clear WU;refine tN 12 [(5,.eq (.int .i64 (m:Int))),(6,.eq (.pointer (γ ⟨gw,ow,δ⟩))),(10,.gv ((V n b.a-V n b.b-GQ.i b.emf 0)/b.zs m) (4600))] ?_;refine Qs ?_;refine dR rf rf rf ?_ ?_
        .exact Adg
        intro v_ W9 Xc WA;obtain⟨T,Wv⟩:=WA;obtain rfl:v_=_:=Wv.get;clear Wv T;refine Qp ?_;refine En_ ?_;intro Yf Yg;refine Qs ?_;refine Ee (fun T J=>lY gf ee.v H.v (V n b.a-V n b.b-GQ.i b.emf 0) (b.zs m) 4600 64 _ ((bM.ext I.c D.o).ext J.1) (HD.ext J.1) (((Yk.ext I.s.x).ext D.o).ext J.1) (WB.ne m) 4600 aa aa WO.o aa) ?_;intro eq YN YO;refine Qs ?_;refine bz ?_;intro wE J;have F:=J.ext;have WF:=J.hV 10;have R:=aJ F;clear J F;have O:=aJ ((I.ext (D.trans R.o)).s.there Wj);refine aN rfl 42 (.tmp 104) (.tmp 103) rfl g7 (n*6) eq.cells rf rf O.o bE (dM eq) ?_;intro wj l;refine Qp ?_;have Wq:=aJ ((I.ext (D.trans R.o)).put XT.o Wj (e:=eq) (by rw[Xm.o];exact WF.o) l);clear l O R WF I D B HD Wy Xz XI XM Xy XJ XG;go_wp2_with fail
        exact AbL
      .have XK:((n:Int)==1)=ζ:=ae;have XV:=aJ h1;clear h1;have X7:Hid (V n b.a-V n b.b=V n b.a-V n b.b-(if n=1 then GQ.i b.emf 0 else GQ.i 0 0)):=aJ (by rw[θ XV.o];exact(VN _).symm);have kc:wf.cell? ⟨gf,0,δ⟩=γ (.int .i64 0):=((I.ext D.o).c.cell 0).trans rfl;have Xh:=B.cell;have XF:cq V Lv (γ b) n=(V n b.a-V n b.b)/b.zs m:=by rw[<-HM.o];exact(ι ⟨XZ.o,WQ.o⟩).trans (by rw[<-X7.o])
       have Xm:=aJ XF;clear XF;by_cases hz:V n b.a-V n b.b=GQ.i 0 0
       .have HZ:=aJ hz;clear hz;(go_wp2_with fail);refine(xk ed.v (V n b.a-V n b.b) 4600 _ HD.o aa HZ.o).mono ?_;rintro _ wh ⟨rfl,F⟩;have Wq:=aJ ((I.ext (D.trans F)).skip (by rw[Xm.o,HZ.o,afh]));clear kc Xh F I;go_wp2_with fail
        exact AbL
       .have HZ:=aJ hz;clear hz;(go_wp2_with fail);refine(zx ed.v (V n b.a-V n b.b) 4600 _ HD.o aa HZ.o).mono ?_;rintro _ wh ⟨rfl,F⟩;replace D:=D.aC F;replace B:=B.aA F;replace HD:=HD.aA F;clear kc Xh F;(go_wp2_with fail);have Wy:=aK.blk B.o;have Xz:=aK.cell (show wh.cell? ⟨gw,ow+2+m*6,δ⟩=_ from (I.s.x.trans D.o).cell_ (Z.o 0 (.bool H.s1) rfl));have XI:=aK.cell (show wh.cell? ⟨gw,ow+2+m*6+1,δ⟩=_ from (I.s.x.trans D.o).cell_ (Z.o 1 (.slice H.A1 H.n1 H.c1) rfl));have XM:=aK.cell (show wh.cell? ⟨gw,ow+2+m*6+2,δ⟩=_ from (I.s.x.trans D.o).cell_ (Z.o 2 (.bool H.s2) rfl));have Xy:=aK.cell (show wh.cell? ⟨gw,ow+2+m*6+3,δ⟩=_ from (I.s.x.trans D.o).cell_ (Z.o 3 (.slice H.A2 H.n2 H.c2) rfl));have XJ:=aK.cell (show wh.cell? ⟨gw,ow+2+m*6+4,δ⟩=_ from (I.s.x.trans D.o).cell_ (Z.o 4 (.bool H.s3) rfl));have XG:=aK.cell (show wh.cell? ⟨gw,ow+2+m*6+5,δ⟩=_ from (I.s.x.trans D.o).cell_ (Z.o 5 (.slice H.A3 H.n3 H.c3) rfl));have WU:=WN.o n;rw[Xm.o] at WU;have WO:=aJ WU;clear WU;refine tN 12 [(5,.eq (.int .i64 (m:Int))),(6,.eq (.pointer (γ ⟨gw,ow,δ⟩))),(10,.gv ((V n b.a-V n b.b)/b.zs m) (4600))] ?_;refine Qs ?_;refine dR rf rf rf ?_ ?_
        .exact Adg
        intro v_ W9 Xc WA;obtain⟨T,Wv⟩:=WA;obtain rfl:v_=_:=Wv.get;clear Wv T;refine Qp ?_;refine En_ ?_;intro Yf Yg;refine Qs ?_;refine Ee (fun T J=>lY gf ed.v H.v (V n b.a-V n b.b) (b.zs m) 4600 64 _ ((bM.ext I.c D.o).ext J.1) (HD.ext J.1) (((Yk.ext I.s.x).ext D.o).ext J.1) (WB.ne m) 4600 aa aa WO.o aa) ?_;intro eq YN YO;refine Qs ?_;refine bz ?_;intro wE J;have F:=J.ext;have WF:=J.hV 10;have R:=aJ F;clear J F;have O:=aJ ((I.ext (D.trans R.o)).s.there Wj);refine aN rfl 42 (.tmp 104) (.tmp 103) rfl g7 (n*6) eq.cells rf rf O.o bE (dM eq) ?_;intro wj l;refine Qp ?_;have Wq:=aJ ((I.ext (D.trans R.o)).put XT.o Wj (e:=eq) (by rw[Xm.o];exact WF.o) l);clear l O R WF I D B HD Wy Xz XI XM Xy XJ XG;go_wp2_with fail
        exact AbL
     .obtain rfl:n=3:=aa;have hd:decide ((3:Int)<3)=ζ:=aj;have Wn:=aJ I.s.b5.rng;obtain⟨fr,j⟩:∃f:Nat->En,a=f:=⟨_,rfl⟩;rw[j] at Wn;have O:=aJ (dF (f:=fr) I.s.b4);have WW:Hid (lJ wr 3 fr (cq V Lv (γ b)) 4600):=aJ (fun k hk=>by rw[<-j];have h:=I.v k hk;rw[ι hk] at h;exact h);have Xe:=aJ (j ▸ I.s);clear j;(go_wp2_with (refine σ rfl 102 _ rfl g7 (0) rf (aM 3 fr) _ Wn.o Bn rfl (jA _) (Hid.o ?_)));refine aJ ?_;refine Qp ?_;refine aL rfl 102 (.tmp 6) (.tmp 106) rfl g6 (0) (aM 3 fr) rf rf O.o (jA _) (bY 3 _) (fun we Q=> ?_);refine Qp ?_;replace Q:=Hid.o Q;have Y:=aJ (Xe.fin Q);clear Q;(go_wp2_with fail);exact iC rfl rfl rf Y.o.1 Bn rfl (nI _) ⟨_,rfl,fun k hk=>Y.o.2.2 _ _ _ (WW.o k hk),Y.o.2.1⟩
  .have hd:decide ((b.a:Int)<13)=ε:=ae;have Yd:=aJ WC;clear WC;(go_wp2_with fail);go_quiet (fail);generalize Wp:W.drewN nq=wr;have WJ:Ext W wr:=by rw[<-Wp];exact(Ext.refl _).drewN _
   replace I:=I.aA WJ;clear WJ Wp;have Wn:=aJ I.s.b5.rng;obtain⟨fr,j⟩:∃f:Nat->En,pk3 P fb fc=f:=⟨_,rfl⟩;rw[j] at Wn;have O:=aJ (dF (f:=fr) I.s.b4);have WW:Hid (lJ wr 3 fr (cq V Lv (γ b)) 4600):=aJ (fun k hk=>by rw[<-j];have h:=I.v k hk;rw[θ aa] at h;rw[show cq V Lv (γ b) k=GQ.i 0 0 from θ (fun h=>Yd.o h.1)];exact h);exact Aal
def nu (PA:Option Addr) (j B:Nat) (PB:Option Addr) (l qc:Nat):Value:=.agg #[.slice PA j B,.slice PB l qc]
structure iW (w:World) (PA:Option Addr) (pn:Nat) (PB:Option Addr) (qn:Nat) (K:Nat->Hd) (p:dA):Prop where
 lc:p.closed.length=pn
 closed:Arr w PA pn 1 (fun i=>[.bool (p.closed.getD i ζ)])
 ll:p.links.length=qn
 rows:Arr w PB qn 1 (fun i=>[(K i).v])
 lens:∀i,i<qn->(p.links.getD i []).length=(K i).n
 ints:∀i,i<qn->Arr w (K i).A (K i).n 1 (fun k=>[.int .i64 ((p.links.getD i []).getD k 0)])
 mx:pn<=9223372036854775807/\qn<=9223372036854775807/\∀i,i<qn->(K i).n<=9223372036854775807
def iW.ext{w w' PA j PB l K p}(h:iW w PA j PB l K p)(x:Ext w w'):iW w' PA j PB l K p:=
 ⟨h.lc,h.closed.ext x,h.ll,h.rows.ext x,h.lens,fun i hi=>(h.ints i hi).ext x,h.mx⟩
def Arr.one{w:World}{A:Option Addr}{n i:Nat}{f:Nat->Value}(h:Arr w A n 1 (fun i=>[f i]))(hi:i<n):∃b o,A=γ ⟨b,o,δ⟩/\b<w.heap.size/\w.cell? ⟨b,o+i,δ⟩=γ (f i):=by
 obtain⟨b,o,e,hb,hc⟩:=h.at_ hi;have:=hc 0 _ rfl;rw[aar,Nq] at this;exact⟨b,o,e,hb,this⟩
section
variable {s:StD} {p:dA} {n:Nat}
theorem vZ(hn:s.bays.length=n)(h:p.closed.length≠n\/p.links.length≠n):jb s p=3:=by
 unfold jb;rw[θ (by rw[hn];omega)]
theorem FJ(hn:s.bays.length=n)(l:p.closed.length=n)(j:p.links.length=n){i}(hi:i<n)(h:(p.links.getD i []).length≠(s.bays.getD i η).links.length):jb s p=3:=by
 unfold jb;rw[ι (by rw[hn];exact⟨l,j⟩),θ];intro e;have:=wo.1 e i (aaz.2 aa);exact h (abf this)
theorem Kc(hn:s.bays.length=n)(l:p.closed.length=n)(j:p.links.length=n)(h:∀i,i<n->(p.links.getD i []).length=(s.bays.getD i η).links.length):
  jb s p=if (List.range n).all (fun i=>(p.links.getD i []).all (kG s i))=ε then 0 else 16:=by
 unfold jb;rw[ι (by rw[hn];exact⟨l,j⟩),ι (by
  rw[wo];intro i hi;exact pq (h i (by have:=aaz.1 hi;omega))),hn]
def tK(hn:s.bays.length=n)(C:p.closed.length=n)(B:p.links.length=n)(h:∀i,i<n->(p.links.getD i []).length=(s.bays.getD i η).links.length){i k}(hi:i<n)(j:k<(p.links.getD i []).length)(hv:kG s i ((p.links.getD i []).getD k 0)=ζ):jb s p=16:=by
 rw[Kc hn C B h,θ];intro e;have:=wo.1 (wo.1 e i (aaz.2 hi)) ((p.links.getD i []).getD k 0) (by
  generalize p.links.getD i []=l at j⊢;rw[φ,ν j];exact abk j)
 rw[hv] at this;cases this
def J8(hn:s.bays.length=n)(B:p.closed.length=n)(l:p.links.length=n)(h:∀i,i<n->(p.links.getD i []).length=(s.bays.getD i η).links.length)(hv:∀i,i<n->∀k,k<(p.links.getD i []).length->kG s i ((p.links.getD i []).getD k 0)=ε):jb s p=0:=by
 rw[Kc hn B l h,ι];rw[wo];intro i hi;rw[wo];intro x C;obtain⟨k,j,rfl⟩:=acv C;have:=hv i (aaz.1 hi) k j;rwa[φ,ν j] at this
theorem EJ{i x}(h:x=1):kG s i x=ε:=by unfold kG;simp[h]
theorem Dh{i x}(j:(s.bays.getD i η).kind≠3)(h:x=0\/x=2):kG s i x=ε:=by
 unfold kG;rw[pq j];rcases h with h|h<;>simp[h]
theorem sV{i x}(j:x≠1)(h:(s.bays.getD i η).kind=3\/(x≠0/\x≠2)):kG s i x=ζ:=by
 unfold kG;rw[Γ j];rcases h with h|⟨h,G⟩
 .rw[Γ (fun e=>e h)];simp
 .rw[Γ h,Γ G];simp
end
theorem yD(nm){A0 n0 c0 A1 n1 c1 A2 n2 c2 A3 n3 c3 L s PA pn pc PB qn qc K p}(w)(hs:kY w A0 n0 c0 A1 n1 c1 A2 n2 c2 A3 n3 c3 L s)(hp:iW w PA pn PB qn K p):
  CE 80 #[stV nm A0 n0 c0 A1 n1 c1 A2 n2 c2 A3 n3 c3,nu PA pn pc PB qn qc] w (.int .i64 (jb s p)):=by
 have Wx:=hs.l3;have XK:=hp.lc;have XQ:=hp.ll;have Wp:=hs.mx;have H:=hp.mx;obtain⟨m0,m1,m2,m3⟩:=Wp;obtain⟨x0,x1,x2⟩:=H;have W:=aJ x2;clear x2;have D:Hid (Ext w ((w.alloc (.cells #[.string nm,.slice A0 n0 c0,.slice A1 n1 c1,.slice A2 n2 c2,.slice A3 n3 c3] 27)).alloc (.cells #[.slice PA pn pc,.slice PB qn qc] 31))):=aJ ((Ext.new _ _).trans (Ext.new _ _));have HS:=aJ (hs.ext D.o);have HP:=aJ (hp.ext D.o);clear hs hp;obtain⟨-,G,Wq⟩:=ah2 w 27 #[.string nm,.slice A0 n0 c0,.slice A1 n1 c1,.slice A2 n2 c2,.slice A3 n3 c3] 31 #[.slice PA pn pc,.slice PB qn qc];have H3:=aJ Wx;have HC:=aJ XK;have HL:=aJ XQ;unfold stV nu;by_cases t1:pn=n3
 rotate_left
 .have d1:((pn:Int) !=(n3:Int))=ε:=ae;have HV:Hid (jb s p=3):=aJ (vZ Wx (.inl aa));clear Wx XK XQ t1;exact Abu
 have d1:((pn:Int) !=(n3:Int))=ζ:=ae;by_cases t2:qn=n3
 rotate_left
 .have d2:((qn:Int) !=(n3:Int))=ε:=ae;have HV:Hid (jb s p=3):=aJ (vZ Wx (.inr aa));clear Wx XK XQ t1 t2;exact Abu
 have d2:((qn:Int) !=(n3:Int))=ζ:=ae;have Wn:Hid (p.closed.length=n3):=aJ aa;have WK:Hid (p.links.length=n3):=aJ aa;have l:=aJ t2;clear Wx XK XQ t1 t2;go_enter func80,ntmps80;(go_wp2_with fail);clear d1 d2;go_loopw [30] (fun i wr=>∃k:Nat,k<=n3/\i=.int .i64 (k:Int)/\(∀j,j<k->(p.links.getD j []).length=(s.bays.getD j η).links.length)/\Ext ((w.alloc (.cells #[.string nm,.slice A0 n0 c0,.slice A1 n1 c1,.slice A2 n2 c2,.slice A3 n3 c3] 27)).alloc (.cells #[.slice PA pn pc,.slice PB qn qc] 31)) wr) (fun i _=>n3-(intOf i).toNat)
 case atStart=>exact⟨0,aa,rfl,by intros;omega,Ext.refl _⟩
 case round=>
  obtain⟨k,hk,rfl,hz,hx⟩:=hrel;have HZ:=aJ hz;have HX:=aJ hx;have Wz:=G.ext hx;have WB:=Wq.ext hx;have C:=Wz.cell;have k2:=WB.cell;have WX:w.heap.size<wr.heap.size:=Wz.lt;have Y:w.heap.size+1<wr.heap.size:=WB.lt;clear hz hx Wz WB;by_cases M:k<n3
  .have hd:decide (k<n3)=ε:=ae;obtain⟨lb,lo,hA,hb,e0,e1,e2,e3,e4,e5,e6,e7,e8,e9,WA,WG⟩:=(HS.ext HX.o).bays.bay M;obtain⟨pb,WH,Wm,Q,f0⟩:=(HP.ext HX.o).rows.one (show k<qn by have:=l.o;omega);have O:k<qn:=by have:=l.o;omega
   have Wo:Hid ((p.links.getD k []).length=(K k).n):=aJ (HP.lens k (by have:=l.o;omega));have WF:Hid ((s.bays.getD k η).links.length=(L k).n):=aJ (HS.links k M).1;unfold Hd.v at f0;generalize K k=kh at f0 Wo;generalize L k=F at e6 WF;have WR:=aJ (rfl:s.bays.getD k η=s.bays.getD k η);generalize Ww:s.bays.getD k η=b at e0 e1 e2 e3 e4 e5 e6 e7 e8 e9 WA WG WF;have WS:=aJ Ww;clear Ww WR;subst hA Wm;by_cases U:kh.n=F.n
   .have q1:((kh.n:Int) !=(F.n:Int))=ζ:=ae;have HE:=aJ U;clear U;(go_wp2_with fail);go_quiet (fail);go_wp2_with fail
    go_roundw
    case rel=>exact⟨k+1,aa,au,(fun j hj=>by
     by_cases e:j=k
     .rw[e,Wo.o,WS.o,WF.o,HE.o]
     .exact HZ.o j aa),(HX.alloc _).drewN _⟩
    case measure=>simp[intOf];omega
   .have q1:((kh.n:Int) !=(F.n:Int))=ε:=ae;have HV:Hid (jb s p=3):=aJ (FJ H3.o Wn.o WK.o M (by rw[Wo.o,WS.o,WF.o];exact U));clear U;(go_wp2_with fail);go_quiet (fail);(go_wp2_with fail);go_ret;exact⟨aO HV.symm,((D.trans HX.o).alloc _).drewN _⟩
  .obtain rfl:n3=k:=aa;clear M;(go_wp2_with fail);clear C k2;go_loopw [49] (fun i wr=>∃k:Nat,k<=n3/\i=.int .i64 (k:Int)/\(∀j,j<k->∀t,t<(p.links.getD j []).length->kG s j ((p.links.getD j []).getD t 0)=ε)/\Ext ((w.alloc (.cells #[.string nm,.slice A0 n0 c0,.slice A1 n1 c1,.slice A2 n2 c2,.slice A3 n3 c3] 27)).alloc (.cells #[.slice PA pn pc,.slice PB qn qc] 31)) wr) (fun i _=>n3-(intOf i).toNat)
   case atStart=>exact⟨0,aa,rfl,by intros;omega,HX.o⟩
   case round=>
    clear HX WX Y;obtain⟨k,hk,rfl,hz,hx⟩:=hrel;have WY:=aJ hz;have HX:=aJ hx;have Wz:=G.ext hx;have WB:=Wq.ext hx;have C:=Wz.cell;have k2:=WB.cell;have WX:w.heap.size<wr.heap.size:=Wz.lt;have Y:w.heap.size+1<wr.heap.size:=WB.lt;clear hz hx Wz WB;by_cases M:k<n3
    .have hd:decide (k<n3)=ε:=ae;obtain⟨lb,lo,hA,hb,e0,e1,e2,e3,e4,e5,e6,e7,e8,e9,WA,WG⟩:=(HS.ext HX.o).bays.bay M;have O:k<qn:=by have:=l.o;omega
     obtain⟨pb,WH,Wm,Q,f0⟩:=(HP.ext HX.o).rows.one O;have Wo:Hid ((p.links.getD k []).length=(K k).n):=aJ (HP.lens k O);have V:=aJ ((HP.ext HX.o).ints k O);have S:=W.o k O;unfold Hd.v at f0;generalize K k=kh at f0 Wo V S;generalize L k=F at e6;generalize Ww:s.bays.getD k η=b at e0 e1 e2 e3 e4 e5 e6 e7 e8 e9 WA WG;have WS:=aJ Ww;clear Ww;subst hA Wm;obtain⟨-,Xk⟩:=an1 wr 57 #[.string b.name,.int .i64 b.kind,.int .i64 b.obj,.int .i64 b.en,.int .i64 b.z.r,.int .i64 b.z.x,.slice F.A F.n F.c,.bool b.closed,.int .i64 b.ct,.int .i64 b.vt,.int .i64 b.sat,.int .i64 b.travel];have WP:=aJ Xk;clear Xk;have I:=aJ (V.ext (Ext.new wr (.cells #[.string b.name,.int .i64 b.kind,.int .i64 b.obj,.int .i64 b.en,.int .i64 b.z.r,.int .i64 b.z.x,.slice F.A F.n F.c,.bool b.closed,.int .i64 b.ct,.int .i64 b.vt,.int .i64 b.sat,.int .i64 b.travel] 57)));have Wt:=aJ (HX.alloc (.cells #[.string b.name,.int .i64 b.kind,.int .i64 b.obj,.int .i64 b.en,.int .i64 b.z.r,.int .i64 b.z.x,.slice F.A F.n F.c,.bool b.closed,.int .i64 b.ct,.int .i64 b.vt,.int .i64 b.sat,.int .i64 b.travel] 57));(go_wp2_with fail);clear C k2 e0 e1 e2 e3 e4 e5 e6 e7 e8 e9 WA WG f0;generalize wr.alloc (.cells #[.string b.name,.int .i64 b.kind,.int .i64 b.obj,.int .i64 b.en,.int .i64 b.z.r,.int .i64 b.z.x,.slice F.A F.n F.c,.bool b.closed,.int .i64 b.ct,.int .i64 b.vt,.int .i64 b.sat,.int .i64 b.travel] 57)=w5 at WP I Wt⊢;generalize wr.heap.size=g5 at WP WX Y hb Q⊢;have kb:=WP.cell;go_loop [60] (fun i=>∃t:Nat,t<=kh.n/\i=.int .i64 (t:Int)/\(∀u,u<t->kG s k ((p.links.getD k []).getD u 0)=ε)) (fun i=>kh.n-(intOf i).toNat)
     case atStart=>exact⟨0,aa,rfl,by intros;omega⟩
     case round=>
      obtain⟨t,ht,rfl,hz⟩:=hrel;have WN:=aJ hz;clear hz;by_cases J:t<kh.n
      .have X9:decide (t<kh.n)=ε:=ae;obtain⟨T,Z,hI,P,g0⟩:=I.one J;rw[hI];generalize B:(p.links.getD k []).getD t 0=x at g0;have R:=aJ B;clear B;by_cases h1:x=1
       .have q1:((x:Int)==1)=ε:=by simp[h1]
        have HO:Hid (kG s k x=ε):=aJ (EJ h1);clear h1;go_wp2;go_round
        case rel=>exact⟨t+1,aa,au,fun u N=>by
         by_cases e:u=t
         .rw[e,R.o];exact HO.o
         .exact WN.o u aa⟩
        case measure=>simp[intOf];omega
       have q1:((x:Int)==1)=ζ:=by simp;exact h1
       by_cases h3:b.kind=3
       .have q2:((b.kind:Int) !=3)=ζ:=by simp[h3]
        have HV:Hid (jb s p=16):=aJ (tK H3.o Wn.o WK.o HZ.o M (by rw[Wo.o];exact J) (by rw[R.o];exact sV h1 (.inl Acw)));clear h1 h3;go_wp2;go_ret;exact⟨aO HV.symm,D.trans Wt.o⟩
       have q2:((b.kind:Int) !=3)=ε:=by simp;exact h3
       by_cases h0:x=0
       .have q3:((x:Int)==0)=ε:=by simp[h0]
        have HO:Hid (kG s k x=ε):=aJ (Dh Acw (.inl h0));clear h0 h1 h3;go_wp2;go_round
        case rel=>exact⟨t+1,aa,au,fun u N=>by
         by_cases e:u=t
         .rw[e,R.o];exact HO.o
         .exact WN.o u aa⟩
        case measure=>simp[intOf];omega
       have q3:((x:Int)==0)=ζ:=by simp;exact h0
       by_cases h2:x=2
       .have q4:((x:Int)==2)=ε:=by simp[h2]
        have HO:Hid (kG s k x=ε):=aJ (Dh Acw (.inr h2));clear h0 h1 h2 h3;go_wp2;go_round
        case rel=>exact⟨t+1,aa,au,fun u N=>by
         by_cases e:u=t
         .rw[e,R.o];exact HO.o
         .exact WN.o u aa⟩
        case measure=>simp[intOf];omega
       have q4:((x:Int)==2)=ζ:=by simp;exact h2
       have HV:Hid (jb s p=16):=aJ (tK H3.o Wn.o WK.o HZ.o M (by rw[Wo.o];exact J) (by rw[R.o];exact sV h1 (.inr ⟨h0,h2⟩)));clear h0 h1 h2 h3;go_wp2;go_ret;exact⟨aO HV.symm,D.trans Wt.o⟩
      .obtain rfl:kh.n=t:=aa;clear J kb;go_wp2_with fail
       go_roundw
       case rel=>exact⟨k+1,aa,au,(fun j hj=>by
        by_cases e:j=k
        .subst e;intro u N;exact WN.o u (by rw[<-Wo.o];exact N)
        .exact WY.o j aa),Wt.o⟩
       case measure=>simp[intOf];omega
    .exact AbT
theorem ES(nm){A0 n0 c0 A1 n1 c1 A2 n2 c2 A3 n3 c3 L s PA pn pc PB qn qc K p}(w)(hs:kY w A0 n0 c0 A1 n1 c1 A2 n2 c2 A3 n3 c3 L s)(hp:iW w PA pn PB qn K p):
  CE 39 #[stV nm A0 n0 c0 A1 n1 c1 A2 n2 c2 A3 n3 c3,nu PA pn pc PB qn qc] w (.int .i64 (jb s p)):=by
 have Y:=hs.l3;have XK:=hp.lc;have XQ:=hp.ll;have Wp:=hs.mx;have H:=hp.mx;obtain⟨m0,m1,m2,m3⟩:=Wp;obtain⟨x0,x1,x2⟩:=H;have W:=aJ x2;clear x2;have D:Hid (Ext w ((w.alloc (.cells #[.string nm,.slice A0 n0 c0,.slice A1 n1 c1,.slice A2 n2 c2,.slice A3 n3 c3] 27)).alloc (.cells #[.slice PA pn pc,.slice PB qn qc] 31))):=aJ ((Ext.new _ _).trans (Ext.new _ _));have HS:=aJ (hs.ext D.o);have HP:=aJ (hp.ext D.o);clear hs hp;obtain⟨-,G,Wq⟩:=ah2 w 27 #[.string nm,.slice A0 n0 c0,.slice A1 n1 c1,.slice A2 n2 c2,.slice A3 n3 c3] 31 #[.slice PA pn pc,.slice PB qn qc];have H3:=aJ Y;have HC:=aJ XK;have HL:=aJ XQ;unfold stV nu;by_cases t1:pn=n3
 rotate_left
 .have d1:((pn:Int) !=(n3:Int))=ε:=ae;have HV:Hid (jb s p=3):=aJ (vZ Y (.inl aa));clear Y XK XQ t1;exact AcX
 have d1:((pn:Int) !=(n3:Int))=ζ:=ae;by_cases t2:qn=n3
 rotate_left
 .have d2:((qn:Int) !=(n3:Int))=ε:=ae;have HV:Hid (jb s p=3):=aJ (vZ Y (.inr aa));clear Y XK XQ t1 t2;exact AcX
 have d2:((qn:Int) !=(n3:Int))=ζ:=ae;have Wn:Hid (p.closed.length=n3):=aJ aa;have WK:Hid (p.links.length=n3):=aJ aa;have l:=aJ t2;clear Y XK XQ t1 t2;go_enter func39,ntmps39;(go_wp2_with fail);clear d1 d2;go_loopw [5] (fun i wr=>∃k:Nat,k<=n3/\i=.int .i64 (k:Int)/\(∀j,j<k->(p.links.getD j []).length=(s.bays.getD j η).links.length)/\Ext ((w.alloc (.cells #[.string nm,.slice A0 n0 c0,.slice A1 n1 c1,.slice A2 n2 c2,.slice A3 n3 c3] 27)).alloc (.cells #[.slice PA pn pc,.slice PB qn qc] 31)) wr) (fun i _=>n3-(intOf i).toNat)
 case atStart=>exact⟨0,aa,rfl,by intros;omega,Ext.refl _⟩
 case round=>
  obtain⟨k,hk,rfl,hz,hx⟩:=hrel;have HZ:=aJ hz;have HX:=aJ hx;have Wz:=G.ext hx;have WB:=Wq.ext hx;have C:=Wz.cell;have k2:=WB.cell;clear hz hx Wz WB;by_cases I:k<n3
  .have hd:decide (k<n3)=ε:=ae;obtain⟨lb,lo,hA,hb,e0,e1,e2,e3,e4,e5,e6,e7,e8,e9,WA,WG⟩:=(HS.ext HX.o).bays.bay I;obtain⟨pb,WH,Wm,Q,f0⟩:=(HP.ext HX.o).rows.one (show k<qn by have:=l.o;omega);have O:k<qn:=by have:=l.o;omega
   have M:Hid ((p.links.getD k []).length=(K k).n):=aJ (HP.lens k (by have:=l.o;omega));have WF:Hid ((s.bays.getD k η).links.length=(L k).n):=aJ (HS.links k I).1;unfold Hd.v at f0;clear e0 e1 e2 e3 e4 e5 e7 e8 e9 WA WG;generalize K k=kh at f0 M;generalize L k=F at e6 WF;subst hA Wm;by_cases U:kh.n=F.n
   .have q1:((kh.n:Int) !=(F.n:Int))=ζ:=ae;have HE:=aJ U;clear U;(go_wp2_with fail);go_quiet (fail);go_wp2_with fail
    go_roundw
    case rel=>exact⟨k+1,aa,au,(fun j hj=>by
     by_cases e:j=k
     .rw[e,M.o,WF.o,HE.o]
     .exact HZ.o j aa),HX.drewN _⟩
    case measure=>simp[intOf];omega
   .have q1:((kh.n:Int) !=(F.n:Int))=ε:=ae;have HV:Hid (jb s p=3):=aJ (FJ H3.o Wn.o WK.o I (by rw[M.o,WF.o];exact U));clear U;(go_wp2_with fail);go_quiet (fail);(go_wp2_with fail);go_ret;exact⟨aO HV.symm,(D.trans HX.o).drewN _⟩
  .obtain rfl:n3=k:=aa;clear I;(go_wp2_with fail);clear C k2;go_loop [6] (fun i=>∃k:Nat,k<=n3/\i=.int .i64 (k:Int)/\(∀j,j<k->∀t,t<(p.links.getD j []).length->kG s j ((p.links.getD j []).getD t 0)=ε)) (fun i=>n3-(intOf i).toNat)
   case atStart=>exact⟨0,aa,rfl,by intros;omega⟩
   case round=>
    obtain⟨k,hk,rfl,hz⟩:=hrel;have WY:=aJ hz;have C:=(G.ext HX.o).cell;have k2:=(Wq.ext HX.o).cell;clear hz;by_cases I:k<n3
    .have hd:decide (k<n3)=ε:=ae;obtain⟨lb,lo,hA,hb,e0,e1,e2,e3,e4,e5,e6,e7,e8,e9,WA,WG⟩:=(HS.ext HX.o).bays.bay I;clear e0 e2 e3 e4 e5 e6 e7 e8 e9 WA WG;have O:k<qn:=by have:=l.o;omega
     obtain⟨pb,WH,Wm,Q,f0⟩:=(HP.ext HX.o).rows.one O;have M:Hid ((p.links.getD k []).length=(K k).n):=aJ (HP.lens k O);have V:=aJ ((HP.ext HX.o).ints k O);have S:=W.o k O;unfold Hd.v at f0;generalize K k=kh at f0 M V S;generalize Ww:s.bays.getD k η=b at e1;have WS:=aJ Ww;clear Ww;subst hA Wm;go_wp2_with fail
     go_loop [7] (fun i=>∃t:Nat,t<=kh.n/\i=.int .i64 (t:Int)/\(∀u,u<t->kG s k ((p.links.getD k []).getD u 0)=ε)) (fun i=>kh.n-(intOf i).toNat)
     case atStart=>exact⟨0,aa,rfl,by intros;omega⟩
     case round=>
      obtain⟨t,ht,rfl,hz⟩:=hrel;have WN:=aJ hz;clear hz;by_cases J:t<kh.n
      .have X9:decide (t<kh.n)=ε:=ae;obtain⟨T,Z,hI,P,g0⟩:=V.one J;rw[hI] at f0;generalize B:(p.links.getD k []).getD t 0=x at g0;have R:=aJ B;clear B;by_cases h0:x<0
       .have q1:decide (x<0)=ε:=ae;exact AaS
       have q1:decide (x<0)=ζ:=ae;by_cases h2:2<x
       .have q2:decide (2<x)=ε:=ae;exact AaS
       have q2:decide (2<x)=ζ:=ae;by_cases h3:b.kind=3
       .have q3:((b.kind:Int)==3)=ε:=by simp[h3]
        by_cases h1:x=1
        .have q4:((x:Int) !=1)=ζ:=by simp[h1]
         have HO:Hid (kG s k x=ε):=aJ (EJ h1);clear h1 h3;go_wp2;go_round
         case rel=>exact⟨t+1,aa,au,fun u N=>by
          by_cases e:u=t
          .rw[e,R.o];exact HO.o
          .exact WN.o u aa⟩
         case measure=>simp[intOf];omega
        .have q4:((x:Int) !=1)=ε:=by simp;exact h1
         have HV:Hid (jb s p=16):=aJ (tK H3.o Wn.o WK.o HZ.o I (by rw[M.o];exact J) (by rw[R.o];exact sV h1 (.inl Acw)));clear h1 h3;go_wp2;go_ret;exact⟨aO HV.symm,D.trans HX.o⟩
       have q3:((b.kind:Int)==3)=ζ:=by simp;exact h3
       have HO:Hid (kG s k x=ε):=aJ (by
        by_cases h1:x=1
        .exact EJ h1
        .exact Dh Acw aa)
       clear h3;go_wp2;go_round
       case rel=>exact⟨t+1,aa,au,fun u N=>by
        by_cases e:u=t
        .rw[e,R.o];exact HO.o
        .exact WN.o u aa⟩
       case measure=>simp[intOf];omega
      .obtain rfl:kh.n=t:=aa;clear J;go_wp2_with fail
       go_round
       case rel=>exact⟨k+1,aa,au,(fun j hj=>by
        by_cases e:j=k
        .subst e;intro u N;exact WN.o u (by rw[<-M.o];exact N)
        .exact WY.o j aa)⟩
       case measure=>simp[intOf];omega
    .exact AbT
def pM{P:Program}{fn:Func}{R:Ending->World->Prop}{a:Act}{w:World}{t g:Nat}{T:TypeId}{cs:Array Value}{d:TypeDesc}(B:fn.results= #[.cell t T])(hd:a.defers=[])(hp:a.tmps[t]?.getD undef=.pointer (γ ⟨g,0,δ⟩))(hb:Blk w g T cs)(N:P.underlying T=γ d)(j:(match d with| .struct _| .array _ _=>ε|_=>ζ)=ε)(hi:(P.info? T).map (·.size)=γ cs.size)(l:R (.returned (.agg cs)) w):bodyPost P fn R .ret a w:=
 aak (v:=.agg cs) (by simp[results,B,hp,asAddr,ab0 w g T T cs (0,0) d hb N j hi]) hd l
def EN{P:Program}{fn:Func}{R:Ending->World->Prop}{a:Act}{w:World}{t u g:Nat}{T:TypeId}{cs:Array Value}{d:TypeDesc}(l:fn.results= #[.cell t T,.tmp u])(hd:a.defers=[])(hp:a.tmps[t]?.getD undef=.pointer (γ ⟨g,0,δ⟩))(hb:Blk w g T cs)(N:P.underlying T=γ d)(j:(match d with| .struct _| .array _ _=>ε|_=>ζ)=ε)(hi:(P.info? T).map (·.size)=γ cs.size)(B:R (.returned (.tuple #[.agg cs,a.tmps.getD u undef])) w):bodyPost P fn R .ret a w:=
 aak (v:=.tuple #[.agg cs,a.tmps.getD u undef]) (by simp[results,l,hp,asAddr,ab0 w g T T cs (0,0) d hb N j hi]) hd B
def GD:Elem prog 92 3 1 8:=aeU aca (z:=.int .i64 0) ah rfl aa
def LM:Elem prog 28 4 1 1:=aeU acb (z:=.bool ζ) ah rfl aa
def LB:Elem prog 29 92 1 24:=aeU underlying29 (z:=.slice δ 0 0) ah rfl aa
def G8{α:Type}(f:α->Value)(l:List α)(d:α){i}(hi:i<l.length):(l.map f)[i]? =γ (f (l.getD i d)):=by
 rw[I5,ν hi,φ,ν hi];rfl
theorem Arr.reads{α:Type}{w A n}{f:α->Value}{l:List α}{d:α}(h:Arr w A n 1 (fun i=>[f (l.getD i d)]))(Z:l.length=n):Reads w w.heap.size 1 A n (l.map f):=by
 refine⟨by simp[Z],fun hn=> ?_⟩;obtain⟨b,o,e,hb,hc⟩:=h hn;refine⟨_,e,hb,fun j u N=> ?_⟩;have C:j<l.length:=by
  have:=(μ.1 N).1;simpa using this
 rw[G8 f l d C] at N;injection N with N;have:=hc j aa 0 u (by show γ (f (l.getD j d))=γ u;rw[N]);rw[aar,Nq] at this;rw[<-this];unfold Addr.add;by_cases B:j=0
 .subst B;simp
 .rw[θ B]
theorem ae8{α:Type}{w B e n}{f:α->Value}{l:List α}{v}(d:α)(h:w.ownsRow B e 1 v n (l.map f)):∃A c,v=.slice A n c/\n<=c/\l.length=n/\Arr w A n 1 (fun i=>[f (l.getD i d)]):=by
 have Z:l.length=n:=by have:=h.1;simpa using this
 obtain⟨A,c,e,hc,_,I⟩:=iX h;refine⟨A,c,e,hc,Z,fun hn=> ?_⟩;rcases h.2 with ⟨hv,j⟩|⟨g,F,cur,hv,hb,G,_⟩
 .omega
 .rw[e] at hv;injection hv with H _ _;subst H;refine⟨g,0,rfl,(abd.1 G).1,fun i hi t u N=> ?_⟩;cases t with
  |succ t=>simp at N
  |zero=>
   obtain⟨R,D,_,C⟩:=I.2 hn;injection D with D;subst D;have:=C i _ (G8 f l d aa);simp only[ac8,aaC] at N;rw[<-N,aar,Nq,<-this];unfold Addr.add;by_cases j:i=0
   .subst j;simp
   .rw[θ j]
def rE{w base g e t size n v xs cs}(h:w.ownsRow base e size v n xs)(hb:Blk w g t cs)(l:t≠e):v.ownBlock≠γ g:=by
 intro hv;rcases h.2 with ⟨rfl,_⟩|⟨g',F,cur,rfl,_,j,_⟩
 .cases hv
 .simp only[Value.ownBlock,aaC] at hv;subst hv;rw[hb] at j;injection j with j;injection j with _ B;exact l B
def Pf(l:List Int):∀u∈l.map (Value.int .i64),u.oneCell'=ε:=by
 exact Abd
def Lt(l:List Bool):∀u∈l.map Value.bool,u.oneCell'=ε:=by
 exact Abd
def IZ(A n c)(l:List Bool)(w:World)(h:Arr w A n 1 (fun i=>[.bool (l.getD i ζ)]))(Z:l.length=n)(hn:n<=1000000):
  CV 123 #[.slice A n c] w fun v w'=>w'.ownsRow w.heap.size 4 1 v n (l.map (Value.bool)):=by
 have C:=Arr.reads (f:=Value.bool) h Z;have I:=aJ C;clear C;cases A with
 |none=>
  have j:n=0:=by
   exact AcD
  subst j;obtain rfl:l=[]:=NK Z;clear h Z I;have B:=aaZ (P:=prog) (t:=28) (a:=δ) (n:=0) (c:=c) (n':=0) (c':=0) (h:=acb);go_enter func123,ntmps123;go_wp2;all_goals
   exact AbZ
 |some ad=>
  clear h;have G:=aJ Z;clear Z;have B:=aaZ (P:=prog) (t:=28) (a:=γ ad) (n:=n) (c:=c) (n':=0) (c':=0) (h:=acb);go_enter func123,ntmps123;(go_wp2_with (at_builtin;refine kL LM rfl (.tmp 5) (.tmp 6) rfl w.heap.size _ 0 [] rf (ab8 _ _ _ aa aa ag) _ n _ (l.map (Value.bool)) rf (I.ext (Ext.new w _)) (Lt l) aa aa ag ?_));exact AaK
def Jb(A n c)(l:List Int)(w:World)(h:Arr w A n 1 (fun i=>[.int .i64 (l.getD i 0)]))(Z:l.length=n)(hn:n<=1000000):
  CV 124 #[.slice A n c] w fun v w'=>w'.ownsRow w.heap.size 3 1 v n (l.map (Value.int .i64)):=by
 have C:=Arr.reads (f:=Value.int .i64) h Z;have I:=aJ C;clear C;cases A with
 |none=>
  have j:n=0:=by
   exact AcD
  subst j;obtain rfl:l=[]:=NK Z;clear h Z I;have B:=aaZ (P:=prog) (t:=92) (a:=δ) (n:=0) (c:=c) (n':=0) (c':=0) (h:=aca);go_enter func124,ntmps124;go_wp2;all_goals
   exact AbZ
 |some ad=>
  clear h;have G:=aJ Z;clear Z;have B:=aaZ (P:=prog) (t:=92) (a:=γ ad) (n:=n) (c:=c) (n':=0) (c':=0) (h:=aca);go_enter func124,ntmps124;(go_wp2_with (at_builtin;refine kL GD rfl (.tmp 5) (.tmp 6) rfl w.heap.size _ 0 [] rf (ab8 _ _ _ aa aa ag) _ n _ (l.map (Value.int .i64)) rf (I.ext (Ext.new w _)) (Pf l) aa aa ag ?_));exact AaK
def mv (c x:Int):Int:=if x=2 then c else x
def uM(c p i):(resolve c p).links.getD i []=(p.links.getD i []).map (mv c):=by
 show(p.links.map (List.map (mv c))).getD i []=_;rw[φ,φ,I5];cases p.links[i]? <;>rfl
def uV (f:Int->Int) (l:List Int) (t:Nat):List Int:=(l.take t).map f++l.drop t
def Qa(f l):uV f l 0=l:=by simp[uV]
def Pi(f l t):(uV f l t).length=l.length:=by simp[uV];omega
def GR{f l t}(h:l.length=t):uV f l t=l.map f:=by subst h;simp[uV]
theorem DN{f l t}(h:t<l.length):(uV f l t)[t]? =γ (l.getD t 0):=by
 unfold uV;rw[nG ae];simp only[aaM,PI];rw[aaE aa,aa7,aaf,Nq,ν h,φ,ν h];rfl
theorem AZ{f l t}(h:t<l.length):(uV f l t).set t (f (l.getD t 0))=uV f l (t+1):=by
 unfold uV;rw[abG _ _ ae];simp only[aaM,PI];rw[aaE aa,aa7,lT h];have e:l.drop t=l[t]::l.drop (t+1):=aaF h;rw[e,Z5,aaN,Ha];rfl
def Cs{f l t}(h:t<l.length)(hv:f (l.getD t 0)=l.getD t 0):uV f l (t+1)=uV f l t:=by
 rw[<-AZ h,hv];apply aap;intro j;by_cases e:j=t
 .subst e;rw[abx (by rw[Pi];exact h),DN h]
 .rw[aav (fun h=>e h.symm)]
def JU{w base g n F e xs}(h:w.ownsRow base e 1 (.slice (γ ⟨g,0,δ⟩) n F) n xs)(j u):
  (w.setCell ⟨g,j,δ⟩ u).ownsRow base e 1 (.slice (γ ⟨g,0,δ⟩) n F) n (xs.set j u)/\Mod (fun k=>k=g) w (w.setCell ⟨g,j,δ⟩ u):=
 ⟨(h.stored j u).1,Mod.grown (h.stored j u).2 (fun k l=>by injection l with l;exact l.symm)⟩
def Ext.mod{S w0 w w'}(h:Ext w0 w)(m:Mod S w w')(hs:∀k,S k->w0.heap.size<=k):Ext w0 w':=
 ⟨m.os.trans h.os,m.tape.trans h.tape,m.output.trans h.output,nk h.size m.size,fun k j=>(m.block k (π j h.size) (fun e=>by have:=hs k e;omega)).trans (h.block k j)⟩
def DD{w:World}{base g n F e}{f:Int->Value}{l:List Int}(h:w.ownsRow base e 1 (.slice (γ ⟨g,0,δ⟩) n F) n (l.map f)){j x}(C:j<n)(B:l[j]? =γ x):
  w.cell? ⟨g,j,δ⟩=γ (f x)/\w.frozen? ⟨g,j,δ⟩=ζ:=by
 refine⟨?_,h.frozenAt j⟩;rw[h.cellAt j aa,I5,B];rfl
def JO (w:World) (B k:Nat) (I:Nat->Hd) (f:Nat->List Int):Prop:=∀i,i<k->w.ownsRow B 3 1 (I i).v (I i).n ((f i).map (.int .i64))
def Ea (I:Nat->Hd) (k:Nat):List Value:=(List.range k).map fun i=>(I i).v
theorem Mg(I k):Ea I (k+1)=Ea I k++[(I k).v]:=by unfold Ea;rw[abX,aaN];rfl
theorem IR{I j k}(h:∀i,i<k->I i=j i):Ea I k=Ea j k:=by
 unfold Ea;exact acs fun i hi=>by rw[h i (aaz.1 hi)]
theorem iW.made{w B C l v1 D I p}(L:w.ownsRow B 4 1 v1 C (p.closed.map Value.bool))(J:w.ownsRow B 92 1 D l (Ea I l))(Z:p.links.length=l)(H:JO w B l I (fun i=>p.links.getD i []))(hp:C<=1000000)(hq:l<=1000000)(K:∀i,i<l->(I i).n<=1000000):∃PA G PB qc,v1=.slice PA C G/\D=.slice PB l qc/\iW w PA C PB l I p:=by
 obtain⟨PA,G,P,_,S,Q⟩:=ae8 ζ L;have j:w.ownsRow B 92 1 D l ((List.range l).map fun i=>(I i).v):=J;obtain⟨PB,qc,O,_,_,R⟩:=ae8 0 j;refine⟨PA,G,PB,qc,P,O,S,Q,Z,R.congr fun i hi=> ?_,fun i hi=> ?_,fun i hi=> ?_,aa,aa,fun i hi=>by have:=K i hi;omega⟩
 .rw[φ,aaD hi];rfl
 .obtain⟨_,_,_,_,F,_⟩:=ae8 0 (H i hi);exact F
 .obtain⟨A,c,e,_,_,M⟩:=ae8 0 (H i hi);unfold Hd.v at e;injection e with N _ _;rw[N];exact M
def pE (nm:ByteArray) (A0:Option Addr) (n0 c0:Nat) (A1:Option Addr) (n1 c1:Nat) (A2:Option Addr) (n2 c2:Nat) (A3:Option Addr) (n3 c3:Nat) (PA:Option Addr) (B C:Nat) (PB:Option Addr) (j qc:Nat) (l:Option Addr) (D V:Nat):Value:=.agg #[.string nm,.slice A0 n0 c0,.slice A1 n1 c1,.slice A2 n2 c2,.slice A3 n3 c3,.slice PA B C,.slice PB j qc,.slice l D V]
def uL (w:World) (l:Option Addr) (j:Nat) (g:List Int):Prop:=g.length=j/\Arr w l j 1 (fun i=>[.int .i64 (g.getD i 0)])
def uL.ext{w w' l j g}(h:uL w l j g)(x:Ext w w'):uL w' l j g:=⟨h.1,h.2.ext x⟩
def uX (x:(Int×Int)×(Int×Int)):Value:=.agg #[.int .i64 x.1.1,.int .i64 x.1.2,.int .i64 x.2.1,.int .i64 x.2.2]
theorem FZ{s p i t}(hn:(s.bays.getD i η).links.length<=2)(l:t<(s.bays.getD i η).links.length)(C:∀u,u<t->(p.links.getD i []).getD u 0≠1)(j:(p.links.getD i []).getD t 0=1):qV s p i=vO s p (fQ s i t):=by
 unfold qV;by_cases B:t=0
 .subst B;rw[ι j]
 .obtain rfl:t=1:=aa;rw[θ (C 0 aa),ι ⟨l,j⟩]
theorem AX{s p i n}(hn:(s.bays.getD i η).links.length=n)(l:1<=n)(j:∀u,u<n->(p.links.getD i []).getD u 0≠1):qV s p i=(0,0):=by
 unfold qV;rw[θ (j 0 aa),θ (fun h=>j 1 aa h.2)]
theorem rX(nm){A0}{n0 c0:Nat}{A1}{n1 c1:Nat}{A2}{n2 c2:Nat}{A3}{n3 c3:Nat}{PA}{I O:Nat}{PB}{F qc:Nat}{K}{p:dA}(N)(R V:Nat)(i k:Nat)(l:Int)(J:l=(k:Int))(w)(hp:iW w PA I PB F K p)(hi:i<F)(U:k<(p.links.getD i []).length):
  CE 187 #[pE nm A0 n0 c0 A1 n1 c1 A2 n2 c2 A3 n3 c3 PA I O PB F qc N R V,.int .i64 (i:Int),.int .i64 l] w (.bool (decide ((p.links.getD i []).getD k 0=1))):=by
 subst J;have D:Hid (Ext w (w.alloc (.cells #[.string nm,.slice A0 n0 c0,.slice A1 n1 c1,.slice A2 n2 c2,.slice A3 n3 c3,.slice PA I O,.slice PB F qc,.slice N R V] 215))):=aJ (Ext.new _ _);obtain⟨-,hb⟩:=an1 w 215 #[.string nm,.slice A0 n0 c0,.slice A1 n1 c1,.slice A2 n2 c2,.slice A3 n3 c3,.slice PA I O,.slice PB F qc,.slice N R V];have C:=hb.cell;clear hb;obtain⟨pb,B,L,Q,f0⟩:=(hp.ext D.o).rows.one hi;have M:k<(K i).n:=by rw[<-hp.lens i hi];exact U
 obtain⟨T,Z,j,P,S⟩:=((hp.ext D.o).ints i hi).one M;have G:=hp.mx.2.1;have H:=hp.mx.2.2 i hi;unfold Hd.v at f0;clear hp;generalize K i=W at f0 S j M H;generalize (p.links.getD i []).getD k 0=x at S;rw[j] at f0;subst L;unfold pE;go_enter func187,ntmps187;go_wp2;go_ret;exact⟨rfl,D.o⟩
theorem uz(nm){A0 n0 c0 A1 n1 c1 A2 n2 c2 A3 n3 c3}(PA I K PB H qc){F l V g}(b w)(M:uL w F l g)(hb:b<l):
  CE 188 #[pE nm A0 n0 c0 A1 n1 c1 A2 n2 c2 A3 n3 c3 PA I K PB H qc F l V,.int .i64 (b:Int)] w (.agg #[.int .i64 1,.int .i64 (g.getD b 0)]):=by
 have D:Hid (Ext w ((w.alloc (.cells #[.string nm,.slice A0 n0 c0,.slice A1 n1 c1,.slice A2 n2 c2,.slice A3 n3 c3,.slice PA I K,.slice PB H qc,.slice F l V] 215)).alloc (.cells #[.int .i64 0,.int .i64 0] 186))):=aJ ((Ext.new _ _).alloc _);obtain⟨-,J,-⟩:=an2 w 215 #[.string nm,.slice A0 n0 c0,.slice A1 n1 c1,.slice A2 n2 c2,.slice A3 n3 c3,.slice PA I K,.slice PB H qc,.slice F l V] 186 #[.int .i64 0,.int .i64 0];have C:=J.cell;clear J;obtain⟨P,j,L,N,f0⟩:=M.2.one hb;generalize B:g.getD b 0=x at f0;have R:=aJ B;clear B;have O:Hid (∀u v,Ext w ((((w.alloc (.cells #[.string nm,.slice A0 n0 c0,.slice A1 n1 c1,.slice A2 n2 c2,.slice A3 n3 c3,.slice PA I K,.slice PB H qc,.slice F l V] 215)).alloc (.cells #[.int .i64 0,.int .i64 0] 186)).setCell ⟨w.heap.size+1,0,δ⟩ u).setCell ⟨w.heap.size+1,1,δ⟩ v)):=aJ (fun u v=>fw (g:=w.heap.size+1) (show w.heap.size<=w.heap.size+1 by omega) 0 [u,v] D.o);have G:Hid (∀u v,Blk ((((w.alloc (.cells #[.string nm,.slice A0 n0 c0,.slice A1 n1 c1,.slice A2 n2 c2,.slice A3 n3 c3,.slice PA I K,.slice PB H qc,.slice F l V] 215)).alloc (.cells #[.int .i64 0,.int .i64 0] 186)).setCell ⟨w.heap.size+1,0,δ⟩ u).setCell ⟨w.heap.size+1,1,δ⟩ v) (w.heap.size+1) 186 #[u,v]):=aJ (fun u v=>bR 0 [u,v] (aeE _ _ ag));subst L;clear M;unfold pE;go_enter func188,ntmps188;go_wp2;exact pM rfl rfl rfl (aeE _ _ ag) underlying186 rfl ah ⟨rfl,(Ext.new _ _).alloc _⟩
theorem F6(nm){A0 n0 c0 A1 n1 c1 A2 n2 c2 A3 n3 c3 L s PA pn pc PB C qc K p GA H V}(i w)(hs:kY w A0 n0 c0 A1 n1 c1 A2 n2 c2 A3 n3 c3 L s)(hp:iW w PA pn PB C K p)(j:iT s)(Xm:∀i,i<s.bays.length->(p.links.getD i []).length=(s.bays.getD i η).links.length)(hg:uL w GA H (groups s p))(D:H=s.buses.length)(hi:i<n3)(hq:i<C)(hk:(s.bays.getD i η).kind=3):
  CE 155 #[pE nm A0 n0 c0 A1 n1 c1 A2 n2 c2 A3 n3 c3 PA pn pc PB C qc GA H V,.int .i64 (i:Int)] w (uX (sides s p i)):=by
 have Wp:=hs.mx;obtain⟨m0,m1,m2,m3⟩:=Wp;have Wx:=hs.l3;have hL:=(hs.links i hi);have Xl:=j.link (show i<s.bays.length by omega);have l:=fun k hk=>j.bus (i:=i) (k:=k) (show i<s.bays.length by omega) hk;have XZ:H<=4:=by have:=j.nb;omega
 obtain⟨lb,lo,hA,hb,e0,e1,e2,e3,e4,e5,e6,e7,e8,e9,WA,WG⟩:=hs.bays.bay hi;subst hA;have d0:decide ((i:Int)<0)=ζ:=ag;have d1:decide ((n3:Int)<=(i:Int))=ζ:=ae;have HS:=aJ hs;have HP:=aJ hp;have S:=aJ hg;have Wo:=aJ Xl;have O:=aJ l;have R:=aJ hL;have WI:Hid ((s.bays.getD i η).links.length=(L i).n):=aJ hL.1;have XL:=aJ (Xm i aa);have W9:Hid (i<C):=aJ hq;clear hs hp hg Xl l hL j Xm D Wx hq;have XN:Hid (sides s p i=(vO s p (fQ s i 0),vO s p (fQ s i 1))):=aJ (by unfold sides;rw[ι hk]);have T:=Wo.o.2.1 hk;have WU:=O.o 0 aa;have WW:=O.o 1 aa;have WE:fQ s i 0<H:=by have:=S.o.1;rw[j5] at this;omega
 have Wz:fQ s i 1<H:=by have:=S.o.1;rw[j5] at this;omega
 obtain⟨kb,ko,hI,Xg,WJ⟩:=R.o.2.at_ (show 0<(L i).n by have:=WI.o;omega);obtain⟨Xu,Xt,U,_,I⟩:=R.o.2.at_ (show 1<(L i).n by have:=WI.o;omega);rw[hI] at U;injection U with U;injection U with Xd M _;subst Xd M;have f0:w.cell? ⟨kb,ko,δ⟩=γ (.int .i64 (fQ s i 0:Int)):=by
  have:=WJ 0 _ rfl;rw[WU.1] at this;simpa using this
 have f1:w.cell? ⟨kb,ko+2,δ⟩=γ (.int .i64 (fQ s i 1:Int)):=by
  have:=I 0 _ rfl;rw[WW.1] at this;simpa using this
 have Xh:(L i).n=2:=by have:=WI.o;omega
 clear WJ I WU WW T;rw[hk] at e1;have q1:((i:Int)==3)=((i:Int)==3):=rfl;clear q1;generalize L i=F at e6 hI Xh;obtain⟨lA,ln,lc⟩:=F;simp only at hI Xh;subst hI Xh;have WB:=aJ hk;clear hk;generalize fQ s i 0=u0 at f0 WE XN;generalize fQ s i 1=u1 at f1 Wz XN;generalize Ww:s.bays.getD i η=b at e0 e1 e2 e3 e4 e5 e6 e7 e8 e9 WA WG;clear Ww;obtain⟨w4,b0,b1,b2,b3⟩:=an4 w 215 #[.string nm,.slice A0 n0 c0,.slice A1 n1 c1,.slice A2 n2 c2,.slice (γ ⟨lb,lo,δ⟩) n3 c3,.slice PA pn pc,.slice PB C qc,.slice GA H V] 187 #[.int .i64 0,.int .i64 0,.int .i64 0,.int .i64 0] 57 #[.string b.name,.int .i64 3,.int .i64 b.obj,.int .i64 b.en,.int .i64 b.z.r,.int .i64 b.z.x,.slice (γ ⟨kb,ko,δ⟩) 2 lc,.bool b.closed,.int .i64 b.ct,.int .i64 b.vt,.int .i64 b.sat,.int .i64 b.travel] 187 #[.int .i64 0,.int .i64 0,.int .i64 0,.int .i64 0];have HW:=aJ w4;have Z:=aJ b0;have G:=aJ b1;have Wq:=aJ b2;have Wm:=aJ b3;clear w4 b0 b1 b2 b3;unfold pE;go_enter ad5,adw;(go_wp2_with fail);generalize ((((w.alloc (.cells #[.string nm,.slice A0 n0 c0,.slice A1 n1 c1,.slice A2 n2 c2,.slice (γ ⟨lb,lo,δ⟩) n3 c3,.slice PA pn pc,.slice PB C qc,.slice GA H V] 215)).alloc (.cells #[.int .i64 0,.int .i64 0,.int .i64 0,.int .i64 0] 187)).alloc (.cells #[.string b.name,.int .i64 3,.int .i64 b.obj,.int .i64 b.en,.int .i64 b.z.r,.int .i64 b.z.x,.slice (γ ⟨kb,ko,δ⟩) 2 lc,.bool b.closed,.int .i64 b.ct,.int .i64 b.vt,.int .i64 b.sat,.int .i64 b.travel] 57)).alloc (.cells #[.int .i64 0,.int .i64 0,.int .i64 0,.int .i64 0] 187))=w5 at HW Z G Wq Wm⊢;clear e0 e1 e2 e3 e4 e5 e6 e7 e8 e9 WA WG d0 d1;have g0:=HW.cell_ f0;have g1:=HW.cell_ f1;clear f0 f1;have Y1:=aK.blk Z.o;have Y2:=aK.blk Wq.o;have Y3:=fun x:aK w5=>aK.cell g0 x;have Y4:=fun x:aK w5=>aK.cell g1 x;refine bQ 15 [(ε,0),(ε,1),(ε,2),(ε,3),(ε,4),(ε,5),(ε,7),(ε,8),(ε,9),(ε,10),(ε,11),(ε,12),(ζ,6),(ζ,13),(ε,14)] ah ah ?_;refine aV [0,1,2,3,4,5,7,8,9,10,11,12] [(ζ,6),(ζ,13),(ε,14)] _ ah ?_;simp only[cZ,aZ,ξ,ο];(repeat (go_big_quiet_step (fail)));refine τ ?_;refine aT 6 [(ζ,13),(ε,14)] ah ?_;intro K J;simp only[aZ];(go_wp2_with fail);refine(uz nm PA pn pc PB C qc u0 _ (S.ext (HW.trans ((Ext.refl w5).drew))) WE).mono ?_;rintro e w6 ⟨rfl,hx⟩;have P:=((Ext.refl w5).drew).trans hx;have W:=aJ P;clear hx;(go_wp2_with fail);refine J _ _ ⟨⟨w6,P⟩,rfl⟩ ?_;clear J K P;refine aT 13 [(ε,14)] ah ?_;intro K J;simp only[aZ];(go_wp2_with fail);refine(uz nm PA pn pc PB C qc u1 _ (S.ext (HW.trans W.o)) Wz).mono ?_;rintro e w7 ⟨rfl,hx⟩;have N:=W.trans hx;have Wv:=aJ N;clear hx;(go_wp2_with fail);refine J _ _ ⟨⟨w7,N⟩,rfl⟩ ?_;clear J K N;refine aV [14] [] _ ah ?_;simp only[cZ,aZ,ξ,ο];(repeat (go_big_quiet_step (fail)));refine τ ?_;simp only[bT,ρ,χ];have B7:=G.ext Wv.o;have k7:=B7.cell;have f7:=B7.frozen;have Q:Hid (∀B,Ext w (puts w7 (w.heap.size+1) 0 B)):=aJ (fun B=>fw (g:=w.heap.size+1) (show w.heap.size<=w.heap.size+1 by omega) 0 B (HW.trans Wv.o));have Y:=aJ B7;clear B7;(go_wp2_with fail);refine pM rfl rfl rfl (bR 0 [.int .i64 1,.int .i64 ((groups s p).getD u0 0),.int .i64 1,.int .i64 ((groups s p).getD u1 0)] Y.o) aa9 rfl ah ⟨?_,Q.o [.int .i64 1,.int .i64 ((groups s p).getD u0 0),.int .i64 1,.int .i64 ((groups s p).getD u1 0)]⟩;rw[XN.o];rfl
end Go.Proofs.YtbfnfkppkmpieaaGreat
