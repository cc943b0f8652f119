import Derived.Test.YtbfnfkppkmpieaaGreatQed
set_option linter.unusedVariables false
set_option linter.unusedSimpArgs false
set_option maxHeartbeats 25600000
set_option maxRecDepth 200000
set_option linter.defProp false
namespace Go.Proofs.YtbfnfkppkmpieaaGreat
open Go.RowKit
open Go.Proofs.Tryz
open Option renaming some->γ,none->δ
open Bool renaming true->ε,false->ζ
open Inhabited renaming default->η
def mO (PA:Option Addr) (j B:Nat) (PB:Option Addr) (l qc:Nat):Value:=.agg #[.slice PA j B,.slice PB l qc]
structure iW (w:World) (PA:Option Addr) (pn:Nat) (PB:Option Addr) (qn:Nat) (K:Nat->Hd) (p:dB):Prop where
 lc:p.closed.length=pn
 closed:Arr w PA pn 1 (fun i=>[.bool (p.closed.getD i ζ)])
 ll:p.links.length=qn
 rows:Arr w PB qn 1 (fun i=>[(K i).v])
 lens:∀i,i<qn->(p.links.getD i []).length=(K i).n
 ints:∀i,i<qn->Arr w (K i).A (K i).n 1 (fun k=>[.int .i64 ((p.links.getD i []).getD k 0)])
 mx:pn<=9223372036854775807/\qn<=9223372036854775807/\∀i,i<qn->(K i).n<=9223372036854775807
def iW.ext{w w' PA j PB l K p}(h:iW w PA j PB l K p)(x:Ext w w'):iW w' PA j PB l K p:=
 ⟨h.lc,h.closed.ext x,h.ll,h.rows.ext x,h.lens,fun i hi=>(h.ints i hi).ext x,h.mx⟩
def Arr.one{w:World}{A:Option Addr}{n i:Nat}{f:Nat->Value}(h:Arr w A n 1 (fun i=>[f i]))(hi:i<n):∃b o,A=γ ⟨b,o,δ⟩/\b<w.heap.size/\w.cell? ⟨b,o+i,δ⟩=γ (f i):=by
 obtain⟨b,o,e,hb,hc⟩:=h.at_ hi;have:=hc 0 _ rfl;rw[aav,Bn] at this;exact⟨b,o,e,hb,this⟩
section
variable {s:StD} {p:dB} {n:Nat}
theorem GZ(hn:s.bays.length=n)(h:p.closed.length≠n\/p.links.length≠n):kF s p=3:=by
 unfold kF;rw[θ (by rw[hn];omega)]
theorem OH(hn:s.bays.length=n)(l:p.closed.length=n)(j:p.links.length=n){i}(hi:i<n)(h:(p.links.getD i []).length≠(s.bays.getD i η).links.length):kF s p=3:=by
 unfold kF;rw[ι (by rw[hn];exact⟨l,j⟩),θ];intro e;have:=nH.1 e i (aaa.2 aa);exact h (abj this)
theorem K6(hn:s.bays.length=n)(l:p.closed.length=n)(j:p.links.length=n)(h:∀i,i<n->(p.links.getD i []).length=(s.bays.getD i η).links.length):
  kF s p=if (List.range n).all (fun i=>(p.links.getD i []).all (nS s i))=ε then 0 else 16:=by
 unfold kF;rw[ι (by rw[hn];exact⟨l,j⟩),ι (by
  rw[nH];intro i hi;exact Ξ (h i (by have:=aaa.1 hi;omega))),hn]
def H7(hn:s.bays.length=n)(C:p.closed.length=n)(B:p.links.length=n)(h:∀i,i<n->(p.links.getD i []).length=(s.bays.getD i η).links.length){i k}(hi:i<n)(j:k<(p.links.getD i []).length)(hv:nS s i ((p.links.getD i []).getD k 0)=ζ):kF s p=16:=by
 rw[K6 hn C B h,θ];intro e;have:=nH.1 (nH.1 e i (aaa.2 hi)) ((p.links.getD i []).getD k 0) (by
  generalize p.links.getD i []=l at j⊢;rw[ψ,ο j];exact abr j)
 rw[hv] at this;cases this
def Rf(hn:s.bays.length=n)(B:p.closed.length=n)(l:p.links.length=n)(h:∀i,i<n->(p.links.getD i []).length=(s.bays.getD i η).links.length)(hv:∀i,i<n->∀k,k<(p.links.getD i []).length->nS s i ((p.links.getD i []).getD k 0)=ε):kF s p=0:=by
 rw[K6 hn B l h,ι];rw[nH];intro i hi;rw[nH];intro x J;obtain⟨k,j,rfl⟩:=acF J;have:=hv i (aaa.1 hi) k j;rwa[ψ,ο j] at this
theorem TA{i x}(h:x=1):nS s i x=ε:=by unfold nS;simp[h]
theorem KJ{i x}(j:(s.bays.getD i η).kind≠3)(h:x=0\/x=2):nS s i x=ε:=by
 unfold nS;rw[Ξ j];rcases h with h|h<;>simp[h]
theorem GG{i x}(j:x≠1)(h:(s.bays.getD i η).kind=3\/(x≠0/\x≠2)):nS s i x=ζ:=by
 unfold nS;rw[υ j];rcases h with h|⟨h,I⟩
 .rw[υ (fun e=>e h)];simp
 .rw[υ h,υ I];simp
end
theorem yJ(nm){A0 n0 c0 A1 n1 c1 A2 n2 c2 A3 n3 c3 L s PA pn pc PB qn qc K p}(w)(hs:lQ w A0 n0 c0 A1 n1 c1 A2 n2 c2 A3 n3 c3 L s)(hp:iW w PA pn PB qn K p):
  CE 80 #[stV nm A0 n0 c0 A1 n1 c1 A2 n2 c2 A3 n3 c3,mO PA pn pc PB qn qc] w (.int .i64 (kF s p)):=by
 have WP:=hs.l3;have X3:=hp.lc;have X4:=hp.ll;have WK:=hs.mx;have H:=hp.mx;obtain⟨m0,m1,m2,m3⟩:=WK;obtain⟨x0,x1,x2⟩:=H;have W:=aJ x2;clear x2;have Y:Hid (Ext w ((w.alloc (.cells #[.string nm,.slice A0 n0 c0,.slice A1 n1 c1,.slice A2 n2 c2,.slice A3 n3 c3] 27)).alloc (.cells #[.slice PA pn pc,.slice PB qn qc] 31))):=aJ ((Ext.new _ _).trans (Ext.new _ _));have HS:=aJ (hs.ext Y.o);have HP:=aJ (hp.ext Y.o);clear hs hp;obtain⟨-,C,U⟩:=ah2 w 27 #[.string nm,.slice A0 n0 c0,.slice A1 n1 c1,.slice A2 n2 c2,.slice A3 n3 c3] 31 #[.slice PA pn pc,.slice PB qn qc];have H3:=aJ WP;have HC:=aJ X3;have HL:=aJ X4;unfold stV mO;by_cases t1:pn=n3
 rotate_left
 .have d1:((pn:Int) !=(n3:Int))=ε:=ae;have HV:Hid (kF s p=3):=aJ (GZ WP (.inl aa));clear WP X3 X4 t1;exact AbI
 have d1:((pn:Int) !=(n3:Int))=ζ:=ae;by_cases t2:qn=n3
 rotate_left
 .have d2:((qn:Int) !=(n3:Int))=ε:=ae;have HV:Hid (kF s p=3):=aJ (GZ WP (.inr aa));clear WP X3 X4 t1 t2;exact AbI
 have d2:((qn:Int) !=(n3:Int))=ζ:=ae;have WS:Hid (p.closed.length=n3):=aJ aa;have WI:Hid (p.links.length=n3):=aJ aa;have l:=aJ t2;clear WP X3 X4 t1 t2;go_enter func80,ntmps80;(go_wp2_with fail);clear d1 d2;go_loopw [30] (fun i wr=>∃k:Nat,k<=n3/\i=.int .i64 (k:Int)/\(∀j,j<k->(p.links.getD j []).length=(s.bays.getD j η).links.length)/\Ext ((w.alloc (.cells #[.string nm,.slice A0 n0 c0,.slice A1 n1 c1,.slice A2 n2 c2,.slice A3 n3 c3] 27)).alloc (.cells #[.slice PA pn pc,.slice PB qn qc] 31)) wr) (fun i _=>n3-(intOf i).toNat)
 case atStart=>exact⟨0,aa,rfl,by intros;omega,Ext.refl _⟩
 case round=>
  obtain⟨k,hk,rfl,hz,J⟩:=hrel;have HZ:=aJ hz;have HX:=aJ J;have WH:=C.ext J;have Z:=U.ext J;have k1:=WH.cell;have V:=Z.cell;have Xc:w.heap.size<wr.heap.size:=WH.lt;have WW:w.heap.size+1<wr.heap.size:=Z.lt;clear hz J WH Z;by_cases M:k<n3
  .have hd:decide (k<n3)=ε:=ae;obtain⟨lb,lo,hA,hb,e0,e1,e2,e3,e4,e5,e6,e7,e8,e9,WU,Xj⟩:=(HS.ext HX.o).bays.bay M;obtain⟨pb,WZ,WG,Xi,f0⟩:=(HP.ext HX.o).rows.one (show k<qn by have:=l.o;omega);have G:k<qn:=by have:=l.o;omega
   have R:Hid ((p.links.getD k []).length=(K k).n):=aJ (HP.lens k (by have:=l.o;omega));have T:Hid ((s.bays.getD k η).links.length=(L k).n):=aJ (HS.links k M).1;unfold Hd.v at f0;generalize K k=kh at f0 R;generalize L k=I at e6 T;have W9:=aJ (rfl:s.bays.getD k η=s.bays.getD k η);generalize D:s.bays.getD k η=b at e0 e1 e2 e3 e4 e5 e6 e7 e8 e9 WU Xj T;have WR:=aJ D;clear D W9;subst hA WG;by_cases O:kh.n=I.n
   .have q1:((kh.n:Int) !=(I.n:Int))=ζ:=ae;have HE:=aJ O;clear O;(go_wp2_with fail);go_quiet (fail);go_wp2_with fail
    go_roundw
    case rel=>exact⟨k+1,aa,au,(fun j hj=>by
     by_cases e:j=k
     .rw[e,R.o,WR.o,T.o,HE.o]
     .exact HZ.o j aa),(HX.alloc _).drewN _⟩
    case measure=>simp[intOf];omega
   .have q1:((kh.n:Int) !=(I.n:Int))=ε:=ae;have HV:Hid (kF s p=3):=aJ (OH H3.o WS.o WI.o M (by rw[R.o,WR.o,T.o];exact O));clear O;(go_wp2_with fail);go_quiet (fail);(go_wp2_with fail);go_ret;exact⟨aM HV.symm,((Y.trans HX.o).alloc _).drewN _⟩
  .obtain rfl:n3=k:=aa;clear M;(go_wp2_with fail);clear k1 V;go_loopw [49] (fun i wr=>∃k:Nat,k<=n3/\i=.int .i64 (k:Int)/\(∀j,j<k->∀t,t<(p.links.getD j []).length->nS s j ((p.links.getD j []).getD t 0)=ε)/\Ext ((w.alloc (.cells #[.string nm,.slice A0 n0 c0,.slice A1 n1 c1,.slice A2 n2 c2,.slice A3 n3 c3] 27)).alloc (.cells #[.slice PA pn pc,.slice PB qn qc] 31)) wr) (fun i _=>n3-(intOf i).toNat)
   case atStart=>exact⟨0,aa,rfl,by intros;omega,HX.o⟩
   case round=>
    clear HX Xc WW;obtain⟨k,hk,rfl,hz,J⟩:=hrel;have XC:=aJ hz;have HX:=aJ J;have WH:=C.ext J;have Z:=U.ext J;have k1:=WH.cell;have V:=Z.cell;have Xc:w.heap.size<wr.heap.size:=WH.lt;have WW:w.heap.size+1<wr.heap.size:=Z.lt;clear hz J WH Z;by_cases M:k<n3
    .have hd:decide (k<n3)=ε:=ae;obtain⟨lb,lo,hA,hb,e0,e1,e2,e3,e4,e5,e6,e7,e8,e9,WU,Xj⟩:=(HS.ext HX.o).bays.bay M;have G:k<qn:=by have:=l.o;omega
     obtain⟨pb,WZ,WG,Xi,f0⟩:=(HP.ext HX.o).rows.one G;have R:Hid ((p.links.getD k []).length=(K k).n):=aJ (HP.lens k G);have WM:=aJ ((HP.ext HX.o).ints k G);have WF:=W.o k G;unfold Hd.v at f0;generalize K k=kh at f0 R WM WF;generalize L k=I at e6;generalize D:s.bays.getD k η=b at e0 e1 e2 e3 e4 e5 e6 e7 e8 e9 WU Xj;have WR:=aJ D;clear D;subst hA WG;obtain⟨-,WX⟩:=an1 wr 57 #[.string b.name,.int .i64 b.kind,.int .i64 b.obj,.int .i64 b.en,.int .i64 b.z.r,.int .i64 b.z.x,.slice I.A I.n I.c,.bool b.closed,.int .i64 b.ct,.int .i64 b.vt,.int .i64 b.sat,.int .i64 b.travel];have WT:=aJ WX;clear WX;have B:=aJ (WM.ext (Ext.new wr (.cells #[.string b.name,.int .i64 b.kind,.int .i64 b.obj,.int .i64 b.en,.int .i64 b.z.r,.int .i64 b.z.x,.slice I.A I.n I.c,.bool b.closed,.int .i64 b.ct,.int .i64 b.vt,.int .i64 b.sat,.int .i64 b.travel] 57)));have WO:=aJ (HX.alloc (.cells #[.string b.name,.int .i64 b.kind,.int .i64 b.obj,.int .i64 b.en,.int .i64 b.z.r,.int .i64 b.z.x,.slice I.A I.n I.c,.bool b.closed,.int .i64 b.ct,.int .i64 b.vt,.int .i64 b.sat,.int .i64 b.travel] 57));(go_wp2_with fail);clear k1 V e0 e1 e2 e3 e4 e5 e6 e7 e8 e9 WU Xj f0;generalize wr.alloc (.cells #[.string b.name,.int .i64 b.kind,.int .i64 b.obj,.int .i64 b.en,.int .i64 b.z.r,.int .i64 b.z.x,.slice I.A I.n I.c,.bool b.closed,.int .i64 b.ct,.int .i64 b.vt,.int .i64 b.sat,.int .i64 b.travel] 57)=w5 at WT B WO⊢;generalize wr.heap.size=g5 at WT Xc WW hb Xi⊢;have kb:=WT.cell;go_loop [60] (fun i=>∃t:Nat,t<=kh.n/\i=.int .i64 (t:Int)/\(∀u,u<t->nS s k ((p.links.getD k []).getD u 0)=ε)) (fun i=>kh.n-(intOf i).toNat)
     case atStart=>exact⟨0,aa,rfl,by intros;omega⟩
     case round=>
      obtain⟨t,ht,rfl,hz⟩:=hrel;have XB:=aJ hz;clear hz;by_cases Xz:t<kh.n
      .have WJ:decide (t<kh.n)=ε:=ae;obtain⟨Q,S,hI,F,g0⟩:=B.one Xz;rw[hI];generalize N:(p.links.getD k []).getD t 0=x at g0;have P:=aJ N;clear N;by_cases h1:x=1
       .have q1:((x:Int)==1)=ε:=by simp[h1]
        have HO:Hid (nS s k x=ε):=aJ (TA h1);clear h1;go_wp2;go_round
        case rel=>exact⟨t+1,aa,au,fun u hu=>by
         by_cases e:u=t
         .rw[e,P.o];exact HO.o
         .exact XB.o u aa⟩
        case measure=>simp[intOf];omega
       have q1:((x:Int)==1)=ζ:=by simp;exact h1
       by_cases h3:b.kind=3
       .have q2:((b.kind:Int) !=3)=ζ:=by simp[h3]
        have HV:Hid (kF s p=16):=aJ (H7 H3.o WS.o WI.o HZ.o M (by rw[R.o];exact Xz) (by rw[P.o];exact GG h1 (.inl (by rw[WR.o];exact h3))));clear h1 h3;go_wp2;go_ret;exact⟨aM HV.symm,Y.trans WO.o⟩
       have q2:((b.kind:Int) !=3)=ε:=by simp;exact h3
       by_cases h0:x=0
       .have q3:((x:Int)==0)=ε:=by simp[h0]
        have HO:Hid (nS s k x=ε):=aJ (KJ (by rw[WR.o];exact h3) (.inl h0));clear h0 h1 h3;go_wp2;go_round
        case rel=>exact⟨t+1,aa,au,fun u hu=>by
         by_cases e:u=t
         .rw[e,P.o];exact HO.o
         .exact XB.o u aa⟩
        case measure=>simp[intOf];omega
       have q3:((x:Int)==0)=ζ:=by simp;exact h0
       by_cases h2:x=2
       .have q4:((x:Int)==2)=ε:=by simp[h2]
        have HO:Hid (nS s k x=ε):=aJ (KJ (by rw[WR.o];exact h3) (.inr h2));clear h0 h1 h2 h3;go_wp2;go_round
        case rel=>exact⟨t+1,aa,au,fun u hu=>by
         by_cases e:u=t
         .rw[e,P.o];exact HO.o
         .exact XB.o u aa⟩
        case measure=>simp[intOf];omega
       have q4:((x:Int)==2)=ζ:=by simp;exact h2
       have HV:Hid (kF s p=16):=aJ (H7 H3.o WS.o WI.o HZ.o M (by rw[R.o];exact Xz) (by rw[P.o];exact GG h1 (.inr ⟨h0,h2⟩)));clear h0 h1 h2 h3;go_wp2;go_ret;exact⟨aM HV.symm,Y.trans WO.o⟩
      .obtain rfl:kh.n=t:=aa;clear Xz kb;go_wp2_with fail
       go_roundw
       case rel=>exact⟨k+1,aa,au,(fun j hj=>by
        by_cases e:j=k
        .subst e;intro u hu;exact XB.o u (by rw[<-R.o];exact hu)
        .exact XC.o j aa),WO.o⟩
       case measure=>simp[intOf];omega
    .obtain rfl:n3=k:=aa;have HV:Hid (kF s p=0):=aJ (Rf H3.o WS.o WI.o HZ.o XC.o);(go_wp2_with fail);go_ret;exact⟨aM HV.symm,Y.trans HX.o⟩
def rV{P:Program}{fn:Func}{R:Ending->World->Prop}{a:Act}{w:World}{t g:Nat}{T:TypeId}{cs:Array Value}{d:TypeDesc}(B:fn.results= #[.cell t T])(hd:a.defers=[])(hp:a.tmps[t]?.getD undef=.pointer (γ ⟨g,0,δ⟩))(hb:Blk w g T cs)(C:P.underlying T=γ d)(j:(match d with| .struct _| .array _ _=>ε|_=>ζ)=ε)(hi:(P.info? T).map (·.size)=γ cs.size)(l:R (.returned (.agg cs)) w):bodyPost P fn R .ret a w:=
 aag (v:=.agg cs) (by simp[results,B,hp,asAddr,abB w g T T cs (0,0) d hb C j hi]) hd l
def FD{P:Program}{fn:Func}{R:Ending->World->Prop}{a:Act}{w:World}{t u g:Nat}{T:TypeId}{cs:Array Value}{d:TypeDesc}(l:fn.results= #[.cell t T,.tmp u])(hd:a.defers=[])(hp:a.tmps[t]?.getD undef=.pointer (γ ⟨g,0,δ⟩))(hb:Blk w g T cs)(B:P.underlying T=γ d)(j:(match d with| .struct _| .array _ _=>ε|_=>ζ)=ε)(hi:(P.info? T).map (·.size)=γ cs.size)(C:R (.returned (.tuple #[.agg cs,a.tmps.getD u undef])) w):bodyPost P fn R .ret a w:=
 aag (v:=.tuple #[.agg cs,a.tmps.getD u undef]) (by simp[results,l,hp,asAddr,abB w g T T cs (0,0) d hb B j hi]) hd C
def BK:Elem prog 92 3 1 8:=ae2 acZ (z:=.int .i64 0) ah rfl aa
def CW:Elem prog 28 4 1 1:=ae2 ac0 (z:=.bool ζ) ah rfl aa
def CL:Elem prog 29 92 1 24:=ae2 underlying29 (z:=.slice δ 0 0) ah rfl aa
def Ip{α:Type}(f:α->Value)(l:List α)(d:α){i}(hi:i<l.length):(l.map f)[i]? =γ (f (l.getD i d)):=by
 rw[Nq,ο hi,ψ,ο hi];rfl
theorem Arr.reads{α:Type}{w A n}{f:α->Value}{l:List α}{d:α}(h:Arr w A n 1 (fun i=>[f (l.getD i d)]))(Z:l.length=n):Reads w w.heap.size 1 A n (l.map f):=by
 refine⟨by simp[Z],fun hn=> ?_⟩;obtain⟨b,o,e,hb,hc⟩:=h hn;refine⟨_,e,hb,fun j u B=> ?_⟩;have D:j<l.length:=by
  have:=(ν.1 B).1;simpa using this
 rw[Ip f l d D] at B;injection B with B;have:=hc j aa 0 u (by show γ (f (l.getD j d))=γ u;rw[B]);rw[aav,Bn] at this;rw[<-this];unfold Addr.add;by_cases C:j=0
 .subst C;simp
 .rw[θ C]
theorem ae9{α:Type}{w B e n}{f:α->Value}{l:List α}{v}(d:α)(h:w.ownsRow B e 1 v n (l.map f)):∃A c,v=.slice A n c/\n<=c/\l.length=n/\Arr w A n 1 (fun i=>[f (l.getD i d)]):=by
 have Z:l.length=n:=by have:=h.1;simpa using this
 obtain⟨A,c,e,hc,_,I⟩:=iY h;refine⟨A,c,e,hc,Z,fun hn=> ?_⟩;rcases h.2 with ⟨hv,j⟩|⟨g,G,cur,hv,hb,F,_⟩
 .omega
 .rw[e] at hv;injection hv with H _ _;subst H;refine⟨g,0,rfl,(abe.1 F).1,fun i hi t u D=> ?_⟩;cases t with
  |succ t=>simp at D
  |zero=>
   obtain⟨J,M,_,C⟩:=I.2 hn;injection M with M;subst M;have:=C i _ (Ip f l d aa);simp only[adg,aaG] at D;rw[<-D,aav,Bn,<-this];unfold Addr.add;by_cases j:i=0
   .subst j;simp
   .rw[θ j]
def fe{w base g e t size n v xs cs}(h:w.ownsRow base e size v n xs)(hb:Blk w g t cs)(l:t≠e):v.ownBlock≠γ g:=by
 intro hv;rcases h.2 with ⟨rfl,_⟩|⟨g',G,cur,rfl,_,j,_⟩
 .cases hv
 .simp only[Value.ownBlock,aaG] at hv;subst hv;rw[hb] at j;injection j with j;injection j with _ B;exact l B
def PT(l:List Int):∀u∈l.map (Value.int .i64),u.oneCell'=ε:=by
 exact Abm
def MG(l:List Bool):∀u∈l.map Value.bool,u.oneCell'=ε:=by
 exact Abm
def JF(A n c)(l:List Bool)(w:World)(h:Arr w A n 1 (fun i=>[.bool (l.getD i ζ)]))(Z:l.length=n)(hn:n<=1000000):
  CV 123 #[.slice A n c] w fun v w'=>w'.ownsRow w.heap.size 4 1 v n (l.map (Value.bool)):=by
 have C:=Arr.reads (f:=Value.bool) h Z;have Q:=aJ C;clear C;cases A with
 |none=>
  have j:n=0:=by
   exact AcV
  subst j;obtain rfl:l=[]:=I4 Z;clear h Z Q;have B:=aaX (P:=prog) (t:=28) (a:=δ) (n:=0) (c:=c) (n':=0) (c':=0) (h:=ac0);go_enter func123,ntmps123;go_wp2;all_goals
   exact Acc
 |some ad=>
  clear h;have G:=aJ Z;clear Z;have B:=aaX (P:=prog) (t:=28) (a:=γ ad) (n:=n) (c:=c) (n':=0) (c':=0) (h:=ac0);go_enter func123,ntmps123;(go_wp2_with (at_builtin;refine jb CW rfl (.tmp 5) (.tmp 6) rfl w.heap.size _ 0 [] rf (abg _ _ _ aa aa ag) _ n _ (l.map (Value.bool)) rf (Q.ext (Ext.new w _)) (MG l) aa aa ag ?_));exact AaS
def JK(A n c)(l:List Int)(w:World)(h:Arr w A n 1 (fun i=>[.int .i64 (l.getD i 0)]))(Z:l.length=n)(hn:n<=1000000):
  CV 124 #[.slice A n c] w fun v w'=>w'.ownsRow w.heap.size 3 1 v n (l.map (Value.int .i64)):=by
 have C:=Arr.reads (f:=Value.int .i64) h Z;have Q:=aJ C;clear C;cases A with
 |none=>
  have j:n=0:=by
   exact AcV
  subst j;obtain rfl:l=[]:=I4 Z;clear h Z Q;have B:=aaX (P:=prog) (t:=92) (a:=δ) (n:=0) (c:=c) (n':=0) (c':=0) (h:=acZ);go_enter func124,ntmps124;go_wp2;all_goals
   exact Acc
 |some ad=>
  clear h;have G:=aJ Z;clear Z;have B:=aaX (P:=prog) (t:=92) (a:=γ ad) (n:=n) (c:=c) (n':=0) (c':=0) (h:=acZ);go_enter func124,ntmps124;(go_wp2_with (at_builtin;refine jb BK rfl (.tmp 5) (.tmp 6) rfl w.heap.size _ 0 [] rf (abg _ _ _ aa aa ag) _ n _ (l.map (Value.int .i64)) rf (Q.ext (Ext.new w _)) (PT l) aa aa ag ?_));exact AaS
def mv (c x:Int):Int:=if x=2 then c else x
def uR(c p i):(resolve c p).links.getD i []=(p.links.getD i []).map (mv c):=by
 show(p.links.map (List.map (mv c))).getD i []=_;rw[ψ,ψ,Nq];cases p.links[i]? <;>rfl
def uZ (f:Int->Int) (l:List Int) (t:Nat):List Int:=(l.take t).map f++l.drop t
def QN(f l):uZ f l 0=l:=by simp[uZ]
def PX(f l t):(uZ f l t).length=l.length:=by simp[uZ];omega
def Ie{f l t}(h:l.length=t):uZ f l t=l.map f:=by subst h;simp[uZ]
theorem EH{f l t}(h:t<l.length):(uZ f l t)[t]? =γ (l.getD t 0):=by
 unfold uZ;rw[nV ae];simp only[aaI,A8];rw[aat aa,aaY,RS,Bn,ο h,ψ,ο h];rfl
theorem Bw{f l t}(h:t<l.length):(uZ f l t).set t (f (l.getD t 0))=uZ f l (t+1):=by
 unfold uZ;rw[abK _ _ ae];simp only[aaI,A8];rw[aat aa,aaY,j4 h];have e:l.drop t=l[t]::l.drop (t+1):=aaH h;rw[e,Ex,aaw,aab];rfl
def Di{f l t}(h:t<l.length)(hv:f (l.getD t 0)=l.getD t 0):uZ f l (t+1)=uZ f l t:=by
 rw[<-Bw h,hv];apply aar;intro j;by_cases e:j=t
 .subst e;rw[abF (by rw[PX];exact h),EH h]
 .rw[aao (fun h=>e h.symm)]
def KM{w base g n G e xs}(h:w.ownsRow base e 1 (.slice (γ ⟨g,0,δ⟩) n G) n xs)(j u):
  (w.setCell ⟨g,j,δ⟩ u).ownsRow base e 1 (.slice (γ ⟨g,0,δ⟩) n G) n (xs.set j u)/\Mod (fun k=>k=g) w (w.setCell ⟨g,j,δ⟩ u):=
 ⟨(h.stored j u).1,Mod.grown (h.stored j u).2 (fun k l=>by injection l with l;exact l.symm)⟩
def Ext.mod{S w0 w w'}(h:Ext w0 w)(m:Mod S w w')(hs:∀k,S k->w0.heap.size<=k):Ext w0 w':=
 ⟨m.os.trans h.os,m.tape.trans h.tape,m.output.trans h.output,lh h.size m.size,fun k j=>(m.block k (π j h.size) (fun e=>by have:=hs k e;omega)).trans (h.block k j)⟩
def EA{w:World}{base g n G e}{f:Int->Value}{l:List Int}(h:w.ownsRow base e 1 (.slice (γ ⟨g,0,δ⟩) n G) n (l.map f)){j x}(B:j<n)(J:l[j]? =γ x):
  w.cell? ⟨g,j,δ⟩=γ (f x)/\w.frozen? ⟨g,j,δ⟩=ζ:=by
 refine⟨?_,h.frozenAt j⟩;rw[h.cellAt j aa,Nq,J];rfl
def vK (w:World) (B k:Nat) (M:Nat->Hd) (f:Nat->List Int):Prop:=∀i,i<k->w.ownsRow B 3 1 (M i).v (M i).n ((f i).map (.int .i64))
def vK.ext{w w' B k M}{f:Nat->List Int}(h:vK w B k M f)(x:Ext w w'):vK w' B k M f:=fun i hi=>dX (h i hi) x
def xY (M:Nat->Hd) (k:Nat):List Value:=(List.range k).map fun i=>(M i).v
theorem Dn(M k):xY M (k+1)=xY M k++[(M k).v]:=by unfold xY;rw[abx,aaw];rfl
theorem Ap{M U k}(h:∀i,i<k->M i=U i):xY M k=xY U k:=by
 unfold xY;exact acE fun i hi=>by rw[h i (aaa.1 hi)]
theorem iW.made{w B C l v1 D M p}(L:w.ownsRow B 4 1 v1 C (p.closed.map Value.bool))(J:w.ownsRow B 92 1 D l (xY M l))(Z:p.links.length=l)(I:vK w B l M (fun i=>p.links.getD i []))(hp:C<=1000000)(hq:l<=1000000)(K:∀i,i<l->(M i).n<=1000000):∃PA G PB qc,v1=.slice PA C G/\D=.slice PB l qc/\iW w PA C PB l M p:=by
 obtain⟨PA,G,Q,_,H,R⟩:=ae9 ζ L;have j:w.ownsRow B 92 1 D l ((List.range l).map fun i=>(M i).v):=J;obtain⟨PB,qc,P,_,_,S⟩:=ae9 0 j;refine⟨PA,G,PB,qc,Q,P,H,R,Z,S.congr fun i hi=> ?_,fun i hi=> ?_,fun i hi=> ?_,aa,aa,fun i hi=>by have:=K i hi;omega⟩
 .rw[ψ,aaQ hi];rfl
 .obtain⟨_,_,_,_,F,_⟩:=ae9 0 (I i hi);exact F
 .obtain⟨A,c,e,_,_,N⟩:=ae9 0 (I i hi);unfold Hd.v at e;injection e with O _ _;rw[O];exact N
def vR (nm:ByteArray) (A0:Option Addr) (n0 c0:Nat) (A1:Option Addr) (n1 c1:Nat) (A2:Option Addr) (n2 c2:Nat) (A3:Option Addr) (n3 c3:Nat) (PA:Option Addr) (B C:Nat) (PB:Option Addr) (j qc:Nat) (l:Option Addr) (O T:Nat):Value:=.agg #[.string nm,.slice A0 n0 c0,.slice A1 n1 c1,.slice A2 n2 c2,.slice A3 n3 c3,.slice PA B C,.slice PB j qc,.slice l O T]
def BU (w:World) (j:Option Addr) (O:Nat) (g:List Int):Prop:=g.length=O/\Arr w j O 1 (fun i=>[.int .i64 (g.getD i 0)])
def BU.ext{w w' j O g}(h:BU w j O g)(x:Ext w w'):BU w' j O g:=⟨h.1,h.2.ext x⟩
def Ez (x:(Int×Int)×(Int×Int)):Value:=.agg #[.int .i64 x.1.1,.int .i64 x.1.2,.int .i64 x.2.1,.int .i64 x.2.2]
theorem O3{s p i t}(hn:(s.bays.getD i η).links.length<=2)(l:t<(s.bays.getD i η).links.length)(C:∀u,u<t->(p.links.getD i []).getD u 0≠1)(j:(p.links.getD i []).getD t 0=1):uQ s p i=CX s p (jc s i t):=by
 unfold uQ;by_cases B:t=0
 .subst B;rw[ι j]
 .obtain rfl:t=1:=aa;rw[θ (C 0 aa),ι ⟨l,j⟩]
theorem J6{s p i n}(hn:(s.bays.getD i η).links.length=n)(l:1<=n)(j:∀u,u<n->(p.links.getD i []).getD u 0≠1):uQ s p i=(0,0):=by
 unfold uQ;rw[θ (j 0 aa),θ (fun h=>j 1 aa h.2)]
theorem vI(nm){A0}{n0 c0:Nat}{A1}{n1 c1:Nat}{A2}{n2 c2:Nat}{A3}{n3 c3:Nat}{PA}{G L:Nat}{PB}{D qc:Nat}{K}{p:dB}(J)(O T:Nat)(i k:Nat)(l:Int)(H:l=(k:Int))(w)(hp:iW w PA G PB D K p)(hi:i<D)(R:k<(p.links.getD i []).length):
  CE 187 #[vR nm A0 n0 c0 A1 n1 c1 A2 n2 c2 A3 n3 c3 PA G L PB D qc J O T,.int .i64 (i:Int),.int .i64 l] w (.bool (decide ((p.links.getD i []).getD k 0=1))):=by
 subst H;have Y:Hid (Ext w (w.alloc (.cells #[.string nm,.slice A0 n0 c0,.slice A1 n1 c1,.slice A2 n2 c2,.slice A3 n3 c3,.slice PA G L,.slice PB D qc,.slice J O T] 215))):=aJ (Ext.new _ _);obtain⟨-,hb⟩:=an1 w 215 #[.string nm,.slice A0 n0 c0,.slice A1 n1 c1,.slice A2 n2 c2,.slice A3 n3 c3,.slice PA G L,.slice PB D qc,.slice J O T];have U:=hb.cell;clear hb;obtain⟨pb,B,I,P,f0⟩:=(hp.ext Y.o).rows.one hi;have V:k<(K i).n:=by rw[<-hp.lens i hi];exact R
 obtain⟨Q,S,j,F,N⟩:=((hp.ext Y.o).ints i hi).one V;have C:=hp.mx.2.1;have M:=hp.mx.2.2 i hi;unfold Hd.v at f0;clear hp;generalize K i=W at f0 N j V M;generalize (p.links.getD i []).getD k 0=x at N;rw[j] at f0;subst I;unfold vR;go_enter func187,ntmps187;go_wp2;go_ret;exact⟨rfl,Y.o⟩
theorem Nt(nm){A0 n0 c0 A1 n1 c1 A2 n2 c2 A3 n3 c3}(PA D G PB B qc){l O T g}(b w)(I:BU w l O g)(hb:b<O):
  CE 188 #[vR nm A0 n0 c0 A1 n1 c1 A2 n2 c2 A3 n3 c3 PA D G PB B qc l O T,.int .i64 (b:Int)] w (.agg #[.int .i64 1,.int .i64 (g.getD b 0)]):=by
 have Y:Hid (Ext w ((w.alloc (.cells #[.string nm,.slice A0 n0 c0,.slice A1 n1 c1,.slice A2 n2 c2,.slice A3 n3 c3,.slice PA D G,.slice PB B qc,.slice l O T] 215)).alloc (.cells #[.int .i64 0,.int .i64 0] 186))):=aJ ((Ext.new _ _).alloc _);obtain⟨-,F,-⟩:=an2 w 215 #[.string nm,.slice A0 n0 c0,.slice A1 n1 c1,.slice A2 n2 c2,.slice A3 n3 c3,.slice PA D G,.slice PB B qc,.slice l O T] 186 #[.int .i64 0,.int .i64 0];have L:=F.cell;clear F;obtain⟨M,j,H,J,f0⟩:=I.2.one hb;generalize N:g.getD b 0=x at f0;have P:=aJ N;clear N;have K:Hid (∀u v,Ext w ((((w.alloc (.cells #[.string nm,.slice A0 n0 c0,.slice A1 n1 c1,.slice A2 n2 c2,.slice A3 n3 c3,.slice PA D G,.slice PB B qc,.slice l O T] 215)).alloc (.cells #[.int .i64 0,.int .i64 0] 186)).setCell ⟨w.heap.size+1,0,δ⟩ u).setCell ⟨w.heap.size+1,1,δ⟩ v)):=aJ (fun u v=>gz (g:=w.heap.size+1) (show w.heap.size<=w.heap.size+1 by omega) 0 [u,v] Y.o);have C:Hid (∀u v,Blk ((((w.alloc (.cells #[.string nm,.slice A0 n0 c0,.slice A1 n1 c1,.slice A2 n2 c2,.slice A3 n3 c3,.slice PA D G,.slice PB B qc,.slice l O T] 215)).alloc (.cells #[.int .i64 0,.int .i64 0] 186)).setCell ⟨w.heap.size+1,0,δ⟩ u).setCell ⟨w.heap.size+1,1,δ⟩ v) (w.heap.size+1) 186 #[u,v]):=aJ (fun u v=>bY 0 [u,v] (aeS _ _ ag));subst H;clear I;unfold vR;go_enter func188,ntmps188;go_wp2;exact rV rfl rfl rfl (aeS _ _ ag) underlying186 rfl ah ⟨rfl,(Ext.new _ _).alloc _⟩
theorem F6(nm){A0 n0 c0 A1 n1 c1 A2 n2 c2 A3 n3 c3 L s PA pn pc PB qn qc K p GA O T}(i w)(hs:lQ w A0 n0 c0 A1 n1 c1 A2 n2 c2 A3 n3 c3 L s)(hp:iW w PA pn PB qn K p)(WR:kZ s)(Xf:∀i,i<s.bays.length->(p.links.getD i []).length=(s.bays.getD i η).links.length)(hg:BU w GA O (groups s p))(Q:O=s.buses.length)(hi:i<n3)(hq:i<qn)(hk:(s.bays.getD i η).kind=2):
  CE 155 #[vR nm A0 n0 c0 A1 n1 c1 A2 n2 c2 A3 n3 c3 PA pn pc PB qn qc GA O T,.int .i64 (i:Int)] w (Ez (sides s p i)):=by
 have WK:=hs.mx;obtain⟨m0,m1,m2,m3⟩:=WK;have WP:=hs.l3;have hL:=(hs.links i hi);have X6:=WR.link (show i<s.bays.length by omega);have N:=fun k hk=>WR.bus (i:=i) (k:=k) (show i<s.bays.length by omega) hk;have XE:O<=4:=by have:=WR.nb;omega
 obtain⟨lb,lo,hA,hb,e0,e1,e2,e3,e4,e5,e6,e7,e8,e9,WU,Xj⟩:=hs.bays.bay hi;subst hA;have d0:decide ((i:Int)<0)=ζ:=ag;have d1:decide ((n3:Int)<=(i:Int))=ζ:=ae;have HS:=aJ hs;have HP:=aJ hp;have HG:=aJ hg;have R:=aJ X6;have P:=aJ N;have Xc:=aJ hL;have WY:Hid ((s.bays.getD i η).links.length=(L i).n):=aJ hL.1;have Xa:=aJ (Xf i aa);have Xi:Hid (i<qn):=aJ hq;clear hs hp hg X6 N hL WR Xf Q WP hq;have Yo:Hid (sides s p i=(uQ s p i,(3,(s.bays.getD i η).obj))):=aJ (by unfold sides;rw[θ (by rw[hk];decide),hk];rfl);have Y:∀k,k<(s.bays.getD i η).links.length->jc s i k<O:=fun k WV=>by have:=(P.o k WV).2;have:=HG.o.1;rw[uP] at this;omega
 have WL:=aJ Y;clear Y;rw[hk] at e1;generalize XJ:L i=I at e6;have B:Hid (Lks w I.A I.n (s.bays.getD i η).links):=aJ (by rw[<-XJ];exact Xc.o);have WJ:Hid ((s.bays.getD i η).links.length=I.n):=aJ B.o.1;clear XJ WY Xc;have WG:=aJ hk;clear hk;have Yp:I.n<=2:=by have:=R.o.1.2;have:=WJ.o;omega
 have W:0<I.n:=by have:=R.o.1.1;have:=WJ.o;omega
 obtain⟨kb,ko,hI,XG,_⟩:=B.o.2.at_ W;obtain⟨lA,ln,lc⟩:=I;simp only at hI W Yp;subst hI;generalize D:s.bays.getD i η=b at e0 e1 e2 e3 e4 e5 e6 e7 e8 e9 WU Xj Yo;have W9:=aJ D;clear D;obtain⟨w4,b0,b1,-,-⟩:=an4 w 215 #[.string nm,.slice A0 n0 c0,.slice A1 n1 c1,.slice A2 n2 c2,.slice (γ ⟨lb,lo,δ⟩) n3 c3,.slice PA pn pc,.slice PB qn qc,.slice GA O T] 187 #[.int .i64 0,.int .i64 0,.int .i64 0,.int .i64 0] 57 #[.string b.name,.int .i64 2,.int .i64 b.obj,.int .i64 b.en,.int .i64 b.z.r,.int .i64 b.z.x,.slice (γ ⟨kb,ko,δ⟩) ln lc,.bool b.closed,.int .i64 b.ct,.int .i64 b.vt,.int .i64 b.sat,.int .i64 b.travel] 187 #[.int .i64 0,.int .i64 0,.int .i64 3,.int .i64 b.obj];have b2:Blk ((((w.alloc (.cells #[.string nm,.slice A0 n0 c0,.slice A1 n1 c1,.slice A2 n2 c2,.slice (γ ⟨lb,lo,δ⟩) n3 c3,.slice PA pn pc,.slice PB qn qc,.slice GA O T] 215)).alloc (.cells #[.int .i64 0,.int .i64 0,.int .i64 0,.int .i64 0] 187)).alloc (.cells #[.string b.name,.int .i64 2,.int .i64 b.obj,.int .i64 b.en,.int .i64 b.z.r,.int .i64 b.z.x,.slice (γ ⟨kb,ko,δ⟩) ln lc,.bool b.closed,.int .i64 b.ct,.int .i64 b.vt,.int .i64 b.sat,.int .i64 b.travel] 57)).alloc (.cells #[.int .i64 0,.int .i64 0,.int .i64 3,.int .i64 b.obj] 187)) (w.heap.size+1+1) 57 #[.string b.name,.int .i64 2,.int .i64 b.obj,.int .i64 b.en,.int .i64 b.z.r,.int .i64 b.z.x,.slice (γ ⟨kb,ko,δ⟩) ln lc,.bool b.closed,.int .i64 b.ct,.int .i64 b.vt,.int .i64 b.sat,.int .i64 b.travel]:=(aeS _ _ ag).alloc _;have b3:Blk ((((w.alloc (.cells #[.string nm,.slice A0 n0 c0,.slice A1 n1 c1,.slice A2 n2 c2,.slice (γ ⟨lb,lo,δ⟩) n3 c3,.slice PA pn pc,.slice PB qn qc,.slice GA O T] 215)).alloc (.cells #[.int .i64 0,.int .i64 0,.int .i64 0,.int .i64 0] 187)).alloc (.cells #[.string b.name,.int .i64 2,.int .i64 b.obj,.int .i64 b.en,.int .i64 b.z.r,.int .i64 b.z.x,.slice (γ ⟨kb,ko,δ⟩) ln lc,.bool b.closed,.int .i64 b.ct,.int .i64 b.vt,.int .i64 b.sat,.int .i64 b.travel] 57)).alloc (.cells #[.int .i64 0,.int .i64 0,.int .i64 3,.int .i64 b.obj] 187)) (w.heap.size+1+1+1) 187 #[.int .i64 0,.int .i64 0,.int .i64 3,.int .i64 b.obj]:=aeS _ _ ag;have HW:=aJ w4;have XF:=aJ b0;have C:=aJ b1;have U:=aJ b2;have WM:=aJ b3;clear w4 b0 b1 b2 b3;unfold vR;go_enter func155,ntmps155;(go_wp2_with fail);generalize ((((w.alloc (.cells #[.string nm,.slice A0 n0 c0,.slice A1 n1 c1,.slice A2 n2 c2,.slice (γ ⟨lb,lo,δ⟩) n3 c3,.slice PA pn pc,.slice PB qn qc,.slice GA O T] 215)).alloc (.cells #[.int .i64 0,.int .i64 0,.int .i64 0,.int .i64 0] 187)).alloc (.cells #[.string b.name,.int .i64 2,.int .i64 b.obj,.int .i64 b.en,.int .i64 b.z.r,.int .i64 b.z.x,.slice (γ ⟨kb,ko,δ⟩) ln lc,.bool b.closed,.int .i64 b.ct,.int .i64 b.vt,.int .i64 b.sat,.int .i64 b.travel] 57)).alloc (.cells #[.int .i64 0,.int .i64 0,.int .i64 3,.int .i64 b.obj] 187))=w5 at HW XF C U WM⊢;clear e0 e1 e2 e3 e4 e5 e6 e7 e8 e9 WU Xj;generalize Xd:w.heap.size+1+1+1=q3 at WM⊢;generalize Xe:w.heap.size+1+1=q2 at U⊢;generalize WZ:w.heap.size+1=q1 at C⊢;generalize Xb:w.heap.size=q0 at XF⊢;have l:Hid (w.heap.size<=q3/\q1<q3):=aJ aa;have WS:Hid (w.heap.size<=q1):=aJ aa;clear Xd Xe WZ Xb;have V:=U.cell;go_loopw [58] (fun j wr=>∃t:Nat,t<=ln/\j=.int .i64 (t:Int)/\(∀u,u<t->(p.links.getD i []).getD u 0≠1)/\Ext w5 wr) (fun j _=>ln-(intOf j).toNat)
 case atStart=>exact⟨0,aa,rfl,by intros;omega,Ext.refl _⟩
 case round=>
  obtain⟨t,ht,rfl,hz,J⟩:=hrel;have HZ:=aJ hz;have HX:=aJ J;clear hz J V;have k0:=(XF.ext HX.o).cell;have l0:=(XF.ext HX.o).lt;have l3:=(WM.ext HX.o).lt;have l1:=(C.ext HX.o).lt;have l2:=(U.ext HX.o).lt;by_cases WE:t<ln
  .have hd:decide (t<ln)=ε:=ae;obtain⟨Ye,Yd,WF,Xg,hc⟩:=(B.ext (HW.trans HX.o)).2.at_ WE;injection WF with WF;injection WF with XI G _;subst XI G;have g0:wr.cell? ⟨kb,ko+t*2,δ⟩=γ (.int .i64 ((s.bays.getD i η).links.getD t η).bus):=hc 0 _ rfl;have g1:wr.cell? ⟨kb,ko+t*2+1,δ⟩=γ (.int .i64 ((s.bays.getD i η).links.getD t η).pos):=hc 1 _ rfl;rw[(P.o t Abd).1] at g0;clear hc;have hu:=WL.o t Abd;have WI:Hid (t<(p.links.getD i []).length):=aJ (by have:=WJ.o;have:=Xa.o;omega);have H:Hid ((p.links.getD i []).getD t 0=1->uQ s p i=CX s p (jc s i t)):=aJ (O3 Abd Abd HZ.o);generalize jc s i t=u at g0 hu H;generalize ((s.bays.getD i η).links.getD t η).pos=ps at g1;have Z:Hid (Ext w5 (wr.alloc (.cells #[.int .i64 (u:Int),.int .i64 ps] 137))):=aJ (HX.alloc _);obtain⟨-,Xu⟩:=an1 wr 137 #[.int .i64 (u:Int),.int .i64 ps];have Xm:=aJ Xu;clear Xu;(go_wp2_with fail);refine(vI nm GA O T i t _ rfl _ (HP.ext (HW.trans Z.o)) Xi.o WI.o).mono ?_;rintro e w6 ⟨rfl,J⟩;have Xo:=aJ (Z.trans J);have kl:=(Xm.ext J).cell;have ll:=(Xm.ext J).lt;have WW:=(XF.ext Xo.o).cell;have WT:q0<w6.heap.size:=(XF.ext Xo.o).lt;have F:q3<w6.heap.size:=(WM.ext Xo.o).lt;clear J;by_cases M:(p.links.getD i []).getD t 0=1
   .have dx:decide ((p.links.getD i []).getD t 0=1)=ε:=Ξ M;rw[dx];have S:=aJ (H.o M);clear M dx;(go_wp2_with fail);refine(Nt nm PA pn pc PB qn qc u _ (HG.ext (HW.trans Xo.o)) hu).mono ?_;rintro e w7 ⟨rfl,J⟩;have XA:=aJ (Xo.trans J);clear J kl ll WW WT F;have b7:=WM.ext XA.o;have c7:=C.ext XA.o;have Xl:=b7.cell;have Xk:=b7.frozen;have Xq:=c7.cell;have X3:=c7.frozen;have Xp:q1<w7.heap.size:=c7.lt;have Xn:q3<w7.heap.size:=b7.lt;have b8:=bY 0 [.int .i64 1,.int .i64 ((groups s p).getD u 0)] b7;have c8:Blk (puts w7 q3 0 [.int .i64 1,.int .i64 ((groups s p).getD u 0)]) q1 187 #[.int .i64 0,.int .i64 0,.int .i64 0,.int .i64 0]:=((c7.far (by have:=l.o.2;show q1≠q3;omega) _).far (by have:=l.o.2;show q1≠q3;omega) _);have x8:Ext w (puts w7 q3 0 [.int .i64 1,.int .i64 ((groups s p).getD u 0)]):=gz (g:=q3) l.o.1 0 _ (HW.trans XA.o);have WN:=aJ b8;have WX:=aJ c8;have XD:=aJ x8;clear b7 c7 b8 c8 x8;have Xh:¬q1=q3:=by have:=l.o.2;omega
    have WQ:¬q3=q1:=by have:=l.o.2;omega
    (go_wp2_with fail);refine rV rfl rfl rfl (bY 0 [.int .i64 1,.int .i64 ((groups s p).getD u 0),.int .i64 3,.int .i64 b.obj] WX.o) acN rfl ah ⟨?_,gz (g:=q1) WS.o 0 [.int .i64 1,.int .i64 ((groups s p).getD u 0),.int .i64 3,.int .i64 b.obj] XD.o⟩;rw[Yo.o,S.o];rfl
   .have dx:decide ((p.links.getD i []).getD t 0=1)=ζ:=υ M;rw[dx];have WO:=aJ M;clear M dx;go_wp2_with fail
    go_roundw
    case rel=>exact⟨t+1,aa,au,fun v hv=>by
     by_cases e:v=t
     .rw[e];exact WO.o
     .exact HZ.o v aa,Xo.o⟩
    case measure=>simp[intOf];omega
  .obtain rfl:t=ln:=aa;clear WE ht;have WH:Hid (uQ s p i=(0,0)):=aJ (J6 WJ.o (by have:=R.o.1.1;have:=WJ.o;omega) HZ.o);have k3:=(WM.ext HX.o).cell;have k1:=(C.ext HX.o).cell;have f1:=(C.ext HX.o).frozen;(go_wp2_with fail);refine rV rfl rfl rfl (bY 0 [.int .i64 0,.int .i64 0,.int .i64 3,.int .i64 b.obj] (C.ext HX.o)) acN rfl ah ⟨?_,gz (g:=q1) WS.o 0 [.int .i64 0,.int .i64 0,.int .i64 3,.int .i64 b.obj] (HW.trans HX.o)⟩;rw[Yo.o,WH.o];rfl
theorem kZ.kind{s}(h:kZ s){i}(hi:i<s.bays.length):(s.bays.getD i η).kind=1\/(s.bays.getD i η).kind=2\/(s.bays.getD i η).kind=3:=by
 have j:=h.obj i hi;unfold ja at j;by_cases B:(s.bays.getD i η).kind=1
 .exact .inl B
 by_cases l:(s.bays.getD i η).kind=2
 .exact .inr (.inl l)
 by_cases C:(s.bays.getD i η).kind=3
 .exact .inr (.inr C)
 rw[θ B,θ l,θ C] at j;cases j
def Dj(s p k):jf s p (k+1)=qi s p k (jf s p k):=rfl
theorem xw{s p k}(h:(s.bays.getD k η).kind=3\/(s.bays.getD k η).links.length≠2\/(p.links.getD k []).getD 0 0≠1\/(p.links.getD k []).getD 1 0≠1):jf s p (k+1)=jf s p k:=by
 rw[Dj];unfold qi;rw[θ];unfold joins;intro e;simp only[τ,Λ] at e;rcases h with h|h|h|h
 .exact e.1.1.1 h
 .exact h e.1.1.2
 .exact h e.1.2
 .exact h e.2
theorem NB{s p k}(B:(s.bays.getD k η).kind≠3)(j:(s.bays.getD k η).links.length=2)(C:(p.links.getD k []).getD 0 0=1)(l:(p.links.getD k []).getD 1 0=1):
  jf s p (k+1)=merge ((jf s p k).getD (jc s k 0) 0) ((jf s p k).getD (jc s k 1) 0) (jf s p k):=by
 rw[Dj];unfold qi;rw[ι];unfold joins;simp only[τ,Λ];exact⟨⟨⟨B,j⟩,C⟩,l⟩
theorem DL{s p}(h:kF s p=0):p.closed.length=s.bays.length/\p.links.length=s.bays.length/\∀i,i<s.bays.length->(p.links.getD i []).length=(s.bays.getD i η).links.length:=by
 unfold kF at h;split at h
 .rename_i Z
  refine⟨Z.1,Z.2,?_⟩;split at h
  .rename_i ha
   intro i hi;exact abj (nH.1 ha i (aaa.2 hi))
  .cases h
 .cases h
def iota (k:Nat):List Int:=(List.range k).map (fun j:Nat=>(j:Int))
theorem Nc(k):(iota k).map (Value.int .i64)++[Value.int .i64 (k:Int)]=(iota (k+1)).map (Value.int .i64):=by
 unfold iota;rw[abx,aaw,aaw];rfl
def QR{l:List Int}{j}(h:j<l.length):l[j]? =γ (l.getD j 0):=by
 rw[ψ,ο h];rfl
theorem Hr{A0 n0 c0 A1 n1 c1 A2 n2 c2 A3 n3 c3 L s PA pn pc PB qn qc K p}(w)(hs:lQ w A0 n0 c0 A1 n1 c1 A2 n2 c2 A3 n3 c3 L s)(hp:iW w PA pn PB qn K p)(hc:chk s=0)(Xm:kF s p=0):
  Calls prog 154 #[stV s.name A0 n0 c0 A1 n1 c1 A2 n2 c2 A3 n3 c3,mO PA pn pc PB qn qc] w fun e w'=>∃GA T,e=.returned (.tuple #[vR s.name A0 n0 c0 A1 n1 c1 A2 n2 c2 A3 n3 c3 PA pn pc PB qn qc GA n0 T,.bool ε])/\BU w' GA n0 (groups s p)/\Ext w w':=by
 have Y:Hid (Ext w (((w.alloc (.cells #[.string s.name,.slice A0 n0 c0,.slice A1 n1 c1,.slice A2 n2 c2,.slice A3 n3 c3] 27)).alloc (.cells #[.slice PA pn pc,.slice PB qn qc] 31)).alloc (.cells #[.string ByteArray.empty,.slice δ 0 0,.slice δ 0 0,.slice δ 0 0,.slice δ 0 0,.slice δ 0 0,.slice δ 0 0,.slice δ 0 0] 215))):=aJ (((Ext.new _ _).trans (Ext.new _ _)).trans (Ext.new _ _));have HS:=aJ (hs.ext Y.o);have HP:=aJ (hp.ext Y.o);have HC:=aJ hc;have XC:=aJ Xm;have WW:=aJ (uS hc);obtain⟨m0,m1,m2,m3⟩:=hs.mx;have Z:=aJ hs.l3;have R:Hid (s.buses.length=n0):=aJ (by have:=hs.buses.1;simpa using this);have Yg:Hid (1<=n0/\n0<=4):=aJ (by have:=WW.nb;have:=R.o;omega);have M:=Yg.o.1;have Xa:=aJ (DL Xm);have HQ:Hid (qn=n3):=aJ (by have:=hp.ll;have:=Xa.o.2.1;have:=Z.o;omega);clear hs hp hc Xm;obtain⟨-,C,U,-⟩:=ah3 w 27 #[.string s.name,.slice A0 n0 c0,.slice A1 n1 c1,.slice A2 n2 c2,.slice A3 n3 c3] 31 #[.slice PA pn pc,.slice PB qn qc] 215 #[.string ByteArray.empty,.slice δ 0 0,.slice δ 0 0,.slice δ 0 0,.slice δ 0 0,.slice δ 0 0,.slice δ 0 0,.slice δ 0 0];have WM:Hid (Blk (((w.alloc (.cells #[.string s.name,.slice A0 n0 c0,.slice A1 n1 c1,.slice A2 n2 c2,.slice A3 n3 c3] 27)).alloc (.cells #[.slice PA pn pc,.slice PB qn qc] 31)).alloc (.cells #[.string ByteArray.empty,.slice δ 0 0,.slice δ 0 0,.slice δ 0 0,.slice δ 0 0,.slice δ 0 0,.slice δ 0 0,.slice δ 0 0] 215)) (w.heap.size+1+1) 215 #[.string ByteArray.empty,.slice δ 0 0,.slice δ 0 0,.slice δ 0 0,.slice δ 0 0,.slice δ 0 0,.slice δ 0 0,.slice δ 0 0]):=aJ (aeS _ _ ag);unfold stV mO;go_enter func154,ntmps154;(go_wp2_with fail);refine(tL _ HS.o).mono ?_;rintro e w1 ⟨rfl,J⟩;rw[HC.o];replace Y:=Y.aC J;replace HS:=HS.aA J;replace HP:=HP.aA J;replace C:=C.aA J;replace U:=U.aA J;replace WM:=WM.aA J;have h1:=C.lt;have h2:=U.lt;have k1:=C.cell;have V:=U.cell;clear J;(go_wp2_with fail);refine(yJ s.name _ HS.o HP.o).mono ?_;rintro e w2 ⟨rfl,J⟩;rw[XC.o];replace Y:=Y.aC J;replace HS:=HS.aA J;replace HP:=HP.aA J;replace C:=C.aA J;replace U:=U.aA J;replace WM:=WM.aA J;clear h1 h2 k1 V J;have h1:=C.lt;have h2:=U.lt;have k1:=C.cell;have V:=U.cell;obtain⟨-,WK⟩:=an1 w2 215 #[.string s.name,.slice A0 n0 c0,.slice A1 n1 c1,.slice A2 n2 c2,.slice A3 n3 c3,.slice PA pn pc,.slice PB qn qc,.slice δ 0 0];have Xg:=aJ WK;clear WK;have Xp:Hid (Ext w2 (w2.alloc (.cells #[.string s.name,.slice A0 n0 c0,.slice A1 n1 c1,.slice A2 n2 c2,.slice A3 n3 c3,.slice PA pn pc,.slice PB qn qc,.slice δ 0 0] 215))):=aJ (Ext.new _ _);(go_wp2_with fail);clear k1 V h1 h2;generalize Xe:w.heap.size+1+1=q2 at WM⊢;generalize WZ:w.heap.size+1=q1 at U⊢;generalize Xb:w.heap.size=q0 at C⊢;have WI:Hid (w.heap.size<=q2):=aJ aa;clear Xe WZ Xb;generalize XU:w2.alloc (.cells #[.string s.name,.slice A0 n0 c0,.slice A1 n1 c1,.slice A2 n2 c2,.slice A3 n3 c3,.slice PA pn pc,.slice PB qn qc,.slice δ 0 0] 215)=w6 at Xg Xp⊢;clear XU;generalize XL:w2.heap.size=g6 at Xg⊢;have XQ:=aJ XL;clear XL;go_loopw [32] (fun i wr=>∃(k:Nat) (v:Value),k<=n0/\i=.int .i64 (k:Int)/\Blk wr g6 215 #[.string s.name,.slice A0 n0 c0,.slice A1 n1 c1,.slice A2 n2 c2,.slice A3 n3 c3,.slice PA pn pc,.slice PB qn qc,v]/\wr.ownsRow (g6+1) 3 1 v k ((iota k).map (.int .i64))/\Ext w2 wr) (fun i _=>n0-(intOf i).toNat)
 case atStart=>exact⟨0,_,aa,rfl,Xg.o,I5 _ _ _ _,Xp.o⟩
 case round=>
  clear Xg Xp;obtain⟨k,v,hk,rfl,WK,F,J⟩:=hrel;obtain⟨Av,cv,rfl,_,_,_⟩:=iY F;have Xg:=aJ WK;have H:=aJ F;have HX:=aJ J;have k6:=WK.cell;have l6:=WK.lt;have k0:=(C.ext J).cell;have l0:=(C.ext J).lt;clear WK F J;by_cases WE:k<n0
  .have hd:decide (k<n0)=ε:=ae;(go_wp2_with (at_builtin;refine dI BK rfl (.tmp 36) (.tmp 38) rfl (g6+1) _ k _ rf (H.alloc _) wr.heap.size 1 1 [.int .i64 (k:Int)] rf (Blk.new _ _ _) rfl AbS aa aa aa ae ?_));intro S N w7 Xw Xk XW XM;rw[Nc] at Xw;have WY:=dY Xk (Xg.alloc (.cells #[.int .i64 (k:Int)] 3)) (iE H.o aa);have Xu:Mod (fun g=>g=g6\/(Value.slice Av k cv).ownBlock=γ g) wr (w7.setCell ⟨g6,7,δ⟩ (.slice (γ ⟨S,0,δ⟩) (k+1) N)):=((aeW (Ext.new _ _)).trans (Mod.grown Xk (fun g h=> .inr h))).trans (Mod.only (Only.set w7 g6 7 _) (.inl rfl));have k7:=WY.cell;have f7:=WY.frozen;have l7:=WY.lt;have WQ:Blk (w7.setCell ⟨g6,7,δ⟩ (.slice (γ ⟨S,0,δ⟩) (k+1) N)) g6 215 #[.string s.name,.slice A0 n0 c0,.slice A1 n1 c1,.slice A2 n2 c2,.slice A3 n3 c3,.slice PA pn pc,.slice PB qn qc,.slice (γ ⟨S,0,δ⟩) (k+1) N]:=by simpa using WY.nL 7 (.slice (γ ⟨S,0,δ⟩) (k+1) N)
   have XN:=qV Xw (Only.set w7 g6 7 (.slice (γ ⟨S,0,δ⟩) (k+1) N)) (iE Xw aa);have WN:=aJ WQ;have XZ:=aJ XN;have Xn:=aJ Xu;clear WY Xu WQ XN Xw Xk XW;go_wp2_with fail
   go_roundw
   case rel=>
    refine⟨k+1,_,aa,au,WN.o,XZ.o,HX.mod Xn.o (fun g hg=> ?_)⟩;have:=XQ.o;rcases hg with hg|hg
    .omega
    .have:=(H.lt g hg).1;omega
   case measure=>simp[intOf];omega
  .obtain rfl:n0=k:=aa;clear WE hk;(go_wp2_with fail);clear k6 l6 k0 l0;go_loopw [45] (fun i wr=>∃(j:Nat) (v:Value),j<=n3/\i=.int .i64 (j:Int)/\Blk wr g6 215 #[.string s.name,.slice A0 n0 c0,.slice A1 n1 c1,.slice A2 n2 c2,.slice A3 n3 c3,.slice PA pn pc,.slice PB qn qc,v]/\wr.ownsRow (g6+1) 3 1 v n0 ((jf s p j).map (.int .i64))/\Ext w2 wr) (fun i _=>n3-(intOf i).toNat)
   case atStart=>exact⟨0,_,aa,rfl,Xg.o,by rw[show jf s p 0=iota n0 from by rw[<-R.o];rfl];exact H.o,HX.o⟩
   case round=>
    clear Xg H HX;obtain⟨j,v,hj,rfl,WK,F,J⟩:=hrel;obtain⟨gr,WO,rfl,Yw,Yu⟩:=F.form aa;obtain⟨wv,Xy⟩:∃wv,wv=wr:=⟨_,rfl⟩;subst Xy;have Xg:=aJ WK;have H:=aJ F;have HX:=aJ J;have k6:=WK.cell;have l6:=WK.lt;have k0:=(C.ext J).cell;have l0:=(C.ext J).lt;clear WK F J;by_cases WE:j<n3
    .have hd:decide (j<n3)=ε:=ae;obtain⟨lb,lo,hA,hb,e0,e1,e2,e3,e4,e5,e6,e7,e8,e9,WU,Xj⟩:=(HS.ext HX.o).bays.bay WE;subst hA;generalize XJ:L j=I at e6;have Xc:Hid (Lks wv I.A I.n (s.bays.getD j η).links):=aJ (by rw[<-XJ];exact((HS.ext HX.o).links j WE));have WJ:Hid ((s.bays.getD j η).links.length=I.n):=aJ Xc.o.1;clear XJ;generalize D:s.bays.getD j η=b at e0 e1 e2 e3 e4 e5 e6 e7 e8 e9 WU Xj;have W9:=aJ D;clear D;have Xh:Hid (Ext w2 (wv.alloc (.cells #[.string b.name,.int .i64 b.kind,.int .i64 b.obj,.int .i64 b.en,.int .i64 b.z.r,.int .i64 b.z.x,.slice I.A I.n I.c,.bool b.closed,.int .i64 b.ct,.int .i64 b.vt,.int .i64 b.sat,.int .i64 b.travel] 57))):=aJ (HX.alloc _);have XF:=aJ (H.alloc (.cells #[.string b.name,.int .i64 b.kind,.int .i64 b.obj,.int .i64 b.en,.int .i64 b.z.r,.int .i64 b.z.x,.slice I.A I.n I.c,.bool b.closed,.int .i64 b.ct,.int .i64 b.vt,.int .i64 b.sat,.int .i64 b.travel] 57));have WG:=aJ (Xg.alloc (.cells #[.string b.name,.int .i64 b.kind,.int .i64 b.obj,.int .i64 b.en,.int .i64 b.z.r,.int .i64 b.z.x,.slice I.A I.n I.c,.bool b.closed,.int .i64 b.ct,.int .i64 b.vt,.int .i64 b.sat,.int .i64 b.travel] 57));obtain⟨-,WX⟩:=an1 wv 57 #[.string b.name,.int .i64 b.kind,.int .i64 b.obj,.int .i64 b.en,.int .i64 b.z.r,.int .i64 b.z.x,.slice I.A I.n I.c,.bool b.closed,.int .i64 b.ct,.int .i64 b.vt,.int .i64 b.sat,.int .i64 b.travel];have WT:=aJ WX;clear WX;by_cases h1:b.kind=3
     .have q1:((b.kind:Int)==3)=ε:=by simp[h1]
      have HJ:Hid (jf s p (j+1)=jf s p j):=aJ (xw (.inl (by rw[W9.o];exact h1)));clear h1;go_wp2_with fail
      exact AcH
     have q1:((b.kind:Int)==3)=ζ:=by simp[h1]
     have H1:=aJ h1;clear h1;by_cases h2:I.n=2
     rotate_left
     .have q2:((I.n:Int) !=2)=ε:=ae;have HJ:Hid (jf s p (j+1)=jf s p j):=aJ (xw (.inr (.inl (by rw[WJ.o];exact h2))));clear h2;go_wp2_with fail
      exact AcH
     obtain⟨kb,ko,hI,XG,WV⟩:=Xc.o.2.at_ (show 0<I.n by omega);obtain⟨Ye,Yd,WF,_,O⟩:=Xc.o.2.at_ (show 1<I.n by omega);rw[hI] at WF;injection WF with WF;injection WF with XI G _;subst XI G;have Xi:Hid (j<s.bays.length):=aJ Ac5;have f0:wv.cell? ⟨kb,ko,δ⟩=γ (.int .i64 (jc s j 0:Int)):=by
      have:=WV 0 _ rfl;rw[(WW.o.bus Xi.o Abd).1] at this;simpa using this
     have f1:wv.cell? ⟨kb,ko+2,δ⟩=γ (.int .i64 (jc s j 1:Int)):=by
      have:=O 0 _ rfl;rw[(WW.o.bus Xi.o Abd).1] at this;simpa using this
     have Xv:jc s j 0<n0:=by have:=(WW.bus Xi.o (show 0<_ by have:=WJ.o;omega)).2;have:=R.o;omega
     have Xt:jc s j 1<n0:=by have:=(WW.bus Xi.o (show 1<_ by have:=WJ.o;omega)).2;have:=R.o;omega
     have Yv:Hid ((p.links.getD j []).length=2):=aJ (by have:=Xa.o.2.2 j Xi.o;have:=WJ.o;omega);have X8:Hid (j<qn):=aJ (by have:=HQ.o;omega);have Q:Hid ((p.links.getD j []).getD 0 0=1->(p.links.getD j []).getD 1 0=1->jf s p (j+1)=merge ((jf s p j).getD (jc s j 0) 0) ((jf s p j).getD (jc s j 1) 0) (jf s p j)):=aJ (fun h3 h4=>NB (by rw[W9.o];exact H1.o) (by rw[WJ.o];exact h2) h3 h4);have XK:Hid ((jf s p j).length=n0):=aJ (by rw[jT];exact R.o);generalize jc s j 0=u0 at f0 Xv Q;generalize jc s j 1=u1 at f1 Xt Q;obtain⟨lA,ln,lc⟩:=I;simp only at hI h2;subst hI h2;clear WV O;have Yc:=(Ext.new wv (.cells #[.string b.name,.int .i64 b.kind,.int .i64 b.obj,.int .i64 b.en,.int .i64 b.z.r,.int .i64 b.z.x,.slice (γ ⟨kb,ko,δ⟩) 2 lc,.bool b.closed,.int .i64 b.ct,.int .i64 b.vt,.int .i64 b.sat,.int .i64 b.travel] 57)).cell_ f0;have X7:=(Ext.new wv (.cells #[.string b.name,.int .i64 b.kind,.int .i64 b.obj,.int .i64 b.en,.int .i64 b.z.r,.int .i64 b.z.x,.slice (γ ⟨kb,ko,δ⟩) 2 lc,.bool b.closed,.int .i64 b.ct,.int .i64 b.vt,.int .i64 b.sat,.int .i64 b.travel] 57)).cell_ f1;(go_wp2_with fail);refine(vI s.name (γ ⟨gr,0,δ⟩) n0 WO j 0 _ rfl _ (HP.ext Xh.o) X8.o (by rw[Yv.o];decide)).mono ?_;rintro e w6 ⟨rfl,J⟩;have Xo:=aJ (Xh.trans J);have XY:=aJ (dX XF.o J);have WH:=aJ (WG.ext J);have Xf:=aJ (WT.ext J);have X6:=J.cell_ Yc;have X5:=J.cell_ X7;clear J f0 f1 Yc X7 e0 e1 e2 e3 e4 e5 e6 e7 e8 e9 WU Xj;have Yp:=WH.cell;have Yj:=WH.lt;have Yh:=Xf.cell;have Ym:=Xf.lt;by_cases h3:(p.links.getD j []).getD 0 0=1
     rotate_left
     .have q3:decide ((p.links.getD j []).getD 0 0=1)=ζ:=υ h3;rw[q3];have HJ:Hid (jf s p (j+1)=jf s p j):=aJ (xw (.inr (.inr (.inl h3))));clear h3 q3;go_wp2_with fail
      go_roundw
      case rel=>exact⟨j+1,_,aa,au,WH.o,by rw[HJ.o];exact XY.o,Xo.o⟩
      case measure=>simp[intOf];omega
     have q3:decide ((p.links.getD j []).getD 0 0=1)=ε:=Ξ h3;rw[q3];replace Q:=aJ (Q.o h3);clear h3 q3;(go_wp2_with fail);refine(vI s.name (γ ⟨gr,0,δ⟩) n0 WO j 1 _ rfl _ (HP.ext Xo.o) X8.o (by rw[Yv.o];decide)).mono ?_;rintro e w7 ⟨rfl,J⟩;have XA:=aJ (Xo.trans J);have XH:=aJ (dX XY.o J);have B:=aJ (WH.ext J);have XP:=aJ (Xf.ext J);have Yb:=J.cell_ X6;have X3:=J.cell_ X5;clear J X6 X5 Yp Yj Yh Ym;have Yr:=B.cell;have Yi:=B.lt;have Yf:=XP.cell;have Yn:=XP.lt;by_cases h3:(p.links.getD j []).getD 1 0=1
     rotate_left
     .have q3:decide ((p.links.getD j []).getD 1 0=1)=ζ:=υ h3;rw[q3];have HJ:Hid (jf s p (j+1)=jf s p j):=aJ (xw (.inr (.inr (.inr h3))));clear h3 q3;go_wp2_with fail
      go_roundw
      case rel=>exact⟨j+1,_,aa,au,B.o,by rw[HJ.o];exact XH.o,XA.o⟩
      case measure=>simp[intOf];omega
     have q3:decide ((p.links.getD j []).getD 1 0=1)=ε:=Ξ h3;rw[q3];replace Q:=aJ (Q.o h3);clear h3 q3;have X4:=(EA XH.o Xv (QR (by have:=XK.o;omega))).1;have X9:=(EA XH.o Xt (QR (by have:=XK.o;omega))).1;have Yy:=(XH.lt gr rfl).2;have Yt:kb<w7.heap.size:=by
      have:=(HX.size);exact block_lt_of_cell Yb
     generalize (jf s p j).getD u0 0=x0 at X4 Q;generalize (jf s p j).getD u1 0=x1 at X9 Q;(go_wp2_with fail);go_quiet (fail);have Yq:=(B.drewN nq).cell;have Yk:=(B.drewN nq).lt;(go_wp2_with fail);clear X4 X9 Yb X3 Yr Yi Yf Yn Yq Yk;have XD:=aJ (XA.drewN nq);have WN:=aJ (B.drewN nq);have XV:Hid ((w7.drewN nq).ownsRow (g6+1) 3 1 (.slice (γ ⟨gr,0,δ⟩) n0 WO) n0 ((jf s p j).map (.int .i64))):=aJ (dX XH.o ((Ext.refl _).drewN nq));generalize w7.drewN nq=w8 at XD WN XV⊢;have Xd:Hid ((jf s p j).map (fun v=>if v=max x0 x1 then min x0 x1 else v)=merge x0 x1 (jf s p j)):=aJ (Nf _);rw[<-Xd.o] at Q;generalize max x0 x1=mx at Q Xd⊢;generalize min x0 x1=mn at Q Xd⊢;generalize jf s p j=l at XV XK Q Xd;clear Xh Xo XA WG WH B WT Xf XP XF XY XH Xd;go_loopw [98] (fun i wq=>∃t:Nat,t<=n0/\i=.int .i64 (t:Int)/\wq.ownsRow (g6+1) 3 1 (.slice (γ ⟨gr,0,δ⟩) n0 WO) n0 ((uZ (fun v=>if v=mx then mn else v) l t).map (.int .i64))/\Mod (fun g=>g=gr) w8 wq) (fun i _=>n0-(intOf i).toNat)
     case atStart=>exact⟨0,aa,rfl,by rw[QN];exact XV.o,Mod.refl _ _⟩
     case round=>
      obtain⟨t,ht,rfl,XO,Xr⟩:=hrel;have Xq:=aJ XO;have XB:=aJ Xr;have XR:=WN.mod Xr (fun h=>aa);have WR:=aJ XR;have kq:=XR.cell;have lq:=XR.lt;clear XO Xr XR;by_cases Xz:t<n0
      .have Yl:decide (t<n0)=ε:=ae;have WP:t<l.length:=by have:=XK.o;omega
       obtain⟨q1,q2⟩:=EA Xq.o Xz (EH WP);have Yx:=(Xq.lt gr rfl).2;have WL:=aJ (KM Xq.o t (.int .i64 mn));have Xx:=aJ (Bw (f:=fun v=>if v=mx then mn else v) WP);have Xl:=aJ (Di (f:=fun v=>if v=mx then mn else v) WP);generalize l.getD t 0=x at q1 Xx Xl;by_cases P:x=mx
       .have dx:((x:Int)==mx)=ε:=ae;have W:=aJ P;clear P;go_wp2_with fail
        go_roundw
        case rel=>
         refine⟨t+1,aa,au,?_,?_⟩
         .have h1:=WL.o.1;rw[<-ad1 (f:=Value.int .i64) (a:=mn)] at h1;have h2:=Xx.o;simp only[ι W.o] at h2;rw[<-h2];exact h1
         .exact XB.trans WL.o.2
        case measure=>simp[intOf];omega
       .have dx:((x:Int)==mx)=ζ:=ae;have W:=aJ P;clear P;go_wp2_with fail
        go_roundw
        case rel=>exact⟨t+1,aa,au,by rw[Xl.o (θ W.o)];exact Xq.o,XB.o⟩
        case measure=>simp[intOf];omega
      .obtain rfl:n0=t:=aa;clear Xz ht;have Ya:=aJ (Ie (f:=fun v=>if v=mx then mn else v) XK.o);go_wp2_with fail
       go_roundw
       case rel=>exact⟨j+1,_,aa,au,WR.o,by rw[Q.o,<-Ya.o];exact Xq.o,XD.mod XB.o (fun g hg=>by have:=XQ.o;omega)⟩
       case measure=>simp[intOf];omega
    .obtain rfl:n3=j:=aa;clear WE hj;have WS:=WM.ext HX.o;have kr:=WS.cell;have fr:=WS.frozen;have lr:=WS.lt;(go_wp2_with fail);have XX:Hid (groups s p=jf s p n3):=aJ (by unfold groups;rw[Z.o]);have r1:=qV H.o (fM wv q2 0 [.string s.name,.slice A0 n0 c0,.slice A1 n1 c1,.slice A2 n2 c2,.slice A3 n3 c3,.slice PA pn pc,.slice PB qn qc,.slice (γ ⟨gr,0,δ⟩) n0 WO]) (fe H.o WS aj);obtain⟨GA,T,eg,_,XE,XT⟩:=ae9 0 r1;injection eg with Yo _ _;subst Yo;refine FD rfl rfl rfl (bY 0 [.string s.name,.slice A0 n0 c0,.slice A1 n1 c1,.slice A2 n2 c2,.slice A3 n3 c3,.slice PA pn pc,.slice PB qn qc,.slice (γ ⟨gr,0,δ⟩) n0 WO] WS) underlying215 rfl ah ⟨_,WO,rfl,?_,gz (g:=q2) WI.o 0 [.string s.name,.slice A0 n0 c0,.slice A1 n1 c1,.slice A2 n2 c2,.slice A3 n3 c3,.slice PA pn pc,.slice PB qn qc,.slice (γ ⟨gr,0,δ⟩) n0 WO] (Y.trans HX.o)⟩;rw[XX.o];exact⟨XE,XT⟩
theorem Fb{A0 n0 c0 A1 n1 c1 A2 n2 c2 A3 n3 c3 L s PA C F PB B qc K p}(w)(hs:lQ w A0 n0 c0 A1 n1 c1 A2 n2 c2 A3 n3 c3 L s)(hp:iW w PA C PB B K p)(hc:chk s=0)(j:kF s p=0):
  Calls prog 121 #[stV s.name A0 n0 c0 A1 n1 c1 A2 n2 c2 A3 n3 c3,mO PA C F PB B qc] w fun e w'=>∃l T,e=.returned (.slice l n0 T)/\BU w' l n0 (groups s p)/\Ext w w':=by
 have Y:Hid (Ext w ((w.alloc (.cells #[.string s.name,.slice A0 n0 c0,.slice A1 n1 c1,.slice A2 n2 c2,.slice A3 n3 c3] 27)).alloc (.cells #[.slice PA C F,.slice PB B qc] 31))):=aJ ((Ext.new _ _).trans (Ext.new _ _));have O:=aJ (hs.ext Y.o);have P:=aJ (hp.ext Y.o);have N:=aJ hc;have D:=aJ j;clear hs hp hc j;unfold stV mO;go_enter func121,ntmps121;(go_wp2_with fail);refine(Hr _ O.o P.o N.o D.o).mono ?_;rintro e w1 ⟨l,T,rfl,H,J⟩;have G:=aJ (Y.trans J);have I:Hid (Ext w1 (w1.alloc (.cells #[.string s.name,.slice A0 n0 c0,.slice A1 n1 c1,.slice A2 n2 c2,.slice A3 n3 c3,.slice PA C F,.slice PB B qc,.slice l n0 T] 215))):=aJ (Ext.new _ _);have M:=aJ (H.ext I.o);clear H;clear J;unfold vR;(go_wp2_with fail);go_ret;exact⟨l,T,rfl,M.o,G.trans I.o⟩
def sF:List Value:=[.string ByteArray.empty,.int .i64 0,.int .i64 0,.int .i64 0,.int .i64 0,.int .i64 0,.slice δ 0 0,.bool ζ,.int .i64 0,.int .i64 0,.int .i64 0,.int .i64 0]
def AC:(prog.info? 57).map (·.zero)=γ (γ (.agg sF.toArray)):=ah
def qZ:(prog.info? 57).map (·.size)=γ (12:Nat):=ah
theorem Eu(b h):∀v∈kz b h,v.oneCell'=ε:=by
 intro v hv;unfold kz at hv;simp only[pq,Z5,aa2] at hv;rcases hv with rfl|rfl|rfl|rfl|rfl|rfl|rfl|rfl|rfl|rfl|rfl|rfl<;>rfl
def Q8{w g b h}(hb:Blk w g 57 sF.toArray):Blk (puts w g 0 (kz b h)) g 57 (kz b h).toArray:=by
 have j:Blk (puts w g 0 (kz b h)) g 57 (fF sF.toArray 0 (kz b h)):=bY 0 (kz b h) hb;rw[iy sF (kz b h) rfl] at j;exact j
def Eo{w wd j b h}(hd:wd=w.alloc (.cells sF.toArray 57))(O:j=puts wd w.heap.size 0 (kz b h)):Blk j w.heap.size 57 (kz b h).toArray/\Ext w j:=by
 have l:Blk wd w.heap.size 57 sF.toArray:=by rw[hd];exact Blk.new _ _ _
 have M:Ext w wd:=by rw[hd];exact Ext.new _ _
 exact⟨by rw[O];exact Q8 l,by rw[O];exact gz (κ _:Own w w.heap.size) 0 _ M⟩
def ku:BrV:=⟨0,0,zEn,zEn,zEn⟩
def brc (n:Nat) (B:Nat->BrV):List Value:=(List.range n).flatMap fun j=>(B j).cs
theorem mR(n B):brc (n+1) B=brc n B++(B n).cs:=by
 unfold brc;exact Aby
def lu(b:BrV):b.cs.length=20:=rfl
def kG:∀(n:Nat) (B:Nat->BrV),(brc n B).length=n*20
 |0,_=>rfl
 |n+1,B=>by rw[mR,y9,kG n B,lu];omega
def xN:∀{n:Nat} {B D:Nat->BrV},(∀i,i<n->B i=D i)->brc n B=brc n D
 |0,_,_,_=>rfl
 |n+1,B,D,h=>by rw[mR,mR,xN (fun i hi=>h i aa),h n aa]
def uY{B j t}(l:t<20):∀{n:Nat},j<n->(brc n B)[j*20+t]? =(B j).cs[t]?
 |0,h=>absurd h aa
 |n+1,h=>by
  rw[mR];by_cases e:j=n
  .subst e;rw[nV (by rw[kG];omega),kG,show j*20+t-j*20=t by omega]
  .rw[kC (by rw[kG];omega)];exact uY l aa
def yX(a B):∀b,brc a B++brc b (fun _=>ku)=brc (a+b) (fun i=>if i<a then B i else ku)
 |0=>by
  show brc a B++[]=_;rw[aaj];exact xN fun i hi=>by rw[ι hi]
 |b+1=>by
  rw[mR,<-aab,yX a B b,show a+(b+1)=(a+b)+1 by omega,mR,θ aa]
def Tz{B k n}(r)(F:k<n):(brc n B).take (k*20)++r.cs++(brc n B).drop (k*20+20)=brc n (upd B k r):=by
 apply aar;intro p;have l1:((brc n B).take (k*20)).length=k*20:=by rw[A8,kG];omega
 by_cases hp:p<n*20
 .obtain⟨j,t,rfl,l⟩:∃j t,p=j*20+t/\t<20:=⟨p/20,p%20,aa,aa⟩;have C:j<n:=aa;rw[uY l C];by_cases G:j<k
  .rw[aab,kC (by rw[l1];omega),BB aa,uY l C,upd_ne aa]
  .by_cases D:j=k
   .subst D;rw[aab,nV (by rw[l1];omega),l1,show j*20+t-j*20=t by omega,kC (by rw[lu];exact l),upd_same]
   .rw[nV (by rw[y9,l1,lu];omega),y9,l1,lu,RS,show k*20+20+(j*20+t-(k*20+20))=j*20+t by omega,uY l C,upd_ne D]
 .rw[wo (by simp only[y9,l1,lu,abM,kG];omega),wo (by rw[kG];omega)]
theorem Oh(b:BrV):∀(t:Nat) (v:Value),b.cs[t]? =γ v->mU v=ε:=by
 intro t v hv;have B:t<20:=by have:=(ν.1 hv).1;rwa[lu] at this
 have j:∀u∈b.cs,mU u=ε:=by
  intro u l;unfold BrV.cs at l;simp only[pq,Z5,aa2] at l;rcases l with rfl|rfl|rfl|rfl|rfl|rfl|rfl|rfl|rfl|rfl|rfl|rfl|rfl|rfl|rfl|rfl|rfl|rfl|rfl|rfl<;>rfl
 exact j v (y7 hv)
def Oe{n:Nat}{B}(p:Nat)(v)(h:(brc n B)[p]? =γ v):mU v=ε:=by
 have hp:p<n*20:=by have:=(ν.1 h).1;rwa[kG] at this
 obtain⟨j,t,rfl,l⟩:∃j t,p=j*20+t/\t<20:=⟨p/20,p%20,aa,aa⟩;rw[uY l aa] at h;exact Oh _ t v h
def Si:(prog.info? 167).map (fun i=>(i.zero,i.size,i.bytes))=γ (γ (.agg ku.cs.toArray),20,304):=ah
def nJ (n:Nat) (l:List Value):List Value:=(List.range n).flatMap fun _=>l
theorem pY(n l):nJ (n+1) l=nJ n l++l:=by
 unfold nJ;exact Aby
def oW(l):∀n,(nJ n l).length=n*l.length
 |0=>by simp[nJ]
 |n+1=>by rw[pY,y9,oW l n,Nat.succ_mul]
def CP{l j t}(C:t<l.length):∀{n:Nat},j<n->(nJ n l)[j*l.length+t]? =l[t]?
 |0,h=>absurd h aa
 |n+1,h=>by
  rw[pY];by_cases e:j=n
  .subst e;rw[nV (by rw[oW];omega),oW,show j*l.length+t-j*l.length=t by omega]
  .have B:j<n:=aa;have D:j*l.length+l.length<=n*l.length:=by rw[<-Nat.succ_mul];exact q9 _ B
   rw[kC (by rw[oW];omega)];exact CP C B
theorem qj(l)(D:0<l.length)(n):madeCells l.toArray (n*l.length)=(nJ n l).toArray:=by
 unfold madeCells;apply Array.ext';apply aar;intro p;by_cases hp:p<n*l.length
 .have B:p%l.length<l.length:=q8 _ D;have hd:p/l.length<n:=(aaV D).2 hp;have e:p=p/l.length*l.length+p%l.length:=(Nat.div_add_mod' p l.length).symm;have C:=CP (l:=l) (j:=p/l.length) (t:=p%l.length) B hd;rw[<-e] at C;rw[C];simp[Nq,hp,aaQ,B]
 .rw[wo ae,wo (by simp[oW];omega)]
def Kg(n):nJ n ku.cs=brc n fun _=>ku:=rfl
def Gh(n):Builtin.zeroCells (Value.agg ku.cs.toArray).cells n=(brc n fun _=>ku).toArray:=by
 rw[<-Kg,<-qj _ aj];rfl
def nN (w:World) (B0:Nat) (v:Value) (k:Nat) (B:Nat->BrV):Prop:=
 (v=.slice δ 0 0/\k=0)\/∃(g G:Nat) (B':Nat->BrV),v=.slice (γ ⟨g,0,δ⟩) k G/\B0<=g/\k<=G/\Blk w g 167 (brc G B').toArray/\∀i,i<k->B' i=B i
def nN.ext{w w' B0 v k B}(h:nN w B0 v k B)(e:Ext w w'):nN w' B0 v k B:=by
 rcases h with h|⟨g,G,B',C,j,F,l,D⟩
 .exact .inl h
 .exact .inr ⟨g,G,B',C,j,F,l.ext e,D⟩
def nN.mod{S w w' B0 v k B}(h:nN w B0 v k B)(m:Mod S w w')(hs:∀g,v.ownBlock=γ g->¬S g):nN w' B0 v k B:=by
 rcases h with h|⟨g,G,B',j,l,F,C,D⟩
 .exact .inl h
 .exact .inr ⟨g,G,B',j,l,F,C.mod m (hs g (by rw[j];rfl)),D⟩
def nN.far{w B0 v k B}(h:nN w B0 v k B):gK (fun g=>v.ownBlock=γ g) w:=fun g l _=>by
 rcases h with ⟨rfl,_⟩|⟨g',G,B',rfl,D,H,C,F⟩
 .cases l
 .have:g'=g:=by simpa[Value.ownBlock] using l
  subst this;exact⟨_,_,C,fun j v hv=>Oe j v (by rwa[Ω] at hv)⟩
def nN.low{w B0 v k B}(h:nN w B0 v k B){g}(j:v.ownBlock=γ g):B0<=g/\g<w.heap.size:=by
 rcases h with ⟨rfl,_⟩|⟨g',G,B',rfl,l,F,C,D⟩
 .cases j
 .have:g'=g:=by simpa[Value.ownBlock] using j
  subst this;exact⟨l,C.lt⟩
def nN.arr{w B0 v k B}(h:nN w B0 v k B):∃A c,v=.slice A k c/\Arr w A k 20 (fun i=>(B i).cs)/\∀b o,A=γ ⟨b,o,δ⟩->B0<=b:=by
 rcases h with ⟨rfl,rfl⟩|⟨g,G,B',rfl,F,I,j,D⟩
 .exact⟨δ,0,rfl,fun h=>absurd h aa,fun b o e=>by cases e⟩
 .refine⟨γ ⟨g,0,δ⟩,G,rfl,fun H=>⟨g,0,rfl,j.lt,fun i hi t u l=> ?_⟩,fun b o e=>by injection e with e;injection e with J;omega⟩;have C:t<20:=by have:=(ν.1 l).1;rwa[lu] at this
  rw[j.cell,Ω,aaA,uY C aa,D i hi];exact l
def Jh{w B0 k v B}(h:nN w B0 v k B)(hk:k<=1000)(Y:B0<=w.heap.size){r Q}(hb:Blk w Q 167 r.cs.toArray)(c F):
  ∃K w',(Builtin.append_ #[96,96] F #[v,.slice (γ ⟨Q,0,δ⟩) 1 c]).run prog w=.ok K w'/\nN w' B0 K (k+1) (upd B k r)/\Mod (fun g=>v.ownBlock=γ g) w w'/\(∀g,K.ownBlock=γ g->v.ownBlock=γ g\/g=w.heap.size):=by
 obtain⟨i0,O,R,J,S⟩:=abP Si;have hn:∀j u,r.cs[j]? =γ u->w.cell? ((⟨Q,0,δ⟩:Addr).add j)=γ u:=fun j u U=>by
  have:=acC hb j u;simpa using this (by simpa using U)
 have Z:∀u∈r.cs,u.oneCell'=ε:=Jw r;have C:brc 1 (fun _=>r)=r.cs:=by rw[mR];rfl
 rcases h with ⟨rfl,rfl⟩|⟨g,G,B',rfl,T,I,N,W⟩
 .have L:=run_append_nil (P:=prog) w 96 F 167 i0 (.agg ku.cs.toArray) ac1 O R ⟨Q,0,δ⟩ 1 c r.cs (by rw[J];rfl) hn aa aa (by rw[S];omega);have l:=grownCap_ge w 1 0 167;have ec:(r.cs.toArray++Builtin.zeroCells (Value.agg ku.cs.toArray).cells (grownCap w 1 0 167-1))=(brc (grownCap w 1 0 167) (fun i=>if i<1 then r else ku)).toArray:=by
   rw[Gh];have:=yX 1 (fun _=>r) (grownCap w 1 0 167-1);rw[show 1+(grownCap w 1 0 167-1)=grownCap w 1 0 167 by omega] at this;rw[<-this,C];simp
  rw[ec] at L;refine⟨_,_,L,.inr ⟨w.heap.size,_,(fun i=>if i<1 then r else ku),rfl,Y,l,?_,fun i hi=> ?_⟩,aeW ((Ext.refl w).drew.alloc _),fun g T=>Or.inr (by simpa[Value.ownBlock] using T.symm)⟩
  .have:=Blk.new w.drew 167 (brc (grownCap w 1 0 167) (fun i=>if i<1 then r else ku)).toArray;exact this
  .obtain rfl:i=0:=aa;show r=upd B 0 r 0;rw[upd_same]
 .have V:(brc G B').toArray.size=G*20:=by simp[kG]
  by_cases H:k+1<=G
  .have L:=run_append_room (P:=prog) w 96 F 167 i0 ac1 O g k G _ N ⟨Q,0,δ⟩ 1 c r.cs (by rw[J];rfl) hn Z H (by rw[J,V,lu];omega);have ec:((brc G B').toArray.toList.take (k*i0.size)++r.cs++(brc G B').toArray.toList.drop (k*i0.size+r.cs.length)).toArray=(brc G (upd B' k r)).toArray:=by
    rw[J,lu];exact congrArg List.toArray (Tz r aa)
   rw[ec] at L;refine⟨_,_,L,.inr ⟨g,G,(upd B' k r),rfl,T,H,JI N,fun i hi=> ?_⟩,(afY w g _).mono fun j hj=>by subst hj;rfl,fun g' M=>Or.inl M⟩;by_cases e:i=k
   .subst e;rw[upd_same,upd_same]
   .rw[upd_ne e,upd_ne e];exact W i aa
  .obtain rfl:G=k:=aa;have ho:∀j u,(brc G B')[j]? =γ u->w.cell? ((⟨g,0,δ⟩:Addr).add j)=γ u:=fun j u U=>acC N j u (by simpa using U);have L:=run_append_grow (P:=prog) w 96 F 167 i0 (.agg ku.cs.toArray) ac1 O R ⟨g,0,δ⟩ G G (brc G B') (by rw[J,kG]) ho ⟨Q,0,δ⟩ 1 c r.cs (by rw[J];rfl) hn aa aa (by
    have:=nextslicecap_le (need:=G+1) (old:=G) aa;rw[S];omega)
   have l:=grownCap_ge w (G+1) G 167;have ec:((brc G B').toArray++r.cs.toArray++Builtin.zeroCells (Value.agg ku.cs.toArray).cells (grownCap w (G+1) G 167-(G+1)))=(brc (grownCap w (G+1) G 167) (fun i=>if i<G+1 then upd B' G r i else ku)).toArray:=by
    rw[Gh];have:=yX (G+1) (upd B' G r) (grownCap w (G+1) G 167-(G+1));rw[show G+1+(grownCap w (G+1) G 167-(G+1))=grownCap w (G+1) G 167 by omega] at this;rw[<-this,mR,upd_same,xN (B:=upd B' G r) (D:=B') (fun i hi=>upd_ne aa)];simp
   rw[ec] at L;refine⟨_,_,L,.inr ⟨w.heap.size,_,(fun i=>if i<G+1 then upd B' G r i else ku),rfl,Y,l,?_,fun i hi=> ?_⟩,aeW ((Ext.refl w).drew.alloc _),fun g' M=>Or.inr (by simpa[Value.ownBlock] using M.symm)⟩
   .have:=Blk.new w.drew 167 (brc (grownCap w (G+1) G 167) (fun i=>if i<G+1 then upd B' G r i else ku)).toArray;exact this
   .show(if i<G+1 then upd B' G r i else ku)=upd B G r i;rw[ι hi];by_cases e:i=G
    .subst e;rw[upd_same,upd_same]
    .rw[upd_ne e,upd_ne e];exact W i aa
def shf (kind:Int):Nat:=if kind=2\/kind=6\/kind=9 then 1 else if kind=3\/kind=4\/kind=7 then 2 else 0
theorem Ur(kind):shf kind<3:=by
 unfold shf;split
 .omega
 .split<;>omega
structure Gr0 (w0 w:World) (gx gf:Nat) (C:Nat->Value) (nb:Nat) (Bv:Nat->BrV) (brs:List BrD):Prop where
 g:fu w gx 105 393 (eO C fun _=>zEn)
 c:bS w gf
 m:Mod (fun k=>k=gx) w0 w
 own:nN w w0.heap.size (C 0) nb Bv
 len:brs.length=nb
 br:∀i,i<nb->vW w (Bv i) (brs.getD i η)
 n32:∀i,i<33->mU (C i)=ε
 lx:gx<w0.heap.size
 lf:gf<w0.heap.size
section
variable {w0 w w' w2:World} {gx gf nb:Nat} {C:Nat->Value} {Bv:Nat->BrV} {brs:List BrD}
def Gr0.ne(h:Gr0 w0 w gx gf C nb Bv brs):gf≠gx:=Blk.fQ h.c h.g aj
def Gr0.far(h:Gr0 w0 w gx gf C nb Bv brs):gK (fun k=>k=gx) w:=afd h.g (fun k _=>oM h.n32 k) (fun k j=>j)
def Gr0.ext(h:Gr0 w0 w gx gf C nb Bv brs)(x:Ext w w'):Gr0 w0 w' gx gf C nb Bv brs:=⟨h.g.ext x,h.c.ext x,h.m.trans (aeW x),h.own.ext x,h.len,fun i hi=>(h.br i hi).ext x,h.n32,h.lx,h.lf⟩
def Gr0.mod{S}(h:Gr0 w0 w gx gf C nb Bv brs)(m:Mod S w w')(hs:∀k,S k->w0.heap.size<=k)(l:gK S w)(B:∀g,(C 0).ownBlock=γ g->¬S g):Gr0 w0 w' gx gf C nb Bv brs:=by
 have lx:=h.lx;have lf:=h.lf;refine⟨h.g.mod m (fun e=>by have:=hs _ e;omega),Blk.mod h.c m (fun e=>by have:=hs _ e;omega),?_,h.own.mod m B,h.len,fun i hi=>(h.br i hi).fT m l,h.n32,h.lx,h.lf⟩;exact⟨m.os.trans h.m.os,m.tape.trans h.m.tape,m.output.trans h.m.output,lh h.m.size m.size,fun k j hn=>(m.block k (π j h.m.size) (fun e=>by have:=hs _ e;omega)).trans (h.m.block k j hn)⟩
theorem DV{C E i}(v)(hi:i<33)(k):upd (eO C E) i v k=eO (upd C i v) E k:=by
 by_cases h:k=i
 .subst h;rw[upd_same,dM hi,upd_same]
 .rw[upd_ne h];unfold eO;by_cases j:k<33
  .rw[ι j,ι j,upd_ne h]
  .rw[θ j,θ j]
def Gr0.set(h:Gr0 w0 w gx gf C nb Bv brs){i}(v)(hi:i<33)(D:i≠0)(hv:mU v=ε):Gr0 w0 (w.setCell ⟨gx,i,δ⟩ v) gx gf (upd C i v) nb Bv brs/\Mod (fun k=>k=gx) w (w.setCell ⟨gx,i,δ⟩ v):=by
 have l:Mod (fun k=>k=gx) w (w.setCell ⟨gx,i,δ⟩ v):=Mod.set _ _ _ _ rfl;have J:∀g,(C 0).ownBlock=γ g->g≠gx:=fun g F=>by have:=(h.own.low F).1;have:=h.lx;omega
 refine⟨⟨(h.g.set v aa).congr (fun k _=>DV v hi k),Blk.mod h.c l h.ne,h.m.trans l,?_,h.len,fun j B=>(h.br j B).fT l h.far,fun j B=> ?_,h.lx,h.lf⟩,l⟩
 .rw[upd_ne (aax D)];exact h.own.mod l J
 .by_cases e:j=i
  .subst e;rw[upd_same];exact hv
  .rw[upd_ne e];exact h.n32 j B
def MV{l:List BrD}{b i}:(l++[b]).getD i η=if i<l.length then l.getD i η else if i=l.length then b else η:=by
 rw[ψ,ψ];by_cases h:i<l.length
 .rw[ι h,kC h]
 .rw[θ h,nV aa];by_cases j:i=l.length
  .rw[ι j,j,aaY];rfl
  .rw[θ j,wo ae];rfl
def Oz{w B0 v k B}(h:nN w B0 v k B):mU v=ε:=by
 rcases h with ⟨rfl,_⟩|⟨g',G,B',rfl,_⟩<;>rfl
def Gr0.push(h:Gr0 w0 w gx gf C nb Bv brs){r b K}(N:vW w r b)(M:nN w' w0.heap.size K (nb+1) (upd Bv nb r))(G:Mod (fun g=>(C 0).ownBlock=γ g) w w')(Y:w2=w'.setCell ⟨gx,0,δ⟩ K):
  Gr0 w0 w2 gx gf (upd C 0 K) (nb+1) (upd Bv nb r) (brs++[b])/\Mod (fun g=>g=gx\/(C 0).ownBlock=γ g) w w2/\gK (fun g=>g=gx\/(C 0).ownBlock=γ g) w:=by
 subst Y;have B:∀g,(C 0).ownBlock=γ g->w0.heap.size<=g:=fun g D=>(h.own.low D).1;have lx:=h.lx;have lf:=h.lf;have J:∀g,(C 0).ownBlock=γ g->g≠gx:=fun g D=>by have:=B g D;omega
 have g1:fu w' gx 105 393 (eO C fun _=>zEn):=h.g.mod G (fun e=>J _ e rfl);have c1:bS w' gf:=Blk.mod h.c G (fun e=>by have:=B _ e;omega);have l:Mod (fun k=>k=gx) w' (w'.setCell ⟨gx,0,δ⟩ K):=Mod.set _ _ _ _ rfl;have P:gK (fun k=>k=gx) w':=afd g1 (fun k _=>oM h.n32 k) (fun k H=>H);have I:∀g,K.ownBlock=γ g->¬g=gx:=fun g D=>by have:=(M.low D).1;omega
 have F:Mod (fun g=>g=gx\/(C 0).ownBlock=γ g) w (w'.setCell ⟨gx,0,δ⟩ K):=
  ⟨l.os.trans G.os,l.tape.trans G.tape,l.output.trans G.output,lh G.size l.size,fun k H hn=>(l.block k (π H G.size) (fun e=>hn (Or.inl e))).trans (G.block k H (fun e=>hn (Or.inr e)))⟩
 have hF:gK (fun g=>g=gx\/(C 0).ownBlock=γ g) w:=fun g D Z=>by
  rcases D with D|D
  .exact h.far g D Z
  .exact h.own.far g D Z
 refine⟨⟨(g1.set K aa).congr (fun k _=>DV K aa k),Blk.mod c1 l h.ne,?_,?_,by rw[y9,h.len];rfl,fun i hi=> ?_,fun j O=> ?_,h.lx,h.lf⟩,F,hF⟩
 .exact⟨F.os.trans h.m.os,F.tape.trans h.m.tape,F.output.trans h.m.output,lh h.m.size F.size,fun k H hn=>(F.block k (π H h.m.size) (fun e=>by
   rcases e with e|e
   .exact hn e
   .have:=B _ e;omega)).trans (h.m.block k H hn)⟩
 .rw[upd_same];exact M.mod l I
 .rw[MV,h.len];by_cases L:i<nb
  .rw[ι L,upd_ne aa];exact(h.br i L).fT F hF
  .rw[θ L,ι aa,show i=nb by omega,upd_same];exact N.fT F hF
 .by_cases e:j=0
  .subst e;rw[upd_same];exact Oz M
  .rw[upd_ne e];exact h.n32 j O
end
def DX (B:Nat) (PA PB:Option Addr) (j:Nat) (K:Nat->Hd):Prop:=
 (∀b o,PA=γ ⟨b,o,δ⟩->B<=b)/\(∀b o,PB=γ ⟨b,o,δ⟩->B<=b)/\∀i,i<j->∀b o,(K i).A=γ ⟨b,o,δ⟩->B<=b
def iW.mod{S w w' B PA l PB j K p}(h:iW w PA l PB j K p)(hn:DX B PA PB j K)(m:Mod S w w')(hS:∀g,S g->g<B):iW w' PA l PB j K p:=
 ⟨h.lc,h.closed.mod m (fun b o e hs=>by have:=hn.1 b o e;have:=hS b hs;omega),h.ll,h.rows.mod m (fun b o e hs=>by have:=hn.2.1 b o e;have:=hS b hs;omega),h.lens,fun i hi=>(h.ints i hi).mod m (fun b o e hs=>by have:=hn.2.2 i hi b o e;have:=hS b hs;omega),h.mx⟩
structure Kp3 (w:World) (a b c:Nat) where
 val:World
 ha:val.heap[a]? =w.heap[a]?
 hb:val.heap[b]? =w.heap[b]?
 hc:val.heap[c]? =w.heap[c]?
instance (w:World) (a b c:Nat):Nonempty (Kp3 w a b c):=⟨⟨w,rfl,rfl,rfl⟩⟩
theorem zQ{w w':World}{g i v}(h:w'.heap[g]? =w.heap[g]?)(hv:w.cell? ⟨g,i,δ⟩=γ v):w'.cell? ⟨g,i,δ⟩=γ v:=by
 unfold World.cell? at hv⊢;simp only[h] at hv⊢;exact hv
def Kp3.a{w a b c i v}(h:w.cell? ⟨a,i,δ⟩=γ v)(x:Kp3 w a b c):x.val.cell? ⟨a,i,δ⟩=γ v:=zQ x.ha h
def Kp3.b{w a b c i v}(h:w.cell? ⟨b,i,δ⟩=γ v)(x:Kp3 w a b c):x.val.cell? ⟨b,i,δ⟩=γ v:=zQ x.hb h
def Kp3.of{S w w' a b c}(m:Mod S w w')(la:a<w.heap.size)(lb:b<w.heap.size)(lc:c<w.heap.size)(ha:¬S a)(hb:¬S b)(hc:¬S c):∃x:Kp3 w a b c,w'=x.val:=
 ⟨⟨w',m.block a la ha,m.block b lb hb,m.block c lc hc⟩,rfl⟩
def Cy{w ops rest o a Q}(H:o.guard=δ)(s x:Operand)(I:o.op=.call {callee:=.builtin .append,args:= #[s,x],argTypes:= #[96,96]}){B0 k j c v B r}(hs:a.eval s=v)(J:a.eval x=.slice (γ ⟨j,0,δ⟩) 1 c)(G:nN w B0 v k B)(C:k<=1000)(M:B0<=w.heap.size)(hb:Blk w j 167 r.cs.toArray)(h:∀K w',nN w' B0 K (k+1) (upd B k r)->Mod (fun g=>v.ownBlock=γ g) w w'->(∀g,K.ownBlock=γ g->v.ownBlock=γ g\/g=w.heap.size)->wpList prog ops Q rest (a.put o.dst K) w'):
  wpList prog ops Q (o::rest) a w:=by
 obtain⟨K,w',F,l,L,D⟩:=Jh G C M hb c o.type;exact Kw H s x _ I hs J F (h K w' l L D)
theorem CF{PA pn pc PB qn qc K p}(w)(hp:iW w PA pn PB qn K p)(hb:pn<=1000)(hq:qn<=1000)(hk:∀i,i<qn->(K i).n<=1000):
  Calls prog 82 #[mO PA pn pc PB qn qc,.bool ζ] w fun e w'=>∃O WF T WI M,e=.returned (mO O pn WF T qn WI)/\iW w' O pn T qn M (resolve 0 p)/\(∀i,i<qn->(M i).n=(K i).n)/\DX w.heap.size O T qn M/\Ext w w':=by
 have Y:Hid (Ext w ((w.alloc (.cells #[.slice PA pn pc,.slice PB qn qc] 31)).alloc (.cells #[.slice δ 0 0,.slice δ 0 0] 31))):=aJ ((Ext.new _ _).trans (Ext.new _ _));have HP:=aJ (hp.ext Y.o);clear hp;have Xa:=aJ hk;clear hk;obtain⟨-,C,U⟩:=ah2 w 31 #[.slice PA pn pc,.slice PB qn qc] 31 #[.slice δ 0 0,.slice δ 0 0];unfold mO;go_enter func82,ntmps82;(go_wp2_with fail);refine(JF PA pn pc p.closed _ HP.closed HP.lc aa).mono ?_;rintro e w1 ⟨v1,rfl,ho,J⟩;have Xo:=aJ (Y.trans J);have B:=aJ (HP.ext J);have WT:=aJ (C.ext J);have Yp:=aJ (U.ext J);obtain⟨A1,c1,rfl,_,_,_⟩:=iY ho;have HO:=aJ (ho.less (base':=w.heap.size) ae);have WW:w.heap.size+1<w1.heap.size:=(U.ext J).lt;have Xc:w.heap.size<w1.heap.size:=aa;have k1:=WT.cell;clear J ho HP C U;obtain⟨-,WK⟩:=an1 w1 31 #[.slice A1 pn c1,.slice δ 0 0];have Xg:=aJ WK;clear WK;have Xp:Hid (Ext w1 (w1.alloc (.cells #[.slice A1 pn c1,.slice δ 0 0] 31))):=aJ (Ext.new _ _);(go_wp2_with fail);generalize XU:w1.alloc (.cells #[.slice A1 pn c1,.slice δ 0 0] 31)=w6 at Xg Xp⊢;clear XU;generalize XL:w1.heap.size=g6 at Xg Xc WW⊢;have XQ:=aJ XL;clear XL;clear k1;go_loopw [19] (fun i wr=>∃(k:Nat) (v:Value) (M:Nat->Hd),k<=qn/\i=.int .i64 (k:Int)/\Blk wr g6 31 #[.slice A1 pn c1,v]/\wr.ownsRow (g6+1) 92 1 v k (xY M k)/\vK wr (g6+1) k M (fun i=>(p.links.getD i []).map (mv 0))/\(∀i,i<k->(M i).n=(K i).n)/\Ext w1 wr) (fun i _=>qn-(intOf i).toNat)
 case atStart=>exact⟨0,_,K,aa,rfl,Xg.o,I5 _ _ _ _,fun i hi=>absurd hi aa,fun i hi=>absurd hi aa,Xp.o⟩
 case round=>
  clear Xg Xp;obtain⟨k,v,M,G,rfl,WK,F,I,V,J⟩:=hrel;obtain⟨wv,Xy⟩:∃wv,wv=wr:=⟨_,rfl⟩;subst Xy;obtain⟨Av,cv,rfl,_,_,_⟩:=iY F;have Xg:=aJ WK;have H:=aJ F;have D:=aJ I;have WJ:=aJ V;have HX:=aJ J;have XA:g6<wv.heap.size:=WK.lt;clear WK F I V J;by_cases WE:k<qn
  .have hd:decide (k<qn)=ε:=ae;have XG:=Xa.o k WE;obtain⟨pb,WZ,WG,Xi,f0⟩:=(B.ext HX.o).rows.one WE;have R:Hid ((p.links.getD k []).length=(K k).n):=aJ (B.lens k WE);have WM:=aJ ((B.ext HX.o).ints k WE);unfold Hd.v at f0;generalize Xj:K k=kh at f0 R WM XG;have WX:Hid ((K k).n=kh.n):=aJ (by rw[Xj]);clear Xj;subst WG;generalize Z:p.links.getD k []=l at R WM;have HL:=aJ Z;clear Z;have WR:w.heap.size<wv.heap.size:=aa;have Q:w.heap.size+1<wv.heap.size:=aa;(go_wp2_with fail);refine(JK kh.A kh.n kh.c l _ WM.o R.o aa).mono ?_;rintro e w2 ⟨v3,rfl,Xe,P⟩;obtain⟨A3,c3,rfl,_,_,_⟩:=iY Xe;have Xf:=aJ Xe;have W:=aJ P;have Xh:=P.size;clear Xe P f0;go_wp2_with fail
   go_loopw [27] (fun i wq=>∃t:Nat,t<=kh.n/\i=.int .i64 (t:Int)/\wq.ownsRow wv.heap.size 3 1 (.slice A3 kh.n c3) kh.n ((uZ (mv 0) l t).map (.int .i64))/\Mod (fun g=>(Value.slice A3 kh.n c3).ownBlock=γ g) w2 wq) (fun i _=>kh.n-(intOf i).toNat)
   case atStart=>exact⟨0,aa,rfl,by rw[QN];exact Xf.o,Mod.refl _ _⟩
   case round=>
    obtain⟨t,ht,rfl,XO,Xr⟩:=hrel;have Xq:=aJ XO;have XB:=aJ Xr;clear XO Xr;by_cases Xz:t<kh.n
    .have Yl:decide (t<kh.n)=ε:=ae;have WP:t<l.length:=by have:=R.o;omega
     obtain⟨g3,Xt,WS,Xm,Xd⟩:=Xq.form aa;injection WS with XY _ XD;subst XY XD;obtain⟨q1,q2⟩:=EA Xq.o Xz (EH WP);have WL:=KM Xq.o t (.int .i64 0);have Xx:=Bw (f:=mv 0) WP;have Xl:=Di (f:=mv 0) WP;generalize l.getD t 0=x at q1 Xx Xl;have WL:=aJ WL;have Xx:=aJ Xx;have Xl:=aJ Xl;by_cases P:x=2
     .have dx:((x:Int)==2)=ε:=ae;subst P;go_wp2_with fail
      go_roundw
      case rel=>
       refine⟨t+1,aa,au,?_,?_⟩
       .have h1:=WL.o.1;rw[<-ad1 (f:=Value.int .i64) (a:=(0:Int))] at h1;rw[<-Xx.o];exact h1
       .exact XB.trans (WL.o.2.mono fun k hk=>by rw[hk];rfl)
      case measure=>simp[intOf];omega
     .have dx:((x:Int)==2)=ζ:=ae;have W9:=aJ P;clear P;go_wp2_with fail
      go_roundw
      case rel=>exact⟨t+1,aa,au,by rw[Xl.o (by unfold mv;rw[θ W9.o])];exact Xq.o,XB.o⟩
      case measure=>simp[intOf];omega
    .obtain rfl:t=kh.n:=aa;clear Xz ht;have WV:Ext wv wr:=W.mod XB.o (fun g hg=>(Xq.lt g hg).1);have XX:=aJ WV;have WO:=Xg.ext WV;have k6:=WO.cell;have X8:=WO.lt;have Xb:=WV.size;have j:=aJ (dX H.o WV);clear WV WO;(go_wp2_with (at_builtin;refine dI CL rfl (.tmp 40) (.tmp 42) rfl (g6+1) _ k (xY M k) rf (j.alloc _) wr.heap.size 1 1 [.slice A3 kh.n c3] rf (Blk.new _ _ _) rfl AbS aa aa aa ae ?_));intro S N w7 Xw Xk XW XM;have WY:=dY Xk ((Xg.ext XX.o).alloc (.cells #[.slice A3 kh.n c3] 92)) (iE j.o aa);have Xu:Mod (fun g=>g=g6\/(Value.slice Av k cv).ownBlock=γ g) wr (w7.setCell ⟨g6,1,δ⟩ (.slice (γ ⟨S,0,δ⟩) (k+1) N)):=((aeW (Ext.new _ _)).trans (Mod.grown Xk (fun g h=> .inr h))).trans (Mod.only (Only.set w7 g6 1 _) (.inl rfl));have k7:=WY.cell;have f7:=WY.frozen;have WQ:Blk (w7.setCell ⟨g6,1,δ⟩ (.slice (γ ⟨S,0,δ⟩) (k+1) N)) g6 31 #[.slice A1 pn c1,.slice (γ ⟨S,0,δ⟩) (k+1) N]:=by simpa using WY.nL 1 (.slice (γ ⟨S,0,δ⟩) (k+1) N)
     have XN:=qV Xw (Only.set w7 g6 1 (.slice (γ ⟨S,0,δ⟩) (k+1) N)) (iE Xw aa);have WN:=aJ WQ;have XZ:=aJ XN;have Xn:=aJ Xu;clear WY Xu WQ XN Xw Xk XW;go_wp2_with fail
     go_roundw
     case rel=>
      refine⟨k+1,_,upd M k ⟨A3,kh.n,c3⟩,aa,au,WN.o,?_,fun i hi=> ?_,fun i hi=> ?_,(HX.trans XX.o).mod Xn.o (fun g hg=> ?_)⟩
      .rw[Dn,upd_same,Ap (fun i hi=>upd_ne (show i≠k by omega))];exact XZ.o
      .by_cases e:i=k
       .subst e;simp only[upd_same,HL.o];rw[<-Ie R.o];refine(jh (Xq.less aa) Xn.o fun g hg hS=> ?_);have:=(Xq.lt g hg).1;rcases hS with hS|hS
        .omega
        .have:=(H.lt g hS).2;omega
       .rw[upd_ne e];have h1:=dX (D.o i aa) XX.o;refine jh h1 Xn.o fun g hg hS=> ?_;rcases hS with hS|hS
        .have:=(h1.lt g hg).1;omega
        .rcases tK h1 j.o aj with h2|h2
         .rw[h2] at hg;cases hg
         .exact h2 (hg.trans hS.symm)
      .by_cases e:i=k
       .subst e;rw[upd_same];exact WX.symm
       .rw[upd_ne e];exact WJ.o i aa
      .have:=XQ.o;rcases hg with hg|hg
       .omega
       .have:=(H.lt g hg).1;omega
     case measure=>simp[intOf];omega
  .obtain rfl:k=qn:=aa;clear WE G;have WH:=(Yp.ext HX.o);have k6:=Xg.cell;have kr:=WH.cell;have fr:=WH.frozen;have Xv:=WH.lt;(go_wp2_with fail);have Yj:=fM wv (w.heap.size+1) 0 [.slice A1 pn c1,.slice Av k cv];have r1:=qV (dX HO.o HX.o) Yj (fe (dX HO.o HX.o) WH aj);have r2:=qV (H.less (base':=w.heap.size) aa) Yj (fe H.o WH aj);have r3:vK (puts wv (w.heap.size+1) 0 [.slice A1 pn c1,.slice Av k cv]) w.heap.size k M (fun i=>(resolve 0 p).links.getD i []):=fun i hi=>by
    have h:=D.o i hi;have:=qV (h.less (base':=w.heap.size) aa) Yj (fe h WH aj);simp only[uR];exact this
   have X4:=B.ll;obtain⟨O,WF,T,WI,e1,e2,L⟩:=iW.made r1 r2 (p:=resolve 0 p) (by rw[<-X4];simp[resolve]) r3 aa aa (fun i hi=>by rw[WJ.o i hi];have:=Xa.o i hi;omega);have WU:DX w.heap.size O T k M:=by
    refine⟨fun b o e=> ?_,fun b o e=> ?_,fun i hi b o e=> ?_⟩
    .rw[e] at e1;exact(r1.lt b (by rw[e1];rfl)).1
    .rw[e] at e2;exact(r2.lt b (by rw[e2];rfl)).1
    .exact((r3 i hi).lt b (by unfold Hd.v;rw[e];rfl)).1
   refine rV rfl rfl rfl (bY 0 [.slice A1 pn c1,.slice Av k cv] WH) underlying31 rfl ah ⟨O,WF,T,WI,M,?_,L,WJ.o,WU,gz (g:=w.heap.size+1) (show w.heap.size<=w.heap.size+1 by omega) 0 [.slice A1 pn c1,.slice Av k cv] (Xo.trans HX.o)⟩;rw[<-e1,<-e2];rfl
def jF (C:Nat->Value) (L:Nat->Bool) (i:Nat):Value:=if 15<=i/\i<33 then .bool (L (i-15)) else C i
theorem mY{C L k}(j:k<18):jF C L (15+k)=.bool (L k):=by
 unfold jF;rw[ι aa,show 15+k-15=k by omega]
theorem lF{C L i}(h:i<15):jF C L i=C i:=by unfold jF;rw[θ aa]
theorem Jb{C L}(h:∀i,i<33->mU (C i)=ε)(i)(hi:i<33):mU (jF C L i)=ε:=by
 unfold jF;split
 .rfl
 .exact h i hi
theorem Nj{C E L k}(B:k<18)(i):upd (eO (jF C L) E) (15+k) (.bool ε) i=eO (jF C (upd L k ε)) E i:=by
 by_cases h:i=15+k
 .subst h;rw[upd_same,dM aa,mY B,upd_same]
 .rw[upd_ne h];unfold eO;by_cases l:i<33
  .rw[ι l,ι l];unfold jF;by_cases j:15<=i/\i<33
   .rw[ι j,ι j,upd_ne aa]
   .rw[θ j,θ j]
  .rw[θ l,θ l]
def yZ{L n}(l:L n=ζ):∀k,cnt (upd L n ε) k=cnt L k+(if n<k then 1 else 0)
 |0=>rfl
 |k+1=>by
  show cnt (upd L n ε) k+(if upd L n ε k=ε then 1 else 0)=cnt L k+(if L k=ε then 1 else 0)+_;rw[yZ l k];by_cases h:k=n
  .subst h;rw[upd_same,l,ι rfl,θ aa,θ aj,ι aa]
  .rw[upd_ne h];by_cases j:n<k
   .rw[ι j,ι (show n<k+1 by omega)];omega
   .rw[θ j,θ (show ¬n<k+1 by omega)];omega
def tZ (lb:Bool) (n:Nat) (L:Nat->Bool):Nat->Bool:=if lb=ε/\n≠17/\L n=ζ then upd L n ε else L
def ni (L:Nat->Bool) (b:BrD):Bool:=decide (b.b=17)||(L b.a||L b.b)
def stp (b:BrD) (L:Nat->Bool) (j:Nat):Nat->Bool:=if j=0 then L else if j=1 then tZ (ni L b) b.a L else tZ (ni L b) b.b (tZ (ni L b) b.a L)
theorem Bf(lb n L k):tZ lb n L k=(L k||(lb&&decide (k≠17)&&decide (k=n))):=by
 unfold tZ;by_cases h:lb=ε/\n≠17/\L n=ζ
 .rw[ι h];by_cases e:k=n
  .subst e;rw[upd_same,h.1];simp[h.2.1]
  .rw[upd_ne e];simp[e]
 .rw[θ h];by_cases e:k=n
  .subst e;cases Z:lb
   .simp
   .by_cases B:k=17
    .simp[B]
    .have:L k=ε:=by
      cases j:L k with
      |true=>rfl
      |false=>exact absurd ⟨Z,B,j⟩ h
     simp[this]
  .simp[e]
theorem RO(b L k):stp b L 2 k=qM L b k:=by
 unfold stp qM;rw[θ aa,θ aa,Bf,Bf];unfold ni;cases L k<;>cases decide (b.b=17)<;>cases L b.a<;>cases L b.b<;>cases decide (k≠17)<;>cases decide (k=b.a)<;>cases decide (k=b.b)<;>rfl
def xg(b L){j}(B:j<2):stp b L (j+1)=tZ (ni L b) (if j=0 then b.a else b.b) (stp b L j):=by
 have l:j=0\/j=1:=aa;rcases l with rfl|rfl<;>rfl
def AZ{lb n L}(h:L 17=ζ):tZ lb n L 17=ζ:=by rw[Bf,h];simp
theorem EF{b L}(h:L 17=ζ)(j):stp b L j 17=ζ:=by
 unfold stp;split
 .exact h
 .split
  .exact AZ h
  .exact AZ (AZ h)
theorem pJ{lb n L}(h:lb=ζ\/n=17\/L n=ε):tZ lb n L=L:=by
 unfold tZ;refine θ fun hc=> ?_;rcases h with h|h|h
 .rw[h] at hc;cases hc.1
 .exact hc.2.1 h
 .rw[h] at hc;cases hc.2.2
theorem jX{lb n L}(h:lb=ε)(l:n≠17)(j:L n=ζ):tZ lb n L=upd L n ε:=by
 unfold tZ;exact ι ⟨h,l,j⟩
def UR(L):cnt L 18<=18:=Ko 18
structure Rv (w wr:World) (gx:Nat) (C:Nat->Value) (E:Nat->En) (bs:List BrD) (L:Nat->Bool):Prop where
 g:fu wr gx 105 393 (eO (jF C L) E)
 m:Mod (fun k=>k=gx) w wr
 sub:∀k,L k=ε->JoinD bs k
section
variable {w wr wr':World} {gx:Nat} {C:Nat->Value} {E:Nat->En} {bs:List BrD} {L:Nat->Bool}
def Rv.ext(h:Rv w wr gx C E bs L)(x:Ext wr wr'):Rv w wr' gx C E bs L:=⟨h.g.ext x,h.m.trans (aeW x),h.sub⟩
def Rv.set(h:Rv w wr gx C E bs L){n}(hn:n<18)(l:JoinD bs n):Rv w (wr.setCell ⟨gx,15+n,δ⟩ (.bool ε)) gx C E bs (upd L n ε):=by
 refine⟨(h.g.set (.bool ε) aa).congr (fun k _=>Nj hn k),h.m.trans (Mod.set _ _ _ _ rfl),fun k j=> ?_⟩;by_cases e:k=n
 .subst e;exact l
 .rw[upd_ne e] at j;exact h.sub k j
theorem JR{b}(hb:b∈bs)(hs:∀k,L k=ε->JoinD bs k)(B:L 17=ζ)(h:ni L b=ε):JoinD bs b.a:=by
 unfold ni at h;simp only[abb,Λ] at h;rcases h with h|h|h
 .exact .neutral b hb h
 .exact hs _ h
 .exact .fro b hb (fun e=>by rw[e,B] at h;cases h) (hs _ h)
theorem Ku{b}(hb:b∈bs)(hs:∀k,L k=ε->JoinD bs k)(B:L 17=ζ)(h:ni L b=ε)(hn:b.b≠17):JoinD bs b.b:=by
 unfold ni at h;simp only[abb,Λ] at h;rcases h with h|h|h
 .exact absurd h hn
 .exact .fwd b hb hn (hs _ h)
 .exact hs _ h
end
structure Rnd (bs:List BrD) (Lr L:Nat->Bool) (ch:Bool) (i:Nat):Prop where
 no:ch=ζ->L=Lr/\∀j,j<i->∀n,qM Lr (bs.getD j η) n=Lr n
 yes:ch=ε->cnt Lr 18<cnt L 18
def Rnd.le{bs l L j i}(h:Rnd bs l L j i):cnt l 18<=cnt L 18:=by
 cases hc:j with
 |false=>rw[(h.no hc).1];exact κ _
 |true=>exact aan (h.yes hc)
def Rnd.next{bs l L C F i b}(h:Rnd bs l L C i)(hb:bs.getD i η=b)(Z:cnt l 18<=cnt (stp b L 2) 18)(hn:F=ζ->C=ζ/\stp b L 2=L)(R:F=ε->cnt l 18<cnt (stp b L 2) 18):Rnd bs l (stp b L 2) F (i+1):=by
 refine⟨fun hc=> ?_,R⟩;obtain⟨H,B⟩:=hn hc;obtain⟨D,G⟩:=h.no H;refine⟨B.trans D,fun j I n=> ?_⟩;by_cases e:j=i
 .subst e;rw[hb,<-D,<-RO,B]
 .exact G j aa n
def Sk{a b:Nat}{j:Nat}(B:j<2)(w):Sem.run prog (Instr.index 64 (.agg #[.int .i64 (a:Int),.int .i64 (b:Int)]) (.int .i64 (j:Int))) w=.ok (.int .i64 ((if j=0 then a else b:Nat):Int)) w:=by
 have l:j=0\/j=1:=aa;rcases l with rfl|rfl<;>simp[Instr.index,abl underlying64,asIntOf,go_sem,isAgg3,sizeOf3,part]
theorem Pk(gx nb cb C E A Bv bs w)(hg:fu w gx 105 393 (eO C E))(hn:sD w C A nb cb Bv bs (fun _=>ζ))(XB:∀i,i<33->mU (C i)=ε)(hA:∀b o,A=γ ⟨b,o,δ⟩->b≠gx):
  Calls prog 83 #[.pointer (γ ⟨gx,0,δ⟩)] w fun e w'=>e=.returned (.tuple #[])/\fu w' gx 105 393 (eO (jF C (lv bs)) E)/\Mod (fun k=>k=gx) w w':=by
 have HG:=aJ hg;have HN:=aJ hn;have XP:=aJ XB;have HA:=aJ hA;have Xz:Hid (Rv w w gx C E bs (fun _=>ζ)):=aJ ⟨hg.congr (fun k _=>by
  unfold eO;by_cases h:k<33
  .rw[ι h,ι h];unfold jF;by_cases h2:15<=k/\k<33
   .rw[ι h2,<-hn.live (k-15) aa,show 15+(k-15)=k by omega]
   .rw[θ h2]
  .rw[θ h,θ h]),aeW (Ext.refl _),fun k hk=>by cases hk⟩
 clear hg hn XB hA;go_enter func83,ntmps83;go_wp2_with fail
 go_loopg [2] 40 (fun gk cv wr=>∃(L:Nat->Bool) (ch:Bool),cv=.bool ch/\Rv w wr gx C E bs L/\L 17=ζ/\(ch=ε->37<=gk+2*cnt L 18)/\(ch=ζ->36<=gk+2*cnt L 18/\∀j,j<nb->∀n,qM L (bs.getD j η) n=L n))
 case atStart=>exact⟨_,ε,rfl,Xz.o,rfl,fun _=>aa,fun h=>by cases h⟩
 case round=>
  clear Xz;obtain⟨L,ch,rfl,hR,B,XH,Xh⟩:=hrel;have Q:=aJ hR;have XG:=aJ B;have Xv:=aJ XH;have Xq:=aJ Xh;clear hR B XH Xh;cases ch with
  |false=>
   have Xe:=aJ (Xq.o rfl);clear Xq Xv;(go_wp2_with fail);have hL:L=lv bs:=V4 HN.ok (af6 XG.o (fun b hb n=>by
    obtain⟨j,hj,e⟩:=acF hb;have:=Xe.o.2 j (by have:=HN.len;omega) n;rw[ψ,ο hj] at this;simpa[e] using this)) Q.sub
   refine aa8 (aaB rfl _ _ _) rfl ⟨rfl,by rw[<-hL];exact Q.g,Q.m⟩
  |true=>
   have WU:=aJ (Xv.o rfl);clear Xq Xv;have XC:=Q.g.cell_ (k:=0) aa ((dM aa).trans ((lF aa).trans HN.br));(go_wp2_with fail);clear XC;go_loopw [2,14] (fun cv iv wz=>∃(i:Nat) (G:Nat->Bool) (ch:Bool),i<=nb/\iv=.int .i64 i/\cv=.bool ch/\Rv w wz gx C E bs G/\G 17=ζ/\Rnd bs L G ch i) (fun _ iv _=>nb-(intOf iv).toNat)
   case atStart=>exact⟨0,L,ζ,aa,rfl,rfl,Q.o,XG.o,fun _=>⟨rfl,fun j hj=>aa⟩,fun h=>by cases h⟩
   case round=>
    rename World=>wz;obtain⟨i,G,ch,hi,rfl,rfl,Xy,Xt,XK⟩:=hrel;have WI:=aJ Xy;have N:=aJ Xt;have R:=aJ XK;clear Xy Xt XK;by_cases WE:i<nb
    .have hd:decide ((i:Int)<(nb:Int))=ε:=ae;obtain⟨bA,oA,hA,Xu,XE⟩:=HN.arr aa;subst hA;have XF:bA≠gx:=HA.o _ _ rfl;have X9:=aJ (show wz.rangeAt bA (oA+i*20) (Bv i).cs from fun j v hv=>by
      have h1:=XE i WE j v hv;unfold World.cell? at h1⊢;simp only[WI.o.m.block bA Xu XF] at h1⊢;exact h1)
     clear XE Xu XF;(iterate 21 (try (first|go_values|go_skip|go_guarded|go_step|go_upon|go_in|go_back|go_simp)));refine Θ rfl 167 _ rfl bA (oA+i*20) rf (Bv i).cs _ X9.o ab8 rfl wM ?_;refine eF rfl 167 rfl _ Ll ?_;intro wd Xn;refine aQ rfl 167 (.tmp 4) (.tmp 17) rfl wz.heap.size 0 (Bv i).cs rf rf AcF wM (Jw _) ?_;intro we Xf;refine Qp ?_;have WH:Blk wd wz.heap.size 167 zBr:=by rw[Xn];exact Blk.new _ _ _
     have M:Ext wz wd:=by rw[Xn];exact Ext.new _ _
     have P:Ext wz we:=by rw[Xf];exact gz (κ _:Own wz wz.heap.size) 0 _ M
     have WQ:Blk we wz.heap.size 167 (Bv i).cs.toArray:=by rw[Xf];exact PU WH
     have J:=aJ WQ;replace WI:=WI.aA P;clear Xn Xf WH M P WQ;generalize wz.heap.size=Xg at J⊢;have Xw:wrap64 ((i:Int)+1)=(i:Int)+1:=aam _ (by have:=HN.len;have:=HN.l23;omega);have K:=aJ Xw;clear Xw;have hm:bs.getD i η∈bs:=Bi (by have:=HN.len;omega);have WR:=HN.ok _ hm;have WG:=HN.ab i WE;obtain⟨b,Xx⟩:∃b,bs.getD i η=b:=⟨_,rfl⟩;rw[Xx] at hm WR WG;have Xr:=aJ Xx;have HM:=aJ hm;have WW:=aJ WR;have Xb:=aJ WG;clear WR WG hm Xx;have XQ:b.a<17:=WW.a;have Yn:b.b<=17:=WW.b;have Xl:we.cell? ⟨Xg,0,δ⟩=γ (.int .i64 (b.a:Int)):=(J.cell 0).trans (by rw[<-Xb.o.1];rfl);have Xj:we.cell? ⟨Xg,1,δ⟩=γ (.int .i64 (b.b:Int)):=(J.cell 1).trans (by rw[<-Xb.o.2];rfl);have Xd:=WI.g.cell_ (k:=15+b.a) aa ((dM aa).trans (mY aa));have Xm:=WI.g.cell_ (k:=15+b.b) aa ((dM aa).trans (mY aa));have p1:(0:Int)<=(b.a:Int):=aa;have p2:(b.a:Int)<18:=aa;have p3:(0:Int)<=(b.b:Int):=aa;have p4:(b.b:Int)<18:=aa;by_cases hb:b.b=17
     .have hq:((b.b:Int)==17)=ε:=by rw[hb];rfl
      have W9:=aJ hb;clear hb;have WM:=aJ WI.o;have T:Hid (ni G b=ε):=aJ (by unfold ni;simp[W9.o]);exact Aab
     .have hq:((b.b:Int)==17)=ζ:=ae;have W9:=aJ hb;clear hb;cases XR:G b.a with
      |true=>
       rw[XR] at Xd;have WM:=aJ WI.o;have T:Hid (ni G b=ε):=aJ (by unfold ni;simp[XR]);exact Aab
      |false=>
       rw[XR] at Xd;cases WN:G b.b with
       |true=>
        rw[WN] at Xm;have WM:=aJ WI.o;have T:Hid (ni G b=ε):=aJ (by unfold ni;simp[WN]);exact Aab
       |false=>
        rw[WN] at Xm;have WM:=aJ WI.o;have T:Hid (ni G b=ζ):=aJ (by unfold ni;simp[XR,WN,W9.o]);(go_wp2_with fail);go_quiet (fail);generalize U:we.drewN nq=wq;have WV:Ext we wq:=by rw[<-U];exact(Ext.refl _).drewN _
        replace WI:=WI.aA WV;replace J:=J.aA WV;clear WV U Xl Xj Xd Xm;have Xl:wq.cell? ⟨Xg,0,δ⟩=γ (.int .i64 (b.a:Int)):=(J.cell 0).trans (by rw[<-Xb.o.1];rfl);have Xj:wq.cell? ⟨Xg,1,δ⟩=γ (.int .i64 (b.b:Int)):=(J.cell 1).trans (by rw[<-Xb.o.2];rfl);clear hq J;(go_wp2_with fail);clear Xl Xj;go_loopw [2,44] (fun cv jv wx=>∃(j:Nat) (F:Bool),j<=2/\jv=.int .i64 j/\cv=.bool F/\Rv w wx gx C E bs (stp b G j)/\cnt L 18<=cnt (stp b G j) 18/\(F=ζ->ch=ζ/\stp b G j=G)/\(F=ε->cnt L 18<cnt (stp b G j) 18)) (fun _ jv _=>2-(intOf jv).toNat)
        case atStart=>exact⟨0,ch,aa,rfl,rfl,WI.o,R.le,fun h=>⟨h,rfl⟩,R.yes⟩
        case round=>
         rename World=>wx;obtain⟨j,F,hj,rfl,rfl,WO,D,WL,WS⟩:=hrel;have Y:=aJ WO;have WJ:=aJ D;have W:=aJ WL;have WF:=aJ WS;clear WO D WL WS WI;by_cases WK:j<2
         .have Xc:decide ((j:Int)<2)=ε:=ae;have WY:=Sk (a:=b.a) (b:=b.b) WK wx;obtain⟨n,hn⟩:∃n,(if j=0 then b.a else b.b)=n:=⟨_,rfl⟩;rw[hn] at WY;have Xo:n<=17:=by rw[<-hn];split<;>omega
          have I:=xg b G WK;rw[hn,T.o] at I;have l:=aJ I;have Xk:=aJ hn;clear I hn;have S:=aJ (pJ (lb:=ζ) (n:=n) (L:=stp b G j) (Or.inl rfl));go_wp2_with fail
          go_roundw
          case rel=>exact⟨j+1,F,aa,au,rfl,by rw[l.o,S.o];exact Y.o,by rw[l.o,S.o];exact WJ.o,fun h=>by rw[l.o,S.o];exact W.o h,fun h=>by rw[l.o,S.o];exact WF.o h⟩
          case measure=>simp[intOf];omega
         .obtain rfl:j=2:=aa;have Xc:decide ((2:Int)<2)=ζ:=aj
          go_wp2_with fail
          go_roundw
          case rel=>exact⟨i+1,stp b G 2,F,aa,by rw[K.o];rfl,rfl,Y.o,EF N.o 2,R.next Xr.o WJ.o (W.o) (WF.o)⟩
          case measure=>rw[K.o];simp[intOf];omega
    .obtain rfl:i=nb:=aa;have hd:decide ((i:Int)<(i:Int))=ζ:=ag
     go_wp2_with fail
     go_roundg (gk-1)
     case measure=>have:=WU.o;have:=UR L;omega
     case rel=>exact⟨G,ch,rfl,WI.o,N.o,fun hc=>by have:=R.yes hc;have:=WU.o;omega,fun hc=>⟨by have h1:=(R.no hc).1;rw[h1];have:=WU.o;omega,fun j hj n=>by have h1:=(R.no hc).1;rw[h1];exact(R.no hc).2 j hj n⟩⟩
def nK (W:World) (B0:Nat) (v0:Value) (gB gH:Nat) (v:Value) (o:Option BrD):Prop:=
 match o with
 |none=>v=.pointer δ
 |some b=>∃(g k:Nat) (bv:BrV),v=.pointer (γ ⟨g,k,δ⟩)/\B0<=g/\v0.ownBlock≠γ g/\g≠gB/\g≠gH/\g<W.heap.size/\(∀t u,bv.cs[t]? =γ u->W.cell? ⟨g,k+t,δ⟩=γ u)/\vW W bv b
section
variable {W W':World} {B0:Nat} {v0 v1:Value} {gB gH:Nat} {v:Value} {o:Option BrD}
def nK.ext(h:nK W B0 v0 gB gH v o)(x:Ext W W'):nK W' B0 v0 gB gH v o:=by
 cases o with
 |none=>exact h
 |some b=>
  obtain⟨g,k,bv,D,B,I,C,G,j,F,l⟩:=h;exact⟨g,k,bv,D,B,I,C,G,π j x.size,fun t u H=>x.cell_ (F t u H),l.ext x⟩
def ww{S}(m:Mod S W W'){g i u}(Z:g<W.heap.size)(hS:¬S g)(h:W.cell? ⟨g,i,δ⟩=γ u):W'.cell? ⟨g,i,δ⟩=γ u:=zQ (m.block g Z hS) h
def nK.mod{S}(h:nK W B0 v0 gB gH v o)(m:Mod S W W')(H:gK S W)(hS:∀g,S g->g<B0\/v0.ownBlock=γ g\/g=gB\/g=gH):nK W' B0 v0 gB gH v o:=by
 cases o with
 |none=>exact h
 |some b=>
  obtain⟨g,k,bv,F,D,B,j,l,C,G,I⟩:=h;have hn:¬S g:=fun e=>by
   rcases hS g e with e|e|e|e
   .omega
   .exact B e
   .exact j e
   .exact l e
  exact⟨g,k,bv,F,D,B,j,l,π C m.size,fun t u J=>ww m C hn (G t u J),I.fT m H⟩
def nK.own(h:nK W B0 v0 gB gH v o)(hv:∀g,v1.ownBlock=γ g->v0.ownBlock=γ g\/W.heap.size<=g):nK W B0 v1 gB gH v o:=by
 cases o with
 |none=>exact h
 |some b=>
  obtain⟨g,k,bv,D,l,H,B,G,j,F,C⟩:=h;refine⟨g,k,bv,D,l,fun e=> ?_,B,G,j,F,C⟩;rcases hv g e with e|e
  .exact H e
  .omega
def nK.WC(h:nK W B0 v0 gB gB v o)(x:Ext W W'){g}(J:W.heap.size<=g):nK W' B0 v0 gB g v o:=by
 cases o with
 |none=>exact h
 |some b=>
  obtain⟨g',k,bv,D,B,H,C,I,j,F,l⟩:=h;exact⟨g',k,bv,D,B,H,C,aa,π j x.size,fun t u G=>x.cell_ (F t u G),l.ext x⟩
def nK.is(h:nK W B0 v0 gB gH v o){X}(L:X<B0):nR W X v o:=by
 cases o with
 |none=>exact h
 |some b=>
  obtain⟨g,k,bv,B,D,H,F,G,l,C,j⟩:=h;exact⟨g,k,bv,B,aa,l,C,j.pa,j.pb,j.z0,j.z1,j.e⟩
def nK.low(h:nK W B0 v0 gB gH v o){g k}(e:v=.pointer (γ ⟨g,k,δ⟩)):B0<=g:=by
 cases o with
 |none=>have h:v=.pointer δ:=h;rw[h] at e;injection e with e;cases e
 |some b=>
  obtain⟨g',B,bv,j,l,_⟩:=h;rw[j] at e;injection e with e;injection e with e;injection e with e _ _;omega
def agc{g bv b}(hb:Blk W g 167 bv.cs.toArray)(hi:vW W bv b)(C:B0<=g)(l:v0.ownBlock≠γ g)(j:g≠gB)(D:g≠gH):nK W B0 v0 gB gH (.pointer (γ ⟨g,0,δ⟩)) (γ b):=
 ⟨g,0,bv,rfl,C,l,j,D,hb.lt,fun t u B=>by rw[aaA,hb.cell,Ω];exact B,hi⟩
end
structure Gs (w W:World) (gx gf gB gH:Nat) (C:Nat->Value) (Bv:Nat->BrV) (brs:List BrD) (n:Nat) (wv:Nat->Value) (wd:Nat->Option BrD):Prop where
 r:Gr0 w W gx gf C brs.length Bv brs
 c13:C 13=.slice (γ ⟨gB,0,δ⟩) n n
 bB:fu W gB 165 n wv
 lB:w.heap.size<=gB
 wy:∀j,j<n->nK W w.heap.size (C 0) gB gH (wv j) (wd j)
section
variable {w W W':World} {gx gf gB gH n:Nat} {C:Nat->Value} {Bv:Nat->BrV} {brs:List BrD} {wv:Nat->Value} {wd:Nat->Option BrD}
def Gs.ext(h:Gs w W gx gf gB gH C Bv brs n wv wd)(x:Ext W W'):Gs w W' gx gf gB gH C Bv brs n wv wd:=
 ⟨h.r.ext x,h.c13,h.bB.ext x,h.lB,fun j l=>(h.wy j l).ext x⟩
def nN.ne{v k B0}(h:nN W B0 v k Bv){g t cs}(hb:Blk W g t cs)(l:t≠167):v.ownBlock≠γ g:=fun e=>by
 rcases h with ⟨rfl,_⟩|⟨g',G,B',rfl,_,_,j,_⟩
 .cases e
 .have:g'=g:=by simpa[Value.ownBlock] using e
  subst this;exact Blk.fQ hb j l rfl
def Gs.set(h:Gs w W gx gf gB gH C Bv brs n wv wd){i v}(hi:i<33)(B:i≠0)(T:i≠13)(hv:mU v=ε)(Y:W'=W.setCell ⟨gx,i,δ⟩ v):Gs w W' gx gf gB gH (upd C i v) Bv brs n wv wd/\Mod (fun k=>k=gx) W W':=by
 subst Y;obtain⟨F,l⟩:=h.r.set v hi B hv;have lx:=h.r.lx;have lB:=h.lB;refine⟨⟨F,by rw[upd_ne (aax T)];exact h.c13,h.bB.mod l aa,lB,fun j G=> ?_⟩,l⟩;rw[upd_ne (aax B)];exact(h.wy j G).mod l h.r.far (fun g D=> .inl (by have D:g=gx:=D;omega))
def Gs.V6(h:Gs w W gx gf gB gH C Bv brs n wv wd)(hn:∀j,j<n->mU (wv j)=ε):gK (fun k=>k=gB) W:=afd h.bB (fun k l=>hn k l) (fun k l=>l)
def nK.mU{B0:Nat}{v0:Value}{v:Value}{o:Option BrD}(h:nK W B0 v0 gB gH v o):mU v=ε:=by
 cases o with
 |none=>have h:v=.pointer δ:=h;rw[h];rfl
 |some b=>obtain⟨g,k,bv,j,_⟩:=h;rw[j];rfl
def Gs.ptr(h:Gs w W gx gf gB gH C Bv brs n wv wd){i v}{o:Option BrD}(hi:i<n)(hv:nK W w.heap.size (C 0) gB gH v o)(Y:W'=W.setCell ⟨gB,i,δ⟩ v):Gs w W' gx gf gB gH C Bv brs n (upd wv i v) (upd wd i o)/\Mod (fun k=>k=gB) W W'/\gK (fun k=>k=gB) W:=by
 subst Y;have B:Mod (fun k=>k=gB) W (W.setCell ⟨gB,i,δ⟩ v):=Mod.set _ _ _ _ rfl;have D:=h.V6 (fun j F=>(h.wy j F).mU);have lB:=h.lB;refine⟨⟨h.r.mod B (fun k G=>by have G:k=gB:=G;omega) D (fun g l e=> ?_),h.c13,h.bB.set v hi,lB,fun j F=> ?_⟩,B,D⟩
 .have e:g=gB:=e;subst e;exact h.r.own.ne h.bB aj l
 .by_cases e:j=i
  .subst e;rw[upd_same,upd_same];exact hv.mod B D (fun g l=> .inr (.inr (.inl l)))
  .rw[upd_ne e,upd_ne e];exact(h.wy j F).mod B D (fun g l=> .inr (.inr (.inl l)))
def Gs.push{W2}(h:Gs w W gx gf gB gH C Bv brs n wv wd){r b K}(T:vW W r b)(S:nN W' w.heap.size K (brs.length+1) (upd Bv brs.length r))(hm:Mod (fun g=>(C 0).ownBlock=γ g) W W')(hv:∀g,K.ownBlock=γ g->(C 0).ownBlock=γ g\/g=W.heap.size)(Y:W2=W'.setCell ⟨gx,0,δ⟩ K):
  Gs w W2 gx gf gB gH (upd C 0 K) (upd Bv brs.length r) (brs++[b]) n wv wd/\Mod (fun g=>g=gx\/(C 0).ownBlock=γ g) W W2/\gK (fun g=>g=gx\/(C 0).ownBlock=γ g) W:=by
 obtain⟨P,B,J⟩:=h.r.push T S hm Y;have lx:=h.r.lx;have lB:=h.lB;have Z:(brs++[b]).length=brs.length+1:=ag;refine⟨⟨by rw[Z];exact P,by rw[upd_ne aj];exact h.c13,h.bB.mod B (fun e=> ?_),lB,fun j G=> ?_⟩,B,J⟩
 .rcases e with e|e
  .omega
  .exact h.r.own.ne h.bB aj e
 .rw[upd_same];have I:=((h.wy j G).own (v1:=K) (fun g O=>(hv g O).imp id (fun e=>aa)));cases F:wd j with
  |none=>have D:=h.wy j G;rw[F] at D;exact D
  |some d=>
   have D:=h.wy j G;rw[F] at I D;obtain⟨g,k,bv,L,R,e3,e4,M,H,N,U⟩:=I;obtain⟨g',k',l,q1,q2,Q,_⟩:=D;rw[L] at q1;injection q1 with q1;injection q1 with q1;injection q1 with q1 _ _;subst q1;have hn:¬(g=gx\/(C 0).ownBlock=γ g):=fun e=>by
    rcases e with e|e
    .omega
    .exact Q e
   exact⟨g,k,bv,L,R,e3,e4,M,π H B.size,fun t u V=>ww B H hn (N t u V),U.fT B J⟩
def Gs.older(h:Gs w W gx gf gB gH C Bv brs n wv wd){wa}(x:Ext wa w)(Z:wa.heap.size<=gx):Ext wa W:=eH x h.r.m (fun k j=>by have j:k=gx:=j;omega)
end
theorem QH{s p}(h:kF s p=0):kF s (resolve 0 p)=0:=by
 have Z:∀i,((resolve 0 p).links.getD i [])=(p.links.getD i []).map (mv 0):=fun i=>uR 0 p i;have j:(resolve 0 p).links.length=p.links.length:=by simp[resolve]
 have l:(resolve 0 p).closed=p.closed:=rfl;unfold kF at h⊢;rw[j,l];split at h
 .rename_i G
  rw[ι G];split at h
  .rename_i B
   rw[ι (by
    rw[nH] at B⊢;intro i hi;have:=B i hi;rw[Z,aaI];exact this)]
   split at h
   .rename_i F
    rw[ι (by
     rw[nH] at F⊢;intro i hi;have C:=F i hi;rw[nH] at C⊢;rw[Z];intro x J;obtain⟨y,R,rfl⟩:=aaf.1 J;have D:=C y R;unfold mv;split
     .unfold nS at D⊢;simp_all
     .exact D)]
   .exact absurd h aj
  .exact absurd h aj
 .exact absurd h aj
def Io{s p i b}(h:iV s p i=γ b):fV s p (i+1)=fV s p i++[b]:=by
 show fV s p i++(iV s p i).toList=_;rw[h];rfl
def Ho{s p i}(h:iV s p i=δ):fV s p (i+1)=fV s p i:=by
 show fV s p i++(iV s p i).toList=_;rw[h];simp
theorem AR{s p i}(h:ol s p i=ζ):iV s p i=δ:=by
 unfold iV;simp only[];rw[θ (by rw[h];decide)]
theorem Ch{s p i l e}(h:ol s p i=ζ):sw s p l e i=ζ:=by
 unfold sw;rw[h];rfl
theorem JD{s p i l e}(h:(s.bays.getD i η).kind≠1):sw s p l e i=ζ:=by
 unfold sw;rw[υ h];simp
def wd0 (s:StD) (p:dB) (k j:Nat):Option BrD:=if j<k then iV s p j else δ
structure Bt (w W:World) (gx gf gB g7 g8 g9:Nat) (ST PO FL:Array Value) (C:Nat->Value) (Bv:Nat->BrV) (wv:Nat->Value) (s:StD) (p:dB) (i k:Nat):Prop where
 g:Gs w W gx gf gB gB C Bv (fV s p i) s.bays.length wv (wd0 s p k)
 b7:Blk W g7 27 ST
 b8:Blk W g8 31 PO
 b9:Blk W g9 33 FL
 ends:∀l e,l<6->e<2->C (1+2*l+e)=.int .i64 (Cz s p l e i:Nat)
 c14:C 14=.int .i64 0
 liv:∀k,k<18->C (15+k)=.bool ζ
section
variable {w W W' W2:World} {gx gf gB g7 g8 g9:Nat} {ST PO FL:Array Value} {C:Nat->Value} {Bv:Nat->BrV} {wv:Nat->Value} {s:StD} {p:dB} {i k:Nat}
def Bt.ext(h:Bt w W gx gf gB g7 g8 g9 ST PO FL C Bv wv s p i k)(x:Ext W W'):Bt w W' gx gf gB g7 g8 g9 ST PO FL C Bv wv s p i k:=
 ⟨h.g.ext x,h.b7.ext x,h.b8.ext x,h.b9.ext x,h.ends,h.c14,h.liv⟩
def Gs.congr{n gH brs}{wd l:Nat->Option BrD}(h:Gs w W gx gf gB gH C Bv brs n wv wd)(e:∀j,j<n->wd j=l j):Gs w W gx gf gB gH C Bv brs n wv l:=
 ⟨h.r,h.c13,h.bB,h.lB,fun j B=>by rw[<-e j B];exact h.wy j B⟩
theorem OW{j}(hb:iV s p k=δ):wd0 s p k j=wd0 s p (k+1) j:=by
 unfold wd0;by_cases l:j<k
 .rw[ι l,ι aa]
 .by_cases B:j=k
  .subst B;rw[θ l,ι aa,hb]
  .rw[θ l,θ aa]
theorem Pm{j b}(hb:iV s p k=γ b):upd (wd0 s p k) k (γ b) j=wd0 s p (k+1) j:=by
 by_cases l:j=k
 .subst l;rw[upd_same];unfold wd0;rw[ι aa,hb]
 .rw[upd_ne l];unfold wd0;by_cases B:j<k
  .rw[ι B,ι aa]
  .rw[θ B,θ aa]
def Da{l e}(h:sw s p l e i=ζ):Cz s p l e (i+1)=Cz s p l e i:=by
 show(if sw s p l e i=ε then lJ s p i else Cz s p l e i)=_;rw[h,θ aj]
def Bt.skip(h:Bt w W gx gf gB g7 g8 g9 ST PO FL C Bv wv s p i i)(hb:iV s p i=δ)(O:∀l e,sw s p l e i=ζ):Bt w W gx gf gB g7 g8 g9 ST PO FL C Bv wv s p (i+1) (i+1):=
 ⟨by rw[Ho hb];exact h.g.congr fun j _=>OW hb,h.b7,h.b8,h.b9,fun l e Z B=>by rw[Da (O l e)];exact h.ends l e Z B,h.c14,h.liv⟩
def Bt.ptr(h:Bt w W gx gf gB g7 g8 g9 ST PO FL C Bv wv s p i i)(hi:i<s.bays.length){b}(hb:iV s p i=γ b){v}(hv:nK W w.heap.size (C 0) gB gB v (γ b))(Y:W'=W.setCell ⟨gB,i,δ⟩ v):Bt w W' gx gf gB g7 g8 g9 ST PO FL C Bv (upd wv i v) s p i (i+1)/\Mod (fun k=>k=gB) W W'/\gK (fun k=>k=gB) W:=by
 obtain⟨B,l,D⟩:=h.g.ptr hi hv Y;exact⟨⟨B.congr fun j _=>Pm hb,h.b7.mod l (Blk.fQ h.b7 h.g.bB aj),h.b8.mod l (Blk.fQ h.b8 h.g.bB aj),h.b9.mod l (Blk.fQ h.b9 h.g.bB aj),h.ends,h.c14,h.liv⟩,l,D⟩
def Bt.push(h:Bt w W gx gf gB g7 g8 g9 ST PO FL C Bv wv s p i (i+1)){b}(hb:iV s p i=γ b)(O:∀l e,sw s p l e i=ζ){r K}(G:vW W r b)(F:nN W' w.heap.size K ((fV s p i).length+1) (upd Bv (fV s p i).length r))(H:Mod (fun g=>(C 0).ownBlock=γ g) W W')(hv:∀g,K.ownBlock=γ g->(C 0).ownBlock=γ g\/g=W.heap.size)(Y:W2=W'.setCell ⟨gx,0,δ⟩ K):
  Bt w W2 gx gf gB g7 g8 g9 ST PO FL (upd C 0 K) (upd Bv (fV s p i).length r) wv s p (i+1) (i+1):=by
 obtain⟨D,j,I⟩:=h.g.push G F H hv Y;refine⟨by rw[Io hb];exact D,h.b7.mod j ?_,h.b8.mod j ?_,h.b9.mod j ?_,fun l e Z j=> ?_,?_,fun k B=> ?_⟩
 .rintro(e|e)
  .exact Blk.fQ h.b7 h.g.r.g aj e
  .exact h.g.r.own.ne h.b7 aj e
 .rintro(e|e)
  .exact Blk.fQ h.b8 h.g.r.g aj e
  .exact h.g.r.own.ne h.b8 aj e
 .rintro(e|e)
  .exact Blk.fQ h.b9 h.g.r.g aj e
  .exact h.g.r.own.ne h.b9 aj e
 .rw[upd_ne aa,Da (O l e)];exact h.ends l e Z j
 .rw[upd_ne aa];exact h.c14
 .rw[upd_ne aa];exact h.liv k B
end
structure Cj (w W:World) (gx gf:Nat) (C:Nat->Value) (Bv:Nat->BrV) (s:StD) (p:dB) (f:dR):Prop where
 r:Gr0 w W gx gf C (bX s p f).length Bv (bX s p f)
 ends:∀l e,l<6->e<2->C (1+2*l+e)=.int .i64 (mJ s p l e:Nat)
 c14:C 14=.int .i64 (dU s p f:Nat)
 liv:∀k,k<18->C (15+k)=.bool ζ
 bays:∃(gB:Nat) (wv:Nat->Value),C 13=.slice (γ ⟨gB,0,δ⟩) s.bays.length s.bays.length/\w.heap.size<=gB/\fu W gB 165 s.bays.length wv/\∀i,i<s.bays.length->nR W gx (wv i) (way s p f i)/\∀g k,wv i=.pointer (γ ⟨g,k,δ⟩)->w.heap.size<=g
def Py:(prog.info? 165).map (fun i=>(i.zero,i.size,i.bytes))=γ (γ (.pointer δ),1,8):=ah
theorem Ni(n:Nat)(hn:n<=1000)(W:World):(Instr.makeSlice 98 (.int .i64 n) (.int .i64 n)).run prog W=.ok (.slice (γ ⟨W.heap.size,0,δ⟩) n n) (W.alloc (.cells (ofC n fun _=> .pointer δ) 165)):=by
 obtain⟨i0,C,l,B,j⟩:=abP Py;have h:=ac7 (P:=prog) W 98 165 i0 (.pointer δ) underlying98 C l .i64 .i64 n n aa aa Abs aa;rw[h,B];have e:=qj [Value.pointer δ] aj n;have D:(nJ n [Value.pointer δ]).toArray=ofC n fun _=>Value.pointer δ:=by
  apply Array.ext';unfold nJ ofC;simp[List.flatMap,List.map_const']
 rw[D] at e;simp only[aah];rw[show(Value.pointer δ).cells=[Value.pointer δ].toArray from rfl];exact congrArg (fun c=>Result.ok (Value.slice (γ ⟨W.heap.size,0,δ⟩) n n) (W.alloc (.cells c 165))) e
def oP:Op->Bool
 | .nilCheck _=>ε
 |o=>gI o
def zf{P w w'}{n:Next}(h:Sem.run P (runtimePanic (α:=Next) .nilDeref) w=.ok n w'):False:=by
 simp[runtimePanic,aaK] at h
theorem VG{P}{ev:Operand->Value}{o}{x:Operand}{w w'}{n:Next}(j:o.op=.nilCheck x)(h:(execOp ev o).run P w=.ok n w'):∃v,n=.value v:=by
 unfold execOp at h;simp only[j] at h;split at h
 .exact(zf h).elim
 .exact(zf h).elim
 .exact(zf h).elim
 .split at h
  .exact(zf h).elim
  .simp only[aaK] at h;generalize Sem.run P program w=r1 at h;cases r1 with
   |halt x w=>simp[Result.andThen] at h
   |ok p w1=>
    simp only[aaF] at h;generalize Sem.run P (nilAhead _ _ _ _) w1=r2 at h;cases r2 with
    |halt x w=>simp[Result.andThen] at h
    |ok b w2=>
     simp only[aaF] at h;split at h
     .simp[unsupported,Result.andThen] at h
     .simp at h;exact⟨_,h.1.symm⟩
  .simp at h;exact⟨_,h.1.symm⟩
 .simp at h;exact⟨_,h.1.symm⟩
def Ah{P}{ev:Operand->Value}{o w w'}(hp:oP o.op=ε)(h:(execOp ev o).run P w=.ok .skip w'):False:=by
 by_cases hn:∃x,o.op=.nilCheck x
 .obtain⟨x,J⟩:=hn;obtain⟨v,hv⟩:=VG J h;cases hv
 .refine uJ (o:=o) ?_ h;exact AbC
def yQ{P}{ev:Operand->Value}{o w w' f args}(hp:oP o.op=ε)(h:(execOp ev o).run P w=.ok (.enter f args) w'):False:=by
 by_cases hn:∃x,o.op=.nilCheck x
 .obtain⟨x,J⟩:=hn;obtain⟨v,hv⟩:=VG J h;cases hv
 .refine jU (o:=o) ?_ h;exact AbC
section
variable {P:Program} {ops:Array Oper} {Q Q':Exit->Act->World->Prop} {S:World->Prop}
theorem Cv{o a v}(hp:oP o.op=ε)(Y:Region.wanted o (yielded ops a.tmps)=ε)(h:∀w,S w->o.quietAt P a S w v):YieldsIf P ops S o v a:=by
 refine .inl ⟨Y,fun w hS=> ?_⟩;have j:=h w hS;unfold Oper.quietAt at j;generalize l:(execOp a.eval o).run P w=C at*
 cases C with
 |ok nx w'=>
  cases nx<;>simp only[Oper.quietUpon] at j
  case value u=>obtain⟨rfl,rfl⟩:=j;rfl
  case skip=>exact(Ah hp l).elim
  case enter f args=>exact(yQ hp l).elim
 |halt x w'=>simp only[Oper.quietUpon] at j
def vM (ops:Array Oper) (n:Nat):List (Bool×Nat)->Array Bool->Bool
 |[],listed=>Region.seqB .any ops (ops.size-n) n listed
 |(ε,i)::rest,listed=>((ops[i]?).map fun o=>oP o.op).getD ζ&&Region.free .any ops listed i&&(Region.ready .any ops listed).contains i&&decide (i<n)&&vM ops n rest (listed.setIfInBounds i ε)
 |(ζ,i)::rest,listed=>decide (Region.ready .any ops listed=[i])&&decide (i<n)&&vM ops n rest (listed.setIfInBounds i ε)
theorem nY{n}{L:Act->World->Prop}(C:Region.noSelect ops=ε)(hs:Region.sinkB .any ops n=ε)(hc:Region.chainB .any ops n=ε)(hn:n<ops.size):
  ∀(ord:List (Bool×Nat)) (B:Array Bool) (a:Act) (w:World),HeadInv .any ops n B->vM ops n ord B=ε->S w->bQ P ops S L ord a w->
  rT P ops S n (fun D a' w'=>Region.seqB .any ops (ops.size-n) n D=ε/\L a' w') ord.length B a w
 |[],B,a,w,_,hB,_,h=>⟨by simpa[vM] using hB,h⟩
 |(ε,i)::rest,B,a,w,inv,hB,hS,h=>by
  simp only[vM,τ,Λ] at hB;obtain⟨⟨⟨⟨hp,I⟩,R⟩,Q⟩,K⟩:=hB;have N:i∈Region.ready .any ops B:=by simpa using R
  unfold bQ at h;cases l:ops[i]? with
  |none=>simp[l] at h
  |some o=>
   simp only[l] at h;have J:oP o.op=ε:=by simpa[l] using hp
   by_cases Y:Region.wanted o (yielded ops a.tmps)=ε
   .rw[ι Y] at h;obtain⟨v,O,M⟩:=h;exact jy (v:=v) l (aaz C) hs hc hn Q (fun _ _ _ F=>abO F.1) _ _ _ _ inv (aaT l I) N (Cv J Y O) hS (nY C hs hc hn rest _ _ _ (inv.set N Q) K hS M)
   .rw[θ Y] at h;exact jy (v:=undef) l (aaz C) hs hc hn Q (fun _ _ _ F=>abO F.1) _ _ _ _ inv (aaT l I) N (.inr ⟨by simpa using Y,rfl⟩) hS (nY C hs hc hn rest _ _ _ (inv.set N Q) K hS h)
 |(ζ,i)::rest,B,a,w,inv,hB,hS,h=>by
  simp only[vM,τ,Λ] at hB;unfold bQ at h;refine⟨by rw[hB.1.1];simp,fun j H=> ?_⟩;have G:=H;rw[hB.1.1] at H;obtain rfl:j=i:=by simpa using H
  exact⟨hB.1.2,acJ (fun a' w' h=>⟨h.1,nY C hs hc hn rest _ _ _ (inv.set G hB.1.2) hB.2 h.1 h.2⟩) h⟩
def oN{K a}{w:World}{l:List Oper}(n S)(ord:List (Bool×Nat))(O:P.follows .mixedOrders=ε)(M:(Region.noSelect l.toArray&&Region.sinkB .any l.toArray n&&Region.chainB .any l.toArray n&&decide (n<l.length)&&decide (ord.length=n)&&vM l.toArray n ord (Array.replicate l.length ζ))=ε)(hS:S w.drew)(h:bQ P l.toArray S (fun a' w'=>wpList P l.toArray Q (l.drop n) a' w') ord a w.drew):(Code.region K l.toArray ε).wp P Q a w:=by
 simp only[τ,Λ] at M;obtain⟨⟨⟨⟨⟨C,hs⟩,hc⟩,hn⟩,T⟩,F⟩:=M;have G:n<l.toArray.size:=by simpa using hn
 have D:HeadInv .any l.toArray n (Array.replicate l.length ζ):=
  ⟨ag,fun j U _ Z=>AaP,fun t _ N=>adp (by simpa using N) (aaM _ _)⟩
 have H:=nY (P:=P) C hs hc G ord _ a w.drew D F hS h;have I:(l.drop n).length=l.toArray.size-n:=ag;have J:=mP (P:=P) (Q:=Q) (n:=n) (g:=l.toArray.size-n) (fun B a' w' L=>by
  have:=ab5 (P:=P) (ops:=l.toArray) (md:=.any) (Q':=Q) (l.drop n) n B a' w' (fun j=>ag) (by rw[I];exact L.1) L.2;rwa[I] at this) _ _ _ _ H
 exact Ab8
end
def hfs (s:StD) (p:dB) (f:dR) (k:Nat):BrD:=half s p f (k/2) (k%2)
structure Li (w W:World) (gx gf gB gH g6 g7:Nat) (ST FL:Array Value) (C:Nat->Value) (Bv:Nat->BrV) (wv:Nat->Value) (H:Nat->BrV) (s:StD) (p:dB) (f:dR) (n1:Nat) (brs:List BrD) (fv m:Nat):Prop where
 g:Gs w W gx gf gB gH C Bv brs s.bays.length wv (wd0 s p s.bays.length)
 bH:Blk W gH 221 (brc (n1*2) H).toArray
 lH:w.heap.size<=gH
 b6:Blk W g6 27 ST
 b7:Blk W g7 33 FL
 hv:∀k,k<m->vW W (H k) (hfs s p f k)
 ends:∀l e,l<6->e<2->C (1+2*l+e)=.int .i64 (mJ s p l e:Nat)
 c14:C 14=.int .i64 (fv:Int)
 liv:∀k,k<18->C (15+k)=.bool ζ
section
variable {w W W' W2:World} {gx gf gB gH g6 g7 n1 fv m:Nat} {ST FL:Array Value} {C:Nat->Value} {Bv:Nat->BrV} {wv:Nat->Value} {H:Nat->BrV} {s:StD} {p:dB} {f:dR} {brs:List BrD}
def afN(G:Gs w W gx gf gB gB C Bv brs s.bays.length wv (wd0 s p s.bays.length))(O:∀l e,l<6->e<2->C (1+2*l+e)=.int .i64 (mJ s p l e:Nat))(F:C 14=.int .i64 (fv:Int))(Z:∀k,k<18->C (15+k)=.bool ζ)(x:Ext W W2)(b6:Blk W2 g6 27 ST)(b7:Blk W2 g7 33 FL):
  Li w (W2.alloc (.cells (brc (n1*2) fun _=>ku).toArray 221)) gx gf gB W2.heap.size g6 g7 ST FL C Bv wv (fun _=>ku) s p f n1 brs fv 0:=by
 have D:Ext W2 (W2.alloc (.cells (brc (n1*2) fun _=>ku).toArray 221)):=Ext.new _ _;have B:=(G.ext x).ext D;have hs:=(G.ext x).r.m.size;exact⟨⟨B.r,B.c13,B.bB,B.lB,fun j I=>((G.wy j I).ext x).WC D (κ _)⟩,Blk.new _ _ _,hs,b6.ext D,b7.ext D,fun k H=>absurd H aa,O,F,Z⟩
end
def NL:(prog.info? 221).map (fun i=>(i.zero,i.size,i.bytes))=γ (γ (.agg (brc 2 fun _=>ku).toArray),40,608):=ah
def yx:∀n:Nat,nJ n (brc 2 fun _=>ku)=brc (n*2) fun _=>ku
 |0=>rfl
 |n+1=>by
  rw[pY,yx n,yX,show(n+1)*2=n*2+2 by omega];simp only[adC]
def II(n:Nat)(hn:n<=1000)(W:World):(Instr.makeSlice 220 (.int .i64 n) (.int .i64 n)).run prog W=.ok (.slice (γ ⟨W.heap.size,0,δ⟩) n n) (W.alloc (.cells (brc (n*2) fun _=>ku).toArray 221)):=by
 obtain⟨i0,C,l,B,j⟩:=abP NL;have h:=ac7 (P:=prog) W 220 221 i0 (.agg (brc 2 fun _=>ku).toArray) underlying220 C l .i64 .i64 n n aa aa Abs aa;rw[h,B];have e:=qj (brc 2 fun _=>ku) (by rw[kG];omega) n;rw[kG,yx] at e;simp only[aah];rw[show(Value.agg (brc 2 fun _=>ku).toArray).cells=(brc 2 fun _=>ku).toArray from rfl,e]
def KS{w wd j:World}{t}{z cs:List Value}(Z:z.length=cs.length)(hd:wd=w.alloc (.cells z.toArray t))(O:j=puts wd w.heap.size 0 cs):Blk j w.heap.size t cs.toArray/\Ext w j:=by
 have l:Blk wd w.heap.size t z.toArray:=by rw[hd];exact Blk.new _ _ _
 have M:Ext w wd:=by rw[hd];exact Ext.new _ _
 refine⟨?_,by rw[O];exact gz (κ _:Own w w.heap.size) 0 _ M⟩;have B:Blk (puts wd w.heap.size 0 cs) w.heap.size t (fF z.toArray 0 cs):=bY 0 cs l;rw[iy z cs Z] at B;rw[O];exact B
def twC (a b:Int):List Value:=[.int .i64 a,.int .i64 b]
def SV(a b):(prog.info? 64).map (·.size)=γ (twC a b).length:=ah
theorem U6(a b):∀v∈twC a b,v.oneCell'=ε:=by
 intro v hv;unfold twC at hv;simp only[pq,Z5,aa2] at hv;rcases hv with rfl|rfl<;>rfl
def nN.form{w B0 k v B}(h:nN w B0 v k B)(j:0<k):∃g c,v=.slice (γ ⟨g,0,δ⟩) k c:=by
 rcases h with ⟨_,h⟩|⟨g,G,_,h,_⟩
 .omega
 .exact⟨g,G,h⟩
def zI(s p):∀i,(fV s p i).length<=i
 |0=>κ _
 |i+1=>by
  show(fV s p i++(iV s p i).toList).length<=i+1;have:=zI s p i;cases iV s p i<;>simp<;>omega
def Rz(a b:En):(prog.info? 103).map (·.size)=γ (a.cells++b.cells).length:=ah
def SK(a b:En):∀v∈a.cells++b.cells,v.oneCell'=ε:=by
 intro v hv;rcases aba.1 hv with h|h
 .exact dP a v h
 .exact dP b v h
def Ou(b:BrV):(prog.info? 167).map (·.size)=γ b.cs.length:=by rw[lu];kernel_rfl
def UD{w W W':World}{g}{a b:En}(hb:Blk W g 103 (aO 2 fun _=>zEn).toArray)(J:Ext w W)(Z:w.heap.size<=g)(Y:W'=puts W g 0 (a.cells++b.cells)):Blk W' g 103 (a.cells++b.cells).toArray/\Ext w W'/\∀(v:Value) (q:GQ) (n:Nat),GV W v q n->GV W' v q n:=by
 have B:Mod (fun k=>k=g) W W':=by rw[Y];exact Mod.puts _ _ _ _ rfl
 have C:Far (fun k=>k=g) W:=fun k j _=>by
  have j:k=g:=j;rw[j];exact⟨_,_,hb,dm 2 _⟩
 refine⟨?_,eH J B (fun k j=>by have j:k=g:=j;omega),fun v q n h=>h.mod B C⟩;have l:=bY 0 (a.cells++b.cells) hb;rw[iy _ _ rf] at l;rw[Y];exact l
def Li.rng{w W gx gf gB gH g6 g7 n1 fv m ST FL C Bv wv H s p f brs}(h:Li w W gx gf gB gH g6 g7 ST FL C Bv wv H s p f n1 brs fv m){k o}(l:k<n1*2)(B:o=k*20):W.rangeAt gH o (H k).cs:=fun t v hv=>by
 have j:t<20:=by have:=(ν.1 hv).1;rwa[lu] at this
 subst B;rw[h.bH.cell,Ω,uY j l];exact hv
theorem Li.fin{w W W' gx gf gB gH g6 g7 ST FL C Bv wv S H s p f fv}(h:Li w W gx gf gB gH g6 g7 ST FL C Bv wv H s p f s.lines.length (bX s p f) fv (2*s.lines.length))(Q:fv=dU s p f)(K:kZ s)(L:Mod (fun k=>k=gB) W W')(hb:fu W' gB 165 s.bays.length S)(Y:∀j,j<s.bays.length->S j=if (s.bays.getD j η).kind=1 then .pointer (γ ⟨gH,(s.bays.getD j η).obj.toNat*40+(s.bays.getD j η).en.toNat*20,δ⟩) else wv j):Cj w W' gx gf C Bv s p f:=by
 have T:=h.g.V6 (fun j J=>(h.g.wy j J).mU);have lB:=h.g.lB;have lx:=h.g.r.lx;have lH:=h.lH;have D:gH≠gB:=Blk.fQ h.bH h.g.bB aj;refine⟨h.g.r.mod L (fun k F=>by have F:k=gB:=F;omega) T (fun g N e=> ?_),h.ends,by rw[<-Q];exact h.c14,h.liv,gB,S,h.g.c13,lB,hb,fun j J=> ?_⟩
 .have e:g=gB:=e;subst e;exact h.g.r.own.ne h.g.bB aj N
 .rw[Y j J];by_cases F:(s.bays.getD j η).kind=1
  .rw[ι F];have ho:=VY (K.obj j J) F;have O:=VK (K.rng j J);obtain⟨l,Z⟩:∃l:Nat,(s.bays.getD j η).obj.toNat=l:=⟨_,rfl⟩;obtain⟨e,B⟩:∃e:Nat,(s.bays.getD j η).en.toNat=e:=⟨_,rfl⟩;have U:l<s.lines.length:=aa;have P:e<2:=aa;have M:way s p f j=γ (hfs s p f (2*l+e)):=by
    unfold way hfs;rw[ι F,Z,B,show(2*l+e)/2=l by omega,show(2*l+e)%2=e by omega]
   rw[M,Z,B];have I:=(h.hv (2*l+e) aa).fT L T;have R:=h.rng (k:=2*l+e) (o:=l*40+e*20) aa aa;exact⟨⟨gH,l*40+e*20,H (2*l+e),rfl,aa,π h.bH.lt L.size,fun t u V=>ww L h.bH.lt D (R t u V),I.pa,I.pb,I.z0,I.z1,I.e⟩,fun g k G=>by injection G with G;injection G with G;injection G with G _ _;omega⟩
  .rw[θ F];have M:way s p f j=wd0 s p s.bays.length j:=by unfold way wd0;rw[θ F,ι J]
   rw[M];exact⟨((h.g.wy j J).mod L T (fun g N=> .inr (.inr (.inl N)))).is lx,fun g k G=>(h.g.wy j J).low G⟩
def zNd:List Value:=[.int .i64 0,.int .i64 0,.int .i64 0,.int .i64 0]
def TD:(prog.info? 187).map (·.zero)=γ (γ (.agg zNd.toArray)):=ah
def ndC (a b c d:Int):List Value:=[.int .i64 a,.int .i64 b,.int .i64 c,.int .i64 d]
def S9(a b c d):(prog.info? 187).map (·.size)=γ (ndC a b c d).length:=ah
theorem Vr(a b c d):∀v∈ndC a b c d,v.oneCell'=ε:=by
 intro v hv;unfold ndC at hv;simp only[pq,Z5,aa2] at hv;rcases hv with rfl|rfl|rfl|rfl<;>rfl
def Ms:List Value:=[.string ByteArray.empty,.int .i64 0,.int .i64 0,.int .i64 0,.int .i64 0,.int .i64 0]
def Ot:(prog.info? 83).map (·.zero)=γ (γ (.agg Ms.toArray)):=ah
def Ih(g):(prog.info? 83).map (·.size)=γ (Bp g).length:=ah
theorem Rh(b):∀v∈Bp b,v.oneCell'=ε:=by
 intro v hv;unfold Bp at hv;simp only[pq,Z5,aa2] at hv;rcases hv with rfl|rfl|rfl|rfl|rfl|rfl<;>rfl
structure Bz (w W:World) (gx gf gB g7 g8 g9:Nat) (ST PO FL:Array Value) (C:Nat->Value) (Bv:Nat->BrV) (wv:Nat->Value) (s:StD) (p:dB) (fn:Nat):Prop where
 g:Gs w W gx gf gB gB C Bv (fV s p s.bays.length) s.bays.length wv (wd0 s p s.bays.length)
 b7:Blk W g7 27 ST
 b8:Blk W g8 31 PO
 b9:Blk W g9 33 FL
 ends:∀l e,l<6->e<2->C (1+2*l+e)=.int .i64 (mJ s p l e:Nat)
 c14:C 14=.int .i64 (fn:Int)
 liv:∀k,k<18->C (15+k)=.bool ζ
section
variable {w W W' W2:World} {gx gf gB g7 g8 g9 fn:Nat} {ST PO FL:Array Value} {C:Nat->Value} {Bv:Nat->BrV} {wv:Nat->Value} {s:StD} {p:dB}
def af8(h:Bt w W gx gf gB g7 g8 g9 ST PO FL C Bv wv s p s.bays.length s.bays.length):Bz w W gx gf gB g7 g8 g9 ST PO FL C Bv wv s p 0:=⟨h.g,h.b7,h.b8,h.b9,h.ends,h.c14,h.liv⟩
def Bz.ext(h:Bz w W gx gf gB g7 g8 g9 ST PO FL C Bv wv s p fn)(x:Ext W W'):Bz w W' gx gf gB g7 g8 g9 ST PO FL C Bv wv s p fn:=⟨h.g.ext x,h.b7.ext x,h.b8.ext x,h.b9.ext x,h.ends,h.c14,h.liv⟩
def Bz.set(h:Bz w W gx gf gB g7 g8 g9 ST PO FL C Bv wv s p fn)(j:Nat)(Y:W'=W.setCell ⟨gx,14,δ⟩ (.int .i64 (j:Int))):Bz w W' gx gf gB g7 g8 g9 ST PO FL (upd C 14 (.int .i64 (j:Int))) Bv wv s p j:=by
 obtain⟨F,B⟩:=h.g.set (i:=14) (v:=.int .i64 (j:Int)) aa aa aa rfl Y;exact⟨F,h.b7.mod B (Blk.fQ h.b7 h.g.r.g aj),h.b8.mod B (Blk.fQ h.b8 h.g.r.g aj),h.b9.mod B (Blk.fQ h.b9 h.g.r.g aj),fun l e Z O=>by rw[upd_ne aa];exact h.ends l e Z O,upd_same ..,fun k D=>by rw[upd_ne aa];exact h.liv k D⟩
end
structure Bl (w W:World) (gx gf g7 g8 g9:Nat) (ST PO FL:Array Value) (C:Nat->Value) (l:Nat):Prop where
 g:Gr0 w W gx gf C 0 (fun _=>ku) []
 b7:Blk W g7 27 ST
 b8:Blk W g8 31 PO
 b9:Blk W g9 33 FL
 ends:∀j e,j<l->e<2->C (1+2*j+e)=.int .i64 (2*j+e:Nat)
 hi:∀k,13<=k->C k=zC k
section
variable {w W W':World} {gx gf g7 g8 g9 l:Nat} {ST PO FL:Array Value} {C:Nat->Value}
def Bl.put(h:Bl w W gx gf g7 g8 g9 ST PO FL C l)(Z:l<6)(Y:W'=puts W gx (1+l*2) (twC ((2*l:Nat):Int) ((2*l+1:Nat):Int))):∃C',Bl w W' gx gf g7 g8 g9 ST PO FL C' (l+1):=by
 obtain⟨G,m1⟩:=h.g.set (i:=1+l*2) (.int .i64 ((2*l:Nat):Int)) aa aa rfl;obtain⟨F,m2⟩:=G.set (i:=1+l*2+1) (.int .i64 ((2*l+1:Nat):Int)) aa aa rfl;have B:Mod (fun k=>k=gx) W W':=by rw[Y];exact m1.trans m2
 refine⟨_,by rw[Y];exact F,h.b7.mod B (Blk.fQ h.b7 h.g.g aj),h.b8.mod B (Blk.fQ h.b8 h.g.g aj),h.b9.mod B (Blk.fQ h.b9 h.g.g aj),fun j e J O=> ?_,fun k D=> ?_⟩
 .by_cases I:j=l
  .subst I;have H:e=0\/e=1:=aa;rcases H with rfl|rfl
   .rw[show 1+2*j+0=1+j*2 by omega,upd_ne aa,upd_same,Bn]
   .rw[show 1+2*j+1=1+j*2+1 by omega,upd_same]
  .rw[upd_ne aa,upd_ne aa];exact h.ends j e aa O
 .rw[upd_ne aa,upd_ne aa];exact h.hi k D
theorem Bl.made{s p}(h:Bl w W gx gf g7 g8 g9 ST PO FL C 6)(Y:W'=(W.alloc (.cells (ofC s.bays.length fun _=> .pointer δ) 165)).setCell ⟨gx,13,δ⟩ (.slice (γ ⟨W.heap.size,0,δ⟩) s.bays.length s.bays.length))(F:w.heap.size<=W.heap.size):
  Bt w W' gx gf W.heap.size g7 g8 g9 ST PO FL (upd C 13 (.slice (γ ⟨W.heap.size,0,δ⟩) s.bays.length s.bays.length)) (fun _=>ku) (fun _=> .pointer δ) s p 0 0:=by
 have J:Ext W (W.alloc (.cells (ofC s.bays.length fun _=> .pointer δ) 165)):=Ext.new _ _;obtain⟨G,D⟩:=(h.g.ext J).set (i:=13) (.slice (γ ⟨W.heap.size,0,δ⟩) s.bays.length s.bays.length) aa aa rfl;subst Y;have B:fu (W.alloc (.cells (ofC s.bays.length fun _=> .pointer δ) 165)) W.heap.size 165 s.bays.length (fun _=> .pointer δ):=Blk.new _ _ _;have lx:=h.g.lx;refine⟨⟨G,by rw[upd_same],B.mod D aa,F,fun j I=>rfl⟩,(h.b7.ext J).mod D (Blk.fQ h.b7 h.g.g aj),(h.b8.ext J).mod D (Blk.fQ h.b8 h.g.g aj),(h.b9.ext J).mod D (Blk.fQ h.b9 h.g.g aj),fun l e Z O=> ?_,?_,fun k H=> ?_⟩
 .rw[upd_ne aa];exact h.ends l e Z O
 .rw[upd_ne aa,h.hi 14 aa];rfl
 .rw[upd_ne aa,h.hi (15+k) aa];unfold zC;rw[θ aa,θ aa,θ aa,θ aa]
end
theorem RJ{s p}(h:kZ s){i}(hi:i<s.bays.length)(j:(sides s p i).1.1=1):0<=(sides s p i).1.2/\(sides s p i).1.2<4:=by
 have C:=KZ h p hi j;have G:=h.link hi;have D:0<=(sides s p i).1.2:=by
  unfold sides at j⊢;by_cases l:(s.bays.getD i η).kind=3
  .rw[ι l];exact(lC h p (h.bus hi (k:=0) aa).2).1
  .rw[θ l] at j⊢;simp only[] at j⊢;unfold uQ at j⊢;split
   .exact(lC h p (h.bus hi (k:=0) aa).2).1
   .split
    .rename_i B
     exact(lC h p (h.bus hi (k:=1) B.1).2).1
    .decide
 omega
theorem uy(gx gf sq nb cb:Nat)(un C A Bv brs)(fN:Nat)(w)(hc:bS w gf)(hg:fu w gx 105 393 C)(hn:sD w C A nb cb Bv brs (lv brs))(hf:C 14=.int .i64 (fN:Int))(Xk:fN<=17)(hu:un=ε->lv brs fN=ε)(XJ:sq<=1):
  Calls prog 125 #[.pointer (γ ⟨gx,0,δ⟩),.pointer (γ ⟨gf,0,δ⟩),.int .i64 (sq:Int),.bool un] w fun e w'=>∃f:Nat->En,e=.returned (.agg (aO 18 f).toArray)/\
   (∀k,k<18->GV w' (f k).v (qy (lv brs) (rwx (lv brs)) (cnt (lv brs) 18) (usd (lv brs) sq brs) (if un=ε then unit (rwx (lv brs) fN) else feed (rwx (lv brs)) (usd (lv brs) sq brs)) k) 841)/\Ext w w':=by
 have HN:=aJ hn;have HU:=aJ hu;have Yi:=aJ hf;have WU:=aJ Xk;have X8:=aJ XJ;have HC:=aJ hc;have HG:=aJ hg;clear hn hu hf Xk XJ hc hg;go_enter func125,ntmps125;(iterate 3 (try (first|go_values|go_skip|go_guarded|go_step|go_upon|go_in|go_back|go_simp)));refine eF rfl 100 rfl _ tY ?_;intro w1 l;refine Qp ?_;have WN:Hid (Blk w1 w.heap.size 100 (aO 18 fun _=>zEn).toArray):=aJ Adq;have HX:Hid (Ext w w1):=aJ (by rw[l];exact Ext.new _ _);clear l;generalize XB:w.heap.size=g8 at WN⊢;have Xp:Hid (w.heap.size<=g8):=aJ aa;clear XB;(iterate 5 (try (first|go_values|go_skip|go_guarded|go_step|go_upon|go_in|go_back|go_simp)));refine eF rfl 100 rfl _ tY ?_;intro w2 l;refine Qp ?_;have F:Ext w1 w2:=by rw[l];exact Ext.new _ _
 have WK:Hid (Blk w2 w1.heap.size 100 (aO 18 fun _=>zEn).toArray):=aJ Adq;have XT:Hid (w.heap.size<=w1.heap.size/\g8<w1.heap.size):=aJ ⟨HX.size,WN.lt⟩;replace WN:=WN.aA F;replace HX:=HX.aC F;clear F l;generalize w1.heap.size=g9 at WK XT⊢;(iterate 5 (try (first|go_values|go_skip|go_guarded|go_step|go_upon|go_in|go_back|go_simp)));refine eF rfl 222 rfl _ JE ?_;intro w3 l;refine Qp ?_;have F:Ext w2 w3:=by rw[l];exact Ext.new _ _
 have O:Hid (fu w3 w2.heap.size 222 18 fun _=> .int .i64 0):=aJ Adq;have Xx:Hid (w.heap.size<=w2.heap.size/\g9<w2.heap.size):=aJ ⟨HX.size,WK.lt⟩;replace WN:=WN.aA F;replace WK:=WK.aA F;replace HX:=HX.aC F;clear F l;generalize w2.heap.size=g10 at O Xx⊢;have Xh:w3.rangeAt gx 15 (jd (lv brs)):=(HG.ext HX.o).rangeAt (by simp[jd]) (fun j v hv=>um HN.o hv);have WS:=aJ Xh;clear Xh;(go_wp2_with (refine Θ rfl 99 _ rfl gx 15 rf (jd (lv brs)) _ WS.o abI rfl uF ?_));clear WS;go_loopw [11,26] (fun nv iv wr=>∃i:Nat,i<=18/\iv=.int .i64 i/\nv=.int .i64 (cnt (lv brs) i:Nat)/\Lp1 w wr g8 g9 g10 (lv brs) i i) (fun _ iv _=>18-(intOf iv).toNat)
 case atStart=>exact⟨0,aa,rfl,rfl,WN.o,⟨_,WK.o,by intros;omega⟩,O.congr (fun k hk=>by rw[θ aa]),HX.o,Xp.o,XT.o,Xx.o⟩
 case round=>
  clear WN WK O HX Xp XT Xx;obtain⟨i,hi,rfl,rfl,hR⟩:=hrel;have Q:=aJ hR;clear hR;by_cases WE:i<18
  .have hd:decide ((i:Int)<18)=ε:=ae;have WL:=Md (L:=lv brs) WE wr;have q1:(0:Int)<=(i:Int):=aa;have q2:(i:Int)<18:=aa;(go_wp2_with fail);refine(bW gf 0 _ (HC.ext Q.x) aa aa).mono ?_;rintro _ wa ⟨_,rfl,H,F⟩;obtain⟨eN,rfl⟩:=H.en;have HV:=aJ H;replace Q:=Q.aA F;clear H F WL;(iterate 5 (try (first|go_values|go_skip|go_guarded|go_step|go_upon|go_in|go_back|go_simp)));have N:=aJ (Q.there WE);refine aQ rfl 42 (.tmp 33) (.tmp 32) rfl g9 (i*6) eN.cells rf rf N.o bC (dP eN) ?_;intro wb l;refine Qp ?_;have WI:=aJ (Q.put WE HV.o l);clear Q HV N l;have XL:cnt (lv brs) i<=18:=lh (Ko i) hi;cases hL:lv brs i with
   |false=>
    have HL:=aJ hL;have Yc:=aJ (Q3 hL);go_wp2_with fail
    go_roundw
    case rel=>exact⟨i+1,aa,au,by rw[Yc.o],WI.skip HL.o⟩
    case measure=>simp[intOf];omega
   |true=>
    have HL:=aJ hL;have Yc:=aJ (Vo hL);have XF:=WI.b10.cell (k:=i) aa;have Yl:=WI.b10.frozen;go_wp2_with fail
    go_roundw
    case rel=>exact⟨i+1,aa,au,by rw[Yc.o],WI.row WE HL.o⟩
    case measure=>simp[intOf];omega
  .obtain rfl:i=18:=aa;have XL:cnt (lv brs) 18<=17:=Fw (Cg HN.ok).none;have WF:∃n,cnt (lv brs) 18=n:=⟨_,rfl⟩;obtain⟨n,WF⟩:=WF;have Xq:=aJ WF;rw[WF] at XL⊢;clear WF;have hd:decide ((18:Int)<18)=ζ:=aj;(go_wp2_with fail);refine(DZ gf n n _ (HC.ext Q.x) aa aa).mono ?_;rintro _ wB ⟨Ga,Ra,rfl,Yf⟩;have Yb:=aJ Yf;clear Yf;(go_wp2_with fail);refine(DZ gf n 1 _ ((HC.ext Q.x).ext Yb.ext) aa aa).mono ?_;rintro _ wC ⟨Gb,Rb,rfl,XR⟩;have WI:=aJ (af2 Q.o Yb.o XR);clear Q Yb XR;have k0:=HG.ext WI.p1.x;have XC:=k0.cell_ (k:=0) aa HN.br;have YL:=aJ k0;clear k0;(go_wp2_with fail);clear XC;have Yh:=aJ XL;go_loopw [53] (fun iv wz=>∃i:Nat,i<=nb/\iv=.int .i64 i/\Lp2 w wz g8 g9 g10 Ga Gb (lv brs) n Ra Rb (eqA (lv brs) sq brs i) (eqB (lv brs) sq brs i)) (fun iv _=>nb-(intOf iv).toNat)
   case atStart=>exact⟨0,aa,rfl,WI.o⟩
   case round=>
    clear WI YL hd;rename World=>wz;obtain⟨i,hi,rfl,hR⟩:=hrel;have Q:=aJ hR;clear hR;by_cases WE:i<nb
    .have hd:decide ((i:Int)<(nb:Int))=ε:=ae;obtain⟨bA,oA,hA,Xu,XE⟩:=HN.arr aa;subst hA;have X9:=aJ (show wz.rangeAt bA (oA+i*20) (Bv i).cs from fun j v hv=>Q.p1.x.cell_ (XE i WE j v hv));clear XE;(iterate 21 (try (first|go_values|go_skip|go_guarded|go_step|go_upon|go_in|go_back|go_simp)));refine Θ rfl 167 _ rfl bA (oA+i*20) rf (Bv i).cs _ X9.o ab8 rfl wM ?_;refine eF rfl 167 rfl _ Ll ?_;intro wd Xn;refine aQ rfl 167 (.tmp 17) (.tmp 56) rfl wz.heap.size 0 (Bv i).cs rf rf AcF wM (Jw _) ?_;intro we Xf;refine Qp ?_;have WH:Blk wd wz.heap.size 167 zBr:=by rw[Xn];exact Blk.new _ _ _
     have M:Ext wz wd:=by rw[Xn];exact Ext.new _ _
     have P:Ext wz we:=by rw[Xf];exact gz (κ _:Own wz wz.heap.size) 0 _ M
     have WQ:Blk we wz.heap.size 167 (Bv i).cs.toArray:=by rw[Xf];exact PU WH
     have J:=aJ WQ;have W:=aJ P;replace Q:=Q.aA P;clear Xn Xf WH M P WQ;generalize wz.heap.size=Xg at J⊢;have Xw:wrap64 ((i:Int)+1)=(i:Int)+1:=aam _ (by have:=HN.len;have:=HN.l23;omega);have K:=aJ Xw;clear Xw;have hm:brs.getD i η∈brs:=Bi (by have:=HN.len;omega);have WR:=HN.ok _ hm;have WG:=HN.ab i WE;have T:=HN.len;have WW:=aJ WR;have Xb:=aJ WG;have Xy:=aJ T;clear WR WG T hm;have XQ:(Bv i).a<17:=by rw[Xb.o.1];exact WW.a
     have Xl:we.cell? ⟨Xg,0,δ⟩=γ (.int .i64 ((Bv i).a:Int)):=(J.cell 0).trans rfl;have Xj:we.cell? ⟨Xg,1,δ⟩=γ (.int .i64 ((Bv i).b:Int)):=(J.cell 1).trans rfl;have kc:we.cell? ⟨gf,0,δ⟩=γ (.int .i64 0):=((Blk.ext HC.o Q.p1.x).cell 0).trans rfl;have kl:=(HG.ext Q.p1.x).cell_ (k:=15+(Bv i).a) aa (HN.live (Bv i).a aa);cases hL:lv brs (Bv i).a with
     |false=>
      rw[hL] at kl;have WP:used (lv brs) (brs.getD i η)=ζ:=by unfold used;rw[<-Xb.o.1,hL];rfl
      have XI:=aJ WP;clear WP;(go_wp2_with fail);go_quiet (fail);go_wp2_with fail
      exact Ab1
     |true=>
      rw[hL] at kl;by_cases Xr:(Bv i).a=(Bv i).b
      .have WP:used (lv brs) (brs.getD i η)=ζ:=by unfold used;rw[<-Xb.o.1,<-Xb.o.2,hL,Xr];simp
       have XI:=aJ WP;clear WP;have X4:(((Bv i).a:Int) !=((Bv i).b:Int))=ζ:=by rw[Xr];simp
       clear Xr;(go_wp2_with fail);go_quiet (fail);go_wp2_with fail
       exact Ab1
      .have WP:used (lv brs) (brs.getD i η)=ε:=by unfold used;rw[<-Xb.o.1,<-Xb.o.2,hL];simp[Xr]
       have XI:=aJ WP;clear WP;have X4:(((Bv i).a:Int) !=((Bv i).b:Int))=ε:=ae;have Yk:=aJ Xr;have HL:=aJ hL;clear Xr;(go_wp2_with fail);go_quiet (fail);generalize U:we.drewN nq=wq;have WV:Ext we wq:=by rw[<-U];exact(Ext.refl _).drewN _
       have XX:=aJ WV;replace Q:=Q.aA WV;replace J:=J.aA WV;clear WV U Xl Xj kc kl X4;have XZ:wq.rangeAt g10 0 ((List.range 18).map fun k=>Value.int .i64 (rwx (lv brs) k:Nat)):=Q.p1.rng;have X6:wq.rangeAt Xg 0 (Bv i).cs:=fun j v hv=>(J.cell (0+j)).trans (by rw[aaA,Ω];exact hv);have X3:=aJ XZ;have X7:=aJ X6;clear XZ X6;(go_wp2_with (first|refine Θ rfl 222 _ rfl g10 0 rf _ _ X3.o underlying222 rfl J8 ?_|refine Θ rfl 167 _ rfl Xg 0 rf _ _ X7.o ab8 rfl wM ?_));clear X3 X7;refine(Od HN.o (bS.ext HC.o Q.p1.x) Q.o Xq.o (by have:=Xy.o;omega) XI.o X8.o (HC.lt)).mono ?_;rintro _ wf ⟨rfl,WO⟩;have Y:=aJ WO;clear WO;go_wp2_with fail
       go_roundw
       case rel=>exact⟨i+1,aa,by rw[K.o];rfl,Y.o⟩
       case measure=>rw[K.o];simp[intOf];omega
    .obtain rfl:i=nb:=aa;have hd:decide ((i:Int)<(i:Int))=ζ:=ag;have XY:brs.length=i:=HN.len;have Ya:=Q.a;rw[<-XY,Tc] at Ya;have HA:=aJ Ya;have B:=aJ Q.p1;clear Ya;cases un with
     |false=>
      have WM:=Q.b;rw[<-XY,TB] at WM;have XN:=aJ WM;clear WM Q XY;have XO:Hid (CK (rwx (lv brs)) (usd (lv brs) sq brs) (feed (rwx (lv brs)) (usd (lv brs) sq brs))):=aJ (Or.inl rfl);have kc:wz.cell? ⟨gf,0,δ⟩=γ (.int .i64 0):=((Blk.ext HC.o B.x).cell 0).trans rfl;(go_wp2_with fail);clear kc;refine(Dz HN.ok HN.l23 XO.o Xq.o HA.o XN.o).mono ?_;rintro _ wS ⟨G,RX,rfl,V,F⟩;have HO:=aJ V;replace B:=B.aA F;clear V F HA XN;(go_wp2_with fail);refine(Dh gf _ _ _ _ (bS.ext HC.o B.x)).mono ?_;rintro _ wK ⟨rfl,F⟩;replace HO:=HO.aA F;replace B:=B.aA F;clear F;have kc:wK.cell? ⟨gf,0,δ⟩=γ (.int .i64 0):=((Blk.ext HC.o B.x).cell 0).trans rfl;have Xh:wK.rangeAt gx 15 (jd (lv brs)):=(HG.ext B.x).rangeAt (by simp[jd]) (fun j v hv=>um HN.o hv);have WS:=aJ Xh;clear Xh;(go_wp2_with (refine Θ rfl 99 _ rfl gx 15 rf (jd (lv brs)) _ WS.o abI rfl uF ?_));clear WS kc;have Z:=aJ (afG B.o HO.o);clear B HO;go_loopw [129] (fun iv wr=>∃i:Nat,i<=18/\iv=.int .i64 i/\Lp3 w wr g8 g9 g10 G (lv brs) n RX (sol n (fq zmx ((usd (lv brs) sq brs).map (Nb.br (rwx (lv brs))))) (col (feed (rwx (lv brs)) (usd (lv brs) sq brs)))) i) (fun iv _=>18-(intOf iv).toNat)
      case atStart=>exact⟨0,aa,rfl,Z.o⟩
      case round=>
       exact Aae
     |true=>
      clear XY;have WT:∃r,rwx (lv brs) fN=r:=⟨_,rfl⟩;obtain⟨r,WT⟩:=WT;have YK:lv brs fN=ε:=HU.o rfl;have XK:r<n:=by rw[<-WT,<-Xq.o];exact(ae7 (fun k hk=>sO HN.ok hk)).lt _ YK
      have YC:=aJ YK;clear YK;have XL:n<=17:=Yh.o;(go_wp2_with fail);refine(DZ gf n 1 _ (bS.ext HC.o B.x) aa aa).mono ?_;rintro _ wD ⟨Gc,Rc,rfl,Yd⟩;have XG:=aJ Yd;clear Yd;(go_wp2_with fail);have Yg:=aJ (HG.ext (B.x.trans XG.ext));have X5:=aK.cell (Yg.cell_ (k:=14) aa Yi.o);have Ye:=aK.cell ((B.ext XG.ext).b10.cell_ (k:=fN) (v:=.int .i64 (r:Int)) Ac1 (by simp only[ι (show fN<18 by have:=WU.o;omega),WT]));have Yj:=aK.cell ((XG.mx (Ext.refl _)).hd XK aa);have Xk:=WU.o;have q1:(0:Int)<=(fN:Int):=aa;have q2:(fN:Int)<18:=aa;have q3:(0:Int)<=(r:Int):=aa;have q4:(r:Int)<(n:Int):=aa;have WZ:=aJ WT;clear WT;refine tN 12 [(2,.eq (.pointer (γ ⟨gx,0,δ⟩))),(10,.gv (GQ.i 1 0) 64)] ?_;refine Qs ?_;refine En_ ?_;intro lo Xt;refine Qs ?_;refine Ee (fun R I=>bW gf 1 _ (bS.ext HC.o ((B.x.trans XG.ext).trans I.1)) aa aa) ?_;intro e1 Xi WX;refine Qs ?_;refine bD ?_;intro wE I;have F:=I.ext;have W9:GV wE e1.v (GQ.i 1 0) 64:=ae0 (I.at_ 10 (e:=(e1.v,Xi,WX)) rf);have S:=aJ W9;have WJ:=aJ F;clear I F W9 X5 Ye Yj;have N:=aJ (Ke XG.o WJ.o XK);refine aQ rfl 42 (.tmp 102) (.tmp 101) rfl (Rc r).b 0 e1.cells rf rf N.o bC (dP e1) ?_;intro wF l;refine Qp ?_;have WY:=QE B.o HA.o XG.o WJ.o XK S.o l;clear N l S WJ XG Yg Q;replace B:=aJ WY.1;replace HA:=aJ WY.2.1;have XN:=aJ WY.2.2;clear WY;have XO:Hid (CK (rwx (lv brs)) (usd (lv brs) sq brs) (unit r)):=aJ (Or.inr ⟨_,rfl⟩);have WT:=WZ.o;subst WT;have kc:wF.cell? ⟨gf,0,δ⟩=γ (.int .i64 0):=((Blk.ext HC.o B.x).cell 0).trans rfl;(go_wp2_with fail);clear kc;refine(Dz HN.ok HN.l23 XO.o Xq.o HA.o XN.o).mono ?_;rintro _ wS ⟨G,RX,rfl,V,F⟩;have HO:=aJ V;replace B:=B.aA F;clear V F HA XN;(go_wp2_with fail);refine(Dh gf _ _ _ _ (bS.ext HC.o B.x)).mono ?_;rintro _ wK ⟨rfl,F⟩;replace HO:=HO.aA F;replace B:=B.aA F;clear F;have kc:wK.cell? ⟨gf,0,δ⟩=γ (.int .i64 0):=((Blk.ext HC.o B.x).cell 0).trans rfl;have Xh:wK.rangeAt gx 15 (jd (lv brs)):=(HG.ext B.x).rangeAt (by simp[jd]) (fun j v hv=>um HN.o hv);have WS:=aJ Xh;clear Xh;(go_wp2_with (refine Θ rfl 99 _ rfl gx 15 rf (jd (lv brs)) _ WS.o abI rfl uF ?_));clear WS kc;have Z:=aJ (afG B.o HO.o);clear B HO;go_loopw [129] (fun iv wr=>∃i:Nat,i<=18/\iv=.int .i64 i/\Lp3 w wr g8 g9 g10 G (lv brs) n RX (sol n (fq zmx ((usd (lv brs) sq brs).map (Nb.br (rwx (lv brs))))) (col (unit (rwx (lv brs) fN)))) i) (fun iv _=>18-(intOf iv).toNat)
      case atStart=>exact⟨0,aa,rfl,Z.o⟩
      case round=>
       exact Aae
def sU(g):∀(xs j:List Value) (k:Nat) (w:World),puts w g k (xs++j)=puts (puts w g k xs) g (k+xs.length) j
 |[],_,_,_=>rfl
 |x::xs,j,k,w=>by
  show puts (w.setCell ⟨g,k,δ⟩ x) g (k+1) (xs++j)=puts (puts (w.setCell ⟨g,k,δ⟩ x) g (k+1) xs) g (k+(xs.length+1)) j;rw[sU g xs j (k+1),show k+(xs.length+1)=k+1+xs.length by omega]
structure Sv (w0 w:World) (gx gf g5 g7:Nat) (C:Nat->Value) (E:Nat->En) (D:Nat->Prop) (Q:Nat->GQ) (f:dR) (f7:Nat->En) (bs:List BrD):Prop where
 g:GrS w0 w gx gf C E D Q 4400
 b5:Blk w g5 33 #[.int .i64 f.kind,.bool f.line,.int .i64 f.obj,.int .i64 f.num,.int .i64 f.den,.int .i64 f.r]
 b7:Blk w g7 100 (aO 18 f7).toArray
 v7:∀k,k<18->GV w (f7 k).v (bef bs k) 841
 l5:w0.heap.size<=g5
 l7:w0.heap.size<=g7
 lx:gx<w0.heap.size
section
variable {w0 w w':World} {gx gf g5 g7:Nat} {C:Nat->Value} {E:Nat->En} {D D':Nat->Prop} {Q Q':Nat->GQ} {f:dR} {f7:Nat->En} {bs:List BrD}
def Sv.ext(h:Sv w0 w gx gf g5 g7 C E D Q f f7 bs)(x:Ext w w'):Sv w0 w' gx gf g5 g7 C E D Q f f7 bs:=⟨h.g.ext x,h.b5.ext x,h.b7.ext x,fun k j=>(h.v7 k j).ext x,h.l5,h.l7,h.lx⟩
def Sv.to(h:Sv w0 w gx gf g5 g7 C E D Q f f7 bs)(hd:∀e,e<60->D' e->D e/\Q e=Q' e):Sv w0 w gx gf g5 g7 C E D' Q' f f7 bs:=⟨h.g.to hd,h.b5,h.b7,h.v7,h.l5,h.l7,h.lx⟩
def Sv.put(h:Sv w0 w gx gf g5 g7 C E D Q f f7 bs){e a x q n}(O:e<60)(hn:n<=4400)(J:GV w x.v q n)(ha:a=33+e*6)(Y:w'=puts w gx a x.cells):
  Sv w0 w' gx gf g5 g7 C (upd E e x) (fun k=>k=e\/D k) (upd Q e q) f f7 bs:=by
 subst ha;obtain⟨B,j⟩:=h.g.put O (J.up hn) Y;have l5:=h.l5;have l7:=h.l7;have lx:=h.lx;exact⟨B,h.b5.mod j (by show ¬g5=gx;omega),h.b7.mod j (by show ¬g7=gx;omega),fun k l=>h.g.H6 j (h.v7 k l),h.l5,h.l7,h.lx⟩
def Sv.net{A nb j Bv}(h:Sv w0 w gx gf g5 g7 C E D Q f f7 bs)(hn:sD w0 C A nb j Bv bs (lv bs))(l:gK (fun k=>k=gx) w0)(B:∀b o,A=γ ⟨b,o,δ⟩->b≠gx):sD w (eO C E) A nb j Bv bs (lv bs):=
 hn.mod h.g.m l B (fun i hi=>dM hi)
end
noncomputable def xJ (bs:List BrD) (fN:Nat) (f:dR) (e:Nat):GQ:=
 if f.kind≠0/\lv bs fN=ε then
  if e<54 then vlt bs fN f.kind f.r (e/18) (e%18) else if e<57 then fcu bs fN f.kind f.r (e-54) else if e=57 then bef bs fN else drp bs fN (e-58) fN
 else if e<54 then vbe bs (e/18) (e%18) else GQ.i 0 0
def afk{w wq w2 F B:World}{gx gf g5 C I}{f:dR}{f7 bs}(hc:bS w gf)(L:fu w gx 105 393 (eO C I))(G:∀i,i<33->mU (C i)=ε)(J:Ext w w2)(b5:Blk w2 g5 33 #[.int .i64 f.kind,.bool f.line,.int .i64 f.obj,.int .i64 f.num,.int .i64 f.den,.int .i64 f.r])(hv:∀k,k<18->GV w2 (f7 k).v (bef bs k) 841)(l5:w.heap.size<=g5)(lx:gx<w.heap.size)(K:F=w2.alloc (.cells (aO 18 fun _=>zEn).toArray 100))(H:B=puts F w2.heap.size 0 (aO 18 f7))(D Q)(M:∀e,¬D e):
  Sv w B gx gf g5 w2.heap.size C I D Q f f7 bs:=by
 have l:Ext w2 F:=by rw[K];exact Ext.new _ _
 have b7:Blk F w2.heap.size 100 (aO 18 fun _=>zEn).toArray:=by rw[K];exact Blk.new _ _ _
 have j:Ext w2 B:=by rw[H];exact gz (κ _:Own w2 w2.heap.size) 0 _ l
 have b8:Blk B w2.heap.size 100 (aO 18 f7).toArray:=by
  have:=bY 0 (aO 18 f7) b7;rw[iy _ _ (by rw[aX,aX])] at this;rw[H];exact this
 exact⟨⟨(L.ext J).ext j,fun e _ hd=>absurd hd (M e),aeW (J.trans j),(bS.ext hc J).ext j,G⟩,b5.ext j,b8,fun k N=>(hv k N).ext j,l5,J.size,lx⟩
def NA:(prog.info? 194).map (·.zero)=γ (γ (.agg (aO 36 fun _=>zEn).toArray)):=ah
structure Sw (w0 w:World) (gx gf g5 g7 g9:Nat) (C:Nat->Value) (E:Nat->En) (D:Nat->Prop) (Q:Nat->GQ) (f:dR) (f7:Nat->En) (bs:List BrD) (fN:Nat) (f9:Nat->En) (i:Nat):Prop where
 s:Sv w0 w gx gf g5 g7 C E D Q f f7 bs
 b9:Blk w g9 194 (aO 36 f9).toArray
 v9:∀e,e<i*18->GV w (f9 e).v (drp bs fN (e/18) (e%18)) 841
 l9:w0.heap.size<=g9
section
variable {w0 w w':World} {gx gf g5 g7 g9 fN i:Nat} {C:Nat->Value} {E:Nat->En} {D D':Nat->Prop} {Q Q':Nat->GQ} {f:dR} {f7 f9:Nat->En} {bs:List BrD}
def afJ(h:Sv w0 w gx gf g5 g7 C E D Q f f7 bs)(Y:w'=w.alloc (.cells (aO 36 fun _=>zEn).toArray 194)):Sw w0 w' gx gf g5 g7 w.heap.size C E D Q f f7 bs fN (fun _=>zEn) 0:=by
 subst Y;exact⟨h.ext (Ext.new _ _),Blk.new _ _ _,fun e O=>aa,h.g.m.size⟩
def Sw.ext(h:Sw w0 w gx gf g5 g7 g9 C E D Q f f7 bs fN f9 i)(x:Ext w w'):Sw w0 w' gx gf g5 g7 g9 C E D Q f f7 bs fN f9 i:=⟨h.s.ext x,h.b9.ext x,fun e O=>(h.v9 e O).ext x,h.l9⟩
def Sw.to(h:Sw w0 w gx gf g5 g7 g9 C E D Q f f7 bs fN f9 i)(hd:∀e,e<60->D' e->D e/\Q e=Q' e):Sw w0 w gx gf g5 g7 g9 C E D' Q' f f7 bs fN f9 i:=⟨h.s.to hd,h.b9,h.v9,h.l9⟩
def Sw.put(h:Sw w0 w gx gf g5 g7 g9 C E D Q f f7 bs fN f9 i){e a x q n}(O:e<60)(hn:n<=4400)(J:GV w x.v q n)(ha:a=33+e*6)(Y:w'=puts w gx a x.cells):
  Sw w0 w' gx gf g5 g7 g9 C (upd E e x) (fun k=>k=e\/D k) (upd Q e q) f f7 bs fN f9 i:=by
 have j:Mod (fun k=>k=gx) w w':=by rw[Y];exact Mod.puts _ _ _ _ rfl
 have lx:=h.s.lx;have l9:=h.l9;exact⟨h.s.put O hn J ha Y,h.b9.mod j (by show ¬g9=gx;omega),fun k l=>h.s.g.H6 j (h.v9 k l),h.l9⟩
def JJ{i}(hi:i<2)(f x):fF (aO 36 f).toArray (i*108) (aO 18 x)=(aO 36 fun e=>if e/18=i then x (e%18) else f e).toArray:=by
 rw[jP];congr 1;have F:(aO 36 f).length=216:=aX _ _;have C:(aO 18 x).length=108:=aX _ _;rw[F,C,ω (l:=aO 18 x) aa];apply aar;intro p;by_cases hp:p<216
 .obtain⟨j,t,rfl,D⟩:∃j t,p=j*6+t/\t<6:=⟨p/6,p%6,aa,aa⟩;have G:j<36:=aa;rw[dN (f:=fun e=>if e/18=i then x (e%18) else f e) D G];have B:((aO 36 f).take (i*108)).length=i*108:=by rw[A8,F];omega
  by_cases H:j/18=i
  .simp only[ι H];rw[kC AaX,nV Ade,B,show j*6+t-i*108=j%18*6+t by omega,dN D aa]
  .simp only[θ H];by_cases I:j/18<i
   .rw[kC AaX,kC Ade,BB aa,dN D G]
   .rw[nV AaX,y9,B,C,RS,show i*108+108+(j*6+t-(i*108+108))=j*6+t by omega,dN D G]
 .rw[wo AcM,wo Ab7]
def Sw.drops(h:Sw w0 w gx gf g5 g7 g9 C E D Q f f7 bs fN f9 i)(hi:i<2){x}(J:∀k,k<18->GV w (x k).v (drp bs fN i k) 841)(Y:w'=puts w g9 (i*108) (aO 18 x)):
  Sw w0 w' gx gf g5 g7 g9 C E D Q f f7 bs fN (fun e=>if e/18=i then x (e%18) else f9 e) (i+1):=by
 have l:Mod (fun k=>k=g9) w w':=by rw[Y];exact Mod.puts _ _ _ _ rfl
 have hS:Far (fun k=>k=g9) w:=fun k B _=>by
  obtain rfl:k=g9:=B;exact⟨_,_,h.b9,dm _ _⟩
 have n5:¬g5=g9:=h.s.b5.fQ h.b9 aj;have G:¬g7=g9:=h.s.b7.fQ h.b9 aj;have nf:¬gf=g9:=Blk.fQ h.s.g.f h.b9 aj;have j:¬gx=g9:=Blk.fQ h.s.g.b h.b9 aj;have l9:=h.l9;have m:=h.s.g.m;refine⟨⟨⟨h.s.g.b.mod l j,fun e O hd=>(h.s.g.v e O hd).mod l hS,⟨l.os.trans m.os,l.tape.trans m.tape,l.output.trans m.output,lh m.size l.size,fun k B hn=>(l.block k (π B m.size) (fun e=>by have e:k=g9:=e;omega)).trans (m.block k B hn)⟩,Blk.mod h.s.g.f l nf,h.s.g.n⟩,h.s.b5.mod l n5,h.s.b7.mod l G,fun k B=>(h.s.v7 k B).mod l hS,h.s.l5,h.s.l7,h.s.lx⟩,?_,fun e O=> ?_,h.l9⟩
 .have:=bY (i*108) (aO 18 x) h.b9;rw[JJ hi] at this;rw[Y];exact this
 .by_cases F:e/18=i
  .simp only[ι F];rw[F];exact(J _ (q8 _ aa)).mod l hS
  .simp only[θ F];exact(h.v9 e aa).mod l hS
def Sw.U5(h:Sw w0 w gx gf g5 g7 g9 C E D Q f f7 bs fN f9 i)(hi:i<2)(x):w.there g9 (i*108) (aO 18 x).length:=h.b9.there AbV
def Sw.c9(h:Sw w0 w gx gf g5 g7 g9 C E D Q f f7 bs fN f9 i){j k t u x}(G:j<2)(F:k<18)(J:f9 (j*18+k)=x)(l:x.cells[t]? =γ u):w.cell? ⟨g9,j*108+k*6+t,δ⟩=γ u:=by
 have B:t<6:=(ν.1 l).1;subst J;rw[h.b9.cell,Ω,show j*108+k*6+t=(j*18+k)*6+t by omega,dN B aa];exact l
def Sw.gx_(h:Sw w0 w gx gf g5 g7 g9 C E D Q f f7 bs fN f9 i){e a t x u}(O:e<60)(ha:a=33+e*6)(J:E e=x)(j:x.cells[t]? =γ u):w.cell? ⟨gx,a+t,δ⟩=γ u:=by
 have l:t<6:=(ν.1 j).1;subst J;subst ha;exact h.s.g.b.cell_ aa (qE j)
def Sw.at9(h:Sw w0 w gx gf g5 g7 g9 C E D Q f f7 bs fN f9 i){j k x}(B:j*18+k<i*18)(F:k<18)(J:f9 (j*18+k)=x):GV w x.v (drp bs fN j k) 841:=by
 have l:=h.v9 _ B;rw[J,show(j*18+k)/18=j by omega,show(j*18+k)%18=k by omega] at l;exact l
noncomputable def qz (bs:List BrD) (fN:Nat) (e:Nat):GQ:=if e<54 then vbe bs (e/18) (e%18) else if e<57 then GQ.i 0 0 else if e=57 then bef bs fN else drp bs fN (e-58) fN
theorem MH{bs fN e}(O:e<57\/58<=e/\e<58+0):(e=56\/e=55\/e=54\/e<54)/\upd (upd (upd (fun e=>vbe bs (e/18) (e%18)) 54 (GQ.i 0 0)) 55 (GQ.i 0 0)) 56 (GQ.i 0 0) e=qz bs fN e:=by
 refine⟨aa,?_⟩;unfold qz;by_cases j:e<54
 .rw[ι j,upd_ne aa,upd_ne aa,upd_ne aa]
 .rw[θ j,ι aa];have l:e=54\/e=55\/e=56:=aa;rcases l with rfl|rfl|rfl<;>rfl
theorem mid_step{bs fN e i}(hi:i<2)(O:e<57\/58<=e/\e<58+(i+1)):(e=58+i\/(e<57\/58<=e/\e<58+i))/\upd (qz bs fN) (58+i) (drp bs fN i fN) e=qz bs fN e:=by
 refine⟨aa,?_⟩;by_cases j:e=58+i
 .subst j;rw[upd_same];unfold qz;rw[θ aa,θ aa,θ aa,show 58+i-58=i by omega]
 .rw[upd_ne j]
end
theorem RU{bs fN e}(O:e<60):(e=57\/(e<57\/58<=e/\e<58+2))/\upd (qz bs fN) 57 (bef bs fN) e=qz bs fN e:=by
 refine⟨aa,?_⟩;by_cases j:e=57
 .subst j;rw[upd_same];unfold qz;rw[θ aa,θ aa,ι rfl]
 .rw[upd_ne j]
noncomputable def Jc (bs:List BrD) (fN:Nat) (f:dR) (e:Nat):GQ:=if e<54 then vbe bs (e/18) (e%18) else if e<57 then fcu bs fN f.kind f.r (e-54) else qz bs fN e
theorem Sw.faults{w0 w w' gx gf g5 g7 g9 fN i C E f f7 f9 bs}(h:Sw w0 w gx gf g5 g7 g9 C E (fun e=>e<60) (qz bs fN) f f7 bs fN f9 i){a}(ha:∀k,k<3->GV w (a k).v (fcu bs fN f.kind f.r k) 2600)(Y:w'=puts w gx 357 (aO 3 a)):Sw w0 w' gx gf g5 g7 g9 C (upd (upd (upd E 54 (a 0)) 55 (a 1)) 56 (a 2)) (fun e=>e<60) (Jc bs fN f) f f7 bs fN f9 i:=by
 rw[iN,iN,iN] at Y;replace Y:w'=puts w gx 357 ((([]++(a 0).cells)++(a 1).cells)++(a 2).cells):=Y;rw[ξ,sU,sU] at Y;have m1:Mod (fun k=>k=gx) w (puts w gx 357 (a 0).cells):=Mod.puts _ _ _ _ rfl;have j:=h.put (e:=54) (a:=357) aa aa (ha 0 aa) aa rfl;have m2:Mod (fun k=>k=gx) (puts w gx 357 (a 0).cells) (puts (puts w gx 357 (a 0).cells) gx 363 (a 1).cells):=Mod.puts _ _ _ _ rfl;have l:=j.put (e:=55) (a:=363) aa aa (h.s.g.H6 m1 (ha 1 aa)) aa rfl;have D:=l.put (e:=56) (a:=369) aa aa (j.s.g.H6 m2 (h.s.g.H6 m1 (ha 2 aa))) aa Y;refine D.to (fun e _ O=>⟨aa,?_⟩);unfold Jc;by_cases j:e<54
 .rw[ι j,upd_ne aa,upd_ne aa,upd_ne aa];unfold qz;rw[ι j]
 .rw[θ j];by_cases l:e<57
  .rw[ι l];have B:e=54\/e=55\/e=56:=aa;rcases B with rfl|rfl|rfl<;>rfl
  .rw[θ l,upd_ne aa,upd_ne aa,upd_ne aa]
noncomputable def pO (bs:List BrD) (fN:Nat) (f:dR) (i j e:Nat):GQ:=
 if e<54 then (if e%18<i\/e%18=i/\e/18<j then vlt bs fN f.kind f.r (e/18) (e%18) else vbe bs (e/18) (e%18)) else Jc bs fN f e
theorem VQ{bs fN e f}:Jc bs fN f e=pO bs fN f 0 0 e:=by
 unfold pO;by_cases h:e<54
 .rw[ι h,θ aa];unfold Jc;rw[ι h]
 .rw[θ h]
theorem Rn{bs fN e f}(l:f.kind≠0/\lv bs fN=ε)(O:e<60):pO bs fN f 18 0 e=xJ bs fN f e:=by
 unfold pO xJ;rw[ι l];by_cases h:e<54
 .rw[ι h,ι h,ι (Or.inl (q8 _ aa))]
 .rw[θ h,θ h];unfold Jc;rw[θ h];by_cases j:e<57
  .rw[ι j,ι j]
  .rw[θ j,θ j];unfold qz;rw[θ h,θ j]
theorem Sd{bs fN n k kd r}(h:lv bs k=ζ):vlt bs fN kd r n k=vbe bs n k:=by
 unfold vlt;have:drp bs fN (min n 1) k=GQ.i 0 0:=by unfold drp;exact pu h
 rw[this,GQ.bJ];ext<;>simp only[GQ.dO,GQ.dQ,GQ.dE,GQ.dD]<;>grind
theorem SQ{bs fN e i j f}(h:lv bs i=ζ)(O:e<60):pO bs fN f i j e=pO bs fN f i (j+1) e:=by
 unfold pO;by_cases l:e<54
 .rw[ι l,ι l];by_cases C:e%18=i
  .rw[C,Sd h,adC,adC]
  .by_cases B:e%18<i
   .rw[ι (Or.inl B),ι (Or.inl B)]
   .rw[θ aa,θ aa]
 .rw[θ l,θ l]
theorem Gy{bs fN e i f}(O:e<60):pO bs fN f i 3 e=pO bs fN f (i+1) 0 e:=by
 unfold pO;by_cases j:e<54
 .rw[ι j,ι j];by_cases l:e%18<i+1
  .rw[ι aa,ι (Or.inl l)]
  .rw[θ aa,θ aa]
 .rw[θ j,θ j]
theorem UC{bs}(hb:∀b∈bs,gG b)(Z:bs.length<=23)(n k):Bd (vbe bs n k) 841:=by
 unfold vbe;split
 .exact Oi hb Z k
 .exact Aa6
theorem R8{bs fN e i j m f}(D:min j 1=m)(F:j<3)(hi:i<18)(O:e<60):(e=j*18+i\/e<60)/\upd (pO bs fN f i j) (j*18+i) (vbe bs j i-fcu bs fN f.kind f.r j*drp bs fN m i) e=pO bs fN f i (j+1) e:=by
 refine⟨Or.inr O,?_⟩;by_cases B:e=j*18+i
 .subst B;rw[upd_same];unfold pO;rw[ι aa,ι (Or.inr ⟨aa,aa⟩),show(j*18+i)/18=j by omega,show(j*18+i)%18=i by omega,<-D];rfl
 .rw[upd_ne B];unfold pO;by_cases l:e<54
  .rw[ι l,ι l];by_cases C:e%18<i\/e%18=i/\e/18<j
   .rw[ι C,ι aa]
   .rw[θ C,θ aa]
  .rw[θ l,θ l]
theorem F7{bs fN e f}(h:¬(f.kind≠0/\lv bs fN=ε))(O:e<60)(hd:e<57\/f.kind≠0/\lv bs fN=ε):
  (e=56\/e=55\/e=54\/e<54)/\upd (upd (upd (fun e=>vbe bs (e/18) (e%18)) 54 (GQ.i 0 0)) 55 (GQ.i 0 0)) 56 (GQ.i 0 0) e=xJ bs fN f e:=by
 have j:e<57:=hd.resolve_right h;refine⟨aa,?_⟩;unfold xJ;rw[θ h];by_cases l:e<54
 .rw[ι l,upd_ne aa,upd_ne aa,upd_ne aa]
 .rw[θ l];have B:e=54\/e=55\/e=56:=aa;rcases B with rfl|rfl|rfl<;>rfl
def Sv.Vn{w0 w w' gx gf g5 g7 N C E D Q f f7 bs}(h:Sv w0 w gx gf g5 g7 C E D Q f f7 bs){a b c l G qc}(ha:GV w a.v l N)(hb:GV w b.v G N)(hc:GV w c.v qc N)(F:N<=4400)(Y:w'=puts w gx 357 (a.cells++(b.cells++c.cells))):Sv w0 w' gx gf g5 g7 C (upd (upd (upd E 54 a) 55 b) 56 c) (fun k=>k=56\/k=55\/k=54\/D k) (upd (upd (upd Q 54 l) 55 G) 56 qc) f f7 bs:=by
 rw[sU,sU] at Y;have m1:Mod (fun k=>k=gx) w (puts w gx 357 a.cells):=Mod.puts _ _ _ _ rfl;have H:=h.put (e:=54) (a:=357) aa F ha aa rfl;have B:=h.g.H6 m1 hb;have O:=h.g.H6 m1 hc;have m2:Mod (fun k=>k=gx) (puts w gx 357 a.cells) (puts (puts w gx 357 a.cells) gx 363 b.cells):=Mod.puts _ _ _ _ rfl;have I:=H.put (e:=55) (a:=363) aa F B aa rfl;have j:=H.g.H6 m2 O;exact I.put (e:=56) (a:=369) aa F j aa Y
theorem xK{bs i e}(hi:i<18)(O:e<60)(hd:e<54/\e%18<i+1):
  (e=i\/e=36+i\/e=18+i\/e<54/\e%18<i)/\upd (upd (upd (fun e=>vbe bs (e/18) (e%18)) (18+i) (bef bs i)) (36+i) (GQ.i 0 0)) i (GQ.i 0 0) e=vbe bs (e/18) (e%18):=by
 refine⟨aa,?_⟩;by_cases l:e=i
 .subst l;rw[upd_same];unfold vbe;rw[θ aa]
 .rw[upd_ne l];by_cases j:e=36+i
  .subst j;rw[upd_same];unfold vbe;rw[θ aa]
  .rw[upd_ne j];by_cases B:e=18+i
   .subst B;rw[upd_same];unfold vbe;rw[ι aa,show(18+i)%18=i by omega]
   .rw[upd_ne B]
def jD{w0 w gx gf g5 g7 i t C E D Q f f7 bs x u}(h:Sv w0 w gx gf g5 g7 C E D Q f f7 bs)(J:f7 i=x)(hi:i<18)(j:x.cells[t]? =γ u):w.cell? ⟨g7,i*6+t,δ⟩=γ u:=by
 have l:t<6:=(ν.1 j).1;subst J;rw[h.b7.cell,Ω,dN l hi];exact j
section
variable {w W W1 W2:World} {gx gf:Nat} {C:Nat->Value} {Bv:Nat->BrV} {s:StD} {p:dB} {f:dR}
def Cj.net(h:Cj w W gx gf C Bv s p f)(l:kZ s)(U:p8 s.buses.length s.lines.length f):∃A G,sD W C A (bX s p f).length G Bv (bX s p f) (fun _=>ζ)/\∀b o,A=γ ⟨b,o,δ⟩->b≠gx:=by
 obtain⟨A,c,F,B,H⟩:=h.r.own.arr;have j:=Dv (p:=p) l U;have lx:=h.r.lx;refine⟨A,c,⟨F,B,rfl,fun i hi=>⟨(h.r.br i hi).pa,(h.r.br i hi).pb⟩,fun i hi=>(h.r.br i hi).z0,fun i hi=>(h.r.br i hi).z1,fun i hi=>(h.r.br i hi).e,fun k D=>h.liv k D,j.2,j.1⟩,fun b o e=> ?_⟩;have:=H b o e;omega
theorem Vu(n k)(hn:n<3)(j:k<18):xJ (bX s p f) (dU s p f) f (n*18+k)=nI (bX s p f) (dU s p f) f n k:=by
 unfold xJ nI;rw[ι (by omega:n*18+k<54),ι (by omega:n*18+k<54),show(n*18+k)/18=n by omega,show(n*18+k)%18=k by omega]
theorem VH(n)(hn:n<3):xJ (bX s p f) (dU s p f) f (54+n)=qD (bX s p f) (dU s p f) f n:=by
 unfold xJ qD;rw[θ (by omega:¬54+n<54),ι (by omega:54+n<57),θ (by omega:¬54+n<54),show 54+n-54=n by omega]
def nR.old{W W' X Y v}{o:Option BrD}(h:nR W X v o)(m:Mod (fun k=>k=Y) W W')(j:gK (fun k=>k=Y) W)(Z:∀g k,v=.pointer (γ ⟨g,k,δ⟩)->Y<g):nR W' X v o:=by
 cases o with
 |none=>exact h
 |some b=>
  obtain⟨g,k,bv,l,C,B,D,G,J,F,H,K⟩:=h;have:=Z g k l;exact⟨g,k,bv,l,C,π B m.size,fun t u I=>ww m B aa (D t u I),G,J,F.fT m j,H.fT m j,K.fT m j⟩
def nT.old{W W'}{X Y B:Nat}{C E}{s:StD}{p f}(h:nT W X C E s p f)(m:Mod (fun k=>k=Y) W W')(l:gK (fun k=>k=Y) W)(Z:∀(gB:Nat) (wv:Nat->Value),C 13=.slice (γ ⟨gB,0,δ⟩) s.bays.length s.bays.length->Arr W (γ ⟨gB,0,δ⟩) s.bays.length 1 (fun i=>[wv i])->Y<gB/\∀i,i<s.bays.length->∀g k,wv i=.pointer (γ ⟨g,k,δ⟩)->Y<g)(T:∃gB,C 13=.slice (γ ⟨gB,0,δ⟩) s.bays.length s.bays.length):nT W' X C E s p f:=by
 refine⟨fun n k hn G=>(h.v n k hn G).fT m l,fun n hn=>(h.i n hn).fT m l,fun F D=> ?_,h.live,h.ends,h.faulty,h.c0,?_⟩
 .obtain⟨a,b,c⟩:=h.seen F D;exact⟨a.fT m l,b.fT m l,c.fT m l⟩
 .obtain⟨J,bc,wv,F,D,H⟩:=h.bays;obtain⟨gB,j⟩:=T;have e:=F.symm.trans j;injection e with I K L;subst I;obtain⟨q1,q2⟩:=Z gB wv j D;exact⟨_,bc,wv,F,D.mod m (fun b o e hb=>by injection e with e;injection e with e _ _;have hb:b=Y:=hb;omega),fun i hi=>(H i hi).old m l (q2 i hi)⟩
def Cj.KG(h:Cj w W gx gf C Bv s p f)(M:kZ s)(F:Mod (fun k=>k=gx) W W1){E}(hs:GrS W1 W2 gx gf (jF C (lv (bX s p f))) E (fun e=>e<57\/f.kind≠0/\lv (bX s p f) (dU s p f)=ε) (xJ (bX s p f) (dU s p f) f) 4400):nT W2 gx (jF C (lv (bX s p f))) E s p f:=by
 have H:Mod (fun k=>k=gx) W W2:=F.trans hs.m;have K:=h.r.far;refine⟨fun n k hn D=> ?_,fun n hn=> ?_,fun j B=>⟨?_,?_,?_⟩,fun k D=>mY D,fun l e Z O=> ?_,?_,?_,?_⟩
 .have:=hs.v (n*18+k) aa (.inl aa);rwa[Vu n k hn D] at this
 .have:=hs.v (54+n) aa (.inl aa);rwa[VH n hn] at this
 .have:=hs.v 57 aa (.inr ⟨j,B⟩);exact Abg
 .have:=hs.v 58 aa (.inr ⟨j,B⟩);exact Abg
 .have:=hs.v 59 aa (.inr ⟨j,B⟩);exact Abg
 .rw[lF aa];exact h.ends l e Z O
 .rw[lF aa];exact h.c14
 .obtain⟨A,c,j,_⟩:=h.r.own.arr;exact⟨A,_,c,by rw[lF aa];exact j⟩
 .obtain⟨gB,wv,j,B,L,J⟩:=h.bays;have lx:=h.r.lx;have hb:fu W2 gB 165 s.bays.length wv:=L.mod H aa;refine⟨γ ⟨gB,0,δ⟩,s.bays.length,wv,by rw[lF aa];exact j,fun hn=>⟨gB,0,rfl,hb.lt,fun i hi t u G=> ?_⟩,fun i hi=>(J i hi).1.mod H K⟩;have I:t=0:=by have:=(ν.1 G).1;simp at this;omega
  subst I;have N:wv i=u:=by simpa using G
  rw[show 0+i*1+0=i by omega];exact hb.cell_ hi N
end
theorem Kb{s p}(h:kF s p=0):p.closed.length=s.bays.length/\p.links.length=s.bays.length/\∀i,i<s.bays.length->(p.links.getD i []).length=(s.bays.getD i η).links.length:=by
 unfold kF at h;split at h
 .rename_i l
  split at h
  .rename_i j
   rw[nH] at j;exact⟨l.1,l.2,fun i hi=>by have:=j i (aaa.2 hi);simpa using this⟩
  .exact absurd h aj
 .exact absurd h aj
theorem SI{s f}(h:chk s=0)(j:ic s.buses.length s.lines.length f=0):Ct s f=0:=by
 unfold Ct;rw[h,j];rfl
def fl (P:Nat->PQ) (j:Nat):GQ:=if j%2=0 then (P (j/2)).u else (P (j/2)).v
def gF (v1 j:Value) (e:Nat->En):List Value:=v1::j::aO 12 e
def eZ(v1 j e):(gF v1 j e).length=74:=by show(aO 12 e).length+2=74;rw[aX]
def qW:(prog.info? 47).map (·.zero)=γ (γ (.agg (gF (.slice δ 0 0) (.slice δ 0 0) fun _=>zEn).toArray)):=ah
def V3:zeroCells47=(gF (.slice δ 0 0) (.slice δ 0 0) fun _=>zEn).toArray:=ah
def OQ(a b):(zeroCells47.setIfInBounds 0 a).setIfInBounds 1 b=(gF a b fun _=>zEn).toArray:=by rw[V3];rfl
def lG(v1 j e):(prog.info? 47).map (·.size)=γ (gF v1 j e).length:=by rw[eZ];kernel_rfl
def chunk (i:Nat) (x e:Nat->En) (j:Nat):En:=if j/6=i then x (j%6) else e j
theorem Bq{n i}(hi:i<n)(x e):fF (aO (n*6) e).toArray (i*36) (aO 6 x)=(aO (n*6) (chunk i x e)).toArray:=by
 rw[jP];congr 1;have F:(aO (n*6) e).length=n*6*6:=aX _ _;have C:(aO 6 x).length=36:=aX _ _;rw[F,C,ω (l:=aO 6 x) aa];apply aar;intro p;by_cases hp:p<n*6*6
 .obtain⟨j,t,rfl,D⟩:∃j t,p=j*6+t/\t<6:=⟨p/6,p%6,aa,aa⟩;have G:j<n*6:=aa;rw[dN (f:=chunk i x e) D G];have B:((aO (n*6) e).take (i*36)).length=i*36:=by rw[A8,F];omega
  unfold chunk;by_cases H:j/6=i
  .rw[ι H];rw[kC AaX,nV Ade,B,show j*6+t-i*36=j%6*6+t by omega,dN D aa]
  .rw[θ H];by_cases I:j/6<i
   .rw[kC AaX,kC Ade,BB aa,dN D G]
   .rw[nV AaX,y9,B,C,RS,show i*36+36+(j*6+t-(i*36+36))=j*6+t by omega,dN D G]
 .rw[wo AcM,wo Ab7]
def O6:(prog.info? 45).map (fun i=>(i.zero,i.size,i.bytes))=γ (γ (.agg (aO 6 fun _=>zEn).toArray),36,576):=ah
def Ak:∀n:Nat,nJ n (aO 6 fun _=>zEn)=aO (n*6) fun _=>zEn
 |0=>rfl
 |n+1=>by
  rw[pY,Ak n,G5,show(n+1)*6=n*6+6 by omega];simp only[adC]
def KN(n:Nat)(hn:n<=1000)(W:World):(Instr.makeSlice 37 (.int .i64 n) (.int .i64 n)).run prog W=.ok (.slice (γ ⟨W.heap.size,0,δ⟩) n n) (W.alloc (.cells (aO (n*6) fun _=>zEn).toArray 45)):=by
 obtain⟨i0,C,l,B,j⟩:=abP O6;have h:=ac7 (P:=prog) W 37 45 i0 (.agg (aO 6 fun _=>zEn).toArray) underlying37 C l .i64 .i64 n n aa aa Abs aa;rw[h,B];have e:=qj (aO 6 fun _=>zEn) Ab7 n;rw[aX,Ak] at e;simp only[aah];rw[show(Value.agg (aO 6 fun _=>zEn).toArray).cells=(aO 6 fun _=>zEn).toArray from rfl,e]
structure Ba (w:World) (GC GV_:Nat) (ec ev ef:Nat->En) (s:StD) (p:dB) (f:dR):Prop where
 bc:Blk w GC 45 (aO (s.bays.length*6) ec).toArray
 bv:Blk w GV_ 45 (aO (s.bays.length*6) ev).toArray
 c:∀i,i<s.bays.length->Ph3 w (fun j=>ec (i*6+j)) (phv (yR s p f i) (shf f.kind)) 4600
 v:∀i,i<s.bays.length->Ph3 w (fun j=>ev (i*6+j)) (phv (pI s p f i) (shf f.kind)) 4600
 fc:Ph3 w ef (phv (qD (bX s p f) (dU s p f) f) (shf f.kind)) 4600
 fv:Ph3 w (fun j=>ef (6+j)) (phv (fun n=>nI (bX s p f) (dU s p f) f n (dU s p f)) (shf f.kind)) 4600
def Ba.ext{w w' GC GV_ ec ev ef s p f}(h:Ba w GC GV_ ec ev ef s p f)(x:Ext w w'):Ba w' GC GV_ ec ev ef s p f:=
 ⟨h.bc.ext x,h.bv.ext x,fun i hi=>(h.c i hi).ext x,fun i hi=>(h.v i hi).ext x,h.fc.ext x,h.fv.ext x⟩
def MW(k w)(j:0<=k/\k<=10):
  Calls prog 43 #[.int .i64 k] w fun e w'=>e=.returned (.int .i64 (shf k:Nat))/\w'=w:=by
 have h:k=0\/k=1\/k=2\/k=3\/k=4\/k=5\/k=6\/k=7\/k=8\/k=9\/k=10:=aa;rcases h with rfl|rfl|rfl|rfl|rfl|rfl|rfl|rfl|rfl|rfl|rfl
 all_goals
  go_enter func43,ntmps43;go_wp2;go_ret;exact⟨rfl,rfl⟩
theorem rG(a b e)(ha:a.oneCell'=ε)(hb:b.oneCell'=ε):∀v∈gF a b e,v.oneCell'=ε:=by
 intro v hv;unfold gF at hv;simp only[pq] at hv;rcases hv with rfl|rfl|hv
 .exact ha
 .exact hb
 .exact dH _ _ v hv
theorem Ph3.row{w e P n}(h:Ph3 w e P n):mi w 6 e (fl P) n:=fun j C=>by
 have B:=h (j/2) aa;unfold fl;by_cases l:j%2=0
 .rw[ι l];have:=B.1;rwa[show 2*(j/2)=j by omega] at this
 .rw[θ l];have:=B.2;rwa[show 2*(j/2)+1=j by omega] at this
theorem afa{w e P n}(h:mi w 6 e (fl P) n):Ph3 w e P n:=fun m B=>by
 have l:=h (2*m) aa;have j:=h (2*m+1) aa;unfold fl at l j;rw[ι aa,show 2*m/2=m by omega] at l;rw[θ aa,show(2*m+1)/2=m by omega] at j;exact⟨l,j⟩
section
variable {bs:List BrD} {fN:Nat} {f:dR} {D:GQ}
def Den.dif(h:Den bs fN f D)(n j k):Bd (nI bs fN f n j-nI bs fN f n k) 4600:=
 (((h.Kr j).2.2 n).sub ((h.Kr k).2.2 n)).bd (gN h.wd (by omega:2200<=2250)) h.ne aa aa
def Den.WB(h:Den bs fN f D)(j k){m}(C:0<=m/\m<=1000000):Bd (nI bs fN f 1 j-nI bs fN f 1 k-GQ.i m 0) 4600:=by
 have B:=(((h.Kr j).2.2 1).sub ((h.Kr k).2.2 1));have l:Fr D 0 2251 (GQ.i m 0):=(afl (dZ h.wd (nX (by show m.natAbs<=2^20;omega):Wh (GQ.i m 0) (q2 20)))).le aa;exact(B.sub l).bd (gN h.wd (by omega:2200<=2250)) h.ne aa aa
end
def NN(gx gf i C E){s p f D}(w)(hc:bS w gf)(F:fu w gx 105 393 (eO C E))(hv:nT w gx C E s p f)(j:kZ s)(U:p8 s.buses.length s.lines.length f)(l:Den (bX s p f) (dU s p f) f D)(hi:i<s.bays.length):
  Calls prog 45 #[.pointer (γ ⟨gx,0,δ⟩),.pointer (γ ⟨gf,0,δ⟩),.int .i64 (i:Int)] w fun r w'=>∃a:Nat->En,r=.returned (.agg (aO 3 a).toArray)/\mi w' 3 a (yR s p f i) 4600/\Ext w w':=by
 obtain⟨B,bc,wv,T,H,Y⟩:=hv.bays;obtain⟨G,I⟩:=l.VP (way s p f i) (fun b hb=>ER j U hi hb);exact Nh gx gf i s.bays.length bc C E (nI (bX s p f) (dU s p f) f) (lv (bX s p f)) (way s p f i) B wv w hc F hv.v hv.live T H hi (Y i hi) (fun b hb=>ER j U hi hb)
  (fun b hb n hn=>l.dif n b.a b.b) (fun b hb=>l.WB b.a b.b (ER j U hi hb).emf) (fun n=>I.bd n)
def pW(gf sh:Nat)(a q D w)(hc:bS w gf)(ha:mi w 3 a q 4600)(hq:sJ q D)(hs:sh<3):
  Calls prog 44 #[.pointer (γ ⟨gf,0,δ⟩),.agg (aO 3 a).toArray,.int .i64 (sh:Int)] w fun r w'=>∃e:Nat->En,r=.returned (.agg (aO 6 e).toArray)/\mi w' 6 e (fl (phv q sh)) 4600/\Ext w w':=
 (JW gf sh a q D w hc ha hq hs).mono fun r w' ⟨e,l,j,B⟩=>⟨e,l,j.row,B⟩
def H9(a b l B k):fF (a::b::l).toArray (k+2) B=(a::b::(fF l.toArray k B).toList).toArray:=by
 rw[jP,jP];have j:(a::b::l).length-(k+2)=l.length-k:=by simp only[nC];omega
 have C:k+2+B.length=(k+B.length)+1+1:=aa;rw[j,C,ρ,ρ,show k+2=k+1+1 from rfl,aaq,aaq];simp
theorem Rj(a b e x){i}(hi:i<2):fF (gF a b e).toArray (i*36+2) (aO 6 x)=(gF a b (chunk i x e)).toArray:=by
 unfold gF;rw[H9,Bq (n:=2) hi]
structure SoS (w W:World) (g8 g10 g12 GC GV_:Nat) (C:Nat->Value) (E:Nat->En) (ec ev ef:Nat->En) (s:StD) (p:dB) (f:dR) (i k:Nat):Prop where
 g:fu W g8 105 393 (eO C E)
 c:bS W g10
 b12:Blk W g12 47 (gF (.slice (γ ⟨GC,0,δ⟩) s.bays.length s.bays.length) (.slice (γ ⟨GV_,0,δ⟩) s.bays.length s.bays.length) ef).toArray
 bc:Blk W GC 45 (aO (s.bays.length*6) ec).toArray
 bv:Blk W GV_ 45 (aO (s.bays.length*6) ev).toArray
 vc:∀j,j<i->Ph3 W (fun t=>ec (j*6+t)) (phv (yR s p f j) (shf f.kind)) 4600
 vv:∀j,j<k->Ph3 W (fun t=>ev (j*6+t)) (phv (pI s p f j) (shf f.kind)) 4600
 x:Ext w W
 lo:w.heap.size<=g8/\w.heap.size<=g10/\w.heap.size<=g12/\w.heap.size<=GC/\w.heap.size<=GV_
 ne:GC≠GV_
section
variable {w W W':World} {g8 g10 g12 GC GV_ i k:Nat} {C:Nat->Value} {E:Nat->En} {ec ev ef:Nat->En} {s:StD} {p:dB} {f:dR}
def SoS.ext(h:SoS w W g8 g10 g12 GC GV_ C E ec ev ef s p f i k)(x:Ext W W'):SoS w W' g8 g10 g12 GC GV_ C E ec ev ef s p f i k:=
 ⟨h.g.ext x,h.c.ext x,h.b12.ext x,h.bc.ext x,h.bv.ext x,fun j l=>(h.vc j l).ext x,fun j l=>(h.vv j l).ext x,h.x.trans x,h.lo,h.ne⟩
def Ph3.mod{S e P n}(h:Ph3 W e P n)(m:Mod S W W')(hS:Far S W):Ph3 W' e P n:=fun j l=>⟨(h j l).1.mod m hS,(h j l).2.mod m hS⟩
def SoS.Wm(h:SoS w W g8 g10 g12 GC GV_ C E ec ev ef s p f i k):Far (fun k=>k=GC) W:=fun k j _=>by
 obtain rfl:k=GC:=j;exact⟨_,_,h.bc,dm _ _⟩
def SoS.Wq(h:SoS w W g8 g10 g12 GC GV_ C E ec ev ef s p f i k):Far (fun k=>k=GV_) W:=fun k j _=>by
 obtain rfl:k=GV_:=j;exact⟨_,_,h.bv,dm _ _⟩
theorem SoS.Wt(h:SoS w W g8 g10 g12 GC GV_ C E ec ev ef s p f i i){e}(hi:i<s.bays.length)(O:mi W 6 e (fl (phv (yR s p f i) (shf f.kind))) 4600)(Y:W'=puts W GC (i*36) (aO 6 e)):SoS w W' g8 g10 g12 GC GV_ C E (chunk i e ec) ev ef s p f (i+1) i:=by
 have l:Mod (fun k=>k=GC) W W':=by rw[Y];exact Mod.puts _ _ _ _ rfl
 have lo:=h.lo;have hS:=h.Wm;have I:¬g8=GC:=Blk.fQ h.g h.bc aj;have P:¬g10=GC:=Blk.fQ h.c h.bc aj;have D:¬g12=GC:=Blk.fQ h.b12 h.bc aj;refine⟨h.g.mod l I,Blk.mod h.c l P,h.b12.mod l D,?_,h.bv.mod l (fun e=>h.ne e.symm),fun j G=> ?_,fun j G=>(h.vv j G).mod l hS,eH h.x l (fun k F=>by have F:k=GC:=F;omega),h.lo,h.ne⟩
 .have:=bY (i*36) (aO 6 e) h.bc;rw[Bq hi] at this;rw[Y];exact this
 .by_cases H:j=i
  .subst H;refine afa (fun t B=> ?_);show GV W' (chunk j e ec (j*6+t)).v _ _;exact AbJ
  .refine afa (fun t B=> ?_);have J:chunk i e ec (j*6+t)=ec (j*6+t):=(by unfold chunk;rw[θ aa]);show GV W' (chunk i e ec (j*6+t)).v _ _;rw[J];exact((h.vc j aa).row t B).mod l hS
theorem SoS.Wy(h:SoS w W g8 g10 g12 GC GV_ C E ec ev ef s p f (i+1) i){e}(hi:i<s.bays.length)(O:mi W 6 e (fl (phv (pI s p f i) (shf f.kind))) 4600)(Y:W'=puts W GV_ (i*36) (aO 6 e)):SoS w W' g8 g10 g12 GC GV_ C E ec (chunk i e ev) ef s p f (i+1) (i+1):=by
 have l:Mod (fun k=>k=GV_) W W':=by rw[Y];exact Mod.puts _ _ _ _ rfl
 have lo:=h.lo;have hS:=h.Wq;have I:¬g8=GV_:=Blk.fQ h.g h.bv aj;have P:¬g10=GV_:=Blk.fQ h.c h.bv aj;have D:¬g12=GV_:=Blk.fQ h.b12 h.bv aj;refine⟨h.g.mod l I,Blk.mod h.c l P,h.b12.mod l D,h.bc.mod l h.ne,?_,fun j G=>(h.vc j G).mod l hS,fun j G=> ?_,eH h.x l (fun k F=>by have F:k=GV_:=F;omega),h.lo,h.ne⟩
 .have:=bY (i*36) (aO 6 e) h.bv;rw[Bq hi] at this;rw[Y];exact this
 .by_cases H:j=i
  .subst H;refine afa (fun t B=> ?_);show GV W' (chunk j e ev (j*6+t)).v _ _;exact AbJ
  .refine afa (fun t B=> ?_);have J:chunk i e ev (j*6+t)=ev (j*6+t):=(by unfold chunk;rw[θ aa]);show GV W' (chunk i e ev (j*6+t)).v _ _;rw[J];exact((h.vv j aa).row t B).mod l hS
def SoS.TQ(h:SoS w W g8 g10 g12 GC GV_ C E ec ev ef s p f i k){m a e}(G:m<2)(ha:a=m*36+2)(Y:W'=puts W g12 a (aO 6 e)):SoS w W' g8 g10 g12 GC GV_ C E ec ev (chunk m e ef) s p f i k/\Mod (fun k=>k=g12) W W'/\Far (fun k=>k=g12) W:=by
 subst ha;have D:Mod (fun k=>k=g12) W W':=by rw[Y];exact Mod.puts _ _ _ _ rfl
 have lo:=h.lo;have hS:Far (fun k=>k=g12) W:=fun k F _=>by
  obtain rfl:k=g12:=F;refine⟨_,_,h.b12,?_⟩;show(List.all (_::_::aO 12 ef) _)=ε;rw[abT,abT];exact dm 12 ef
 have I:¬g8=g12:=Blk.fQ h.g h.b12 aj;have P:¬g10=g12:=Blk.fQ h.c h.b12 aj;have B:¬GC=g12:=Blk.fQ h.bc h.b12 aj;have l:¬GV_=g12:=Blk.fQ h.bv h.b12 aj;refine⟨⟨h.g.mod D I,Blk.mod h.c D P,?_,h.bc.mod D B,h.bv.mod D l,fun j H=>(h.vc j H).mod D hS,fun j H=>(h.vv j H).mod D hS,eH h.x D (fun k F=>by have F:k=g12:=F;omega),h.lo,h.ne⟩,D,hS⟩;have:=bY (m*36+2) (aO 6 e) h.b12;rw[Rj _ _ _ _ G] at this;rw[Y];exact this
def SoS.K7(h:SoS w W g8 g10 g12 GC GV_ C E ec ev ef s p f i k){a}(ha:a+36<=74)(x):W.there g12 a (aO 6 x).length:=h.b12.there (by rw[Ad,eZ,aX];omega)
def Vb{w gx a C E}(h:fu w gx 105 393 (eO C E))(ha:a<=57){o}(l:o=33+a*6):w.rangeAt gx o (aO 3 fun k=>E (a+k)):=fun t v hv=>by
 have D:t<18:=by have:=(ν.1 hv).1;rwa[aX] at this
 obtain⟨j,u,rfl,B⟩:∃j u,t=j*6+u/\u<6:=⟨t/6,t%6,aa,aa⟩;rw[dN B aa] at hv;have:=h.en (e:=a+j) aa (a:=33+(a+j)*6) rfl u v hv;rw[l,show 33+a*6+(j*6+u)=33+(a+j)*6+u by omega];exact this
def SoS.U1(h:SoS w W g8 g10 g12 GC GV_ C E ec ev ef s p f i k){j}(l:j<s.bays.length)(x):W.there GC (j*36) (aO 6 x).length:=h.bc.there AbV
def SoS.UY(h:SoS w W g8 g10 g12 GC GV_ C E ec ev ef s p f i k){j}(l:j<s.bays.length)(x):W.there GV_ (j*36) (aO 6 x).length:=h.bv.there AbV
end
def dA:StD:=⟨⟨#[115]⟩,[⟨#[65]⟩],[],[⟨⟨#[71]⟩,100,⟨0,10⟩,⟨0,10⟩⟩],[⟨⟨#[103]⟩,2,0,0,⟨0,0⟩,[⟨0,1⟩],ε,1,1,0,1⟩]⟩
def vU:dB:=⟨[ε],[[1]]⟩
def mQ:normal dA=vU:=rfl
def j5:chk dA=0:=by decide+kernel
def one_pos:kF dA vU=0:=by decide+kernel
def zk{w g k t l f}(h:Blk w g t l.toArray)(j:f 0=l):Arr w (γ ⟨g,0,δ⟩) 1 k f:=fun _=>
 ⟨g,0,rfl,h.lt,fun i hi u v hv=>by
  obtain rfl:i=0:=aa;rw[j] at hv;have e:0+0*k+u=u:=aa;rw[e,h.cell u,Ω];exact hv⟩
def TK(w):Calls prog 33 #[] w fun r w'=>∃A0 A2 A3 L,r=.returned (stV dA.name A0 1 1 δ 0 0 A2 1 1 A3 1 1)/\lQ w' A0 1 1 δ 0 0 A2 1 1 A3 1 1 L dA/\Ext w w':=by
 go_enter func33,ntmps33;(go_wp2_with fail);refine rV rfl rfl rf ((((((Blk.new w _ _).alloc _).alloc _).alloc _).alloc _).alloc _) underlying27 rfl ah ?_;refine⟨γ ⟨w.heap.size+1+1,0,δ⟩,γ ⟨w.heap.size+1+1+1,0,δ⟩,γ ⟨w.heap.size+1+1+1+1+1,0,δ⟩,fun _=>⟨γ ⟨w.heap.size+1+1+1+1,0,δ⟩,1,1⟩,rfl,⟨?_,κ _,aa,rfl,fun h=>absurd h aa,rfl,?_,rfl,?_,?_⟩,(((((Ext.new _ _).alloc _).alloc _).alloc _).alloc _).alloc _⟩
 .exact Arr.reads (f:=Value.string) (d:=η) (zk (t:=9) (l:=[.string ⟨#[65]⟩]) ((((aeS _ _ ag).alloc _).alloc _).alloc _) rfl) rfl
 .exact zk (t:=83) (l:=Bp (dA.srcs.getD 0 η)) (((aeS _ _ ag).alloc _).alloc _) rfl
 .exact zk (t:=57) (aeS _ _ ag) rfl
 .intro i hi;obtain rfl:i=0:=aa;exact⟨rfl,zk (t:=137) (l:=TM ⟨0,1⟩) ((aeS _ _ ag).alloc _) rfl⟩
def rq{w w' B B' n n' e F v K xs j}(G:w.ownsRow B e 1 v n xs)(h:w.ownsRow B' F 1 K n' j)(D:e≠F)(m:Mod (fun g=>v.ownBlock=γ g) w w'):w'.ownsRow B' F 1 K n' j:=
 jh h m fun g H l=>by
  have l:v.ownBlock=γ g:=l;rcases tK G h D with C|C
  .rw[l] at C;cases C
  .exact C (l.trans H.symm)
def nA{w B n g j e t v u xs cs}(h:w.ownsRow B e 1 v n xs)(hb:Blk w g t cs)(l:t≠e):(w.setCell ⟨g,j,δ⟩ u).ownsRow B e 1 v n xs:=
 jh h (Mod.only (S:=fun k=>k=g) (Only.set w g j u) rfl) fun k D C=>fe h hb l (by rw[D,show k=g from C])
structure NmS (w wr:World) (g1 g2 g3:Nat) (cs:Array Value) (i j:Nat) (v0 v1:Value) (K:Nat->Hd) (s:StD):Prop where
 b1:Blk wr g1 27 cs
 b2:Blk wr g2 31 #[.slice δ 0 0,.slice δ 0 0]
 b3:Blk wr g3 31 #[v0,v1]
 o0:wr.ownsRow w.heap.size 4 1 v0 i (((s.bays.take i).map ig.closed).map Value.bool)
 o1:wr.ownsRow w.heap.size 92 1 v1 j (xY K j)
 ks:vK wr w.heap.size j K (fun j=>(s.bays.getD j η).links.map qY.pos)
 kn:∀k,k<j->(K k).n=(s.bays.getD k η).links.length
 x:Ext w wr
 lo:w.heap.size<=g1/\g1<g2/\g2<g3
section
variable {w wr wr':World} {g1 g2 g3 i j:Nat} {cs:Array Value} {v0 v1:Value} {K:Nat->Hd} {s:StD}
def NmS.ext(h:NmS w wr g1 g2 g3 cs i j v0 v1 K s)(x:Ext wr wr'):NmS w wr' g1 g2 g3 cs i j v0 v1 K s:=
 ⟨h.b1.ext x,h.b2.ext x,h.b3.ext x,dX h.o0 x,dX h.o1 x,h.ks.ext x,h.kn,h.x.trans x,h.lo⟩
def NmS.bool(h:NmS w wr g1 g2 g3 cs i j v0 v1 K s){l}(hi:i<s.bays.length)(F:wr.grownBy wr' v0.ownBlock)(D:wr'.ownsRow w.heap.size 4 1 l (i+1) (((s.bays.take i).map ig.closed).map Value.bool++[.bool (s.bays.getD i η).closed])):
  NmS w (wr'.setCell ⟨g3,0,δ⟩ l) g1 g2 g3 cs (i+1) j l v1 K s:=by
 have m:Mod (fun g=>v0.ownBlock=γ g) wr wr':=Mod.grown F fun g e=>e;have b3:=h.b3.mod m (fe h.o0 h.b3 aj);have B:Mod (fun k=>k=g3) wr' (wr'.setCell ⟨g3,0,δ⟩ l):=Mod.only (Only.set _ _ _ _) rfl;have lo:=h.lo;refine⟨(h.b1.mod m (fe h.o0 h.b1 aj)).mod B aa,(h.b2.mod m (fe h.o0 h.b2 aj)).mod B aa,b3.nL 0 l,?_,nA (rq h.o0 h.o1 aj m) b3 aj,fun k C=>nA (rq h.o0 (h.ks k C) aj m) b3 aj,h.kn,(h.x.mod m fun k e=>(h.o0.lt k e).1).mod B (fun k e=>by have e:k=g3:=e;omega),h.lo⟩;rw[j4 hi,aaw,aaw];exact nA D b3 aj
def NmS.row(h:NmS w wr g1 g2 g3 cs i j v0 v1 K s){l k}(hn:k.n=(s.bays.getD j η).links.length)(F:wr.ownsRow w.heap.size 3 1 k.v k.n (((s.bays.getD j η).links.map qY.pos).map (Value.int .i64)))(H:wr.grownBy wr' v1.ownBlock)(D:wr'.ownsRow w.heap.size 92 1 l (j+1) (xY K j++[k.v])):
  NmS w (wr'.setCell ⟨g3,1,δ⟩ l) g1 g2 g3 cs i (j+1) v0 l (fun t=>if t=j then k else K t) s:=by
 have m:Mod (fun g=>v1.ownBlock=γ g) wr wr':=Mod.grown H fun g e=>e;have b3:=h.b3.mod m (fe h.o1 h.b3 aj);have B:Mod (fun k=>k=g3) wr' (wr'.setCell ⟨g3,1,δ⟩ l):=Mod.only (Only.set _ _ _ _) rfl;have lo:=h.lo;have G:xY (fun t=>if t=j then k else K t) (j+1)=xY K j++[k.v]:=by
  rw[Dn,ι rfl];congr 1;exact Ap fun t C=>θ aa
 refine⟨(h.b1.mod m (fe h.o1 h.b1 aj)).mod B aa,(h.b2.mod m (fe h.o1 h.b2 aj)).mod B aa,b3.nL 1 l,nA (rq h.o1 h.o0 aj m) b3 aj,?_,fun t C=> ?_,fun t C=> ?_,(h.x.mod m fun k e=>(h.o1.lt k e).1).mod B (fun k e=>by have e:k=g3:=e;omega),h.lo⟩
 .rw[G];exact nA D b3 aj
 .show World.ownsRow _ _ _ _ (if t=j then k else K t).v (if t=j then k else K t).n _;by_cases e:t=j
  .subst e;rw[ι rfl];exact nA (rq h.o1 F aj m) b3 aj
  .rw[θ e];exact nA (rq h.o1 (h.ks t aa) aj m) b3 aj
 .show(if t=j then k else K t).n=_;by_cases e:t=j
  .subst e;rw[ι rfl];exact hn
  .rw[θ e];exact h.kn t aa
def D8{i}:(normal s).links.getD i []=(s.bays.getD i η).links.map qY.pos:=by
 show(s.bays.map fun b=>b.links.map qY.pos).getD i []=_;rw[ψ,ψ,Nq];cases s.bays[i]? <;>rfl
def NmS.Vy(h:NmS w wr g1 g2 g3 cs i i v0 v1 K s)(m:Mod (fun k=>k=g2) wr wr')(hi:i=s.bays.length)(hn:s.bays.length<=1000000)(F:∀j,j<i->(K j).n<=1000000):∃PA G PB qc,v0=.slice PA i G/\v1=.slice PB i qc/\iW wr' PA i PB i K (normal s):=by
 have n0:∀{e:TypeId} {n:Nat} {v:Value} {xs:List Value},wr.ownsRow w.heap.size e 1 v n xs->31≠e->wr'.ownsRow w.heap.size e 1 v n xs:=fun C l=>jh C m fun k H D=>fe C h.b2 l (by rw[H,show k=g2 from D]);refine iW.made (B:=w.heap.size) (p:=normal s) ?_ (n0 h.o1 aj) (by show(s.bays.map _).length=_;rw[aaI,hi]) (fun j I=> ?_) aa aa F
 .have:=n0 h.o0 aj;rw[hi,acp] at this;rw[hi];exact this
 .show wr'.ownsRow w.heap.size 3 1 (K j).v (K j).n (((normal s).links.getD j []).map (Value.int IntKind.i64));rw[D8];exact n0 (h.ks j I) aj
def Mod.same{S}(w):Mod S w w:=aeW (Ext.refl w)
def NmS.fin(h:NmS w wr g1 g2 g3 cs i i v0 v1 K s)(hi:i=s.bays.length)(hn:s.bays.length<=1000000)(D:∀j,j<i->(K j).n<=1000000):∃PA B PB qc,v0=.slice PA i B/\v1=.slice PB i qc/\∀wr',Mod (fun k=>k=g2) wr wr'->iW wr' PA i PB i K (normal s):=by
 obtain⟨PA,B,PB,qc,C,F,_⟩:=h.Vy (Mod.same wr) hi hn D;refine⟨PA,B,PB,qc,C,F,fun wr' m=> ?_⟩;obtain⟨O,G,T,H,f0,l,hp⟩:=h.Vy m hi hn D;rw[C] at f0;rw[F] at l;injection f0 with f0 _ _;injection l with l _ _;subst f0 l;exact hp
end
def Rx{w:World}{base:Nat}{e:TypeId}{n c:Nat}{A:Option Addr}{xs:List Value}(h:w.ownsRow base e 1 (.slice A n c) n xs):∀b o,A=γ ⟨b,o,δ⟩->base<=b/\o=0/\∃cs,Blk w b e cs:=by
 rintro b o rfl;obtain⟨_,⟨B,_⟩|⟨g,G,cur,j,l,D,_⟩⟩:=h
 .cases B
 .injection j with j _ _;injection j with j;injection j with j C _;subst j C;exact⟨l,rfl,cur,D⟩
theorem vw{A0:Option Addr}{n0 c0:Nat}{A1:Option Addr}{n1 c1:Nat}{A2:Option Addr}{n2 c2:Nat}{A3:Option Addr}{n3 c3:Nat}{L:Nat->Hd}{s:StD}(w:World)(hs:lQ w A0 n0 c0 A1 n1 c1 A2 n2 c2 A3 n3 c3 L s)(hc:chk s=0):
  Calls prog 30 #[stV s.name A0 n0 c0 A1 n1 c1 A2 n2 c2 A3 n3 c3] w fun e w'=>∃PA pc PB qc K,e=.returned (mO PA n3 pc PB n3 qc)/\iW w' PA n3 PB n3 K (normal s)/\Ext w w'/\∀b o,PA=γ ⟨b,o,δ⟩->w.heap.size<=b/\o=0/\∃cs,Blk w' b 4 cs:=by
 have WR:=uS hc;have WP:=hs.l3;have HS:=aJ hs;have HC:=aJ hc;have WW:=aJ WR;have Z:=aJ WP;clear hs hc WR WP;unfold stV;go_enter func30,ntmps30;(go_wp2_with fail);have F:Ext w ((w.alloc (.cells #[.string s.name,.slice A0 n0 c0,.slice A1 n1 c1,.slice A2 n2 c2,.slice A3 n3 c3] 27)).alloc (.cells #[.slice δ 0 0,.slice δ 0 0] 31)):=(Ext.new _ _).alloc _;obtain⟨-,C,U⟩:=ah2 w 27 #[.string s.name,.slice A0 n0 c0,.slice A1 n1 c1,.slice A2 n2 c2,.slice A3 n3 c3] 31 #[.slice δ 0 0,.slice δ 0 0];have HX:=aJ F;clear F;(try simp only[World.heap_size_alloc,eU]);generalize ((w.alloc (.cells #[.string s.name,.slice A0 n0 c0,.slice A1 n1 c1,.slice A2 n2 c2,.slice A3 n3 c3] 27)).alloc (.cells #[.slice δ 0 0,.slice δ 0 0] 31))=w_ at HX C U⊢;refine(Gn _ (HS.ext HX.o)).mono ?_;rintro _ w1 ⟨rfl,F⟩;rw[HC.o];replace HX:=HX.aC F;replace C:=C.aA F;replace U:=U.aA F;clear F;have WL:Hid (w.heap.size+1<w1.heap.size):=aJ U.lt;have k1:=C.cell;(go_wp2_with fail);clear k1;have WF:Ext w1 (w1.alloc (.cells #[.slice δ 0 0,.slice δ 0 0] 31)):=Ext.new _ _;have HN:Hid (NmS w (w1.alloc (.cells #[.slice δ 0 0,.slice δ 0 0] 31)) w.heap.size (w.heap.size+1) w1.heap.size #[.string s.name,.slice A0 n0 c0,.slice A1 n1 c1,.slice A2 n2 c2,.slice A3 n3 c3] 0 0 (.slice δ 0 0) (.slice δ 0 0) (fun _=>⟨δ,0,0⟩) s):=
  aJ ⟨C.ext WF,U.ext WF,Blk.new _ _ _,I5 _ _ _ _,I5 _ _ _ _,fun j hj=>absurd hj aa,fun j hj=>absurd hj aa,HX.trans WF,by have:=WL.o;omega⟩
 clear WF HX C U WL;generalize (w1.alloc (.cells #[.slice δ 0 0,.slice δ 0 0] 31))=w2 at HN⊢;generalize w1.heap.size=g3 at HN⊢;generalize w.heap.size+1=g2 at HN⊢;generalize Xg:w.heap.size=g1 at HN⊢;clear Xg;have WY:n3<=16:=by have:=WW.nq;have:=Z.o;omega
 have M:=aJ WY;clear WY;go_loopw [4] (fun iv wr=>∃i:Nat,i<=n3/\iv=.int .i64 i/\∃v0 v1 K,NmS w wr g1 g2 g3 #[.string s.name,.slice A0 n0 c0,.slice A1 n1 c1,.slice A2 n2 c2,.slice A3 n3 c3] i i v0 v1 K s) (fun iv _=>n3-(intOf iv).toNat)
 case atStart=>exact⟨0,aa,rfl,_,_,_,HN.o⟩
 case round=>
  clear HN;rename World=>wr;obtain⟨i,hi,rfl,v0,v1,K,hR⟩:=hrel;have Q:=aJ hR;clear hR;by_cases WE:i<n3
  .have hd:decide ((i:Int)<(n3:Int))=ε:=ae;have q1:(0:Int)<=(i:Int):=aa;have q2:(i:Int)<(n3:Int):=aa;have XU:Hid (wrap64 ((i:Int)+1)=(i:Int)+1):=aJ (aam _ Abq);obtain⟨lb,lo,hA,hb,e0,e1,e2,e3,e4,e5,e6,e7,e8,e9,WU,Xj⟩:=((HS.ext Q.x).bays).bay WE;have Xc:=aJ ((HS.links i WE).ext Q.x);subst hA;have Xi:=aJ e6;have B:=aJ e7;clear hb e0 e1 e2 e3 e4 e5 e6 e7 e8 e9 WU Xj;have hm:(s.bays.getD i η).links.length=(L i).n:=Xc.o.1;have Xa:(L i).n<=2:=by have:=(WW.link (i:=i) Ac5).1.2;omega
   have O:=aJ Xa;have HM:=aJ hm;clear hm Xa;generalize Xd:s.bays.getD i η=bd at Xi B HM Xc;have Xl:=aJ Xd;clear Xd;have k1:=Q.b1.cell;(go_wp2_with fail);clear k1;have Xz:Hid (wr.ownsRow wr.heap.size 3 1 (.slice δ 0 0) 0 (((bd.links.take 0).map qY.pos).map (Value.int .i64))):=aJ (I5 _ _ _ _);go_loopw [5,6] (fun lv kv wq=>∃k:Nat,k<=(L i).n/\kv=.int .i64 k/\wq.ownsRow wr.heap.size 3 1 lv k (((bd.links.take k).map qY.pos).map (Value.int .i64))/\Ext wr wq) (fun _ kv _=>(L i).n-(intOf kv).toNat)
   case atStart=>exact⟨0,aa,rfl,Xz.o,Ext.refl _⟩
   case round=>
    clear Xz;rename World=>wq;obtain⟨k,hk,rfl,l,J⟩:=hrel;have HO:=aJ l;have HX:=aJ J;clear l J;by_cases G:k<(L i).n
    .have XA:decide ((k:Int)<((L i).n:Int))=ε:=ae;have r1:(0:Int)<=(k:Int):=aa;have r2:(k:Int)<((L i).n:Int):=aa;have Xt:Hid (wrap64 ((k:Int)+1)=(k:Int)+1):=aJ (aam _ (by have:=O.o;omega));obtain⟨kb,ko,I,XG,hc⟩:=(Xc.o.2.ext HX.o).at_ G;have hp:=hc 1 _ rfl;generalize Xo:bd.links.getD k η=lk at hp;have XC:=aJ Xo;clear Xo;have k1:=(Q.b1.ext HX.o).cell;have k6:=HX.cell_ Xi.o;rw[I] at k6;clear hc XG;have Xb:=HX.size;(go_wp2_with (at_builtin;refine dI BK rfl (.tmp 30) (.tmp 41) rfl wr.heap.size _ k _ rf (dX HO.o (Ext.new wq _)) wq.heap.size 1 1 [.int .i64 lk.pos] rf (Blk.new _ _ _) rfl AbS aa (by have:=O.o;omega) (by have:=O.o;omega) ae ?_));intro T H w5 Y WT Xp WG;have WI:Ext wr w5:=((HX.trans (Ext.new wq _)).mod (Mod.grown (S:=fun g=>wr.heap.size<=g) WT (fun g e=>(HO.lt g e).1)) (fun _ h=>h));have Xx:w5.ownsRow wr.heap.size 3 1 (.slice (γ ⟨T,0,δ⟩) (k+1) H) (k+1) (((bd.links.take (k+1)).map qY.pos).map (Value.int .i64)):=by
      rw[j4 (by have:=HM.o;omega),XC.o];simpa using Y
     have XF:=aJ Xx;have Xh:=aJ WI;clear Y Xx WT Xp WG WI k1 k6 hp;(go_wp2_with fail);refine⟨⟨k+1,aa,by rw[Xt.o];rfl,XF.o,Xh.o⟩,?_⟩;rw[Xt.o];simp[intOf];omega
    .have XA:decide ((k:Int)<((L i).n:Int))=ζ:=ae;obtain rfl:k=(L i).n:=aa;have k1:=(Q.b1.ext HX.o).cell;have k6:=HX.cell_ Xi.o;(go_wp2_with fail);have l:=HO.o;rw[<-HM.o,acp] at l;obtain⟨A5,c5,rfl,_,_,_⟩:=ae9 0 l;rw[HM.o] at l;have P:=aJ l;clear l HO k1 k6;have WM:=aJ (Q.ext HX.o);have Xu:=aK.blk WM.b1;have Xr:=aK.blk WM.b3;have Zn:=aK.cell (HX.cell_ B.o);have Xv:=aJ Q.x.size;clear Q Xc;refine bK 9 (fun j=>j==8) (fun j lo hi v w=>j=8->v=.slice (γ ⟨lo,0,δ⟩) 1 1/\lo<hi/\Blk w lo 4 #[.bool bd.closed]) (fun j lo hi v w w' h x e=>⟨(h e).1,(h e).2.1,(h e).2.2.ext x⟩) ah ah ?_;refine Qd ?_;refine Qs ?_;refine dJ rf rf rf ?_ ?_
     .intro R I;go_simp;exact⟨Ext.new _ _,rfl,ag,Blk.new _ _ _⟩
     intro v_ Xn Yd WO;obtain⟨R,WK⟩:=WO;obtain⟨rfl,WV,-⟩:=WK.get rfl;clear WK R;refine Qp ?_;refine bD ?_;intro wE I;have b8:Blk wE Xn 4 _:=(I.at_ 8 rf rfl).2.2;have F:=I.ext;have WN:=aJ b8;have D:=aJ (WM.ext F);have Xy:=aJ (dX P.o F);have WJ:=aJ (HX.trans F);clear I F Xu Xr Zn WM P HX b8 WV;refine dI CW rfl (.tmp 44) (.tmp 51) rfl w.heap.size v0 i _ rf D.o0 Xn 1 1 [.bool bd.closed] rf WN.o rfl AbS aa Abq Abq (by have:=D.x.size;omega) ?_;intro T H w5 Y WT Xp WG;refine Qp ?_;have W:i<s.bays.length:=by have:=Z.o;omega
     have WZ:=D.bool W WT (by rw[Xl.o];exact Y);have Xm:=nA (u:=.slice (γ ⟨T,0,δ⟩) (i+1) H) (j:=0) (rq D.o0 Xy.o aj (Mod.grown WT fun g e=>e)) (D.b3.mod (Mod.grown (S:=fun g=>v0.ownBlock=γ g) WT fun g e=>e) (fe D.o0 D.b3 aj)) aj;have WS:=D.b3.mod (Mod.grown (S:=fun g=>v0.ownBlock=γ g) WT fun g e=>e) (fe D.o0 D.b3 aj);have WH:=aJ WZ;have W9:=aJ Xm;have k3:=WS.cell;have f3:=WS.frozen;have XJ:=aJ D.x.size;have XI:=WJ.size;clear WZ Xm WS Y WT Xp WG D Xy WN;have Xe:World.ownsRow (w5.setCell ⟨g3,0,δ⟩ (.slice (γ ⟨T,0,δ⟩) (i+1) H)) w.heap.size 3 1 (Hd.v ⟨A5,(L i).n,c5⟩) (L i).n ((bd.links.map qY.pos).map (Value.int .i64)):=by
      exact W9.less (base':=w.heap.size) Xv.o
     have Xf:=aJ Xe;clear Xe W9;rw[HM.o];(go_wp2_with (at_builtin;refine Hid.o ?_));refine aJ ?_;refine dI CL rfl (.tmp 55) (.tmp 57) rfl w.heap.size v1 i _ rf (dX WH.o1 (Ext.new _ _)) w5.heap.size 1 1 [.slice A5 (L i).n c5] rf (aeS _ _ ag) rfl AbS aa Abq Abq (by have:=WH.x.size;have:=(Ext.new (w5.setCell ⟨g3,0,δ⟩ (.slice (γ ⟨T,0,δ⟩) (i+1) H)) (.cells #[.slice A5 (L i).n c5] 92)).size;omega) ?_;intro gT XH w7 Xw Xk XE XM;have N:Ext (w5.setCell ⟨g3,0,δ⟩ (.slice (γ ⟨T,0,δ⟩) (i+1) H)) ((w5.setCell ⟨g3,0,δ⟩ (.slice (γ ⟨T,0,δ⟩) (i+1) H)).alloc (.cells #[.slice A5 (L i).n c5] 92)):=Ext.new _ _;have Xq:=(WH.ext N).row (k:=⟨A5,(L i).n,c5⟩) (by rw[Xl.o,HM.o]) (by rw[Xl.o];exact dX Xf.o N) Xk Xw;have WS:=(WH.ext N).b3.mod (Mod.grown (S:=fun g=>v1.ownBlock=γ g) Xk fun g e=>e) (fe (WH.ext N).o1 (WH.ext N).b3 aj);have k3:=WS.cell;have f3:=WS.frozen;have XB:=aJ Xq;clear Xq WS N Xw Xk XE XM;(go_wp2_with fail);refine⟨⟨i+1,aa,by rw[XU.o];rfl,_,_,_,XB.o⟩,?_⟩;rw[XU.o];simp[intOf];omega
  .have hd:decide ((i:Int)<(n3:Int))=ζ:=ae;obtain rfl:i=n3:=aa;obtain⟨PA,pc,PB,qc,rfl,rfl,WX⟩:=Q.fin Z.symm (by have:=M.o;have:=Z.o;omega) (fun j hj=>by have:=Q.kn j hj;have:=(WW.link (i:=j) Ac5).1.2;omega);have XD:=aJ WX;clear WX;have k1:=Q.b1.cell;have k3:=Q.b3.cell;have V:=Q.b2.cell;have f2:=Q.b2.frozen;(go_wp2_with fail);have WQ:=(Q.b2.nL 0 (.slice PA i pc)).nL 1 (.slice PB i qc);have m2:Mod (fun k=>k=g2) wr ((wr.setCell ⟨g2,0,δ⟩ (.slice PA i pc)).setCell ⟨g2,1,δ⟩ (.slice PB i qc)):=(Mod.only (S:=fun k=>k=g2) (Only.set _ _ _ _) rfl).trans (Mod.only (Only.set _ _ _ _) rfl);refine rV rfl rfl rf WQ underlying31 rfl ah ⟨PA,pc,PB,qc,K,rfl,?_,Q.x.mod m2 (fun k e=>by have:=Q.lo;have e:k=g2:=e;omega),Rx (jh Q.o0 m2 (fun k e1 e0=>fe Q.o0 Q.b2 aj (by rw[e1,show k=g2 from e0])))⟩;exact XD.o _ m2
def FP{A0:Option Addr}{n0 c0:Nat}{A1:Option Addr}{n1 c1:Nat}{A2:Option Addr}{n2 c2:Nat}{A3:Option Addr}{n3 c3:Nat}{L:Nat->Hd}{s:StD}(w:World)(hs:lQ w A0 n0 c0 A1 n1 c1 A2 n2 c2 A3 n3 c3 L s)(hc:chk s=0):
  Calls prog 30 #[stV s.name A0 n0 c0 A1 n1 c1 A2 n2 c2 A3 n3 c3] w fun e w'=>∃PA j PB qc K,e=.returned (mO PA n3 j PB n3 qc)/\iW w' PA n3 PB n3 K (normal s)/\Ext w w':=
 (vw w hs hc).mono fun _ _ ⟨PA,j,PB,qc,K,B,l,C,_⟩=>⟨PA,j,PB,qc,K,B,l,C⟩
theorem fA{P ops rest C}{Q:Act->Prop}{o a}(Y:Region.wanted o (yielded ops a.tmps)=ε)(F)(x:Operand)(l:o.op=.load F x)(b B)(J:a.eval x=.pointer (γ ⟨b,B,δ⟩))(cs)(d:TypeDesc)(j:∀w,C w->w.rangeAt b B cs)(D:P.underlying F=γ d)(hd:d.isRow=ε)(hi:(P.info? F).map (·.size)=γ cs.length)(h:wpQuiet P ops C Q rest (a.put o.dst (.agg cs.toArray))):wpQuiet P ops C Q (o::rest) a:=by
 unfold wpQuiet;rw[ι Y];refine⟨.agg cs.toArray,fun w Y=> ?_,h⟩;unfold Oper.quietAt execOp;simp only[l,J,Instr.loadAt,Instr.sureAddr,aaK,aa7,aaF,run_loadVar_mid w b B F cs d (j w Y) D hd hi];exact⟨rfl,rfl⟩
inductive NP where
 |any
 |gv (q:GQ) (n:Nat)
 |pv (p:PQ) (n:Nat)
 |eq (u:Value)
def NP.holds:NP->Nat->Nat->Value->World->Prop
 | .any,_,_,_,_=>True
 | .gv q n,_,_,v,w=>GV w v q n
 | .pv p n,_,_,v,w=>PV w v p n
 | .eq u,_,_,v,_=>v=u
def afP(f:NP){lo hi v w w'}(h:f.holds lo hi v w)(x:Ext w w'):f.holds lo hi v w':=by
 cases f with
 |any=>trivial
 |gv q n=>exact GV.ext h x
 |pv p n=>exact PV.ext h x
 |eq u=>exact h
def TS:List (Nat×NP)->Nat->NP
 |[],_=> .any
 |p::r,i=>bif Nat.beq p.1 i then p.2 else TS r i
def VR:List (Nat×NP)->Nat->Bool
 |[],_=>ζ
 |p::r,i=>Nat.beq p.1 i||VR r i
def NPs (l:List (Nat×NP)):Nat->Nat->Nat->Value->World->Prop:=fun i lo hi v w=>(TS l i).holds lo hi v w
def Pp(l:List (Nat×NP)):∀i lo hi v w w',NPs l i lo hi v w->Ext w w'->NPs l i lo hi v w':=fun _ _ _ _ _ _ h x=>afP _ h x
def Blk.We{w g n m o t e}(h:Blk w g t (aO n e).toArray)(B:2*m+1<n)(l:o=m*12):w.rangeAt g o (aO 2 fun t=>e (2*m+t)):=fun j v hv=>by
 have C:j<12:=by have:=(ν.1 hv).1;rwa[aX] at this
 rw[h.cell,Ω,<-hv,l];obtain⟨a,b,rfl,hb⟩:∃a b,j=a*6+b/\b<6:=⟨j/6,j%6,aa,aa⟩;rw[dN (f:=fun t=>e (2*m+t)) hb aa,show m*12+(a*6+b)=(2*m+a)*6+b by omega,dN hb aa]
def Ph3.pv{w e P n}(h:Ph3 w e P n){m}(j:m<3):PV w (.agg (aO 2 fun t=>e (2*m+t)).toArray) (P m) n:=afI (h m j).1 (h m j).2
def uD(m n w)(l0: -9223372036854775808<=m)(u0:m<=9223372036854775807)(l1: -9223372036854775808<=n)(u1:n<=9223372036854775807):
  CV 18 #[.int .i64 m,.int .i64 n] w fun v w'=>GV w' v (GQ.i m n) 64:=
 (Ld m n w l0 u0 l1 u1).mono fun e w' ⟨v,O,hv,J⟩=>⟨v,O,⟨m,n,1,hv,KD m n,VL l0 u0 l1 u1⟩,J⟩
section
variable {b:BrD}
def tO(B:b.b=17):lv [b] b.a=ε:=nO.2 (.neutral b ag B)
theorem Ff(hb:gG b)(B:b.b=17)(sq):usd (lv [b]) sq [b]=[b.nb sq]:=by
 unfold usd;have:used (lv [b]) b=ε:=by
  unfold used;rw[tO B,B];have:=hb.a;simp;omega
 simp[List.filter_cons,this]
def JV(hb:gG b):∀c∈[b],gG c:=fun c hc=>by
 simp only[pq,Z5,aa2] at hc;subst hc;exact hb
def Lt(f:Nb->GQ)(x):gY f [x]=f x:=by
 show GQ.i 0 0+f x=f x;ext<;>simp only[GQ.bR,GQ.bN,GQ.dE,GQ.dD]<;>grind
theorem Mi(hb:gG b)(B:b.b=17)(sq v):GQ.i 1 0/b.zs sq*qy (lv [b]) (rwx (lv [b])) (cnt (lv [b]) 18) (usd (lv [b]) sq [b]) v b.a=v (rwx (lv [b]) b.a):=by
 have hn:=xX (JV hb) sq;have h:=hn.kcl (v:=v) (tO B);have ha:=hb.a;rw[Ff hb B] at h⊢;rw[Lt] at h;rw[<-h];unfold Nb.at_;show _=(if b.a=b.a then GQ.i 1 0/b.zs sq*(_-_) else _)+(if b.a=b.b then _ else GQ.i 0 0);rw[ι rfl,θ aa,GQ.add_zero'];show _=GQ.i 1 0/b.zs sq*(qy (lv [b]) (rwx (lv [b])) (cnt (lv [b]) 18) [b.nb sq] v b.a-qy (lv [b]) (rwx (lv [b])) (cnt (lv [b]) 18) [b.nb sq] v b.b);rw[pu (k:=b.b) (by rw[B];exact(Cg (JV hb)).none)];generalize qy _ _ _ _ _ _=U;ext<;>simp only[GQ.dO,GQ.dQ,GQ.aZ,GQ.aY,GQ.dE,GQ.dD]<;>grind
def Ue(hb:gG b)(sq):GQ.i 1 0/b.zs sq≠GQ.i 0 0:=fun e=>by
 have:=hb.im sq;show False;have j:(b.nb sq).y=GQ.i 1 0/b.zs sq:=rfl;rw[j,e] at this;simp only[GQ.dD] at this;grind
theorem KW(hb:gG b)(B:b.b=17):bef [b] b.a=GQ.i b.emf 0:=by
 have h:=Mi hb B 1 (feed (rwx (lv [b])) (usd (lv [b]) 1 [b]));rw[(xX (JV hb) 1).Td (tO B),Ff hb B,Lt] at h;unfold Nb.src at h;rw[ι ⟨B,rfl⟩] at h;unfold bef;rw[Ff hb B];refine ae8 (c:=GQ.i 1 0/b.zs 1) ?_ (Ue hb 1);rw[GQ.eD,h];exact GQ.eD _ _
theorem El(hb:gG b)(B:b.b=17)(sq):drp [b] b.a sq b.a=b.zs sq:=by
 have h:=Mi hb B sq (unit (rwx (lv [b]) b.a));unfold drp;refine ae8 (c:=GQ.i 1 0/b.zs sq) ?_ (Ue hb sq);rw[GQ.eD,h,GQ.eD,La (hb.ne sq)];show(if rwx (lv [b]) b.a=rwx (lv [b]) b.a then GQ.i 1 0 else GQ.i 0 0)=_;rw[ι rfl]
end
def gBr:BrD:=⟨13,17,⟨0,10⟩,⟨0,10⟩,1,1,100⟩
def AA:gG gBr:=⟨aj,aj,aj,aj,aj,aj,aj⟩
theorem IV(sq):gBr.zs sq=GQ.i 0 10:=by
 unfold BrD.zs;rw[show gBr.z0=⟨0,10⟩ from rfl,show gBr.z1=⟨0,10⟩ from rfl,adC];decide+kernel
theorem nZ(f)(l:f.kind≠0)(n):qD [gBr] 13 f n=sV f.kind (GQ.i 100 0) (GQ.i 0 10) (GQ.i 0 10) (GQ.i f.r 0) n:=by
 unfold qD;have T:lv [gBr] 13=ε:=tO (b:=gBr) rfl;rw[ι ⟨l,T⟩];unfold fcu;have B:bef [gBr] 13=GQ.i 100 0:=KW AA rfl;have j:∀sq,drp [gBr] 13 sq 13=GQ.i 0 10:=fun sq=>(El AA rfl sq).trans (IV sq);rw[B,j,j]
def Sr:phv (qD [gBr] 13 ⟨10,ζ,0,0,0,0⟩) 0 0=⟨GQ.i 0 (-10),GQ.i 0 0⟩:=by
 show phq (qD [gBr] 13 ⟨10,ζ,0,0,0,0⟩) 0*PQ.zp 0=_;rw[show PQ.zp 0=PQ.one from rfl,PQ.kD,Tq,nZ _ aj,nZ _ aj,nZ _ aj];refine PQ.ext ?_ ?_<;>decide+kernel
def Uu:phv (qD [gBr] 13 ⟨1,ζ,0,0,0,0⟩) 0 0=⟨GQ.i 0 (-10),GQ.i 0 0⟩:=by
 show phq (qD [gBr] 13 ⟨1,ζ,0,0,0,0⟩) 0*PQ.zp 0=_;rw[show PQ.zp 0=PQ.one from rfl,PQ.kD,Tq,nZ _ aj,nZ _ aj,nZ _ aj];refine PQ.ext ?_ ?_<;>decide+kernel
def Sa:phv (qD [gBr] 13 ⟨1,ζ,0,0,0,0⟩) 0 1=PQ.zero:=by
 show phq (qD [gBr] 13 ⟨1,ζ,0,0,0,0⟩) 1*PQ.zp 0=_;rw[show PQ.zp 0=PQ.one from rfl,PQ.kD,VA,nZ _ aj,nZ _ aj,nZ _ aj];refine PQ.ext ?_ ?_<;>decide+kernel
def zx(f:dR):bX dA vU f=[gBr]:=by
 have j:fV dA vU 1=[gBr]:=by decide+kernel
 show fV dA vU 1++[]=[gBr];rw[j];rfl
theorem wI{f:dR}(j:f.line=ζ)(B:f.kind≠0)(l:f.obj=0):dU dA vU f=13:=by
 unfold dU;rw[θ (by rw[j];decide),θ B,l];decide+kernel
theorem Blk.UI{w:World}{g m o:Nat}{t:TypeId}{a b:Value}{e:Nat->En}(h:Blk w g t (gF a b e).toArray)(B:2*m+1<12)(l:o=2+m*12):w.rangeAt g o (aO 2 fun t=>e (2*m+t)):=fun j v hv=>by
 have C:j<12:=by have:=(ν.1 hv).1;rwa[aX] at this
 rw[h.cell,Ω,<-hv,l];obtain⟨x,y,rfl,hb⟩:∃a b,j=a*6+b/\b<6:=⟨j/6,j%6,aa,aa⟩;rw[dN (f:=fun t=>e (2*m+t)) hb aa];unfold gF;rw[show 2+m*12+(x*6+y)=((2*m+x)*6+y)+1+1 by omega,ace,ace,dN hb aa]
theorem NS(n:Nat)(e:Nat->En):∀v∈aO n e,mU v=ε:=fun v hv=>by
 unfold aO at hv;rw[ac9] at hv;obtain⟨j,_,l⟩:=hv;unfold En.cells at l;simp only[pq,Z5,aa2] at l;rcases l with rfl|rfl|rfl|rfl|rfl|rfl<;>rfl
theorem RD(a b:Value)(e:Nat->En)(ha:mU a=ε)(hb:mU b=ε):∀(j:Nat) (v:Value),(gF a b e).toArray[j]? =γ v->mU v=ε:=fun j v hv=>by
 rw[Ω] at hv;have l:=y7 hv;unfold gF at l;simp only[pq] at l;rcases l with rfl|rfl|l
 .exact ha
 .exact hb
 .exact NS _ _ v l
def wY{w W W':World}{g GC GV_:Nat}{B ec ev ef:Nat->En}{s:StD}{p:dB}{f:dR}(J:Ext w W)(G:w.heap.size<=g)(hb:Blk W g 47 (gF (.slice δ 0 0) (.slice δ 0 0) B).toArray)(hs:Ba W GC GV_ ec ev ef s p f)(Y:W'=puts W g 0 (gF (.slice (γ ⟨GC,0,δ⟩) s.bays.length s.bays.length) (.slice (γ ⟨GV_,0,δ⟩) s.bays.length s.bays.length) ef)):
  Blk W' g 47 (gF (.slice (γ ⟨GC,0,δ⟩) s.bays.length s.bays.length) (.slice (γ ⟨GV_,0,δ⟩) s.bays.length s.bays.length) ef).toArray/\Ba W' GC GV_ ec ev ef s p f/\Ext w W':=by
 have m:Mod (fun k=>k=g) W W':=by rw[Y];exact Mod.puts _ _ _ _ rfl
 have F:gK (fun k=>k=g) W:=fun k C _=>by
  obtain rfl:k=g:=C;exact⟨_,_,hb,RD _ _ _ rfl rfl⟩
 have D:=bY 0 (gF (.slice (γ ⟨GC,0,δ⟩) s.bays.length s.bays.length) (.slice (γ ⟨GV_,0,δ⟩) s.bays.length s.bays.length) ef) hb;rw[iy _ _ (by rw[eZ,eZ]),<-Y] at D;have gv:∀{v:Value} {q:GQ} {n:Nat},GV W v q n->GV W' v q n:=fun h=>h.fT m F;have ph:∀{e:Nat->En} {P:Nat->PQ},Ph3 W e P 4600->Ph3 W' e P 4600:=fun h j l=>⟨gv (h j l).1,gv (h j l).2⟩;exact⟨D,⟨hs.bc.mod m (Blk.fQ hs.bc hb aj),hs.bv.mod m (Blk.fQ hs.bv hb aj),fun i hi=>ph (hs.c i hi),fun i hi=>ph (hs.v i hi),ph hs.fc,ph hs.fv⟩,eH J m (fun k e=>by have e:k=g:=e;omega)⟩
def Hq:dR:=⟨10,ζ,0,0,0,0⟩
def EU:ic dA.buses.length dA.lines.length Hq=0:=by decide+kernel
def Qq{P:Program}{fn:Func}{R:Ending->World->Prop}{a:Act}{w:World}{t u v s g g' l:Nat}{T:TypeId}{cs cs' j:Array Value}{e:Value}{d:TypeDesc}(I:fn.results= #[.cell t T,.cell u T,.cell v T,.tmp s])(hd:a.defers=[])(hp:a.tmps[t]?.getD undef=.pointer (γ ⟨g,0,δ⟩))(J:a.tmps[u]?.getD undef=.pointer (γ ⟨g',0,δ⟩))(B:a.tmps[v]?.getD undef=.pointer (γ ⟨l,0,δ⟩))(O:a.tmps[s]?.getD undef=e)(hb:Blk w g T cs)(H:Blk w g' T cs')(C:Blk w l T j)(G:P.underlying T=γ d)(F:(match d with| .struct _| .array _ _=>ε|_=>ζ)=ε)(hi:(P.info? T).map (·.size)=γ cs.size)(M:(P.info? T).map (·.size)=γ cs'.size)(D:(P.info? T).map (·.size)=γ j.size)(K:R (.returned (.tuple #[.agg cs,.agg cs',.agg j,e])) w):bodyPost P fn R .ret a w:=
 aag (v:=.tuple #[.agg cs,.agg cs',.agg j,e]) (by simp[results,I,hp,J,B,O,asAddr,abB w g T T cs (0,0) d hb G F hi,abB w g' T T cs' (0,0) d H G F M,abB w l T T j (0,0) d C G F D]) hd K
structure Ql (w:World) (a b c:En) (e:Int) (s:StD) (p:dB) (f:dR):Prop where
 none:f.kind=0->e=11
 dead:f.kind≠0->lv (bX s p f) (dU s p f)=ζ->e=46
 live:f.kind≠0->lv (bX s p f) (dU s p f)=ε->e=0/\GV w a.v (bef (bX s p f) (dU s p f)) 4400/\GV w b.v (drp (bX s p f) (dU s p f) 1 (dU s p f)) 4400/\GV w c.v (drp (bX s p f) (dU s p f) 0 (dU s p f)) 4400
def Hz:Elem prog 89 33 6 48:=ae2 underlying89 (z:=.agg #[.int .i64 0,.bool ζ,.int .i64 0,.int .i64 0,.int .i64 0,.int .i64 0]) ah rfl aa
theorem KE{A0 A2 A3 L}(g w)(hs:lQ w A0 1 1 δ 0 0 A2 1 1 A3 1 1 L dA)(h0:w.cell? ⟨g,0,δ⟩=γ (.int .i64 1))(h1:w.cell? ⟨g,1,δ⟩=γ (.int .i64 5)):
  Calls prog 35 #[stV dA.name A0 1 1 δ 0 0 A2 1 1 A3 1 1,.slice (γ ⟨g,0,δ⟩) 2 2,.int .i64 1,.int .i64 2,.int .i64 0] w fun r w'=>∃A c,r=.returned (.tuple #[.slice A 2 c,.int .i64 0])/\Ext w w':=by
 have HS:=aJ hs;have H0:=aJ h0;have H1:=aJ h1;clear hs h0 h1;unfold stV;go_enter func35,ntmps35;(go_wp2_with fail);have Z:=aJ (Ext.new w (.cells #[.string dA.name,.slice A0 1 1,.slice δ 0 0,.slice A2 1 1,.slice A3 1 1] 27));have U:=aJ (Blk.new w 27 #[.string dA.name,.slice A0 1 1,.slice δ 0 0,.slice A2 1 1,.slice A3 1 1]);generalize (w.alloc (.cells #[.string dA.name,.slice A0 1 1,.slice δ 0 0,.slice A2 1 1,.slice A3 1 1] 27))=w0 at Z U⊢;generalize w.heap.size=g5 at U⊢;refine(tL _ (HS.ext Z.o)).mono ?_;rintro _ w1 ⟨rfl,F⟩;rw[j5];replace Z:=Z.aC F;replace U:=U.aA F;clear F HS;have k5:=U.cell;have kb:=(U.ext (Ext.new w1 (.cells #[.int .i64 0,.bool ζ,.int .i64 0,.int .i64 0,.int .i64 0,.int .i64 0] 33))).cell;(go_wp2_with fail);refine adu 2 ?_;rw[acl];(go_wp2_with fail);clear k5 kb;have F:=Ext.new w1 (.cells #[.int .i64 0,.bool ζ,.int .i64 0,.int .i64 0,.int .i64 0,.int .i64 0] 33);have V:=aJ (Blk.new w1 33 #[.int .i64 0,.bool ζ,.int .i64 0,.int .i64 0,.int .i64 0,.int .i64 0]);have W9:Hid (w.heap.size<=w1.heap.size):=aJ Z.size;replace Z:=Z.aC F;replace U:=U.aA F;generalize (w1.alloc (.cells #[.int .i64 0,.bool ζ,.int .i64 0,.int .i64 0,.int .i64 0,.int .i64 0] 33))=w2 at Z U V⊢;generalize w1.heap.size=g6 at V W9⊢;clear F;have WR:Hid (g5≠g6):=aJ (Blk.fQ U.o V.o aj);refine adu 3 ?_;rw[acl];have k0:=Z.cell_ H0.o;have k6:=V.cell;have f6:=V.frozen;have hm:Mod (fun k=>k=g6) w2 (w2.setCell ⟨g6,0,δ⟩ (.int .i64 1)):=Mod.set _ _ _ _ rfl;have WO:Blk (w2.setCell ⟨g6,0,δ⟩ (.int .i64 1)) g6 33 #[.int .i64 1,.bool ζ,.int .i64 0,.int .i64 0,.int .i64 0,.int .i64 0]:=bY 0 [.int .i64 1] V.o;have j:=Blk.mod U.o hm WR.o;have I:Ext w (w2.setCell ⟨g6,0,δ⟩ (.int .i64 1)):=eH Z.o hm (fun k hk=>by have hk:k=g6:=hk;rw[hk];exact W9.o);have k5:=j.cell;have G:=WO.cell;have W:=aJ I;have H:=aJ j;have C:=aJ WO;clear I j WO hm;(go_wp2_with fail);clear k0 k6 f6 k5 G;refine(oZ _ ⟨1,ζ,0,0,0,0⟩ _).mono ?_;rintro _ wa ⟨rfl,F⟩;rw[show ic 1 0 ⟨1,ζ,0,0,0,0⟩=0 from aj];have Xn:=Ext.new wa (.cells #[.int .i64 1,.bool ζ,.int .i64 0,.int .i64 0,.int .i64 0,.int .i64 0] 33);have R:=F.trans Xn;have G:=(C.ext F).cell;have WY:=Blk.new wa 33 #[.int .i64 1,.bool ζ,.int .i64 0,.int .i64 0,.int .i64 0,.int .i64 0];have D:=(C.ext F).lt;replace Z:=aJ (W.trans R);replace U:=aJ (H.ext R);replace V:=aJ (C.ext R);have B:=aJ WY;have Xm:=aJ D;clear F W H C R Xn WY D;(go_wp2_with (at_builtin;refine Hid.o ?_));refine aJ ?_;clear G;refine dI Hz rfl (.tmp 67) (.tmp 69) rfl w.heap.size (.slice δ 0 0) 0 [] rf (I5 _ _ _ _) wa.heap.size 1 1 [.int .i64 1,.bool ζ,.int .i64 0,.int .i64 0,.int .i64 0,.int .i64 0] rf B.o rfl AbS aa aa aa Z.size ?_;intro T N w3 l hg hd WE;refine Qp ?_;have hm:=Mod.grown (S:=fun _=>False) hg (fun q hq=>by cases hq);have Q:T=(wa.alloc (.cells #[.int .i64 1,.bool ζ,.int .i64 0,.int .i64 0,.int .i64 0,.int .i64 0] 33)).heap.size:=by
  rcases hd with e|e
  .cases e
  .exact e
 have Y:Ext w w3:=eH Z.o hm (fun k hk=>hk.elim);have P:=aJ l;have M:Hid (∀q,(Value.slice (γ ⟨T,0,δ⟩) 1 N).ownBlock=γ q->q≠g6):=aJ (fun q hq=>by
  obtain rfl:T=q:=by simpa[Value.ownBlock] using hq
  have h1:=Xm.o;rw[Q,eU];omega)
 have XX:Hid (w.heap.size<=T):=aJ (by rw[Q];exact Z.size);replace U:=aJ (Blk.mod U.o hm (fun e=>e));replace V:=aJ (Blk.mod V.o hm (fun e=>e));have Xp:=aJ Y;clear l hg hd WE hm Q Y B Xm Z;have Z:=Xp;clear Xp;(go_wp2_with fail);rw[acl];have k0:=Z.cell_ H1.o;have k6:=V.cell;have f6:=V.frozen;have hm:Mod (fun k=>k=g6) w3 (w3.setCell ⟨g6,0,δ⟩ (.int .i64 5)):=Mod.set _ _ _ _ rfl;have WO:Blk (w3.setCell ⟨g6,0,δ⟩ (.int .i64 5)) g6 33 #[.int .i64 5,.bool ζ,.int .i64 0,.int .i64 0,.int .i64 0,.int .i64 0]:=bY 0 [.int .i64 5] V.o;have j:=Blk.mod U.o hm WR.o;have I:Ext w (w3.setCell ⟨g6,0,δ⟩ (.int .i64 5)):=eH Z.o hm (fun k hk=>by have hk:k=g6:=hk;rw[hk];exact W9.o);have k5:=j.cell;have G:=WO.cell;have K:=jh P.o hm (fun q hq e=>M.o q hq e);have W:=aJ I;have H:=aJ j;have C:=aJ WO;clear I j WO hm;(go_wp2_with fail);clear k0 k6 f6 k5 G;refine(oZ _ ⟨5,ζ,0,0,0,0⟩ _).mono ?_;rintro _ wa ⟨rfl,F⟩;rw[show ic 1 0 ⟨5,ζ,0,0,0,0⟩=0 from aj];have Xn:=Ext.new wa (.cells #[.int .i64 5,.bool ζ,.int .i64 0,.int .i64 0,.int .i64 0,.int .i64 0] 33);have R:=F.trans Xn;have G:=(C.ext F).cell;have WY:=Blk.new wa 33 #[.int .i64 5,.bool ζ,.int .i64 0,.int .i64 0,.int .i64 0,.int .i64 0];have D:=(C.ext F).lt;have J:=aJ (dX K R);clear K P;replace Z:=aJ (W.trans R);replace U:=aJ (H.ext R);replace V:=aJ (C.ext R);have B:=aJ WY;have Xm:=aJ D;clear F W H C R Xn WY D;(go_wp2_with (at_builtin;refine Hid.o ?_));refine aJ ?_;clear G;refine dI Hz rfl (.tmp 67) (.tmp 69) rfl w.heap.size (.slice (γ ⟨T,0,δ⟩) 1 N) 1 _ rf J.o wa.heap.size 1 1 [.int .i64 5,.bool ζ,.int .i64 0,.int .i64 0,.int .i64 0,.int .i64 0] rf B.o rfl AbS aa aa aa Z.size ?_;intro gT O w4 l hg hd WE;refine Qp ?_;have Y:Ext w w4:=eH Z.o (Mod.grown (S:=fun q=>w.heap.size<=q) hg (fun q hq=>by
  obtain rfl:T=q:=by simpa[Value.ownBlock] using hq
  exact XX.o)) (fun k hk=>hk)
 have Xp:=aJ Y;clear l hg hd WE Y B Xm Z U V J;(go_wp2_with fail);rw[acl];(go_wp2_with fail);rw[acl];(go_wp2_with fail);exact sQ rfl rfl ⟨_,_,rfl,Xp.o⟩
end Go.Proofs.YtbfnfkppkmpieaaGreat
