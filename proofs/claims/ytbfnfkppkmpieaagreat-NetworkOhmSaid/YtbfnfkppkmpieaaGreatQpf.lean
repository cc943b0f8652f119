import Derived.Test.YtbfnfkppkmpieaaGreatQpe
set_option linter.unusedVariables false
set_option linter.unusedSimpArgs false
set_option maxHeartbeats 25600000
set_option maxRecDepth 200000
set_option linter.defProp false
namespace Go.Proofs.YtbfnfkppkmpieaaGreat
open Go.RowKit
open Go.RowKit Go.ChangeShapes Go.WideShapes Go.ChangeAt Go.Joins Go.Deep
open Go.RowKit Go.Deep
open Go.Proofs.Tryz
open Option renaming some->γ,none->δ
open Bool renaming true->ε,false->ζ
open Inhabited renaming default->η
open Value renaming slice->aO
open World renaming alloc->aU
open Mc
def fl (P:Nat->PQ) (j:Nat):GQ:=if j%2=0 then (P (j/2)).u else (P (j/2)).v
def iT (v1 j:Value) (e:Nat->En):List Value:=v1::j::bz 12 e
def gz(v1 j e):(iT v1 j e).length=74:=by show(bz 12 e).length+2=74;rw[bM]
def uD:(prog.info? 47).map (·.zero)=γ (γ (.agg (iT (.slice δ 0 0) (.slice δ 0 0) fun _=>zEn).toArray)):=ah
def XV:zeroCells47=(iT (.slice δ 0 0) (.slice δ 0 0) fun _=>zEn).toArray:=ah
def Qw(a b):(zeroCells47.setIfInBounds 0 a).setIfInBounds 1 b=(iT a b fun _=>zEn).toArray:=by rw[XV];rfl
def nW(v1 j e):(prog.info? 47).map (·.size)=γ (iT v1 j e).length:=by rw[gz];kernel_rfl
def chunk (i:Nat) (x e:Nat->En) (j:Nat):En:=if j/6=i then x (j%6) else e j
theorem CW{n i}(hi:i<n)(x e):gJ (bz (n*6) e).toArray (i*36) (bz 6 x)=(bz (n*6) (chunk i x e)).toArray:=by
 rw[jR];congr 1;have I:(bz (n*6) e).length=n*6*6:=bM _ _;have C:(bz 6 x).length=36:=bM _ _;rw[I,C,χ (l:=bz 6 x) aa];apply aal;intro p;by_cases hp:p<n*6*6
 .obtain⟨j,t,rfl,D⟩:∃j t,p=j*6+t/\t<6:=⟨p/6,p%6,aa,aa⟩;have F:j<n*6:=aa;rw[dY (f:=chunk i x e) D F];have B:((bz (n*6) e).take (i*36)).length=i*36:=by rw[Bn,I];omega
  unfold chunk;by_cases G:j/6=i
  .rw[ι G];rw[Ω AaV,nG (by rw[B];omega),B,show j*6+t-i*36=j%6*6+t by omega,dY D aa]
  .rw[θ G];by_cases H:j/6<i
   .rw[Ω AaV,Ω (by rw[B];omega),PI aa,dY D F]
   .rw[nG AaV,pz,B,C,Zb,show i*36+36+(j*6+t-(i*36+36))=j*6+t by omega,dY D F]
 .rw[qb AcN,qb Ab5]
def QK:(prog.info? 45).map (fun i=>(i.zero,i.size,i.bytes))=γ (γ (.agg (bz 6 fun _=>zEn).toArray),36,576):=ah
def Cc:∀n:Nat,oI n (bz 6 fun _=>zEn)=bz (n*6) fun _=>zEn
 |0=>rfl
 |n+1=>by
  rw[qN,Cc n,IR,show(n+1)*6=n*6+6 by omega];simp only[acD]
def Mg(n:Nat)(hn:n<=1000)(W:World):(Instr.makeSlice 37 (.int .i64 n) (.int .i64 n)).run prog W=.ok (.slice (γ (aM W.heap.size 0)) n n) (W.alloc (.cells (bz (n*6) fun _=>zEn).toArray 45)):=by
 obtain⟨i0,O,B,C,j⟩:=abM QK;have h:=ac7 (P:=prog) W 37 45 i0 (.agg (bz 6 fun _=>zEn).toArray) underlying37 O B .i64 .i64 n n aa aa Abq aa;rw[h,C];have e:=qY (bz 6 fun _=>zEn) Ab5 n;rw[bM,Cc] at e;simp only[Hu];rw[show(Value.agg (bz 6 fun _=>zEn).toArray).cells=(bz 6 fun _=>zEn).toArray from rfl,e]
structure Cz (w:World) (GC GV_:Nat) (ec ev ef:Nat->En) (s:StD) (p:dM) (f:eD):Prop where
 bc:Blk w GC 45 (bz (s.bays.length*6) ec).toArray
 bv:Blk w GV_ 45 (bz (s.bays.length*6) ev).toArray
 c:∀i,i<s.bays.length->Ph3 w (fun j=>ec (i*6+j)) (phv (tC s p f i) (shf f.kind)) 4600
 v:∀i,i<s.bays.length->Ph3 w (fun j=>ev (i*6+j)) (phv (jS s p f i) (shf f.kind)) 4600
 fc:Ph3 w ef (phv (xE (bU s p f) (eO s p f) f) (shf f.kind)) 4600
 fv:Ph3 w (fun j=>ef (6+j)) (phv (fun n=>kE (bU s p f) (eO s p f) f n (eO s p f)) (shf f.kind)) 4600
def Cz.ext{w w' GC GV_ ec ev ef s p f}(h:Cz w GC GV_ ec ev ef s p f)(x:Ext w w'):Cz w' GC GV_ ec ev ef s p f:=
 ⟨h.bc.ext x,h.bv.ext x,fun i hi=>(h.c i hi).ext x,fun i hi=>(h.v i hi).ext x,h.fc.ext x,h.fv.ext x⟩
def OA(k w)(j:0<=k/\k<=10):
  Calls prog 43 #[.int .i64 k] w fun e w'=>e=.returned (.int .i64 (shf k:Nat))/\w'=w:=by
 have h:k=0\/k=1\/k=2\/k=3\/k=4\/k=5\/k=6\/k=7\/k=8\/k=9\/k=10:=aa;rcases h with rfl|rfl|rfl|rfl|rfl|rfl|rfl|rfl|rfl|rfl|rfl
 all_goals
  go_enter func43,ntmps43;go_wp2;go_ret;exact⟨rfl,rfl⟩
theorem uZ(a b e)(ha:a.oneCell'=ε)(hb:b.oneCell'=ε):∀v∈iT a b e,v.oneCell'=ε:=by
 intro v hv;unfold iT at hv;simp only[kC] at hv;rcases hv with rfl|rfl|hv
 .exact ha
 .exact hb
 .exact dN _ _ v hv
theorem Ph3.row{w e P n}(h:Ph3 w e P n):ng w 6 e (fl P) n:=fun j D=>by
 have C:=h (j/2) aa;unfold fl;by_cases B:j%2=0
 .rw[ι B];have:=C.1;rwa[show 2*(j/2)=j by omega] at this
 .rw[θ B];have:=C.2;rwa[show 2*(j/2)+1=j by omega] at this
theorem afi{w e P n}(h:ng w 6 e (fl P) n):Ph3 w e P n:=fun m C=>by
 have B:=h (2*m) aa;have j:=h (2*m+1) aa;unfold fl at B j;rw[ι aa,show 2*m/2=m by omega] at B;rw[θ aa,show(2*m+1)/2=m by omega] at j;exact⟨B,j⟩
section
variable {bs:List BrD} {fN:Nat} {f:eD} {D:GQ}
def Den.dif(h:Den bs fN f D)(n j k):Bd (kE bs fN f n j-kE bs fN f n k) 4600:=
 (((h.JG j).2.2 n).sub ((h.JG k).2.2 n)).bd (iL h.wd (by omega:2200<=2250)) h.ne aa aa
def Den.Yq(h:Den bs fN f D)(j k){m}(F:0<=m/\m<=1000000):Bd (kE bs fN f 1 j-kE bs fN f 1 k-GQ.i m 0) 4600:=by
 have C:=(((h.JG j).2.2 1).sub ((h.JG k).2.2 1));have B:Fr D 0 2251 (GQ.i m 0):=(afu (eZ h.wd (oZ (by show m.natAbs<=2^20;omega):Wh (GQ.i m 0) (q2 20)))).le aa;exact(C.sub B).bd (iL h.wd (by omega:2200<=2250)) h.ne aa aa
end
def Px(gx gf i C E){s p f D}(w)(hc:dz w gf)(J:fU w gx 105 393 (fT C E))(hv:oO w gx C E s p f)(B:jC s)(j:mR s.buses.length s.lines.length f)(H:Den (bU s p f) (eO s p f) f D)(hi:i<s.bays.length):
  Calls prog 45 #[aN gx 0,aN gf 0,(i:Int)] w fun r w'=>∃a:Nat->En,r=.returned (.agg (bz 3 a).toArray)/\ng w' 3 a (tC s p f i) 4600/\Ext w w':=by
 obtain⟨I,bc,wv,F,K,L⟩:=hv.bays;obtain⟨G,M⟩:=H.WC (way s p f i) (fun b hb=>CQ B j hi hb);exact OV gx gf i s.bays.length bc C E (kE (bU s p f) (eO s p f) f) (lv (bU s p f)) (way s p f i) I wv w hc J hv.v hv.live F K hi (L i hi) (fun b hb=>CQ B j hi hb)
  (fun b hb n hn=>H.dif n b.a b.b) (fun b hb=>H.Yq b.a b.b (CQ B j hi hb).emf) (fun n=>M.bd n)
def qL(gf sh:Nat)(a q D w)(hc:dz w gf)(ha:ng w 3 a q 4600)(hq:oK q D)(hs:sh<3):
  Calls prog 44 #[aN gf 0,.agg (bz 3 a).toArray,(sh:Int)] w fun r w'=>∃e:Nat->En,r=.returned (.agg (bz 6 e).toArray)/\ng w' 6 e (fl (phv q sh)) 4600/\Ext w w':=
 (Lf gf sh a q D w hc ha hq hs).mono fun r w' ⟨e,B,j,C⟩=>⟨e,B,j.row,C⟩
def Jn(a b l B k):gJ (a::b::l).toArray (k+2) B=(a::b::(gJ l.toArray k B).toList).toArray:=by
 rw[jR,jR];have e1:(a::b::l).length-(k+2)=l.length-k:=by simp only[nV];omega
 have j:k+2+B.length=(k+B.length)+1+1:=aa;rw[e1,j,ξ,ξ,show k+2=k+1+1 from rfl,aay,aay];simp
theorem TD(a b e x){i}(hi:i<2):gJ (iT a b e).toArray (i*36+2) (bz 6 x)=(iT a b (chunk i x e)).toArray:=by
 unfold iT;rw[Jn,CW (n:=2) hi]
structure SoS (w W:World) (g8 g10 g12 GC GV_:Nat) (C:Nat->Value) (E:Nat->En) (ec ev ef:Nat->En) (s:StD) (p:dM) (f:eD) (i k:Nat):Prop where
 g:fU W g8 105 393 (fT C E)
 c:dz W g10
 b12:Blk W g12 47 (iT (.slice (γ (aM GC 0)) s.bays.length s.bays.length) (.slice (γ (aM GV_ 0)) s.bays.length s.bays.length) ef).toArray
 bc:Blk W GC 45 (bz (s.bays.length*6) ec).toArray
 bv:Blk W GV_ 45 (bz (s.bays.length*6) ev).toArray
 vc:∀j,j<i->Ph3 W (fun t=>ec (j*6+t)) (phv (tC s p f j) (shf f.kind)) 4600
 vv:∀j,j<k->Ph3 W (fun t=>ev (j*6+t)) (phv (jS s p f j) (shf f.kind)) 4600
 x:Ext w W
 lo:w.heap.size<=g8/\w.heap.size<=g10/\w.heap.size<=g12/\w.heap.size<=GC/\w.heap.size<=GV_
 ne:GC≠GV_
section
variable {w W W':World} {g8 g10 g12 GC GV_ i k:Nat} {C:Nat->Value} {E:Nat->En} {ec ev ef:Nat->En} {s:StD} {p:dM} {f:eD}
def SoS.ext(h:SoS w W g8 g10 g12 GC GV_ C E ec ev ef s p f i k)(x:Ext W W'):SoS w W' g8 g10 g12 GC GV_ C E ec ev ef s p f i k:=
 ⟨h.g.ext x,h.c.ext x,h.b12.ext x,h.bc.ext x,h.bv.ext x,fun j B=>(h.vc j B).ext x,fun j B=>(h.vv j B).ext x,h.x.trans x,h.lo,h.ne⟩
def Ph3.mod{S e P n}(h:Ph3 W e P n)(m:Mod S W W')(hS:Far S W):Ph3 W' e P n:=fun j B=>⟨(h j B).1.mod m hS,(h j B).2.mod m hS⟩
def SoS.Ya(h:SoS w W g8 g10 g12 GC GV_ C E ec ev ef s p f i k):Far (fun k=>k=GC) W:=fun k j _=>by
 obtain rfl:k=GC:=j;exact⟨_,_,h.bc,dD _ _⟩
def SoS.Yf(h:SoS w W g8 g10 g12 GC GV_ C E ec ev ef s p f i k):Far (fun k=>k=GV_) W:=fun k j _=>by
 obtain rfl:k=GV_:=j;exact⟨_,_,h.bv,dD _ _⟩
theorem SoS.Yi(h:SoS w W g8 g10 g12 GC GV_ C E ec ev ef s p f i i){e}(hi:i<s.bays.length)(O:ng W 6 e (fl (phv (tC s p f i) (shf f.kind))) 4600)(H:W'=puts W GC (i*36) (bz 6 e)):SoS w W' g8 g10 g12 GC GV_ C E (chunk i e ec) ev ef s p f (i+1) i:=by
 have B:Mod (fun k=>k=GC) W W':=by rw[H];exact Mod.puts _ _ _ _ rfl
 have lo:=h.lo;have hS:=h.Ya;have K:¬g8=GC:=Blk.fw h.g h.bc aj;have P:¬g10=GC:=Blk.fw h.c h.bc aj;have F:¬g12=GC:=Blk.fw h.b12 h.bc aj;refine⟨h.g.mod B K,Blk.mod h.c B P,h.b12.mod B F,?_,h.bv.mod B (fun e=>h.ne e.symm),fun j I=> ?_,fun j I=>(h.vv j I).mod B hS,fG h.x B (fun k G=>by have G:k=GC:=G;omega),h.lo,h.ne⟩
 .have:=dm (i*36) (bz 6 e) h.bc;rw[CW hi] at this;rw[H];exact this
 .by_cases J:j=i
  .subst J;refine afi (fun t D=> ?_);show GV W' (chunk j e ec (j*6+t)).v _ _;exact AbF
  .refine afi (fun t D=> ?_);have e1:chunk i e ec (j*6+t)=ec (j*6+t):=(by unfold chunk;rw[θ aa]);show GV W' (chunk i e ec (j*6+t)).v _ _;rw[e1];exact((h.vc j aa).row t D).mod B hS
theorem SoS.Ym(h:SoS w W g8 g10 g12 GC GV_ C E ec ev ef s p f (i+1) i){e}(hi:i<s.bays.length)(O:ng W 6 e (fl (phv (jS s p f i) (shf f.kind))) 4600)(H:W'=puts W GV_ (i*36) (bz 6 e)):SoS w W' g8 g10 g12 GC GV_ C E ec (chunk i e ev) ef s p f (i+1) (i+1):=by
 have B:Mod (fun k=>k=GV_) W W':=by rw[H];exact Mod.puts _ _ _ _ rfl
 have lo:=h.lo;have hS:=h.Yf;have K:¬g8=GV_:=Blk.fw h.g h.bv aj;have P:¬g10=GV_:=Blk.fw h.c h.bv aj;have F:¬g12=GV_:=Blk.fw h.b12 h.bv aj;refine⟨h.g.mod B K,Blk.mod h.c B P,h.b12.mod B F,h.bc.mod B h.ne,?_,fun j I=>(h.vc j I).mod B hS,fun j I=> ?_,fG h.x B (fun k G=>by have G:k=GV_:=G;omega),h.lo,h.ne⟩
 .have:=dm (i*36) (bz 6 e) h.bv;rw[CW hi] at this;rw[H];exact this
 .by_cases J:j=i
  .subst J;refine afi (fun t D=> ?_);show GV W' (chunk j e ev (j*6+t)).v _ _;exact AbF
  .refine afi (fun t D=> ?_);have e1:chunk i e ev (j*6+t)=ev (j*6+t):=(by unfold chunk;rw[θ aa]);show GV W' (chunk i e ev (j*6+t)).v _ _;rw[e1];exact((h.vv j aa).row t D).mod B hS
def SoS.VD(h:SoS w W g8 g10 g12 GC GV_ C E ec ev ef s p f i k){m a e}(H:m<2)(ha:a=m*36+2)(J:W'=puts W g12 a (bz 6 e)):SoS w W' g8 g10 g12 GC GV_ C E ec ev (chunk m e ef) s p f i k/\Mod (fun k=>k=g12) W W'/\Far (fun k=>k=g12) W:=by
 subst ha;have F:Mod (fun k=>k=g12) W W':=by rw[J];exact Mod.puts _ _ _ _ rfl
 have lo:=h.lo;have hS:Far (fun k=>k=g12) W:=fun k G _=>by
  obtain rfl:k=g12:=G;refine⟨_,_,h.b12,?_⟩;show(List.all (_::_::bz 12 ef) _)=ε;rw[abR,abR];exact dD 12 ef
 have K:¬g8=g12:=Blk.fw h.g h.b12 aj;have P:¬g10=g12:=Blk.fw h.c h.b12 aj;have D:¬GC=g12:=Blk.fw h.bc h.b12 aj;have B:¬GV_=g12:=Blk.fw h.bv h.b12 aj;refine⟨⟨h.g.mod F K,Blk.mod h.c F P,?_,h.bc.mod F D,h.bv.mod F B,fun j I=>(h.vc j I).mod F hS,fun j I=>(h.vv j I).mod F hS,fG h.x F (fun k G=>by have G:k=g12:=G;omega),h.lo,h.ne⟩,F,hS⟩;have:=dm (m*36+2) (bz 6 e) h.b12;rw[TD _ _ _ _ H] at this;rw[J];exact this
def SoS.Mw(h:SoS w W g8 g10 g12 GC GV_ C E ec ev ef s p f i k){a}(ha:a+36<=74)(x):W.there g12 a (bz 6 x).length:=h.b12.there (by rw[xx,gz,bM];omega)
def WU{w gx a C E}(h:fU w gx 105 393 (fT C E))(ha:a<=57){o}(B:o=33+a*6):w.rangeAt gx o (bz 3 fun k=>E (a+k)):=fun t v hv=>by
 have F:t<18:=by have:=(μ.1 hv).1;rwa[bM] at this
 obtain⟨j,u,rfl,D⟩:∃j u,t=j*6+u/\u<6:=⟨t/6,t%6,aa,aa⟩;rw[dY D aa] at hv;have:=h.en (e:=a+j) aa (a:=33+(a+j)*6) rfl u v hv;rw[B,show 33+a*6+(j*6+u)=33+(a+j)*6+u by omega];exact this
def SoS.WK(h:SoS w W g8 g10 g12 GC GV_ C E ec ev ef s p f i k){j}(B:j<s.bays.length)(x):W.there GC (j*36) (bz 6 x).length:=h.bc.there AbQ
def SoS.WG(h:SoS w W g8 g10 g12 GC GV_ C E ec ev ef s p f i k){j}(B:j<s.bays.length)(x):W.there GV_ (j*36) (bz 6 x).length:=h.bv.there AbQ
end
theorem solve_run{A0 n0 c0 A1 n1 c1 A2 n2 c2 A3 n3 c3 LH s PA pn pc PB V qc K p}(f w)(hs:lI w A0 n0 c0 A1 n1 c1 A2 n2 c2 A3 n3 c3 LH s)(hp:iR w PA pn PB V K p)(hc:chk s=0)(ZY:jG s p=0)(hf:fD s.buses.length s.lines.length f=0):
  Calls prog 11 #[stV s.name A0 n0 c0 A1 n1 c1 A2 n2 c2 A3 n3 c3,lK PA pn pc PB V qc,nU f] w fun r w'=>∃GC GV_ ec ev ef,r=.returned (.tuple #[.agg (iT (.slice (γ (aM GC 0)) s.bays.length s.bays.length) (.slice (γ (aM GV_ 0)) s.bays.length s.bays.length) ef).toArray,aJ])/\Cz w' GC GV_ ec ev ef s (resolve 0 p) f/\Ext w w':=by
 obtain rfl:=hs.l3;have YG:=vZ hc;have ZF:=afz hf;have aE:=YG.nq;have Zn:=r9 (p:=resolve 0 p) YG ZF;obtain⟨D,hD⟩:=afM (bs:=bU s (resolve 0 p) f) (fN:=eO s (resolve 0 p) f) (f:=f) Zn.2 Zn.1 ZF.r;have ZW:=Hw YG ZF (resolve 0 p);have Yz:=aW hs;have ZL:=aW hp;have YY:=aW hc;have a2:=aW ZY;have Z7:=aW hf;have YM:=aW YG;have ZR:=aW ZF;have ap:=aW aE;have a5:=aW Zn;have HD:=aW hD;have Zp:=aW ZW;clear hs hp hc ZY hf YG ZF aE Zn hD ZW;unfold stV lK nU;go_enter func11,ntmps11;(go_wp2_with (refine bF rfl 47 rfl _ uD (fun w_ G=>Hid.o ?_)));refine Qz ?_;replace G:=Hid.o G;have HX:Hid (Ext w w_):=aW Acp;have Yy:Hid (Blk w_ w.heap.size 27 #[s.name,aO A0 n0 c0,aO A1 n1 c1,aO A2 n2 c2,aO A3 s.bays.length c3]):=aW AcX;have YI:Hid (Blk w_ (w.heap.size+1) 31 #[aO PA pn pc,aO PB V qc]):=aW Adr;have YF:Hid (Blk w_ (w.heap.size+2) 33 #[f.kind,f.line,f.obj,f.num,f.den,f.r]):=aW (by rw[G];exact(aeV _ _ ag).alloc _);have S:Hid (Blk w_ (w.heap.size+3) 47 (iT (.slice δ 0 0) (.slice δ 0 0) fun _=>zEn).toArray):=aW (by rw[G];exact aeV _ _ ag);clear G;(try simp only[eU]);have Zf:Hid (w.heap.size<=w.heap.size+3):=aW aa;generalize w.heap.size+3=g6 at S Zf⊢;generalize w.heap.size+2=g5 at YF⊢;generalize w.heap.size+1=g4 at YI⊢;generalize L:w.heap.size=g3 at Yy⊢;clear L;have k3:=Yy.cell;have k4:=YI.cell;have k5:=YF.cell;go_wp2_with fail;clear k3 k4 k5;refine(Oq f _ (Yz.ext HX.o) (ZL.ext HX.o) YY.o a2.o Z7.o).mono ?_;rintro _ w1 ⟨C,E,gx,rfl,YS,F⟩;have aw:=aW (Yz.ext (HX.trans F));replace HX:=HX.aC F;replace Yy:=Yy.aA F;replace YF:=YF.aA F;replace S:=S.aA F;have YN:=aW YS;have av:=Yy;have ZH:=S;clear F YS YI;(go_wp2_with (refine bF rfl 105 rfl _ zt (fun YQ G=>Hid.o ?_)));refine Qz ?_;replace G:=Hid.o G;have F:Ext w1 YQ:=by rw[G];exact Ext.new _ _
 have YH:Blk YQ w1.heap.size 105 (gl zC fun _=>zEn).toArray:=by rw[G];exact Blk.new _ _ _
 have N:=aW (JA (C':=C) (E':=E) YH);clear G;generalize Zq:w1.heap.size=g8 at YH N⊢;refine aY rfl 105 (.tmp 8) (.tmp 19) rfl g8 (0) (gl C E) rf rf N.o (uU C E) (Qm YN.one) (fun Yw G=> ?_);refine Qp ?_;replace G:=Hid.o G;have T:=V6 (w:=w1) F aa YH G;have YK:Hid (fU Yw g8 105 393 (fT C E)):=aW T.1;have HY:=aW T.2;have Zc:Hid (w1.heap.size<=g8):=aW aa;clear T G F YH N Zq;obtain⟨P,am⟩:=an1 Yw 109 #[aJ];have k5:=((YF.ext HY.o).ext P).cell;go_wp2_with fail;have Zj:Hid (w1.heap.size<=Yw.heap.size):=aW HY.size;have HC:Hid (dz (Yw.alloc (.cells #[aJ] 109)) Yw.heap.size):=aW am;replace Yy:=aW ((Yy.ext HY.o).ext P);replace YF:=aW ((YF.ext HY.o).ext P);replace S:=aW ((S.ext HY.o).ext P);replace YK:=YK.aA P;replace HY:=HY.aC P;clear P am k5;generalize aU _ _=w3 at Yy YF S YK HC HY⊢;generalize Yw.heap.size=g10 at HC Zj⊢;refine(OA f.kind _ ZR.kind).mono ?_;rintro _ w3 ⟨rfl,aP⟩;subst aP;have k3:=Yy.cell;obtain⟨sh,ZI⟩:∃n,shf f.kind=n:=⟨_,rfl⟩;have ZT:sh<3:=by rw[<-ZI];exact P6 _
 rw[ZI];have Zd:=aW ZI;clear ZI;have Zo:=aX.blk Yy.o;go_wp2_with fail;refine tR 10 [(3,.mk s.bays.length 45 ((bz (s.bays.length*6) fun _=>zEn).toArray)),(7,.mk s.bays.length 45 ((bz (s.bays.length*6) fun _=>zEn).toArray)),(9,.box 47 zeroCells47)] ?_;refine Qs ?_;refine dL rf rf rf ?_ ?_
 .exact Abm
 intro v_ GC aq YD;obtain⟨R,YC⟩:=YD;obtain⟨rfl,YW,-⟩:NR.holds (.mk s.bays.length 45 ((bz (s.bays.length*6) fun _=>zEn).toArray)) GC aq v_ R:=YC.get;clear YC R;refine Qp ?_;refine Qs ?_;refine dL rf rf rf ?_ ?_
 .exact Abm
 intro v_ GV_ ac YD;obtain⟨R,YC⟩:=YD;obtain⟨rfl,B,-⟩:NR.holds (.mk s.bays.length 45 ((bz (s.bays.length*6) fun _=>zEn).toArray)) GV_ ac v_ R:=YC.get;clear YC R;refine Qp ?_;refine Qs ?_;refine Eb ?_;intro g12 a4 H;refine bN ?_;intro wE I;have F:=I.ext;have ZB:=I.hB 3;have ZO:=aW (I.low 3 _ rf);have Ze:=I.hB 7;have ZG:=aW (I.low 7 _ rf);have ZE:=I.hB 9;have ZC:=aW (I.low 9 _ rf);have YV:=aW (I.nn 3 7 YW B);have Zz:=aW (I.nn 3 9 YW H);have Zm:=aW (I.nn 7 3 B YW);have Zh:=aW (I.nn 7 9 B H);have ZA:=aW (I.nn 9 3 H YW);have Zg:=aW (I.nn 9 7 H B);clear YW;clear B;clear H;have YA:=aW F;clear I F;have Za:Hid (Blk wE g12 47 (iT (.slice δ 0 0) (.slice δ 0 0) fun _=>zEn).toArray):=aW (by rw[<-XV];exact ZE.o);have N:Hid (wE.there g12 0 (iT (.slice (γ (aM GC 0)) s.bays.length s.bays.length) (.slice (γ (aM GV_ 0)) s.bays.length s.bays.length) fun _=>zEn).length):=aW (Za.there Ac4);refine aY rfl 47 (.tmp 12) (.tmp 36) rfl g12 0 (iT (.slice (γ (aM GC 0)) s.bays.length s.bays.length) (.slice (γ (aM GV_ 0)) s.bays.length s.bays.length) fun _=>zEn) rf (congrArg Value.agg (Qw _ _)) N.o (nW _ _ _) (uZ _ _ _ rfl rfl) (fun w4 G=> ?_);refine Qp ?_;replace G:=Hid.o G;have YJ:Mod (fun k=>k=g12) wE w4:=by rw[G];exact Mod.puts _ _ _ _ rfl
 have Zi:Blk w4 g12 47 (iT (.slice (γ (aM GC 0)) s.bays.length s.bays.length) (.slice (γ (aM GV_ 0)) s.bays.length s.bays.length) fun _=>zEn).toArray:=by have:=dm 0 (iT (.slice (γ (aM GC 0)) s.bays.length s.bays.length) (.slice (γ (aM GV_ 0)) s.bays.length s.bays.length) fun _=>zEn) Za.o;rw[iF _ _ (by rw[gz,gz])] at this;rw[G];exact this
 have ZP:w3.heap.size<=g12:=ZC.o;have ZX:w3.heap.size<=GC:=ZO.o;have ZK:w3.heap.size<=GV_:=ZG.o;have a0:=HY.size;have Yv:Ext w3 w4:=fG YA.o YJ (fun k hk=>by have hk:k=g12:=hk;omega);have nc:¬GC=g12:=Blk.fw ZB.o Za.o aj;have nv:¬GV_=g12:=Blk.fw Ze.o Za.o aj;have HS:Hid (SoS w1 w4 g8 g10 g12 GC GV_ C E (fun _=>zEn) (fun _=>zEn) (fun _=>zEn) s (resolve 0 p) f 0 0):=aW ⟨YK.ext Yv,HC.ext Yv,Zi,ZB.mod YJ nc,Ze.mod YJ nv,fun j hj=>absurd hj aa,fun j hj=>absurd hj aa,HY.trans Yv,⟨Zc.o,Zj.o,aa,aa,aa⟩,YV.o⟩;replace Yy:=Yy.aA Yv;replace S:=S.aA Yv;clear YJ Zi ZP ZX ZK a0 Yv nc nv G N Za ZE ZB Ze ZC ZO ZG YV Zz ZA Zh Zg Zm YA HC YK HY YF Zo k3;have k3:=Yy.cell;go_wp2_with fail;clear k3;go_loopw [40] (fun iv wr=>∃i:Nat,i<=s.bays.length/\iv=.int .i64 i/\∃ec ev,SoS w1 wr g8 g10 g12 GC GV_ C E ec ev (fun _=>zEn) s (resolve 0 p) f i i) (aT s.bays.length)
 case atStart=>exact⟨0,aa,rfl,_,_,HS.o⟩
 case round=>
  clear HS;rename World=>wr;obtain⟨i,hi,rfl,ec,ev,hR⟩:=hrel;have Q:=aW hR;clear hR;by_cases Yu:i<s.bays.length
  .have hd:decide ((i:Int)<s.bays.length)=ε:=ae;have q1:(0:Int)<=i:=aa;have q2:(i:Int)<s.bays.length:=aa;have ZM:wrap64 ((i:Int)+1)=(i:Int)+1:=Ab _ (by have:=ap.o;omega);have Zk:=aW ZM;clear ZM;obtain⟨G1,az⟩:=HD.WC (way s (resolve 0 p) f i) (fun b hb=>CQ YM.o ZR.o Yu hb);obtain⟨G2,Zv⟩:=HD.seqB YM.o Yu;have YZ:Hid (oK (tC s (resolve 0 p) f i) G1):=aW az;have YR:=aW Zv;clear az Zv;have Z:=aW ((YN.new (Y:=g8) Q.lo.1).ext Q.x);have ZQ:=aX.cell (show wr.cell? (aM g12 0)=γ (aO (γ (aM GC 0)) s.bays.length s.bays.length) from (Q.b12.cell 0).trans rfl);go_wp2_with fail;refine tR 7 [(4,.row 3 (tC s (resolve 0 p) f i) (4600)),(6,.row 6 (fl (phv (tC s (resolve 0 p) f i) sh)) (4600))] ?_;refine Qs ?_;refine dL rf rf rf ?_ ?_
   .intro R I;have hW:=I.1;clear I;go_simp;exact⟨rfl,(Px g8 g10 i C E _ (Q.c.ext hW) (Q.g.ext hW) (Z.ext hW) YM.o ZR.o HD.o Yu).mono fun e w' ⟨a,O,hv,J⟩=>⟨_,O,J,a,rfl,hv⟩⟩
   intro v_ Zt Zr YD;obtain⟨R,YC⟩:=YD;obtain⟨ea,rfl,-⟩:NR.holds (.row 3 (tC s (resolve 0 p) f i) (4600)) Zt Zr v_ R:=YC.get;clear YC R;refine Qp ?_;refine Qs ?_;refine dL rf rf rf ?_ ?_
   .intro R I;have hW:=I.1;have ZJ:ng R 3 ea (tC s (resolve 0 p) f i) 4600:=afc (I.2 4 (.agg (bz 3 ea).toArray,Zt,Zr) rf ah);clear I;go_simp;exact⟨rfl,(qL g10 sh ea _ G1 _ (Q.c.ext hW) ZJ YZ.o ZT).mono fun e w' ⟨a,O,hv,J⟩=>⟨_,O,J,a,rfl,hv⟩⟩
   intro v_ af ai YD;obtain⟨R,YC⟩:=YD;obtain⟨U,rfl,-⟩:NR.holds (.row 6 (fl (phv (tC s (resolve 0 p) f i) sh)) (4600)) af ai v_ R:=YC.get;clear YC R;refine Qp ?_;refine bN ?_;intro wE I;have F:=I.ext;have Yx:Hid (∀j,j<3->GV wE (ea j).v ((tC s (resolve 0 p) f i) j) (4600)):=aW (afc (I.at_ 4 (e:=(.agg (bz 3 ea).toArray,Zt,Zr)) rf));have YU:Hid (∀j,j<6->GV wE (U j).v ((fl (phv (tC s (resolve 0 p) f i) sh)) j) (4600)):=aW (afc (I.at_ 6 (e:=(.agg (bz 6 U).toArray,af,ai)) rf));have YA:=aW F;clear I F;have N:=aW ((Q.ext YA.o).WK Yu U);(iterate 3 (try (first|go_values|go_skip|go_guarded|go_step|go_upon|go_in|go_back|go_simp)));refine aY rfl 45 (.tmp 50) (.tmp 49) rfl GC (i*36) (bz 6 U) rf rf N.o (iO U) (dN 6 U) (fun wb G=> ?_);refine Qp ?_;replace G:=Hid.o G;have YB:=aW ((Q.ext YA.o).Yi Yu (by rw[Zd.o];exact YU.o) G);clear G N YA Yx YU ZQ Z Q;have Z:=aW ((YN.new (Y:=g8) YB.lo.1).ext YB.x);have ZQ:=aX.cell (show wb.cell? (aM g12 1)=γ (aO (γ (aM GV_ 0)) s.bays.length s.bays.length) from (YB.b12.cell 1).trans rfl);have Zo:=aX.blk (av.ext YB.x);go_wp2_with fail;refine tR 8 [(5,.row 3 (jS s (resolve 0 p) f i) (4600)),(7,.row 6 (fl (phv (jS s (resolve 0 p) f i) sh)) (4600))] ?_;refine Qs ?_;refine dL rf rf rf ?_ ?_
   .intro R I;have hW:=I.1;clear I;go_simp;exact⟨rfl,(OJ g8 g10 i C E _ (YB.c.ext hW) (YB.g.ext hW) (Z.ext hW) ((aw.ext YB.x).ext hW) YM.o Yu).mono fun e w' ⟨a,O,hv,J⟩=>⟨_,O,J,a,rfl,hv⟩⟩
   intro v_ Zw Zx YD;obtain⟨R,YC⟩:=YD;obtain⟨ea,rfl,-⟩:NR.holds (.row 3 (jS s (resolve 0 p) f i) (4600)) Zw Zx v_ R:=YC.get;clear YC R;refine Qp ?_;refine Qs ?_;refine dL rf rf rf ?_ ?_
   .intro R I;have hW:=I.1;have ZJ:ng R 3 ea (jS s (resolve 0 p) f i) 4600:=afc (I.2 5 (.agg (bz 3 ea).toArray,Zw,Zx) rf ah);clear I;go_simp;exact⟨rfl,(qL g10 sh ea _ G2 _ (YB.c.ext hW) ZJ YR.o ZT).mono fun e w' ⟨a,O,hv,J⟩=>⟨_,O,J,a,rfl,hv⟩⟩
   intro v_ ao ac YD;obtain⟨R,YC⟩:=YD;obtain⟨U,rfl,-⟩:NR.holds (.row 6 (fl (phv (jS s (resolve 0 p) f i) sh)) (4600)) ao ac v_ R:=YC.get;clear YC R;refine Qp ?_;refine bN ?_;intro wE I;have F:=I.ext;have Yx:Hid (∀j,j<3->GV wE (ea j).v ((jS s (resolve 0 p) f i) j) (4600)):=aW (afc (I.at_ 5 (e:=(.agg (bz 3 ea).toArray,Zw,Zx)) rf));have YU:Hid (∀j,j<6->GV wE (U j).v ((fl (phv (jS s (resolve 0 p) f i) sh)) j) (4600)):=aW (afc (I.at_ 7 (e:=(.agg (bz 6 U).toArray,ao,ac)) rf));have YA:=aW F;clear I F;have N:=aW ((YB.ext YA.o).WG Yu U);(iterate 3 (try (first|go_values|go_skip|go_guarded|go_step|go_upon|go_in|go_back|go_simp)));refine aY rfl 45 (.tmp 59) (.tmp 58) rfl GV_ (i*36) (bz 6 U) rf rf N.o (iO U) (dN 6 U) (fun wd G=> ?_);refine Qp ?_;replace G:=Hid.o G;have Q:=aW ((YB.ext YA.o).Ym Yu (by rw[Zd.o];exact YU.o) G);clear G N YA Yx YU ZQ Zo Z YB;go_wp2_with fail
   go_roundw
   case rel=>exact⟨i+1,aa,by rw[Zk.o];rfl,_,_,Q.o⟩
   case measure=>rw[Zk.o];exact AdW
  .obtain rfl:i=s.bays.length:=aa;have hd:decide ((s.bays.length:Int)<(s.bays.length:Int))=ζ:=ag;have Z:=aW ((YN.new (Y:=g8) Q.lo.1).ext Q.x);obtain⟨ff,Zy⟩:∃g:Nat->En,(fun k=>E (54+k))=g:=⟨_,rfl⟩;have YE:=aW (WU Q.g (a:=54) aa (o:=357) aa);rw[Zy] at YE;have ad:Hid (ng wr 3 ff (xE (bU s (resolve 0 p) f) (eO s (resolve 0 p) f) f) 4600):=aW (fun k hk=>by rw[<-Zy];exact(Z.i k hk).up aa);clear Zy;(go_wp2_with (refine σ rfl 102 _ rfl g8 (357) rf (bz 3 ff) _ YE.o z8 rfl (j3 _) (Hid.o ?_)));refine Qz ?_;go_wp2_with fail;refine(qL g10 sh ff _ D _ Q.c ad.o HD.X9 ZT).mono ?_;rintro _ we ⟨e1,rfl,M,F⟩;replace Q:=Q.aA F;replace Z:=Z.aA F;have YL:=aW M;clear M F YE ad;have N:=aW (Q.Mw (a:=2) aa e1);(go_wp2_with (refine aY rfl 45 (.tmp 65) (.tmp 64) rfl g12 (2) (bz 6 e1) rf rf N.o (iO e1) (dN 6 e1) (fun wf G=>Hid.o ?_)));refine Qz ?_;replace G:=Hid.o G;obtain⟨ZU,YT,YP⟩:=Q.VD (m:=0) aa aa G;replace Q:=aW ZU;replace YL:Hid (ng wf 6 e1 _ 4600):=aW (fun k hk=>(YL.o k hk).mod YT YP);clear ZU YT YP G N Z;have Z:=aW ((YN.new (Y:=g8) Q.lo.1).ext Q.x);obtain⟨fN,ZV⟩:∃n,eO s (resolve 0 p) f=n:=⟨_,rfl⟩;have aI:=Q.g.cell_ (k:=14) (v:=.int .i64 (fN:Int)) aa ((dU aa).trans (by rw[Z.o.faulty,ZV]));have Z9:fN<=17:=by rw[<-ZV];exact Zp.o.1
   have YX:=aW ZV;clear ZV;go_wp2_with fail;refine(Xm g8 fN C E _ Q.g Z9).mono ?_;rintro _ wg ⟨rfl,F⟩;replace Q:=Q.aA F;replace Z:=Z.aA F;replace YL:=YL.aA F;clear F aI;have aB:ng wg 3 (fun k=>E (k*18+fN)) (fun n=>kE (bU s (resolve 0 p) f) (eO s (resolve 0 p) f) f n fN) 4600:=fun k hk=>(Z.v k fN hk aa).up aa;have ad:=aW aB;clear aB;go_wp2_with fail;refine(qL g10 sh (fun k=>E (k*18+fN)) _ D _ Q.c ad.o (HD.JG fN) ZT).mono ?_;rintro _ wh ⟨e2,rfl,M,F⟩;replace Q:=Q.aA F;replace YL:=YL.aA F;have ZN:=aW M;clear M F ad Z;have N:=aW (Q.Mw (a:=38) aa e2);(go_wp2_with (refine aY rfl 45 (.tmp 71) (.tmp 70) rfl g12 (38) (bz 6 e2) rf rf N.o (iO e2) (dN 6 e2) (fun wi G=>Hid.o ?_)));refine Qz ?_;replace G:=Hid.o G;obtain⟨ZU,YT,YP⟩:=Q.VD (m:=1) aa aa G;replace Q:=aW ZU;replace YL:Hid (ng wi 6 e1 _ 4600):=aW (fun k hk=>(YL.o k hk).mod YT YP);replace ZN:Hid (ng wi 6 e2 _ 4600):=aW (fun k hk=>(ZN.o k hk).mod YT YP);clear ZU YT YP G N;obtain⟨ef,Z8⟩:∃g,chunk 1 e2 (chunk 0 e1 fun _=>zEn)=g:=⟨_,rfl⟩;rw[Z8] at Q;have ay:=aW Z8;clear Z8;have kc:wi.cell? (aM g10 0)=γ (.int .i64 0):=Q.c.cell 0;have YE:=aW Q.b12.rng;(go_wp2_with (refine σ rfl 47 _ rfl g12 (0) rf (iT (.slice (γ (aM GC 0)) s.bays.length s.bays.length) (.slice (γ (aM GV_ 0)) s.bays.length s.bays.length) ef) _ YE.o underlying47 rfl (nW _ _ _) (Hid.o ?_)));refine Qz ?_;clear kc YE;have N:Hid (wi.there g6 0 (iT (.slice (γ (aM GC 0)) s.bays.length s.bays.length) (.slice (γ (aM GV_ 0)) s.bays.length s.bays.length) ef).length):=aW ((ZH.ext Q.x).there Ac4);refine aY rfl 47 (.tmp 6) (.tmp 78) rfl g6 (0) (iT (.slice (γ (aM GC 0)) s.bays.length s.bays.length) (.slice (γ (aM GV_ 0)) s.bays.length s.bays.length) ef) rf rf N.o (nW _ _ _) (uZ _ _ _ rfl rfl) (fun wj G=> ?_);refine Qp ?_;replace G:=Hid.o G;have ax:Hid (Blk wj g6 47 (iT (.slice (γ (aM GC 0)) s.bays.length s.bays.length) (.slice (γ (aM GV_ 0)) s.bays.length s.bays.length) ef).toArray):=aW (by have:=dm 0 (iT (.slice (γ (aM GC 0)) s.bays.length s.bays.length) (.slice (γ (aM GV_ 0)) s.bays.length s.bays.length) ef) (ZH.ext Q.x);rw[iF _ _ (by rw[gz,gz])] at this;rw[G];exact this);have Zl:Hid (Mod (fun k=>k=g6) wi wj):=aW (by rw[G];exact Mod.puts _ _ _ _ rfl);have ZZ:Hid (Far (fun k=>k=g6) wi):=aW (fun k hk _=>by
    have hk:k=g6:=hk;rw[hk];refine⟨_,_,ZH.ext Q.x,?_⟩;show(List.all (_::_::bz 12 (fun _=>zEn)) _)=ε;rw[abR,abR];exact dD 12 (fun _=>zEn))
   have a1:=ZH.lt;have aG:=Q.lo;have ar:=Zf.o;have YO:Hid (Ext w wj):=aW (fG (HX.trans Q.x) Zl.o (fun k hk=>by have hk:k=g6:=hk;omega));have W:Hid (¬GC=g6):=aW aa;have a3:Hid (¬GV_=g6):=aW aa;clear G N a1 aG ar;go_wp2_with fail;refine G6 rfl rfl rfl ax.o underlying47 rfl (nW _ _ _) ⟨GC,GV_,ec,ev,ef,rfl,⟨Q.bc.mod Zl.o W.o,Q.bv.mod Zl.o a3.o,fun i hi=>(Q.vc i hi).mod Zl.o ZZ.o,fun i hi=>(Q.vv i hi).mod Zl.o ZZ.o,?_,?_⟩,YO.o⟩
   .refine afi (fun t ht=> ?_);have e0:ef t=e1 t:=(by rw[<-ay.o];unfold chunk;rw[θ aa,ι aa,aaO ht]);rw[e0,Zd.o];exact(YL.o t ht).mod Zl.o ZZ.o
   .refine afi (fun t ht=> ?_);have e0:ef (6+t)=e2 t:=(by rw[<-ay.o];unfold chunk;rw[ι aa,show(6+t)%6=t by omega]);have h2:=(ZN.o t ht).mod Zl.o ZZ.o;rw[YX.o] at h2;rw[e0,Zd.o,YX.o];exact h2
def gN:StD:=⟨⟨#[115]⟩,[⟨#[65]⟩],[],[⟨⟨#[71]⟩,100,⟨0,10⟩,⟨0,10⟩⟩],[⟨⟨#[103]⟩,2,0,0,⟨0,0⟩,[⟨0,1⟩],ε,1,1,0,1⟩]⟩
def J9:dM:=⟨[ε],[[1]]⟩
def um:normal gN=J9:=rfl
def yJ:chk gN=0:=by decide+kernel
def one_pos:jG gN J9=0:=by decide+kernel
def AC{w g k t l f}(h:Blk w g t l.toArray)(j:f 0=l):Arr w (γ ⟨g,0,δ⟩) 1 k f:=fun _=>
 ⟨g,0,rfl,h.lt,fun i hi u v hv=>by
  obtain rfl:i=0:=aa;rw[j] at hv;have e:0+0*k+u=u:=aa;rw[e,h.cell u,Γ];exact hv⟩
def Xr(w):Calls prog 33 #[] w fun r w'=>∃A0 A2 A3 L,r=.returned (stV gN.name A0 1 1 δ 0 0 A2 1 1 A3 1 1)/\lI w' A0 1 1 δ 0 0 A2 1 1 A3 1 1 L gN/\Ext w w':=by
 go_enter func33,ntmps33;go_wp2_with fail;refine nP rfl rfl rf ((((((Blk.new w _ _).alloc _).alloc _).alloc _).alloc _).alloc _) acY rfl ah ?_;refine⟨γ ⟨w.heap.size+1+1,0,δ⟩,γ ⟨w.heap.size+1+1+1,0,δ⟩,γ ⟨w.heap.size+1+1+1+1+1,0,δ⟩,fun _=>⟨γ ⟨w.heap.size+1+1+1+1,0,δ⟩,1,1⟩,rfl,⟨?_,κ _,aa,rfl,fun h=>absurd h aa,rfl,?_,rfl,?_,?_⟩,(((((Ext.new _ _).alloc _).alloc _).alloc _).alloc _).alloc _⟩
 .exact Arr.reads (f:=Value.string) (d:=η) (AC (t:=9) (l:=[.string ⟨#[65]⟩]) ((((aeV _ _ ag).alloc _).alloc _).alloc _) rfl) rfl
 .exact AC (t:=83) (l:=yn (gN.srcs.getD 0 η)) (((aeV _ _ ag).alloc _).alloc _) rfl
 .exact AC (t:=57) (aeV _ _ ag) rfl
 .intro i hi;obtain rfl:i=0:=aa;exact⟨rfl,AC (t:=137) (l:=Ms ⟨0,1⟩) ((aeV _ _ ag).alloc _) rfl⟩
def sj{w w' B B' n n' e T v G xs j}(F:w.ownsRow B e 1 v n xs)(h:w.ownsRow B' T 1 G n' j)(D:e≠T)(m:Mod (fun g=>v.ownBlock=γ g) w w'):w'.ownsRow B' T 1 G n' j:=
 mJ h m fun g e1 e0=>by
  have e0:v.ownBlock=γ g:=e0;rcases uJ F h D with C|C
  .rw[e0] at C;cases C
  .exact C (e0.trans e1.symm)
def oF{w B n g j e t v u xs cs}(h:w.ownsRow B e 1 v n xs)(hb:Blk w g t cs)(C:t≠e):(w.setCell ⟨g,j,δ⟩ u).ownsRow B e 1 v n xs:=
 mJ h (Mod.only (S:=fun k=>k=g) (Only.set w g j u) rfl) fun k e1 e0=>fH h hb C (by rw[e1,show k=g from e0])
structure NmS (w wr:World) (g1 g2 g3:Nat) (cs:Array Value) (i j:Nat) (v0 v1:Value) (K:Nat->Hd) (s:StD):Prop where
 b1:Blk wr g1 27 cs
 b2:Blk wr g2 31 #[(),()]
 b3:Blk wr g3 31 #[v0,v1]
 o0:wr.ownsRow w.heap.size 4 1 v0 i (((s.bays.take i).map iA.closed).map Value.bool)
 o1:wr.ownsRow w.heap.size 92 1 v1 j (zk K j)
 ks:xq wr w.heap.size j K (fun j=>(s.bays.getD j η).links.map qP.pos)
 kn:∀k,k<j->(K k).n=(s.bays.getD k η).links.length
 x:Ext w wr
 lo:w.heap.size<=g1/\g1<g2/\g2<g3
section
variable {w wr wr':World} {g1 g2 g3 i j:Nat} {cs:Array Value} {v0 v1:Value} {K:Nat->Hd} {s:StD}
def NmS.ext(h:NmS w wr g1 g2 g3 cs i j v0 v1 K s)(x:Ext wr wr'):NmS w wr' g1 g2 g3 cs i j v0 v1 K s:=
 ⟨h.b1.ext x,h.b2.ext x,h.b3.ext x,eY h.o0 x,eY h.o1 x,h.ks.ext x,h.kn,h.x.trans x,h.lo⟩
def NmS.bool(h:NmS w wr g1 g2 g3 cs i j v0 v1 K s){B}(hi:i<s.bays.length)(G:wr.grownBy wr' v0.ownBlock)(F:wr'.ownsRow w.heap.size 4 1 B (i+1) (((s.bays.take i).map iA.closed).map Value.bool++[.bool (s.bays.getD i η).closed])):
  NmS w (wr'.setCell ⟨g3,0,δ⟩ B) g1 g2 g3 cs (i+1) j B v1 K s:=by
 have m:Mod (fun g=>v0.ownBlock=γ g) wr wr':=Mod.grown G fun g e=>e;have b3:=h.b3.mod m (fH h.o0 h.b3 aj);have C:Mod (fun k=>k=g3) wr' (wr'.setCell ⟨g3,0,δ⟩ B):=Mod.only (Only.set _ _ _ _) rfl;have lo:=h.lo;refine⟨(h.b1.mod m (fH h.o0 h.b1 aj)).mod C aa,(h.b2.mod m (fH h.o0 h.b2 aj)).mod C aa,b3.qG 0 B,?_,oF (sj h.o0 h.o1 aj m) b3 aj,fun k D=>oF (sj h.o0 (h.ks k D) aj m) b3 aj,h.kn,(h.x.mod m fun k e=>(h.o0.lt k e).1).mod C (fun k e=>by have e:k=g3:=e;omega),h.lo⟩;rw[kY hi,aaq,aaq];exact oF F b3 aj
def NmS.row(h:NmS w wr g1 g2 g3 cs i j v0 v1 K s){B k}(hn:k.n=(s.bays.getD j η).links.length)(G:wr.ownsRow w.heap.size 3 1 k.v k.n (((s.bays.getD j η).links.map qP.pos).map (Value.int .i64)))(I:wr.grownBy wr' v1.ownBlock)(F:wr'.ownsRow w.heap.size 92 1 B (j+1) (zk K j++[k.v])):
  NmS w (wr'.setCell ⟨g3,1,δ⟩ B) g1 g2 g3 cs i (j+1) v0 B (fun t=>if t=j then k else K t) s:=by
 have m:Mod (fun g=>v1.ownBlock=γ g) wr wr':=Mod.grown I fun g e=>e;have b3:=h.b3.mod m (fH h.o1 h.b3 aj);have C:Mod (fun k=>k=g3) wr' (wr'.setCell ⟨g3,1,δ⟩ B):=Mod.only (Only.set _ _ _ _) rfl;have lo:=h.lo;have H:zk (fun t=>if t=j then k else K t) (j+1)=zk K j++[k.v]:=by
  rw[EJ,ι rfl];congr 1;exact Ch fun t D=>θ aa
 refine⟨(h.b1.mod m (fH h.o1 h.b1 aj)).mod C aa,(h.b2.mod m (fH h.o1 h.b2 aj)).mod C aa,b3.qG 1 B,oF (sj h.o1 h.o0 aj m) b3 aj,?_,fun t D=> ?_,fun t D=> ?_,(h.x.mod m fun k e=>(h.o1.lt k e).1).mod C (fun k e=>by have e:k=g3:=e;omega),h.lo⟩
 .rw[H];exact oF F b3 aj
 .show World.ownsRow _ _ _ _ (if t=j then k else K t).v (if t=j then k else K t).n _;by_cases e:t=j
  .subst e;rw[ι rfl];exact oF (sj h.o1 G aj m) b3 aj
  .rw[θ e];exact oF (sj h.o1 (h.ks t aa) aj m) b3 aj
 .show(if t=j then k else K t).n=_;by_cases e:t=j
  .subst e;rw[ι rfl];exact hn
  .rw[θ e];exact h.kn t aa
def Fw{i}:(normal s).links.getD i []=(s.bays.getD i η).links.map qP.pos:=by
 show(s.bays.map fun b=>b.links.map qP.pos).getD i []=_;rw[π,π,Aa];cases s.bays[i]? <;>rfl
def NmS.Xu(h:NmS w wr g1 g2 g3 cs i i v0 v1 K s)(m:Mod (fun k=>k=g2) wr wr')(hi:i=s.bays.length)(hn:s.bays.length<=1000000)(F:∀j,j<i->(K j).n<=1000000):∃PA G PB qc,v0=.slice PA i G/\v1=.slice PB i qc/\iR wr' PA i PB i K (normal s):=by
 have n0:∀{e:TypeId} {n:Nat} {v:Value} {xs:List Value},wr.ownsRow w.heap.size e 1 v n xs->31≠e->wr'.ownsRow w.heap.size e 1 v n xs:=fun D C=>mJ D m fun k e1 e0=>fH D h.b2 C (by rw[e1,show k=g2 from e0]);refine iR.made (B:=w.heap.size) (p:=normal s) ?_ (n0 h.o1 aj) (by show(s.bays.map _).length=_;rw[aaB,hi]) (fun j H=> ?_) aa aa F
 .have:=n0 h.o0 aj;rw[hi,aci] at this;rw[hi];exact this
 .show wr'.ownsRow w.heap.size 3 1 (K j).v (K j).n (((normal s).links.getD j []).map (Value.int IntKind.i64));rw[Fw];exact n0 (h.ks j H) aj
def Mod.same{S}(w):Mod S w w:=ae0 (Ext.refl w)
def NmS.fin(h:NmS w wr g1 g2 g3 cs i i v0 v1 K s)(hi:i=s.bays.length)(hn:s.bays.length<=1000000)(D:∀j,j<i->(K j).n<=1000000):∃PA C PB qc,v0=.slice PA i C/\v1=.slice PB i qc/\∀wr',Mod (fun k=>k=g2) wr wr'->iR wr' PA i PB i K (normal s):=by
 obtain⟨PA,C,PB,qc,e0,e1,_⟩:=h.Xu (Mod.same wr) hi hn D;refine⟨PA,C,PB,qc,e0,e1,fun wr' m=> ?_⟩;obtain⟨F,G,I,H,f0,B,hp⟩:=h.Xu m hi hn D;rw[e0] at f0;rw[e1] at B;injection f0 with f0 _ _;injection B with B _ _;subst f0 B;exact hp
end
def TU{w:World}{base:Nat}{e:TypeId}{n c:Nat}{A:Option Addr}{xs:List Value}(h:w.ownsRow base e 1 (.slice A n c) n xs):∀b o,A=γ ⟨b,o,δ⟩->base<=b/\o=0/\∃cs,Blk w b e cs:=by
 rintro b o rfl;obtain⟨_,⟨C,_⟩|⟨g,N,cur,j,B,F,_⟩⟩:=h
 .cases C
 .injection j with j _ _;injection j with j;injection j with j D _;subst j D;exact⟨B,rfl,cur,F⟩
theorem La{A0:Option Addr}{n0 c0:Nat}{A1:Option Addr}{n1 c1:Nat}{A2:Option Addr}{n2 c2:Nat}{A3:Option Addr}{n3 c3:Nat}{L:Nat->Hd}{s:StD}(w:World)(hs:lI w A0 n0 c0 A1 n1 c1 A2 n2 c2 A3 n3 c3 L s)(hc:chk s=0):
  Calls prog 30 #[stV s.name A0 n0 c0 A1 n1 c1 A2 n2 c2 A3 n3 c3] w fun e w'=>∃PA pc PB qc K,e=.returned (lK PA n3 pc PB n3 qc)/\iR w' PA n3 PB n3 K (normal s)/\Ext w w'/\∀b o,PA=γ ⟨b,o,δ⟩->w.heap.size<=b/\o=0/\∃cs,Blk w' b 4 cs:=by
 have YG:=vZ hc;have YH:=hs.l3;have HS:=aW hs;have HC:=aW hc;have YM:=aW YG;have Z:=aW YH;clear hs hc YG YH;unfold stV;go_enter func30,ntmps30;go_wp2_with fail;have F:Ext w (aL (aL w #[s.name,aO A0 n0 c0,aO A1 n1 c1,aO A2 n2 c2,aO A3 n3 c3] 27) #[(),()] 31):=(Ext.new _ _).alloc _;obtain⟨-,Yw,U⟩:=ah2 w 27 #[s.name,aO A0 n0 c0,aO A1 n1 c1,aO A2 n2 c2,aO A3 n3 c3] 31 #[(),()];have HX:=aW F;clear F;(try simp only[World.heap_size_alloc,eU]);generalize aU _ _=w_ at HX Yw U⊢;refine(zM _ (HS.ext HX.o)).mono ?_;rintro _ w1 ⟨rfl,F⟩;rw[HC.o];replace HX:=HX.aC F;replace Yw:=Yw.aA F;replace U:=U.aA F;clear F;have Yy:Hid (w.heap.size+1<w1.heap.size):=aW U.lt;have C:=Yw.cell;go_wp2_with fail;clear C;have Yv:Ext w1 (aL w1 #[(),()] 31):=Ext.new _ _;have HN:Hid (NmS w (aL w1 #[(),()] 31) w.heap.size (w.heap.size+1) w1.heap.size #[s.name,aO A0 n0 c0,aO A1 n1 c1,aO A2 n2 c2,aO A3 n3 c3] 0 0 (.slice δ 0 0) (.slice δ 0 0) (fun _=>⟨δ,0,0⟩) s):=
  aW ⟨Yw.ext Yv,U.ext Yv,Blk.new _ _ _,RS _ _ _ _,RS _ _ _ _,fun j hj=>absurd hj aa,fun j hj=>absurd hj aa,HX.trans Yv,by have:=Yy.o;omega⟩
 clear Yv HX Yw U Yy;generalize aU _ _=w2 at HN⊢;generalize w1.heap.size=g3 at HN⊢;generalize w.heap.size+1=g2 at HN⊢;generalize YO:w.heap.size=g1 at HN⊢;clear YO;have Zd:n3<=16:=by have:=YM.nq;have:=Z.o;omega
 have D:=aW Zd;clear Zd;go_loopw [4] (fun iv wr=>∃i:Nat,i<=n3/\iv=.int .i64 i/\∃v0 v1 K,NmS w wr g1 g2 g3 #[s.name,aO A0 n0 c0,aO A1 n1 c1,aO A2 n2 c2,aO A3 n3 c3] i i v0 v1 K s) (aT n3)
 case atStart=>exact⟨0,aa,rfl,_,_,_,HN.o⟩
 case round=>
  clear HN;rename World=>wr;obtain⟨i,hi,rfl,v0,v1,K,hR⟩:=hrel;have Q:=aW hR;clear hR;by_cases Yu:i<n3
  .have hd:decide ((i:Int)<n3)=ε:=ae;have q1:(0:Int)<=i:=aa;have q2:(i:Int)<n3:=aa;have Zk:Hid (wrap64 ((i:Int)+1)=(i:Int)+1):=aW (Ab _ Adc);obtain⟨lb,lo,hA,hb,e0,e1,e2,e3,e4,e5,e6,e7,e8,e9,Yx,YE⟩:=((HS.ext Q.x).bays).bay Yu;have YP:=aW ((HS.links i Yu).ext Q.x);subst hA;have YW:=aW e6;have YL:=aW e7;clear hb e0 e1 e2 e3 e4 e5 e6 e7 e8 e9 Yx YE;have hm:(s.bays.getD i η).links.length=(L i).n:=YP.o.1;have YT:(L i).n<=2:=by have:=(YM.link (i:=i) AcD).1.2;omega
   have O:=aW YT;have HM:=aW hm;clear hm YT;generalize Ze:s.bays.getD i η=bd at YW YL HM YP;have YV:=aW Ze;clear Ze;have C:=Q.b1.cell;go_wp2_with fail;clear C;have Zr:Hid (wr.ownsRow wr.heap.size 3 1 (.slice δ 0 0) 0 (((bd.links.take 0).map qP.pos).map (Value.int .i64))):=aW (RS _ _ _ _);go_loopw [5,6] (fun lv kv wq=>∃k:Nat,k<=(L i).n/\kv=.int .i64 k/\wq.ownsRow wr.heap.size 3 1 lv k (((bd.links.take k).map qP.pos).map (Value.int .i64))/\Ext wr wq) (fun _ kv _=>(L i).n-(intOf kv).toNat)
   case atStart=>exact⟨0,aa,rfl,Zr.o,Ext.refl _⟩
   case round=>
    clear Zr;rename World=>wq;obtain⟨k,hk,rfl,M,J⟩:=hrel;have T:=aW M;have HX:=aW J;clear M J;by_cases G:k<(L i).n
    .have Zt:decide ((k:Int)<((L i).n:Int))=ε:=ae;have r1:(0:Int)<=k:=aa;have r2:(k:Int)<((L i).n:Int):=aa;have Zm:Hid (wrap64 ((k:Int)+1)=(k:Int)+1):=aW (Ab _ Ace);obtain⟨kb,ko,I,Zn,hc⟩:=(YP.o.2.ext HX.o).at_ G;have hp:=hc 1 _ rfl;generalize Zh:bd.links.getD k η=lk at hp;have Zx:=aW Zh;clear Zh;have C:=(Q.b1.ext HX.o).cell;have k6:=HX.cell_ YW.o;rw[I] at k6;clear hc Zn;have YR:=HX.size;(go_wp2_with (at_builtin;refine fu Da rfl (.tmp 30) (.tmp 41) rfl wr.heap.size _ k _ rf (eY T.o (Ext.new wq _)) wq.heap.size 1 1 [.int .i64 lk.pos] rf (Blk.new _ _ _) rfl AaC aa Ace Ace ae ?_));intro gS B w5 YB YZ Zi YX;have Yz:Ext wr w5:=((HX.trans (Ext.new wq _)).mod (Mod.grown (S:=fun g=>wr.heap.size<=g) YZ (fun g e=>(T.lt g e).1)) (fun _ h=>h));have Zp:w5.ownsRow wr.heap.size 3 1 (.slice (γ (aM gS 0)) (k+1) B) (k+1) (((bd.links.take (k+1)).map qP.pos).map (Value.int .i64)):=by
      rw[kY (by have:=HM.o;omega),Zx.o];simpa using YB
     have Zw:=aW Zp;have YQ:=aW Yz;clear YB Zp YZ Zi YX Yz C k6 hp;go_wp2_with fail;refine⟨⟨k+1,aa,by rw[Zm.o];rfl,Zw.o,YQ.o⟩,?_⟩;rw[Zm.o];exact AdW
    .have Zt:decide ((k:Int)<((L i).n:Int))=ζ:=ae;obtain rfl:k=(L i).n:=aa;have C:=(Q.b1.ext HX.o).cell;have k6:=HX.cell_ YW.o;go_wp2_with fail;have M:=T.o;rw[<-HM.o,aci] at M;obtain⟨A5,c5,rfl,_,_,_⟩:=afk 0 M;rw[HM.o] at M;have P:=aW M;clear M T C k6;have Zc:=aW (Q.ext HX.o);have YY:=aX.blk Zc.b1;have Zo:=aX.blk Zc.b3;have ac:=aX.cell (HX.cell_ YL.o);have ad:=aW Q.x.size;clear Q YP;refine fP 9 (fun j=>j==8) (fun j lo hi v w=>j=8->v=.slice (γ (aM lo 0)) 1 1/\lo<hi/\Blk w lo 4 #[bd.closed]) (fun j lo hi v w w' h x e=>⟨(h e).1,(h e).2.1,(h e).2.2.ext x⟩) ah ah ?_;refine Qd ?_;refine Qs ?_;refine dL rf rf rf ?_ ?_
     .intro R I;go_simp;exact⟨Ext.new _ _,rfl,ag,Blk.new _ _ _⟩
     intro v_ YS ZR YD;obtain⟨R,YC⟩:=YD;obtain⟨rfl,YJ,-⟩:=YC.get rfl;clear YC R;refine Qp ?_;refine bN ?_;intro wE I;have b8:Blk wE YS 4 _:=(I.at_ 8 rf rfl).2.2;have F:=I.ext;have YK:=aW b8;have Zg:=aW (Zc.ext F);have Zq:=aW (eY P.o F);have YA:=aW (HX.trans F);clear I F YY Zo ac Zc P HX b8 YJ;refine fu Ep rfl (.tmp 44) (.tmp 51) rfl w.heap.size v0 i _ rf Zg.o0 YS 1 1 [.bool bd.closed] rf YK.o rfl AaC aa Adc Adc (by have:=Zg.x.size;omega) ?_;intro gS B w5 YB YZ Zi YX;refine Qp ?_;have V:i<s.bays.length:=by have:=Z.o;omega
     have H:=Zg.bool V YZ (by rw[YV.o];exact YB);have YU:=oF (u:=.slice (γ (aM gS 0)) (i+1) B) (j:=0) (sj Zg.o0 Zq.o aj (Mod.grown YZ fun g e=>e)) (Zg.b3.mod (Mod.grown (S:=fun g=>v0.ownBlock=γ g) YZ fun g e=>e) (fH Zg.o0 Zg.b3 aj)) aj;have Y:=Zg.b3.mod (Mod.grown (S:=fun g=>v0.ownBlock=γ g) YZ fun g e=>e) (fH Zg.o0 Zg.b3 aj);have YN:=aW H;have Zf:=aW YU;have k3:=Y.cell;have f3:=Y.frozen;have ZE:=aW Zg.x.size;have ZC:=YA.size;clear H YU Y YB YZ Zi YX Zg Zq YK;have YI:World.ownsRow (w5.setCell ⟨g3,0,δ⟩ (.slice (γ (aM gS 0)) (i+1) B)) w.heap.size 3 1 (Hd.v ⟨A5,(L i).n,c5⟩) (L i).n ((bd.links.map qP.pos).map (Value.int .i64)):=by
      exact Zf.less (base':=w.heap.size) ad.o
     have Za:=aW YI;clear YI Zf;rw[HM.o];(go_wp2_with (at_builtin;refine Hid.o ?_));refine aW ?_;refine fu D7 rfl (.tmp 55) (.tmp 57) rfl w.heap.size v1 i _ rf (eY YN.o1 (Ext.new _ _)) w5.heap.size 1 1 [.slice A5 (L i).n c5] rf (aeV _ _ ag) rfl AaC aa Adc Adc (by have:=YN.x.size;have:=(Ext.new (w5.setCell ⟨g3,0,δ⟩ (.slice (γ (aM gS 0)) (i+1) B)) (.cells #[aO A5 (L i).n c5] 92)).size;omega) ?_;intro gT Zz w7 Zj ZA Zy ZB;have N:Ext (w5.setCell ⟨g3,0,δ⟩ (.slice (γ (aM gS 0)) (i+1) B)) (aL (w5.setCell ⟨g3,0,δ⟩ (.slice (γ (aM gS 0)) (i+1) B)) #[aO A5 (L i).n c5] 92):=Ext.new _ _;have Zl:=(YN.ext N).row (k:=⟨A5,(L i).n,c5⟩) (by rw[YV.o,HM.o]) (by rw[YV.o];exact eY Za.o N) ZA Zj;have Y:=(YN.ext N).b3.mod (Mod.grown (S:=fun g=>v1.ownBlock=γ g) ZA fun g e=>e) (fH (YN.ext N).o1 (YN.ext N).b3 aj);have k3:=Y.cell;have f3:=Y.frozen;have Zv:=aW Zl;clear Zl Y N Zj ZA Zy ZB;go_wp2_with fail;refine⟨⟨i+1,aa,by rw[Zk.o];rfl,_,_,_,Zv.o⟩,?_⟩;rw[Zk.o];exact AdW
  .have hd:decide ((i:Int)<n3)=ζ:=ae;obtain rfl:i=n3:=aa;obtain⟨PA,pc,PB,qc,rfl,rfl,W⟩:=Q.fin Z.symm (by have:=D.o;have:=Z.o;omega) (fun j hj=>by have:=Q.kn j hj;have:=(YM.link (i:=j) AcD).1.2;omega);have ZL:=aW W;clear W;have C:=Q.b1.cell;have k3:=Q.b3.cell;have k2:=Q.b2.cell;have f2:=Q.b2.frozen;go_wp2_with fail;have YF:=(Q.b2.qG 0 (.slice PA i pc)).qG 1 (.slice PB i qc);have m2:Mod (fun k=>k=g2) wr ((wr.setCell ⟨g2,0,δ⟩ (.slice PA i pc)).setCell ⟨g2,1,δ⟩ (.slice PB i qc)):=(Mod.only (S:=fun k=>k=g2) (Only.set _ _ _ _) rfl).trans (Mod.only (Only.set _ _ _ _) rfl);refine nP rfl rfl rf YF acd rfl ah ⟨PA,pc,PB,qc,K,rfl,?_,Q.x.mod m2 (fun k e=>by have:=Q.lo;have e:k=g2:=e;omega),TU (mJ Q.o0 m2 (fun k e1 e0=>fH Q.o0 Q.b2 aj (by rw[e1,show k=g2 from e0])))⟩;exact ZL.o _ m2
def Hm{A0:Option Addr}{n0 c0:Nat}{A1:Option Addr}{n1 c1:Nat}{A2:Option Addr}{n2 c2:Nat}{A3:Option Addr}{n3 c3:Nat}{L:Nat->Hd}{s:StD}(w:World)(hs:lI w A0 n0 c0 A1 n1 c1 A2 n2 c2 A3 n3 c3 L s)(hc:chk s=0):
  Calls prog 30 #[stV s.name A0 n0 c0 A1 n1 c1 A2 n2 c2 A3 n3 c3] w fun e w'=>∃PA j PB qc K,e=.returned (lK PA n3 j PB n3 qc)/\iR w' PA n3 PB n3 K (normal s)/\Ext w w':=
 (La w hs hc).mono fun _ _ ⟨PA,j,PB,qc,K,C,B,D,_⟩=>⟨PA,j,PB,qc,K,C,B,D⟩
theorem dV{P ops rest C}{Q:Act->Prop}{o a}(j:Region.wanted o (yielded ops a.tmps)=ε)(F)(x:Operand)(G:o.op=.load F x)(b D)(J:a.eval x=.pointer (γ (aM b D)))(cs)(d:TypeDesc)(B:∀w,C w->w.rangeAt b D cs)(H:P.underlying F=γ d)(hd:d.isRow=ε)(hi:(P.info? F).map (·.size)=γ cs.length)(h:wpQuiet P ops C Q rest (a.put o.dst (.agg cs.toArray))):wpQuiet P ops C Q (o::rest) a:=by
 unfold wpQuiet;rw[ι j];refine⟨.agg cs.toArray,fun w j=> ?_,h⟩;unfold Oper.quietAt execOp;simp only[G,J,Instr.loadAt,Instr.sureAddr,aaD,aa4,aaw,run_loadVar_mid w b D F cs d (B w j) H hd hi];exact⟨rfl,rfl⟩
inductive NP where
 |any
 |gv (q:GQ) (n:Nat)
 |pv (p:PQ) (n:Nat)
 |eq (u:Value)
def NP.holds:NP->Nat->Nat->Value->World->Prop
 | .any,_,_,_,_=>True
 | .gv q n,_,_,v,w=>GV w v q n
 | .pv p n,_,_,v,w=>PV w v p n
 | .eq u,_,_,v,_=>v=u
def agK(f:NP){lo hi v w w'}(h:f.holds lo hi v w)(x:Ext w w'):f.holds lo hi v w':=by
 cases f with
 |any=>trivial
 |gv q n=>exact GV.ext h x
 |pv p n=>exact PV.ext h x
 |eq u=>exact h
def VF:List (Nat×NP)->Nat->NP
 |[],_=> .any
 |p::r,i=>bif Nat.beq p.1 i then p.2 else VF r i
def OX:List (Nat×NP)->Nat->Bool
 |[],_=>ζ
 |p::r,i=>Nat.beq p.1 i||OX r i
def NPs (l:List (Nat×NP)):Nat->Nat->Nat->Value->World->Prop:=fun i lo hi v w=>(VF l i).holds lo hi v w
def uE(l:List (Nat×NP)):∀i lo hi v w w',NPs l i lo hi v w->Ext w w'->NPs l i lo hi v w':=fun _ _ _ _ _ _ h x=>agK _ h x
def Blk.JR{w g n m o t e}(h:Blk w g t (bz n e).toArray)(C:2*m+1<n)(B:o=m*12):w.rangeAt g o (bz 2 fun t=>e (2*m+t)):=fun j v hv=>by
 have D:j<12:=by have:=(μ.1 hv).1;rwa[bM] at this
 rw[h.cell,Γ,<-hv,B];obtain⟨a,b,rfl,hb⟩:∃a b,j=a*6+b/\b<6:=⟨j/6,j%6,aa,aa⟩;rw[dY (f:=fun t=>e (2*m+t)) hb aa,show m*12+(a*6+b)=(2*m+a)*6+b by omega,dY hb aa]
def Ph3.pv{w e P n}(h:Ph3 w e P n){m}(j:m<3):PV w (.agg (bz 2 fun t=>e (2*m+t)).toArray) (P m) n:=afj (h m j).1 (h m j).2
def PV.to{w v p m n}(h:PV w v p m)(B:Bd p.u n)(hv:Bd p.v n):PV w v p n:=by
 obtain⟨e,rfl,C,j⟩:=h.row;exact afj (C.to B) (j.to hv)
def PV.o{w f p n}(h:PV w (.agg (bz 2 f).toArray) p n):GV w (f 0).v p.u n/\GV w (f 1).v p.v n:=by
 obtain⟨e,O,B,j⟩:=h.row;have Z:bz 2 f=bz 2 e:=by injection O with O;simpa using congrArg Array.toList O
 rw[uI Z (by omega:0<2),uI Z (by omega:1<2)];exact⟨B,j⟩
def AQ(m n w)(l0: -9223372036854775808<=m)(u0:m<=9223372036854775807)(l1: -9223372036854775808<=n)(u1:n<=9223372036854775807):
  CV 18 #[.int .i64 m,.int .i64 n] w fun v w'=>GV w' v (GQ.i m n) 64:=
 (MH m n w l0 u0 l1 u1).mono fun e w' ⟨v,O,hv,J⟩=>⟨v,O,⟨m,n,1,hv,L8 m n,XH l0 u0 l1 u1⟩,J⟩
def tL(v0 q0 n0 v1 q1 n1 w)(j:PV w v0 q0 n0)(D:GV w v1 q1 n1)(hn:n0+n1+1<=12800):
  CV 23 #[v0,v1] w fun v w'=>PV w' v (q0.sc q1) (n0+n1+1):=KV v0 q0 n0 v1 q1 n1 w j D hn
def Su(e P w)(hP:Ph3 w e P 4600)(hu:Bd (P 1+P 2).u 4600)(hv:Bd (P 1+P 2).v 4600):
  CV 22 #[.agg (bz 6 e).toArray] w fun v w'=>PV w' v (P 0+(P 1+P 2)) 9201:=by
 have HP:=aW hP;have HU:=aW hu;have HV:=aW hv;clear hP hu hv;go_enter func22,ntmps22;(go_wp2_with (refine bF rfl 44 rfl _ tu (fun Y G=>Hid.o ?_)));refine Qz ?_;replace G:=Hid.o G;have J:Ext w Y:=by rw[G];exact(Ext.new _ _).alloc _
 have L:Blk Y w.heap.size 45 (bz 6 e).toArray:=by rw[G];exact(Blk.new _ _ _).alloc _
 have D:Blk Y (w.heap.size+1) 44 (bz 2 fun _=>zEn).toArray:=by rw[G];exact aeV _ _ (eU _ _)
 have Z:w.heap.size<=w.heap.size+1:=abj _;(try simp only[eU]);clear G;generalize w.heap.size+1=g2 at D Z⊢;generalize M:w.heap.size=g1 at L Z⊢;have K:=aW L;have U:=aW D;have HX:=aW J;have HL:=aW Z;have YZ:=aW M;clear L D J Z M;go_wp2_with fail;refine fP 8 (OX [(6,.any),(7,.any)]) (NPs [(6,.pv (P 1+P 2) 4600),(7,.pv (P 0+(P 1+P 2)) 9201)]) (uE _) ah ah ?_;refine Qd ?_;refine kU 6 rf ah ?_;refine Qd ?_;(go_big_quiet_step (fail));refine dV rf 44 _ rfl _ _ rf (bz 2 fun t=>e (2*0+t)) _ (by rintro W ⟨x,rfl⟩;exact(K.o.ext x.ext).JR (m:=0) aa rfl) A8 rfl (ig _) ?_;refine Qp ?_;(go_big_quiet_step (fail));refine dV rf 44 _ rfl _ _ rf (bz 2 fun t=>e (2*1+t)) _ (by rintro W ⟨x,rfl⟩;exact(K.o.ext x.ext).JR (m:=1) aa rfl) A8 rfl (ig _) ?_;refine Qp ?_;(go_big_quiet_step (fail));refine dV rf 44 _ rfl _ _ rf (bz 2 fun t=>e (2*2+t)) _ (by rintro W ⟨x,rfl⟩;exact(K.o.ext x.ext).JR (m:=2) aa rfl) A8 rfl (ig _) ?_;refine Qp ?_;refine aaL ?_;refine dL rf rf rf ?_ ?_
 .intro R I;have Q:=HX.o.trans I.1;clear I;go_simp;exact⟨rfl,(F5 _ (P 1) 4600 _ (P 2) 4600 _ ((HP.o.pv (m:=1) aa).ext Q) ((HP.o.pv (m:=2) aa).ext Q) aa).mono fun e w' ⟨v,O,hv,J⟩=>⟨_,O,J,hv.to HU.o HV.o⟩⟩
 intro v6 T V H;clear H;refine Qp ?_;refine dL rf rf rf ?_ ?_
 .intro R I;have Q:=HX.o.trans I.1;have h6:PV R v6 (P 1+P 2) 4600:=I.2 6 (v6,T,V) rf ah;clear I;go_simp;exact⟨rfl,(F5 _ (P 0) 4600 _ (P 1+P 2) 4600 _ ((HP.o.pv (m:=0) aa).ext Q) h6 aa).mono fun e w' ⟨v,O,hv,J⟩=>⟨_,O,J,hv⟩⟩
 intro v7 F S H;clear H;refine Qp ?_;refine bN ?_;intro wE I;have C:PV wE v7 (P 0+(P 1+P 2)) 9201:=I.at_ 7 (e:=(v7,F,S)) rf;have B:=I.ext;obtain⟨f,rfl,h0,h1⟩:=C.row;have YA:=HX.aC B;have D:=U.o.ext B;have N:=aW (eX (f:=f) D);have j:=aW C;have HB:=aW D;clear I C B h0 h1 D;refine aY rfl 44 (.tmp 2) (.tmp 10) rfl g2 0 (bz 2 f) rf rf N.o (ig f) (dN 2 f) (fun w9 G=> ?_);exact AaI
def Nv(w):CV 18 #[(-1:Int),aJ] w fun v w'=>GV w' v (GQ.i (-1) 0) 64:=AQ (-1) 0 w aj aj aj aj
def Mo(e P w)(hP:Ph3 w e P 4600):
  CV 24 #[.agg (bz 6 e).toArray] w fun v w'=>PV w' v (P 1+(P 2).sc (GQ.i (-1) 0)) 9266:=by
 have HP:=aW hP;clear hP;go_enter func24,ntmps24;(go_wp2_with (refine bF rfl 44 rfl _ tu (fun w_ G=>Hid.o ?_)));refine Qz ?_;replace G:=Hid.o G;have J:Ext w w_:=by rw[G];exact(Ext.new _ _).alloc _
 have L:Blk w_ w.heap.size 45 (bz 6 e).toArray:=by rw[G];exact(Blk.new _ _ _).alloc _
 have H:Blk w_ (w.heap.size+1) 44 (bz 2 fun _=>zEn).toArray:=by rw[G];exact aeV _ _ (eU _ _)
 have Z:w.heap.size<=w.heap.size+1:=abj _;(try simp only[eU]);clear G;generalize w.heap.size+1=g2 at H Z⊢;generalize M:w.heap.size=g1 at L Z⊢;have Q:=aW L;have U:=aW H;have HX:=aW J;have HL:=aW Z;have YZ:=aW M;clear L H J Z M;go_wp2_with fail;refine fP 7 (OX [(4,.any),(5,.any),(6,.any)]) (NPs [(4,.gv (GQ.i (-1) 0) 64),(5,.pv ((P 2).sc (GQ.i (-1) 0)) 4665),(6,.pv (P 1+(P 2).sc (GQ.i (-1) 0)) 9266)]) (uE _) ah ah ?_;refine Qd ?_;refine kU 4 rf ah ?_;refine Qd ?_;(go_big_quiet_step (fail));refine dV rf 44 _ rfl _ _ rf (bz 2 fun t=>e (2*1+t)) _ (by rintro W ⟨x,rfl⟩;exact(Q.o.ext x.ext).JR (m:=1) aa rfl) A8 rfl (ig _) ?_;refine Qp ?_;(go_big_quiet_step (fail));refine dV rf 44 _ rfl _ _ rf (bz 2 fun t=>e (2*2+t)) _ (by rintro W ⟨x,rfl⟩;exact(Q.o.ext x.ext).JR (m:=2) aa rfl) A8 rfl (ig _) ?_;refine Qp ?_;refine aaL ?_;refine dL rf rf rf ?_ ?_
 .exact AcO
 intro v4 D Y K;clear K;refine Qp ?_;refine dL rf rf rf ?_ ?_
 .intro R I;have T:=HX.o.trans I.1;have h4:GV R v4 (GQ.i (-1) 0) 64:=I.2 4 (v4,D,Y) rf ah;clear I;go_simp;exact⟨rfl,(tL _ (P 2) 4600 _ (GQ.i (-1) 0) 64 _ ((HP.o.pv (m:=2) aa).ext T) h4 aa).mono fun e w' ⟨v,O,hv,J⟩=>⟨_,O,J,hv⟩⟩
 intro v5 ZQ V K;clear K;refine Qp ?_;refine dL rf rf rf ?_ ?_
 .intro R I;have T:=HX.o.trans I.1;have h5:PV R v5 ((P 2).sc (GQ.i (-1) 0)) 4665:=I.2 5 (v5,ZQ,V) rf ah;clear I;go_simp;exact⟨rfl,(F5 _ (P 1) 4600 _ ((P 2).sc (GQ.i (-1) 0)) 4665 _ ((HP.o.pv (m:=1) aa).ext T) h5 aa).mono fun e w' ⟨v,O,hv,J⟩=>⟨_,O,J,hv⟩⟩
 intro v7 F S K;clear K;refine Qp ?_;refine bN ?_;intro wE I;have C:PV wE v7 (P 1+(P 2).sc (GQ.i (-1) 0)) 9266:=I.at_ 6 (e:=(v7,F,S)) rf;have B:=I.ext;obtain⟨f,rfl,h0,h1⟩:=C.row;have YA:=HX.aC B;have H:=U.o.ext B;have N:=aW (eX (f:=f) H);have j:=aW C;have HB:=aW H;clear I C B h0 h1 H;refine aY rfl 44 (.tmp 2) (.tmp 9) rfl g2 0 (bz 2 f) rf rf N.o (ig f) (dN 2 f) (fun w9 G=> ?_);exact AaI
structure MiS (w wr:World) (g1 g2:Nat) (e0 e:Nat->En) (P:Nat->PQ) (i:Nat):Prop where
 b1:Blk wr g1 45 (bz 6 e).toArray
 b2:Blk wr g2 45 (bz 6 fun _=>zEn).toArray
 v:∀m,m<i->GV wr (e (2*m)).v ((P m).sc (GQ.i (-1) 0)).u 4665/\GV wr (e (2*m+1)).v ((P m).sc (GQ.i (-1) 0)).v 4665
 o:∀j,2*i<=j->e j=e0 j
 x:Ext w wr
 l1:w.heap.size<=g1
 l2:g1<g2
def MiS.put{w wr wr' g1 g2 i a e0 e x P}(h:MiS w wr g1 g2 e0 e P i)(hi:i<3)(F:GV wr (x 0).v ((P i).sc (GQ.i (-1) 0)).u 4665)(I:GV wr (x 1).v ((P i).sc (GQ.i (-1) 0)).v 4665)(ha:a=i*12)(D:wr'=puts wr g1 a (bz 2 x)):MiS w wr' g1 g2 e0 (upd (upd e (2*i) (x 0)) (2*i+1) (x 1)) P (i+1):=by
 have S:=h.l1;have G:=h.l2;have B:Mod (fun k=>k=g1) wr wr':=by rw[D];exact Mod.puts _ _ _ _ rfl
 have C:Far (fun k=>k=g1) wr:=fun k H _=>by
  obtain rfl:k=g1:=H;exact⟨_,_,h.b1,dD _ _⟩
 have hb:Blk wr' g1 45 (bz 6 (upd (upd e (2*i) (x 0)) (2*i+1) (x 1))).toArray:=by
  have:=dm a (bz 2 x) h.b1;rw[ha,zA hi] at this;rw[D,ha];exact this
 refine⟨hb,h.b2.mod B aa,fun m J=> ?_,fun j K=> ?_,fG h.x B (fun k e=>by have e:k=g1:=e;omega),h.l1,h.l2⟩
 .by_cases e:m=i
  .subst e;rw[upd_ne aa,upd_same,upd_same];exact⟨F.mod B C,I.mod B C⟩
  .have:=h.v m aa;rw[upd_ne aa,upd_ne aa,upd_ne aa,upd_ne aa];exact⟨this.1.mod B C,this.2.mod B C⟩
 .rw[upd_ne aa,upd_ne aa];exact h.o j aa
def Ti(e P w)(hP:Ph3 w e P 4600):
  Calls prog 20 #[.agg (bz 6 e).toArray] w fun r w'=>∃T,r=.returned (.agg (bz 6 T).toArray)/\Ph3 w' T (fun m=>(P m).sc (GQ.i (-1) 0)) 4665/\Ext w w':=by
 have HP:=aW hP;clear hP;go_enter func20,ntmps20;(go_wp2_with (refine bF rfl 45 rfl _ sQ (fun w_ G=>Hid.o ?_)));refine Qz ?_;replace G:=Hid.o G;have J:Ext w w_:=by rw[G];exact(Ext.new _ _).alloc _
 have YJ:Blk w_ w.heap.size 45 (bz 6 e).toArray:=by rw[G];exact(Blk.new _ _ _).alloc _
 have V:Blk w_ (w.heap.size+1) 45 (bz 6 fun _=>zEn).toArray:=by rw[G];exact aeV _ _ (eU _ _)
 have Z:w.heap.size<=w.heap.size+1:=abj _;(try simp only[eU]);clear G;have HS:Hid (MiS w w_ w.heap.size (w.heap.size+1) e e P 0):=aW ⟨YJ,V,fun m S=>absurd S aa,fun j _=>rfl,J,κ _,aa⟩;clear YJ V Z;have HX:=aW J;clear J;generalize w.heap.size+1=g2 at HS⊢;generalize YO:w.heap.size=g1 at HS⊢;clear YO;go_wp2_with fail
 go_loopw [4] (fun iv wr=>∃i:Nat,i<=3/\iv=.int .i64 i/\∃T,MiS w wr g1 g2 e T P i) (aT 3)
 case atStart=>exact⟨0,aa,rfl,_,HS.o⟩
 case round=>
  clear HS HX;rename World=>wr;obtain⟨i,hi,rfl,e1,hR⟩:=hrel;have Q:=aW hR;clear hR;by_cases K:i<3
  .have hd:decide ((i:Int)<3)=ε:=ae;have q1:(0:Int)<=i:=aa;have q2:(i:Int)<3:=aa;have Zk:Hid (wrap64 ((i:Int)+1)=(i:Int)+1):=aW (Ab _ aa);have U:=aW Q.o.b1;have F:PV wr (.agg (bz 2 fun t=>e1 (2*i+t)).toArray) (P i) 4600:=by
    have h0:=((HP.o i K).1.ext Q.o.x);have h1:=((HP.o i K).2.ext Q.o.x);exact afj (by rw[Q.o.o (2*i+0) aa];exact h0) (by rw[Q.o.o (2*i+1) aa];exact h1)
   have H:=aW F;clear F;go_wp2_with fail;refine fP 7 (OX [(4,.any),(5,.any)]) (NPs [(4,.gv (GQ.i (-1) 0) 64),(5,.pv ((P i).sc (GQ.i (-1) 0)) 4665)]) (uE _) ah ah ?_;refine Qd ?_;refine kU 4 rf ah ?_;refine Qd ?_;(go_big_quiet_step (fail));(go_big_quiet_step (fail));(go_big_quiet_step (fail));refine dV rf 44 _ rfl g1 (i*12) rf (bz 2 fun t=>e1 (2*i+t)) _ (by rintro W ⟨x,rfl⟩;exact(U.o.ext x.ext).JR (m:=i) aa rfl) A8 rfl (ig _) ?_;refine Qp ?_;refine aaL ?_;refine dL rf rf rf ?_ ?_
   .exact AcO
   intro v4 D Yx M;clear M;refine Qp ?_;refine dL rf rf rf ?_ ?_
   .intro R I;have hW:=I.1;have h4:GV R v4 (GQ.i (-1) 0) 64:=I.2 4 (v4,D,Yx) rf ah;clear I;go_simp;exact⟨rfl,(tL _ (P i) 4600 _ (GQ.i (-1) 0) 64 _ (H.o.ext hW) h4 aa).mono fun e w' ⟨v,O,hv,J⟩=>⟨_,O,J,hv⟩⟩
   intro v5 ZQ YG M;clear M;refine Qp ?_;refine Qs ?_;refine bN ?_;intro wE I;have C:PV wE v5 ((P i).sc (GQ.i (-1) 0)) 4665:=I.at_ 5 (e:=(v5,ZQ,YG)) rf;have B:=I.ext;obtain⟨f,rfl,h0,h1⟩:=C.row;have L:MiS w wE g1 g2 e e1 P i:=⟨Q.o.b1.ext B,Q.o.b2.ext B,fun m S=>⟨(Q.o.v m S).1.ext B,(Q.o.v m S).2.ext B⟩,Q.o.o,Q.o.x.trans B,Q.o.l1,Q.o.l2⟩;have Zg:=aW L;have N:Hid (wE.there g1 (i*12) (bz 2 f).length):=aW (L.b1.there AbQ);have H0:=aW h0;have H1:=aW h1;clear I C B h0 h1 L Q U;refine aY rfl 44 (.tmp 13) (.tmp 12) rfl g1 (i*12) (bz 2 f) rf rf N.o (ig f) (dN 2 f) (fun w9 G=> ?_);refine Qp ?_;replace G:=Hid.o G;have Y:=aW (Zg.o.put K H0.o H1.o rfl G);clear G Zg N H0 H1;go_wp2_with fail;refine⟨⟨i+1,aa,rfl,_,Y.o⟩,?_⟩;exact AdW
  .have hd:decide ((i:Int)<3)=ζ:=ae;obtain rfl:i=3:=aa;have YE:=aW Q.o.b1.rng;have N:=aW (eX (f:=e1) Q.o.b2);(go_wp2_with (refine σ rfl 45 _ rfl g1 (0) rf (bz 6 e1) _ YE.o Be rfl (iO e1) (Hid.o ?_)));refine Qz ?_;refine aY rfl 45 (.tmp 2) (.tmp 15) rfl g2 0 (bz 6 e1) rf rf N.o (iO e1) (dN 6 e1) (fun w9 G=> ?_);refine Qp ?_;replace G:=Hid.o G;have hF:=iw Q.o.x (by have:=Q.o.l1;have:=Q.o.l2;omega) Q.o.b2 G;go_wp2_with fail;exact jo rfl rfl rf hF.1 Be rfl (by rw[xx];exact iO e1) ⟨_,rfl,fun m S=>⟨hF.2.2 _ _ _ (Q.o.v m S).1,hF.2.2 _ _ _ (Q.o.v m S).2⟩,hF.2.1⟩
section
variable {b:BrD}
def yt(D:b.b=17):lv [b] b.a=ε:=qD.2 (.neutral b ag D)
theorem GH(hb:iD b)(D:b.b=17)(sq):usd (lv [b]) sq [b]=[b.nb sq]:=by
 unfold usd;have:used (lv [b]) b=ε:=by
  unfold used;rw[yt D,D];have:=hb.a;simp;omega
 simp[List.filter_cons,this]
def Le(hb:iD b):∀c∈[b],iD c:=fun c hc=>by
 simp only[kC,Ha,aaH] at hc;subst hc;exact hb
def MQ(f:Nb->GQ)(x):il f [x]=f x:=by
 show GQ.i 0 0+f x=f x;ext<;>simp only[GQ.bT,GQ.bS,GQ.dH,GQ.dC]<;>grind
theorem NB(hb:iD b)(D:b.b=17)(sq v):GQ.i 1 0/b.zs sq*nE (lv [b]) (rwx (lv [b])) (cnt (lv [b]) 18) (usd (lv [b]) sq [b]) v b.a=v (rwx (lv [b]) b.a):=by
 have hn:=uK (Le hb) sq;have h:=hn.kcl (v:=v) (yt D);have ha:=hb.a;rw[GH hb D] at h⊢;rw[MQ] at h;rw[<-h];unfold Nb.at_;show _=(if b.a=b.a then GQ.i 1 0/b.zs sq*(_-_) else _)+(if b.a=b.b then _ else GQ.i 0 0);rw[ι rfl,θ aa,GQ.add_zero'];show _=GQ.i 1 0/b.zs sq*(nE (lv [b]) (rwx (lv [b])) (cnt (lv [b]) 18) [b.nb sq] v b.a-nE (lv [b]) (rwx (lv [b])) (cnt (lv [b]) 18) [b.nb sq] v b.b);rw[mG (k:=b.b) (by rw[D];exact(yG (Le hb)).none)];generalize nE _ _ _ _ _ _=U;ext<;>simp only[GQ.dJ,GQ.dK,GQ.bL,GQ.bK,GQ.dH,GQ.dC]<;>grind
def VR(hb:iD b)(sq):GQ.i 1 0/b.zs sq≠GQ.i 0 0:=fun e=>by
 have:=hb.im sq;show False;have j:(b.nb sq).y=GQ.i 1 0/b.zs sq:=rfl;rw[j,e] at this;simp only[GQ.dC] at this;grind
theorem TA(hb:iD b)(D:b.b=17):bef [b] b.a=GQ.i b.emf 0:=by
 have h:=NB hb D 1 (feed (rwx (lv [b])) (usd (lv [b]) 1 [b]));rw[(uK (Le hb) 1).NH (yt D),GH hb D,MQ] at h;unfold Nb.src at h;rw[ι ⟨D,rfl⟩] at h;unfold bef;rw[GH hb D];refine afg (c:=GQ.i 1 0/b.zs 1) ?_ (VR hb 1);rw[GQ.dZ,h];exact GQ.dZ _ _
theorem TM(hb:iD b)(D:b.b=17)(sq):drp [b] b.a sq b.a=b.zs sq:=by
 have h:=NB hb D sq (unit (rwx (lv [b]) b.a));unfold drp;refine afg (c:=GQ.i 1 0/b.zs sq) ?_ (VR hb sq);rw[GQ.dZ,h,GQ.dZ,MC (hb.ne sq)];show(if rwx (lv [b]) b.a=rwx (lv [b]) b.a then GQ.i 1 0 else GQ.i 0 0)=_;rw[ι rfl]
end
def gBr:BrD:=⟨13,17,⟨0,10⟩,⟨0,10⟩,1,1,100⟩
def QW:iD gBr:=⟨aj,aj,aj,aj,aj,aj,aj⟩
theorem V7(sq):gBr.zs sq=GQ.i 0 10:=by
 unfold BrD.zs;rw[show gBr.z0=⟨0,10⟩ from rfl,show gBr.z1=⟨0,10⟩ from rfl,acD];decide+kernel
theorem FU(f)(C:f.kind≠0)(n):xE [gBr] 13 f n=oW f.kind (GQ.i 100 0) (GQ.i 0 10) (GQ.i 0 10) (GQ.i f.r 0) n:=by
 unfold xE;have j:lv [gBr] 13=ε:=yt (b:=gBr) rfl;rw[ι ⟨C,j⟩];unfold fcu;have D:bef [gBr] 13=GQ.i 100 0:=TA QW rfl;have B:∀sq,drp [gBr] 13 sq 13=GQ.i 0 10:=fun sq=>(TM QW rfl sq).trans (V7 sq);rw[D,B,B]
def UF:phv (xE [gBr] 13 ⟨10,ζ,0,0,0,0⟩) 0 0=⟨GQ.i 0 (-10),GQ.i 0 0⟩:=by
 show phq (xE [gBr] 13 ⟨10,ζ,0,0,0,0⟩) 0*PQ.zp 0=_;rw[show PQ.zp 0=PQ.one from rfl,PQ.pU,Xc,FU _ aj,FU _ aj,FU _ aj];refine PQ.ext ?_ ?_<;>decide+kernel
def U8(f:eD):bU gN J9 f=[gBr]:=by
 have j:gm gN J9 1=[gBr]:=by decide+kernel
 show gm gN J9 1++[]=[gBr];rw[j];rfl
theorem QN{f:eD}(j:f.line=ζ)(C:f.kind≠0)(B:f.obj=0):eO gN J9 f=13:=by
 unfold eO;rw[θ (by rw[j];decide),θ C,B];decide+kernel
theorem Blk.Yh{w:World}{g m o:Nat}{t:TypeId}{a b:Value}{e:Nat->En}(h:Blk w g t (iT a b e).toArray)(C:2*m+1<12)(B:o=2+m*12):w.rangeAt g o (bz 2 fun t=>e (2*m+t)):=fun j v hv=>by
 have D:j<12:=by have:=(μ.1 hv).1;rwa[bM] at this
 rw[h.cell,Γ,<-hv,B];obtain⟨x,y,rfl,hb⟩:∃a b,j=a*6+b/\b<6:=⟨j/6,j%6,aa,aa⟩;rw[dY (f:=fun t=>e (2*m+t)) hb aa];unfold iT;rw[show 2+m*12+(x*6+y)=((2*m+x)*6+y)+1+1 by omega,ab6,ab6,dY hb aa]
theorem Pz(n:Nat)(e:Nat->En):∀v∈bz n e,nX v=ε:=fun v hv=>by
 unfold bz at hv;rw[ac8] at hv;obtain⟨j,_,B⟩:=hv;unfold En.cells at B;simp only[kC,Ha,aaH] at B;rcases B with rfl|rfl|rfl|rfl|rfl|rfl<;>rfl
theorem TZ(a b:Value)(e:Nat->En)(ha:nX a=ε)(hb:nX b=ε):∀(j:Nat) (v:Value),(iT a b e).toArray[j]? =γ v->nX v=ε:=fun j v hv=>by
 rw[Γ] at hv;have B:=wo hv;unfold iT at B;simp only[kC] at B;rcases B with rfl|rfl|B
 .exact ha
 .exact hb
 .exact Pz _ _ v B
def AL{w W W':World}{g GC GV_:Nat}{e0 ec ev ef:Nat->En}{s:StD}{p:dM}{f:eD}(J:Ext w W)(I:w.heap.size<=g)(hb:Blk W g 47 (iT (.slice δ 0 0) (.slice δ 0 0) e0).toArray)(hs:Cz W GC GV_ ec ev ef s p f)(D:W'=puts W g 0 (iT (.slice (γ (aM GC 0)) s.bays.length s.bays.length) (.slice (γ (aM GV_ 0)) s.bays.length s.bays.length) ef)):
  Blk W' g 47 (iT (.slice (γ (aM GC 0)) s.bays.length s.bays.length) (.slice (γ (aM GV_ 0)) s.bays.length s.bays.length) ef).toArray/\Cz W' GC GV_ ec ev ef s p f/\Ext w W':=by
 have m:Mod (fun k=>k=g) W W':=by rw[D];exact Mod.puts _ _ _ _ rfl
 have H:iB (fun k=>k=g) W:=fun k G _=>by
  obtain rfl:k=g:=G;exact⟨_,_,hb,TZ _ _ _ rfl rfl⟩
 have B:=dm 0 (iT (.slice (γ (aM GC 0)) s.bays.length s.bays.length) (.slice (γ (aM GV_ 0)) s.bays.length s.bays.length) ef) hb;rw[iF _ _ (by rw[gz,gz]),<-D] at B;have gv:∀{v:Value} {q:GQ} {n:Nat},GV W v q n->GV W' v q n:=fun h=>h.fQ m H;have C:∀{e:Nat->En} {P:Nat->PQ},Ph3 W e P 4600->Ph3 W' e P 4600:=fun h j F=>⟨gv (h j F).1,gv (h j F).2⟩;exact⟨B,⟨hs.bc.mod m (Blk.fw hs.bc hb aj),hs.bv.mod m (Blk.fw hs.bv hb aj),fun i hi=>C (hs.c i hi),fun i hi=>C (hs.v i hi),C hs.fc,C hs.fv⟩,fG J m (fun k e=>by have e:k=g:=e;omega)⟩
def Jc:eD:=⟨10,ζ,0,0,0,0⟩
def Gi:fD gN.buses.length gN.lines.length Jc=0:=by decide+kernel
theorem Mj(w:World):CE 15 #[] w (.bool ε):=by
 go_enter func15,ntmps15;go_wp2_with fail;refine(Xr w).mono ?_;rintro _ w1 ⟨A0,A2,A3,L,rfl,hs,J⟩;have HS:=aW hs;have HX:=aW J;clear hs J;unfold stV;go_wp2_with fail;have H:Ext w1 (aL w1 #[gN.name,aO A0 1 1,(),aO A2 1 1,aO A3 1 1] 27):=Ext.new _ _;obtain⟨-,Yw⟩:=ah1 w1 27 #[gN.name,aO A0 1 1,(),aO A2 1 1,aO A3 1 1];replace HS:=HS.aA H;replace HX:=HX.aC H;clear H;generalize aU _ _=w2 at Yw HS HX⊢;generalize w1.heap.size=g1 at Yw⊢;have YY:=aX.blk Yw.o;refine uH 10 8 [(ε,0),(ε,1),(ε,3),(ζ,2),(ζ,4),(ε,5),(ε,6),(ε,7)] [(ζ,9)] (fun a a' w'=>∃(gb:Nat) (pv:Value) (GC GV_:Nat) (ec ev ef:Nat->En),a'=⟨#[.bool ζ,.pointer (γ (aM g1 0)),.pointer (γ (aM gb 0)),undef,.agg #[gN.name,aO A0 1 1,(),aO A2 1 1,aO A3 1 1],.tuple #[.agg (iT (.slice (γ (aM GC 0)) gN.bays.length gN.bays.length) (.slice (γ (aM GV_ 0)) gN.bays.length gN.bays.length) ef).toArray,aJ],.agg #[gN.name,aO A0 1 1,(),aO A2 1 1,aO A3 1 1],.agg #[gN.name,aO A0 1 1,(),aO A2 1 1,aO A3 1 1],pv,.agg #[(10:Int),ζ,aJ,aJ,aJ,aJ],.tuple #[.agg (iT (.slice (γ (aM GC 0)) gN.bays.length gN.bays.length) (.slice (γ (aM GV_ 0)) gN.bays.length gN.bays.length) ef).toArray,aJ],.agg (iT (.slice (γ (aM GC 0)) gN.bays.length gN.bays.length) (.slice (γ (aM GV_ 0)) gN.bays.length gN.bays.length) ef).toArray,.int .i64 0,undef,undef,undef,undef,undef,undef,undef,undef,undef,undef,undef,undef,undef,undef,undef,undef],[]⟩/\Blk w' gb 47 (iT (.slice (γ (aM GC 0)) gN.bays.length gN.bays.length) (.slice (γ (aM GV_ 0)) gN.bays.length gN.bays.length) ef).toArray/\Cz w' GC GV_ ec ev ef gN J9 Jc/\Ext w2 w') ah ah ?_ ?_
 .have P:Ext w2 w2.drew:=(Ext.refl _).drew;generalize w2.drew=w3 at P⊢;refine gK [0,1,3] [(ζ,2),(ζ,4),(ε,5),(ε,6),(ε,7)] _ ah ?_;refine Gq ?_;clear YY;refine nJ 2 [(ζ,4),(ε,5),(ε,6),(ε,7)] ah ah ?_ ?_
  ·
   intro K I;simp only[bJ];go_wp2_with fail;refine(Hm _ (HS.ext P) yJ).mono ?_;rintro _ Q ⟨PA,pc,PB,qc,T,rfl,hp,F⟩;replace P:=P.trans F;have HP:=aW hp;clear hp F;go_wp2_with fail;refine I _ _ ⟨⟨_,P⟩,rfl⟩ ?_;clear I K;refine nJ 4 [(ε,5),(ε,6),(ε,7)] ah ah ?_ ?_
   ·
    intro K I;simp only[bJ];go_wp2_with fail;have j:=HP.o;rw[um] at j;refine(solve_run Jc _ (HS.ext P) j yJ one_pos Gi).mono ?_;clear j;rintro _ wS ⟨GC,GV_,ec,ev,ef,rfl,C,F⟩;replace P:=P.trans F;replace HP:=HP.aA F;have Y:=aW C;clear C F;go_wp2_with fail;refine I _ _ ⟨⟨_,P⟩,rfl⟩ ?_;clear I K;refine gK [5,6,7] [] _ ah ?_;refine Gq ?_;refine qp ah ?_;intro K I;simp only[bJ];refine bF rfl 47 rfl _ uD (fun wA G=> ?_);refine Qp ?_;replace G:=Hid.o G;have F:=Ext.new wS (.cells (iT (.slice δ 0 0) (.slice δ 0 0) fun _=>zEn).toArray 47);have V:Blk wA wS.heap.size 47 (iT (.slice δ 0 0) (.slice δ 0 0) fun _=>zEn).toArray:=by rw[G];exact Blk.new _ _ _
    rw[<-G] at F;have Z:w2.heap.size<=wS.heap.size:=P.size;replace P:=P.trans F;replace HP:=HP.aA F;replace Y:=Y.aA F;have U:=aW V;have Zl:=aW Z;clear G V Z F;generalize wS.heap.size=gb at U Zl⊢;simp only[wpList];refine⟨trivial,?_⟩;refine I _ _ ⟨⟨_,P⟩,rfl⟩ ?_;clear I K;refine bC 9 [] ah ?_;intro K I;simp only[bJ];have N:Hid (World.there wA gb 0 (iT (.slice (γ (aM GC 0)) gN.bays.length gN.bays.length) (.slice (γ (aM GV_ 0)) gN.bays.length gN.bays.length) ef).length):=aW (U.there Ac4);refine aY rfl 47 (.tmp 2) (.tmp 11) rfl gb 0 (iT (.slice (γ (aM GC 0)) gN.bays.length gN.bays.length) (.slice (γ (aM GV_ 0)) gN.bays.length gN.bays.length) ef) rf rf N.o (nW _ _ _) (uZ _ _ _ rfl rfl) (fun wT G=> ?_);refine Qp ?_;replace G:=Hid.o G;have B:=AL P Zl.o U.o Y.o G;clear G N;simp only[wpList];refine⟨trivial,?_⟩;refine I _ _ ⟨⟨_,B.2.2⟩,rfl⟩ ?_;clear I K;exact⟨gb,lK PA 1 pc PB 1 qc,GC,GV_,ec,ev,ef,by simp only[Act.put,aQ,De,Ej],B.1,B.2.1,B.2.2⟩
   ·
    intro K I;simp only[bJ];refine bF rfl 47 rfl _ uD (fun wA G=> ?_);refine Qp ?_;replace G:=Hid.o G;have F:=Ext.new Q (.cells (iT (.slice δ 0 0) (.slice δ 0 0) fun _=>zEn).toArray 47);have V:Blk wA Q.heap.size 47 (iT (.slice δ 0 0) (.slice δ 0 0) fun _=>zEn).toArray:=by rw[G];exact Blk.new _ _ _
    rw[<-G] at F;have Z:w2.heap.size<=Q.heap.size:=P.size;replace P:=P.trans F;replace HP:=HP.aA F;have U:=aW V;have Zl:=aW Z;clear G V Z F;generalize Q.heap.size=gb at U Zl⊢;simp only[wpList];refine⟨trivial,?_⟩;exact Aal
  ·
   intro K I;simp only[bJ];refine bF rfl 47 rfl _ uD (fun wA G=> ?_);refine Qp ?_;replace G:=Hid.o G;have F:=Ext.new w3 (.cells (iT (.slice δ 0 0) (.slice δ 0 0) fun _=>zEn).toArray 47);have V:Blk wA w3.heap.size 47 (iT (.slice δ 0 0) (.slice δ 0 0) fun _=>zEn).toArray:=by rw[G];exact Blk.new _ _ _
   rw[<-G] at F;have Z:w2.heap.size<=w3.heap.size:=P.size;replace P:=P.trans F;have U:=aW V;have Zl:=aW Z;clear G V Z F;generalize w3.heap.size=gb at U Zl⊢;simp only[wpList];refine⟨trivial,?_⟩;refine I _ _ ⟨⟨_,P⟩,rfl⟩ ?_;clear I K;refine bC 2 [(ζ,4),(ε,5),(ε,6),(ε,7),(ζ,9)] ah ?_;intro K I;simp only[bJ];go_wp2_with fail;refine(Hm _ (HS.ext P) yJ).mono ?_;rintro _ Q ⟨PA,pc,PB,qc,T,rfl,hp,F⟩;replace P:=P.trans F;replace U:=U.aA F;have HP:=aW hp;clear hp F;go_wp2_with fail;exact Aal
 rintro _ w5 ⟨gb,pv,GC,GV_,ec,ev,ef,rfl,V,C,F⟩;have U:=aW V;have Y:=aW C;replace HX:=HX.aC F;clear V C F YY HS Yw;have M:PV w5 (.agg (bz 2 fun t=>ef (2*0+t)).toArray) ⟨GQ.i 0 (-10),GQ.i 0 0⟩ 4600:=by
  have:=Y.fc.pv (m:=0) aa;rw[U8,QN (f:=Jc) rfl aj rfl] at this;have e:phv (xE [gBr] 13 Jc) (shf Jc.kind) 0=⟨GQ.i 0 (-10),GQ.i 0 0⟩:=UF;rw[e] at this;exact this
 have S:=aW M;clear M;have ac:=aX.cell (show w5.cell? (aM gb 0)=γ (aO (γ (aM GC 0)) 1 1) from (U.cell 0).trans rfl);go_wp2_with fail;refine fP 16 (OX [(12,.any),(13,.any),(14,.any)]) (NPs [(12,.gv (GQ.i 0 (-10)) 64),(13,.pv (PQ.plain (GQ.i 0 (-10))) 64),(14,.eq (.bool ε))]) (uE _) ah ah ?_;refine Qd ?_;refine kU 12 rf ah ?_;refine Qd ?_;(iterate 11 (go_big_quiet_step (fail)));refine dV rf 44 _ rfl gb 2 rf (bz 2 fun t=>ef (2*0+t)) _ (by rintro W ⟨x,rfl⟩;exact(U.ext x.ext).Yh (m:=0) aa rfl) A8 rfl (ig _) ?_;refine Qp ?_;refine aaL ?_;refine dL rf rf rf ?_ ?_
 .intro R I;clear I;go_simp;exact⟨rfl,(AQ 0 (-10) _ aj aj aj aj).mono fun e w' ⟨v,O,hv,J⟩=>⟨_,O,J,hv⟩⟩
 intro v4 D Yx YD;clear YD;refine Qp ?_;refine dL rf rf rf ?_ ?_
 .intro R I;have h4:GV R v4 (GQ.i 0 (-10)) 64:=I.2 12 (v4,D,Yx) rf ah;clear I;go_simp;exact⟨rfl,(Ot _ _ 64 _ h4 aa).mono fun e w' ⟨v,O,hv,J⟩=>⟨_,O,J,hv⟩⟩
 intro v5 ZQ YG YD;clear YD;refine Qp ?_;refine dL rf rf rf ?_ ?_
 .intro R I;have hW:=I.1;have h5:PV R v5 (PQ.plain (GQ.i 0 (-10))) 64:=I.2 13 (v5,ZQ,YG) rf ah;clear I;go_simp;exact⟨rfl,(rD _ _ _ _ 4600 64 _ (S.ext hW) h5 rfl).mono fun e w' ⟨O,J⟩=>⟨_,O,J,rfl⟩⟩
 intro v9 ZU ad YD;obtain⟨R,YC⟩:=YD;obtain rfl:v9=.bool ε:=YC.get;clear YC R;refine Qp ?_;refine Qs ?_;refine bN ?_;intro wE I;have YA:=aW (HX.trans I.ext);clear I;go_wp2_with fail;go_ret;exact⟨rfl,YA.o⟩
section
variable {k:Int} {s:StD} {p:dM} {f:eD}
def WW (x:vV) (n:Nat):GQ:=if n=0 then GQ.i x.z0.r x.z0.x else GQ.i x.z1.r x.z1.x
theorem Bj{i:Nat}(j:(s.bays.getD i η).kind=1):jS s p f i=fun n=>kE (bU s p f) (eO s p f) f n (eF s p (s.bays.getD i η).obj.toNat (s.bays.getD i η).en.toNat):=by
 funext n;unfold jS;simp only[j];rfl
theorem QV{i:Nat}(j:(s.bays.getD i η).kind=1):tC s p f i=OE (bU s p f) (eO s p f) f (γ (half s p f (s.bays.getD i η).obj.toNat (s.bays.getD i η).en.toNat)):=by
 funext n;unfold tC way;rw[ι j]
def Ij(hs:jC s){i:Nat}(hi:i<s.bays.length)(j:(s.bays.getD i η).kind=1):(s.bays.getD i η).obj.toNat<s.lines.length/\((s.bays.getD i η).obj.toNat:Int)=(s.bays.getD i η).obj:=by
 have:=O8 (hs.obj i hi) j;omega
theorem QS(hs:jC s)(H:mR s.buses.length s.lines.length f){i j:Nat}(hi:i<s.bays.length)(B:(s.bays.getD i η).kind=1)(F:(s.bays.getD j η).kind=1)(I:(s.bays.getD i η).obj=(s.bays.getD j η).obj)(G:(s.bays.getD i η).en=0)(C:(s.bays.getD j η).en=1)(hn:iC f (s.bays.getD i η).obj.toNat=ζ)(n:Nat):
  jS s p f i n-jS s p f j n=tC s p f i n*WW (s.lines.getD (s.bays.getD i η).obj.toNat η) n:=by
 obtain⟨Z,_⟩:=Ij hs hi B;have hd:=OW (p:=p) hs H Z (e:=0) aa n;rw[Bj B,Bj F,QV B,G,C,<-I];rw[qC,pI hn] at hd;show kE _ _ _ _ (eF s p _ 0)-kE _ _ _ _ (eF s p _ 1)=OE _ _ _ (γ (half s p f _ 0)) n*_;rw[hd];congr 1;unfold WW BrD.zs half;rw[hn];simp only[NK,abA];by_cases D:n=0
 .subst D;rw[ι rfl,ι rf,Qf]
 .rw[θ D,θ aa,Qf]
def Den.vol{D:GQ}(h:Den (bU s p f) (eO s p f) f D){i:Nat}(j:(s.bays.getD i η).kind=1):oK (jS s p f i) D:=by
 rw[Bj j];exact h.JG _
end
section
variable {D:GQ} {x y:Nat->GQ} {sh:Nat}
def FrP.bd2{h e:Nat}{p:PQ}(hp:FrP D h e p)(J:oK x D)(B:e+(h+2250)<4600)(j:h+2250+(h+2250)<4600):Bd p.u 4600/\Bd p.v 4600:=hp.bd J.2.1 J.1 B j
def XZ:Wh (GQ.i (-1) 0) (q2 0):=TE aj
def UU(J:oK x D)(hs:sh<3)(m:Nat):FrP D 2 2257 ((phv x sh m).sc (GQ.i (-1) 0)):=FrP.le ((J.phv hs m).sc XZ) aa
def CR(J:oK x D)(R:oK y D)(hs:sh<3)(m:Nat):FrP D 2 2258 (phv x sh m+(phv y sh m).sc (GQ.i (-1) 0)):=FrP.le ((J.phv hs m).add (UU R hs m)) aa
def U3(J:oK x D)(hs:sh<3)(a b:Nat):FrP D 2 2258 (phv x sh a+phv x sh b):=FrP.le ((J.phv hs a).add (J.phv hs b)) aa
end
structure Ww (D C:Nat->PQ) (z1 z0:GQ):Prop where
 d:∀m,Bd (D m).u 4600/\Bd (D m).v 4600
 dt:Bd (D 1+D 2).u 4600/\Bd (D 1+D 2).v 4600
 ct:Bd (C 1+C 2).u 4600/\Bd (C 1+C 2).v 4600
 e0:D 0+(D 1+D 2)=(C 0+(C 1+C 2)).sc z0
 e1:D 1+(D 2).sc (GQ.i (-1) 0)=(C 1+(C 2).sc (GQ.i (-1) 0)).sc z1
def agz{s:StD}{p:dM}{f:eD}(H:jC s)(I:mR s.buses.length s.lines.length f){i j:Nat}(hi:i<s.bays.length)(B:(s.bays.getD i η).kind=1)(F:(s.bays.getD j η).kind=1)(Q:(s.bays.getD i η).obj=(s.bays.getD j η).obj)(G:(s.bays.getD i η).en=0)(C:(s.bays.getD j η).en=1)(hn:iC f (s.bays.getD i η).obj.toNat=ζ){l:vV}(Z:s.lines.getD (s.bays.getD i η).obj.toNat η=l):
  Ww (fun m=>phv (jS s p f i) (shf f.kind) m+(phv (jS s p f j) (shf f.kind) m).sc (GQ.i (-1) 0)) (phv (tC s p f i) (shf f.kind)) (GQ.i l.z1.r l.z1.x) (GQ.i l.z0.r l.z0.x):=by
 obtain⟨M,K⟩:=r9 (p:=p) H I;obtain⟨D,L⟩:=afM (fN:=eO s p f) (f:=f) K M I.r;obtain⟨E,T⟩:∃E,oK (tC s p f i) E:=L.WC (way s p f i) (fun b hb=>CQ H I hi hb);have J:=L.vol B;have R:=L.vol F;have hs:=P6 f.kind;have hd:∀n,n<3->(fun n=>jS s p f i n-jS s p f j n) n=jS s p f i n-jS s p f j n:=fun _ _=>rfl;have hq:=QS (p:=p) H I hi B F Q G C hn;rw[Z] at hq;have O:=hq 0;have P:=hq 1;have N:=hq 2;simp only[WW,aad,θ (show ¬(1:Nat)=0 by decide),θ (show ¬(2:Nat)=0 by decide)] at O P N;refine⟨fun m=>(CR J R hs m).bd2 J aa aa,((CR J R hs 1).add (CR J R hs 2)).bd2 J aa aa,(U3 T hs 1 2).bd2 T aa aa,?_,?_⟩
 .show phv _ _ 0+(phv _ _ 0).sc (GQ.i (-1) 0)+(phv _ _ 1+(phv _ _ 1).sc (GQ.i (-1) 0)+(phv _ _ 2+(phv _ _ 2).sc (GQ.i (-1) 0)))=_;rw[xY hd 0,xY hd 1,xY hd 2];exact Tw hs O
 .show phv _ _ 1+(phv _ _ 1).sc (GQ.i (-1) 0)+(phv _ _ 2+(phv _ _ 2).sc (GQ.i (-1) 0)).sc (GQ.i (-1) 0)=_;rw[xY hd 1,xY hd 2];exact Q0 P N 1 2
def Blk.XD{w:World}{g n m o:Nat}{t:TypeId}{e:Nat->En}(h:Blk w g t (bz n e).toArray)(C:m*6+5<n)(B:o=m*36):w.rangeAt g o (bz 6 fun t=>e (m*6+t)):=fun j v hv=>by
 have D:j<36:=by have:=(μ.1 hv).1;rwa[bM] at this
 rw[h.cell,Γ,<-hv,B];obtain⟨a,b,rfl,hb⟩:∃a b,j=a*6+b/\b<6:=⟨j/6,j%6,aa,aa⟩;rw[dY (f:=fun t=>e (m*6+t)) hb aa,show m*36+(a*6+b)=(m*6+a)*6+b by omega,dY hb aa]
def PoO (q:Nat->GQ):Nat->Nat->Nat->Value->World->Prop:=fun i lo hi _ w=>lo<hi/\∃e:En,Blk w lo 42 e.arr/\GV w e.v (q i) 64
def Xw{ops:Array Oper}{w0:World}(nf:List (Nat×NF))(l:List (Nat×Nat))(al:List Nat)(q:Nat->GQ)(B:Iy nf=ε)(j:VI ops nf l=ε):Late ops w0 (NFs nf) (PdG al) (PoO q) (SG l):=by
 have h:=afE (ops:=ops) (w0:=w0) nf l al (fun _=>zEn) B j;exact⟨h.ft,h.fs,h.pt,h.ps,fun i lo hi v w w' h x=>⟨h.1,h.2.elim fun e a=>⟨e,a.1.ext x,a.2.ext x⟩⟩,fun i lo hi v g w w' h x C=>⟨h.1,h.2.elim fun e a=>⟨e,x.blk a.1 (show lo≠g by have:=h.1;omega),x.gv a.2⟩⟩,h.sa,h.si,h.sn,h.fz⟩
def TH{ev:Operand->Value}{o:Oper}{x y:Operand}{j lo hi:Nat}{v:Value}{w:World}{q:Nat->GQ}(e:En)(G:o.op=.store 42 x y)(J:ev x=.pointer (γ (aM lo 0)))(R:ev y=e.v)(D:lo<hi/\Blk w lo 42 aQ3)(B:GV w e.v (q j) 64):∃w',(execOp ev o).run prog w=.ok .skip w'/\Sto lo w w'/\PoO q j lo hi v w':=by
 obtain⟨w',F,C,H⟩:=Sc e G J R D.2;exact⟨w',F,C,D.1,e,H,C.gv B⟩
section
variable {P:Program} {ops:Array Oper} {w0:World} {E:Nat->Bool} {Φ Pd Po:Nat->Nat->Nat->Value->World->Prop} {S:Nat->Option Nat} {Q:Book->Act->Prop}
theorem Oj{l:List Oper}{o:Oper}{k j:Nat}{F:Book}{a:Act}{e:Value×Nat×Nat}(G:ops[k]? =γ o)(L:Region.wanted o (yielded ops a.tmps)=ε)(Y:E k=ε)(hS:S k=γ j)(hF:F j=γ e)(C:e.2.1<e.2.2)(hd:o.dst=δ)(K:∀lo hi v w',Φ k lo hi v w')(J:∀w,(∀i e,F i=γ e->anc ops ops.size k i=ε->Φ i e.2.1 e.2.2 e.1 w)->Pd j e.2.1 e.2.2 e.1 w->∃w',(execOp a.eval o).run P w=.ok .skip w'/\Sto e.2.1 w w'/\Po j e.2.1 e.2.2 e.1 w')(D:∀x,qZ P ops w0 E Φ Pd Po S Q l (k+1) (F.set k x) a):qZ P ops w0 E Φ Pd Po S Q (o::l) k F a:=by
 unfold qZ rA;simp only[G,L,Y,aad];refine⟨fun H B=>(by rw[hS] at B;cases B;exact⟨e,hF,C⟩),fun w I=> ?_,fun v lo hi _=>(by rw[hd];exact D (v,lo,hi))⟩;obtain⟨w',M,hs,hp⟩:=J w I.2.1 (I.2.2 j e hS hF);exact Aa4
end
def Dq{P:Program}{ops:Array Oper}{rest:List Oper}{j:Oper}{a:Act}{w:World}{Q:Exit->Act->World->Prop}(d:Nat)(hd:j.dst=γ d)(h:Hid (wpList P ops Q (j::rest) a w)):wpList P ops Q (j::rest) a w:=h.o
structure DrI (w W:World) (g:Nat) (P:Nat->PQ) (e:Nat->En) (n:Nat):Prop where
 b:Blk W g 45 (bz 6 e).toArray
 v:∀m,m<n->GV W (e (2*m)).v (P m).u 4600/\GV W (e (2*m+1)).v (P m).v 4600
 x:Ext w W
 l:w.heap.size<=g
def DrI.ext{w W W':World}{g n:Nat}{P:Nat->PQ}{e:Nat->En}(h:DrI w W g P e n)(x:Ext W W'):DrI w W' g P e n:=⟨h.b.ext x,fun m j=>⟨(h.v m j).1.ext x,(h.v m j).2.ext x⟩,h.x.trans x,h.l⟩
def DrI.put{w W W':World}{g i a:Nat}{P:Nat->PQ}{e x:Nat->En}(h:DrI w W g P e i)(hi:i<3)(D:GV W (x 0).v (P i).u 4600)(G:GV W (x 1).v (P i).v 4600)(ha:a=i*12)(C:W'=puts W g a (bz 2 x)):
  DrI w W' g P (upd (upd e (2*i) (x 0)) (2*i+1) (x 1)) (i+1):=by
 have j:Mod (fun k=>k=g) W W':=by rw[C];exact Mod.puts _ _ _ _ rfl
 have B:Far (fun k=>k=g) W:=fun k F _=>by
  obtain rfl:k=g:=F;exact⟨_,_,h.b,dD _ _⟩
 have hb:Blk W' g 45 (bz 6 (upd (upd e (2*i) (x 0)) (2*i+1) (x 1))).toArray:=by
  have:=dm a (bz 2 x) h.b;rw[ha,zA hi] at this;rw[C,ha];exact this
 refine⟨hb,fun m H=> ?_,fG h.x j (fun k e=>by have e:k=g:=e;have:=h.l;omega),h.l⟩;by_cases e:m=i
 .subst e;rw[upd_ne aa,upd_same,upd_same];exact⟨D.mod j B,G.mod j B⟩
 .have:=h.v m aa;rw[upd_ne aa,upd_ne aa,upd_ne aa,upd_ne aa];exact⟨this.1.mod j B,this.2.mod j B⟩
def FO (R:Nat->PQ) (p:PQ) (i j B:Nat) (v:Value) (w:World):Prop:=
 if i=13 then ∃e,v=.agg (bz 6 e).toArray/\Ph3 w e R 4665 else if i=16 then PV w v p 4600 else True
theorem Uh(R:Nat->PQ)(p:PQ):∀i lo hi v w w',FO R p i lo hi v w->Ext w w'->FO R p i lo hi v w':=fun i lo hi v w w' h x=>by
 unfold FO at h⊢;split
 .rw[ι Aa8] at h;obtain⟨e,a,b⟩:=h;exact⟨e,a,b.ext x⟩
 .rw[θ Aa8] at h;split
  .rw[ι Aa8] at h;exact h.ext x
  .trivial
theorem Ud{A0:Option Addr}{n0 c0:Nat}{A1:Option Addr}{n1 c1:Nat}{A2:Option Addr}{n2 c2:Nat}{A3:Option Addr}{n3 c3:Nat}{L:Nat->Hd}{s:StD}{PA:Option Addr}{pn pc:Nat}{PB:Option Addr}{V qc:Nat}{K:Nat->Hd}{p:dM}(f:eD)(w:World)(hs:yu w A0 n0 c0 A1 n1 c1 A2 n2 c2 A3 n3 c3 L s)(hp:iR w PA pn PB V K p):
  CE 5 #[stV s.name A0 n0 c0 A1 n1 c1 A2 n2 c2 A3 n3 c3,lK PA pn pc PB V qc,nU f] w (.bool ε):=by
 have HS:=aW hs;have HP:=aW hp;have bx:=aW hs;clear hs hp;unfold stV lK nU;go_enter func5,ntmps5;go_wp2_with fail;have F:Ext w (aL (aL (aL w #[s.name,aO A0 n0 c0,aO A1 n1 c1,aO A2 n2 c2,aO A3 n3 c3] 27) #[aO PA pn pc,aO PB V qc] 31) #[f.kind,f.line,f.obj,f.num,f.den,f.r] 33):=((Ext.new _ _).alloc _).alloc _;obtain⟨-,Yy,YI,-⟩:=ah3 w 27 #[s.name,aO A0 n0 c0,aO A1 n1 c1,aO A2 n2 c2,aO A3 n3 c3] 31 #[aO PA pn pc,aO PB V qc] 33 #[f.kind,f.line,f.obj,f.num,f.den,f.r];have YF:Hid (Blk (aL (aL (aL w #[s.name,aO A0 n0 c0,aO A1 n1 c1,aO A2 n2 c2,aO A3 n3 c3] 27) #[aO PA pn pc,aO PB V qc] 31) #[f.kind,f.line,f.obj,f.num,f.den,f.r] 33) (w.heap.size+1+1) 33 #[f.kind,f.line,f.obj,f.num,f.den,f.r]):=aW (aeV _ _ ag);have HX:=aW F;clear F;generalize aU _ _=w0 at HX Yy YI YF⊢;generalize w.heap.size+1+1=g5 at YF⊢;generalize w.heap.size+1=g4 at YI⊢;generalize w.heap.size=g3 at Yy⊢;refine(Ps f _ (HS.ext HX.o) (HP.ext HX.o)).mono ?_;rintro _ w1 ⟨b,rfl,F,hb⟩;have HW:=aW (HX.trans F);replace Yy:=Yy.aA F;replace YI:=YI.aA F;replace YF:=YF.aA F;clear F HX;cases b
 .clear hb Yy YI YF;go_wp2_with fail;refine(Mj _).mono ?_;rintro _ w2 ⟨rfl,ao⟩;have HY:=aW (HW.trans ao);clear ao;go_wp2_with fail;go_ret;exact⟨rfl,HY.o⟩
 have HT:=aW (hb rfl);clear hb;have aI:Hid (chk s=0/\fD s.buses.length s.lines.length f=0):=aW (by
  have G:=HT.o.2.1;unfold xL at G;by_cases hc:chk s=0
  .rw[ι hc] at G;exact⟨hc,G⟩
  .rw[θ hc] at G;exact absurd G hc)
 have Yz:=aW ((HS.ext HW.o).is_ (by have:=HT.o;omega));have ZL:=aW (HP.ext HW.o);clear HS HP;have k3:=Yy.cell;have k4:=YI.cell;have k5:=YF.cell;go_wp2_with fail;clear k3 k4 k5;refine(solve_run f _ Yz.o ZL.o aI.o.1 HT.o.2.2 aI.o.2).mono ?_;rintro _ w3 ⟨GC,GV_,ec,ev,ef,rfl,aq,F⟩;have Yu:=aW aq;have Z9:=aW (HW.trans F);replace Yz:=Yz.aA F;replace Yy:=Yy.aA F;replace YF:=YF.aA F;have aw:=Yy.lt;have ay:=YF.lt;clear aq F YI ZL;(go_wp2_with (refine bF rfl 47 rfl _ uD (fun wA G=>Hid.o ?_)));refine Qz ?_;replace G:=Hid.o G;have F:Ext w3 wA:=by rw[G];exact Ext.new _ _
 have YW:Blk wA w3.heap.size 47 (iT (.slice δ 0 0) (.slice δ 0 0) fun _=>zEn).toArray:=by rw[G];exact Blk.new _ _ _
 have Zl:=aW (show w.heap.size<=w3.heap.size from Z9.size);have ZE:=aW (Yu.ext F);have b0:=aW (Z9.trans F);have YB:=aW YW;replace Yz:=Yz.aA F;replace Yy:=Yy.aA F;replace YF:=YF.aA F;have YX:=aW (show g3≠w3.heap.size/\g5≠w3.heap.size from ⟨ad7 aw,ad7 ay⟩);clear G YW F Yu Z9 aw ay;generalize w3.heap.size=g7 at Zl YB YX⊢;have N:Hid (World.there wA g7 0 (iT (.slice (γ (aM GC 0)) s.bays.length s.bays.length) (.slice (γ (aM GV_ 0)) s.bays.length s.bays.length) ef).length):=aW (YB.there Ac4);(go_wp2_with (refine aY rfl 47 (.tmp 7) (.tmp 30) rfl g7 (0) (iT (.slice (γ (aM GC 0)) s.bays.length s.bays.length) (.slice (γ (aM GV_ 0)) s.bays.length s.bays.length) ef) rf rf N.o (nW _ _ _) (uZ _ _ _ rfl rfl) (fun wT G=>Hid.o ?_)));refine Qz ?_;replace G:=Hid.o G;have B:=AL b0.o Zl.o YB.o ZE.o G;have a8:Mod (fun k=>k=g7) wA wT:=by rw[G];exact Mod.puts _ _ _ _ rfl
 replace Yy:=aW (Blk.mod Yy.o a8 YX.o.1);replace YF:=aW (Blk.mod YF.o a8 YX.o.2);have YT:=aW B.1;have Yu:=aW B.2.1;have bp:=aW B.2.2;replace Yz:=aW ((bx.ext bp.o).is_ (by have:=HT.o.1;omega));clear B a8 G N YB ZE b0 bx;have YH:=Yz.l3;have S:=Yz.l1;subst YH;subst S;have k3:=Yy.cell;have cG:wT.cell? (aM g7 0)=γ (aO (γ (aM GC 0)) s.bays.length s.bays.length):=(YT.cell 0).trans rfl;have cy:wT.cell? (aM g7 1)=γ (aO (γ (aM GV_ 0)) s.bays.length s.bays.length):=(YT.cell 1).trans rfl;go_wp2_with fail;clear k3 cG cy;have YM:=aW (vZ aI.o.1);have ZR:=aW (afz aI.o.2);generalize Value.agg #[f.kind,f.line,f.obj,f.num,f.den,f.r]=vf;go_loopw [55] (fun iv wr=>∃i:Nat,i<=s.bays.length/\iv=.int .i64 i/\Ext wT wr) (aT s.bays.length)
 case atStart=>exact⟨0,aa,rfl,Ext.refl _⟩
 case round=>
  rename World=>wr;obtain⟨i,hi,rfl,Zn⟩:=hrel;have Q:=aW Zn;clear Zn;have cN:s.bays.length<=16:=YM.nq;have k3:=(Yy.ext Q.o).cell;by_cases ai:i<s.bays.length
  rotate_left
  .obtain rfl:i=s.bays.length:=aa;have aP:decide ((s.bays.length:Int)<(s.bays.length:Int))=ζ:=ag;go_wp2_with fail;clear k3 aP;refine(Mj _).mono ?_;rintro _ w2 ⟨rfl,ao⟩;have HY:=aW (bp.trans (Q.trans ao));clear ao;go_wp2_with fail;go_ret;exact⟨rfl,HY.o⟩
  have aP:decide ((i:Int)<s.bays.length)=ε:=ae;have q1:(0:Int)<=i:=aa;have q2:(i:Int)<s.bays.length:=aa;obtain⟨b,Ze⟩:∃b,s.bays.getD i η=b:=⟨_,rfl⟩;obtain⟨gb,ob,Z7,Zo,Zh⟩:=(Yz.ext Q.o).bays.at_ ai;rw[Ze] at Zh;have YV:=aW Ze;clear Ze;subst Z7;have YE:=aW (show wr.rangeAt gb (ob+i*12) (ji b (L i)) from Zh);clear Zh Zo;(go_wp2_with (refine σ rfl 57 _ rfl gb (ob+i*12) rf (ji b (L i)) _ YE.o abg rfl lF (Hid.o ?_)));refine Qz ?_;(go_wp2_with (refine bF rfl 57 rfl _ uF (fun a9 G=>Hid.o ?_)));refine Qz ?_;replace G:=Hid.o G;have Zt:=aW G;clear G;have N:Hid (a9.there wr.heap.size 0 (ji b (L i)).length):=aW (by rw[Zt.o];exact(Blk.new wr 57 oP.toArray).there (show 0+(ji b (L i)).length<=oP.toArray.size from κ 12));(go_wp2_with (refine aY rfl 57 (.tmp 10) (.tmp 59) rfl wr.heap.size (0) (ji b (L i)) rf rf N.o lF (xS _ _) (fun bj G=>Hid.o ?_)));refine Qz ?_;replace G:=Hid.o G;have T:=xN Zt.o G;have Yv:=aW T.1;replace Q:=Q.aC T.2;clear T Zt G YE N;generalize wr.heap.size=g10 at Yv⊢;clear k3 aP;have k3:=(Yy.ext Q.o).cell;go_wp2_with fail;clear k3;go_loopw [63] (fun kv wq=>∃k:Nat,k<=s.bays.length/\kv=.int .i64 k/\Ext bj wq) (aT s.bays.length)
  case atStart=>exact⟨0,aa,rfl,Ext.refl _⟩
  case round=>
   rename World=>wq;obtain⟨k,hk,rfl,YO⟩:=hrel;have HQ:=aW YO;clear YO;have k3:=(Yy.ext (Q.trans HQ.o)).cell;by_cases cl:k<s.bays.length
   rotate_left
   .obtain rfl:k=s.bays.length:=aa;have Zr:decide ((s.bays.length:Int)<(s.bays.length:Int))=ζ:=ag
    go_wp2_with fail
    go_roundw
    case rel=>exact⟨i+1,aa,au,Q.trans HQ.o⟩
    case measure=>exact aV
   have Zr:decide ((k:Int)<s.bays.length)=ε:=ae;have r1:(0:Int)<=k:=aa;have r2:(k:Int)<s.bays.length:=aa;obtain⟨c,ZC⟩:∃b,s.bays.getD k η=b:=⟨_,rfl⟩;obtain⟨gb,ob,Z7,Zo,Zh⟩:=(Yz.ext (Q.trans HQ.o)).bays.at_ cl;rw[ZC] at Zh;have a2:=aW ZC;clear ZC;cases Z7
   have YE:=aW (show wq.rangeAt gb (ob+k*12) (ji c (L k)) from Zh);clear Zh Zo;(go_wp2_with (refine σ rfl 57 _ rfl gb (ob+k*12) rf (ji c (L k)) _ YE.o abg rfl lF (Hid.o ?_)));refine Qz ?_;(go_wp2_with (refine bF rfl 57 rfl _ uF (fun a9 G=>Hid.o ?_)));refine Qz ?_;replace G:=Hid.o G;have Zt:=aW G;clear G;have N:Hid (a9.there wq.heap.size 0 (ji c (L k)).length):=aW (by rw[Zt.o];exact(Blk.new wq 57 oP.toArray).there (show 0+(ji c (L k)).length<=oP.toArray.size from κ 12));(go_wp2_with (refine aY rfl 57 (.tmp 12) (.tmp 67) rfl wq.heap.size (0) (ji c (L k)) rf rf N.o lF (xS _ _) (fun M G=>Hid.o ?_)));refine Qz ?_;replace G:=Hid.o G;have T:=xN Zt.o G;have Za:=aW T.1;replace HQ:=HQ.aC T.2;clear T Zt G YE N;generalize wq.heap.size=g12 at Za⊢;clear k3 Zr;have cv:Ext wT M:=Q.trans HQ.o;have kk:M.cell? (aM g10 1)=γ (.int .i64 b.kind):=((Yv.ext HQ.o).cell 1).trans rfl;have ck:M.cell? (aM g12 1)=γ (.int .i64 c.kind):=(Za.cell 1).trans rfl;have H:=aW cv;clear cv;by_cases h1:b.kind=1
   rotate_left
   .have ZB:(b.kind !=1)=ε:=by simpa using h1
    go_wp2_with fail
    go_roundw
    case rel=>exact⟨k+1,aa,au,HQ.o⟩
    case measure=>exact aV
   have ZB:(b.kind !=1)=ζ:=by simpa using h1
   obtain⟨Zz,Z⟩:=Ij YM.o ai (show(s.bays.getD i η).kind=1 by rw[YV.o];exact h1);obtain⟨l,a3⟩:∃l,(s.bays.getD i η).obj.toNat=l:=⟨_,rfl⟩;rw[a3] at Zz Z;have YN:b.obj=(l:Int):=by rw[<-YV.o];exact Z.symm
   have H1:=aW h1;have a6:=aW a3;have YS:=aW YN;clear h1 Z a3 YN;have ko:M.cell? (aM g10 2)=γ (.int .i64 (l:Int)):=by rw[<-YS.o];exact((Yv.ext HQ.o).cell 2).trans rfl
   have ke:M.cell? (aM g10 3)=γ (.int .i64 b.en):=((Yv.ext HQ.o).cell 3).trans rfl;have co:M.cell? (aM g12 2)=γ (.int .i64 c.obj):=(Za.cell 2).trans rfl;have ce:M.cell? (aM g12 3)=γ (.int .i64 c.en):=(Za.cell 3).trans rfl;have k5:=(YF.ext H.o).cell;by_cases h2:c.kind=1
   rotate_left
   .have a1:(c.kind !=1)=ε:=by simpa using h2
    go_wp2_with fail
    go_roundw
    case rel=>exact⟨k+1,aa,au,HQ.o⟩
    case measure=>exact aV
   have bg:(c.kind !=1)=ζ:=by simpa using h2
   have bw:=aW h2;clear h2;by_cases h3:(l:Int)=c.obj
   rotate_left
   .have a1:((l:Int) !=c.obj)=ε:=by simpa using h3
    go_wp2_with fail
    go_roundw
    case rel=>exact⟨k+1,aa,au,HQ.o⟩
    case measure=>exact aV
   have bh:((l:Int) !=c.obj)=ζ:=by simpa using h3
   have ch:=aW h3;clear h3;by_cases h4:b.en=0
   rotate_left
   .have a1:(b.en !=0)=ε:=by simpa using h4
    go_wp2_with fail
    go_roundw
    case rel=>exact⟨k+1,aa,au,HQ.o⟩
    case measure=>exact aV
   have bi:(b.en !=0)=ζ:=by simpa using h4
   have bV:=aW h4;clear h4;by_cases h5:c.en=1
   rotate_left
   .have a1:(c.en !=1)=ε:=by simpa using h5
    go_wp2_with fail
    go_roundw
    case rel=>exact⟨k+1,aa,au,HQ.o⟩
    case measure=>exact aV
   have be:(c.en !=1)=ζ:=by simpa using h5
   have cp:=aW h5;clear h5;obtain⟨gl,ol,cH,ZN,ZX⟩:=(Yz.ext H.o).lines.at_ Zz;subst cH;obtain⟨C,aE⟩:∃x,s.lines.getD l η=x:=⟨_,rfl⟩;rw[aE] at ZX;have ci:=aW (show M.rangeAt gl (ol+l*5) (mr C) from ZX);clear ZX ZN;have hz:=YM.line l Zz;rw[aE,qW,qW] at hz;have HZ:=aW hz;have YQ:=aW aE;clear hz aE;have k3:=(Yy.ext H.o).cell;have p1:(0:Int)<=l:=aa;have p2:(l:Int)<s.lines.length:=aa;have Zd:iC f l=(f.line&&decide (f.obj=(l:Int))):=rfl;have aB:=aW Zd;clear Zd;by_cases h6:f.kind=0
   case' pos=>
    have cn:(f.kind !=0)=ζ:=by simpa using h6
    have HN:Hid (iC f l=ζ):=aW (by rw[aB.o];cases Zy:f.line;rfl;have:=ZR.lk Zy;omega);clear h6;go_wp2_with (with_reducible refine Dq 109 rfl ?_)
   case' neg=>
    have cn:(f.kind !=0)=ε:=by simpa using h6
    clear h6;by_cases Zy:f.line=ε
    rotate_left
    case' neg=>
     have Zy:f.line=ζ:=by simpa using Zy
     have HN:Hid (iC f l=ζ):=aW (by rw[aB.o,Zy];rfl);go_wp2_with (with_reducible refine Dq 109 rfl ?_)
    case' pos=>
     by_cases h7:f.obj=(l:Int)
     .have cE:(f.obj==(l:Int))=ε:=by simpa using h7
      clear h7;go_wp2_with fail
      go_roundw
      case rel=>exact⟨k+1,aa,au,HQ.o⟩
      case measure=>exact aV
     have cE:(f.obj==(l:Int))=ζ:=by simpa using h7
     have HN:Hid (iC f l=ζ):=aW (by rw[aB.o,Zy];simpa using h7);clear h7;go_wp2_with (with_reducible refine Dq 109 rfl ?_)
   all_goals
    clear ZB kk ck ke co ce k5 bg bh bi be cn;have ZY:=agz (p:=resolve 0 p) YM.o ZR.o ai (show(s.bays.getD i η).kind=1 by rw[YV.o];exact H1.o) (show(s.bays.getD k η).kind=1 by rw[a2.o];exact bw.o) (show(s.bays.getD i η).obj=(s.bays.getD k η).obj by rw[YV.o,a2.o,YS.o];exact ch.o) (by rw[YV.o];exact bV.o) (by rw[a2.o];exact cp.o) (by rw[a6.o];exact HN.o) (l:=C) (by rw[a6.o];exact YQ.o);have cg:Hid (Ph3 wT (fun j=>ev (i*6+j)) (phv (jS s (resolve 0 p) f i) (shf f.kind)) 4600):=aW (Yu.v i ai);have cj:Hid (Ph3 wT (fun j=>ev (k*6+j)) (phv (jS s (resolve 0 p) f k) (shf f.kind)) 4600):=aW (Yu.v k cl);have af:Hid (Ph3 wT (fun j=>ec (i*6+j)) (phv (tC s (resolve 0 p) f i) (shf f.kind)) 4600):=aW (Yu.c i ai);have Y:=aW ZY;clear ZY YQ;obtain⟨Dr,a4⟩:∃D:Nat->PQ,(fun m=>phv (jS s (resolve 0 p) f i) (shf f.kind) m+(phv (jS s (resolve 0 p) f k) (shf f.kind) m).sc (GQ.i (-1) 0))=D:=⟨_,rfl⟩;rw[a4] at Y;have a0:=aW (congrFun a4);clear a4;generalize phv (jS s (resolve 0 p) f i) (shf f.kind)=cL at cg a0;generalize phv (jS s (resolve 0 p) f k) (shf f.kind)=PR at cj a0;generalize phv (tC s (resolve 0 p) f i) (shf f.kind)=P at Y af;clear aB HN bw ch bV cp H1 YS a6;refine aW ?_;(go_wp2_with (refine σ rfl 63 _ rfl gl (ol+l*5) rf (mr C) _ ci.o acX rfl (vM _) (Hid.o ?_)));refine Qz ?_;clear k3 ko;(go_wp2_with (refine bF rfl 63 rfl _ Ez (fun cB G=>Hid.o ?_)));refine Qz ?_;replace G:=Hid.o G;have Zt:=aW G;clear G;have N:Hid (cB.there M.heap.size 0 (mr C).length):=aW (by rw[Zt.o];exact(Blk.new M 63 wY.toArray).there (show 0+(mr C).length<=wY.toArray.size from κ 5));(go_wp2_with (refine aY rfl 63 (.tmp 13) (.tmp 114) rfl M.heap.size (0) (mr C) rf rf N.o (vM _) (Io _) (fun ZI G=>Hid.o ?_)));refine Qz ?_;replace G:=Hid.o G;have T:=xD (z:=wY) (cs:=mr C) rfl Zt.o G;have ad:Blk ZI M.heap.size 63 #[C.name,C.z1.r,C.z1.x,C.z0.r,C.z0.x]:=T.1;replace HQ:=HQ.aC T.2;replace H:=H.aC T.2;clear T Zt G N ci;generalize M.heap.size=ZW at ad⊢;have bb:=aX.blk ad;clear ad;go_wp2_with fail;refine qw 17 (DK [(6,.any),(13,.any),(14,.any),(15,.any),(16,.any)]) (NFs [(6,.gv (GQ.i C.z1.r C.z1.x) 64),(13,.gv (GQ.i C.z0.r C.z0.x) 64),(14,.pt),(15,.pt)]) (PdG [14,15]) (PoO (fun _=>GQ.i C.z1.r C.z1.x)) (SG [(16,14),(17,15)]) (Xw _ _ _ _ rf ah) ah ah ?_;refine Qd ?_;refine lN 6 rf ah ?_;refine Qd ?_;refine aS ?_;refine jD rf rf rf rf ?_ ?_
    .intro R hW I;clear I;go_simp;exact⟨rfl,(AQ C.z1.r C.z1.x _ Acz Acz Acz Acz).mono fun e w' ⟨v,O,hv,J⟩=>⟨v,O,J,fun h=>absurd h aj,uh hv⟩⟩
    intro v_ a7 YP YD;obtain⟨R,YC⟩:=YD;obtain⟨e1,rfl,-⟩:NF.holds (.gv (GQ.i C.z1.r C.z1.x) 64) a7 YP v_ R:=YC.get;clear YC R;refine Qp ?_;refine lN 6 rf ah ?_;refine Qd ?_;refine aS ?_;refine jD rf rf rf rf ?_ ?_
    .intro R hW I;clear I;go_simp;exact⟨rfl,(AQ C.z0.r C.z0.x _ Acz Acz Acz Acz).mono fun e w' ⟨v,O,hv,J⟩=>⟨v,O,J,fun h=>absurd h aj,uh hv⟩⟩
    intro v_ Zi Zj YD;obtain⟨R,YC⟩:=YD;obtain⟨e2,rfl,-⟩:NF.holds (.gv (GQ.i C.z0.r C.z0.x) 64) Zi Zj v_ R:=YC.get;clear YC R;refine Qp ?_;refine jD rf rf rf rf ?_ ?_
    .exact AaA
    intro v_ YY Zk YD;obtain⟨R,YC⟩:=YD;obtain⟨rfl,YK⟩:NF.holds .pt YY Zk v_ R:=YC.get;clear YC R;refine Qp ?_;refine jD rf rf rf rf ?_ ?_
    .exact AaA
    intro v_ Zw Zc YD;obtain⟨R,YC⟩:=YD;obtain⟨rfl,ZO⟩:NF.holds .pt Zw Zc v_ R:=YC.get;clear YC R;refine Qp ?_;refine Oj (j:=14) (e:=(.pointer (γ (aM YY 0)),YY,Zk)) rf rf rf rf rf YK rf (fun _ _ _ _=>trivial) ?_ ?_
    .intro R hA hP;exact TH e1 rf rf rf (hP rf) (ae5 (hA 6 (e1.v,a7,YP) rf ah))
    intro cM;refine Qp ?_;refine Im ?_;intro wE I;have YL:GV wE e2.v (GQ.i C.z0.r C.z0.x) 64:=ae5 (I.at_ 13 (e:=(e2.v,Zi,Zj)) rf);obtain⟨-,eA,ax,ar⟩:PoO (fun _=>GQ.i C.z1.r C.z1.x) 14 YY Zk (.pointer (γ (aM YY 0))) wE:=I.post 16 14 (.pointer (γ (aM YY 0)),YY,Zk) _ rf rf rf;have av:=((show PdG [14,15] 15 Zw Zc (.pointer (γ (aM Zw 0))) wE from I.pend 17 15 (.pointer (γ (aM Zw 0)),Zw,Zc) rf rf rf) rf).2;have bm:=I.low 15 (.pointer (γ (aM Zw 0)),Zw,Zc) rf;have Yx:YY≠Zw:=MK YK ZO (I.disj 14 15 (.pointer (γ (aM YY 0)),YY,Zk) (.pointer (γ (aM Zw 0)),Zw,Zc) aj rf rf);have HE:=aW I.ext;have ac:=aW ax;have ZH:=aW ar;have ZJ:=aW av;have ZF:=aW YL;have HL:=aW (And.intro bm Yx);clear I YL ax ar av bm Yx YK ZO bb HZ;have N:=aW (ZJ.there (o:=0) (n:=6) ag);refine aY rfl 42 (.tmp 15) (.tmp 128) rfl Zw 0 e2.cells rf rf N.o cO (eP e2) (fun w9 G=> ?_);refine Qp ?_;replace G:=Hid.o G;have hp:=ni e2 HE.o HL.o.1 ZJ.o G;replace ac:=aW (hp.2.2.2 YY _ _ HL.o.2 ac.o);replace ZH:=aW (hp.2.2.1 _ _ _ ZH.o);replace ZF:=aW (hp.2.2.1 _ _ _ ZF.o);replace ZJ:=aW hp.2.1;replace HQ:=HQ.aC hp.1;replace H:=H.aC hp.1;clear hp G N HE HL;(go_wp2_with (refine bF rfl 45 rfl _ sQ (fun bA G=>Hid.o ?_)));refine Qz ?_;replace G:=Hid.o G;have YZ:Blk bA w9.heap.size 45 (bz 6 fun _=>zEn).toArray:=by rw[G];exact Blk.new _ _ _
    have ZG:Ext w9 bA:=by rw[G];exact Ext.new _ _
    have N:=aW (eX (f:=fun _=>zEn) YZ);have am:=aW YZ;have Zx:=aW ZG;clear G YZ ZG;(go_wp2_with (refine aY rfl 45 (.tmp 16) (.tmp 129) rfl w9.heap.size (0) (bz 6 fun _=>zEn) rf rf N.o (iO _) (dN 6 _) (fun cA G=>Hid.o ?_)));refine Qz ?_;replace G:=Hid.o G;have hp:=iw Zx.o (κ _) am.o G;have HD:Hid (DrI w9 cA w9.heap.size Dr (fun _=>zEn) 0):=aW ⟨hp.1,fun m hm=>absurd hm aa,hp.2.1,κ _⟩;clear hp G N am Zx;generalize w9.heap.size=ap at HD⊢;go_wp2_with fail
    go_loopw [130] (fun nv ws=>∃n:Nat,n<=3/\nv=.int .i64 n/\∃e,DrI w9 ws ap Dr e n) (aT 3)
    case atStart=>exact⟨0,aa,rfl,_,HD.o⟩
    case round=>
     clear HD;rename World=>ws;obtain⟨n,hn,rfl,ed,bt⟩:=hrel;have HD:=aW bt;clear bt;by_cases YJ:n<3
     .have bq:decide ((n:Int)<3)=ε:=ae;have s1:(0:Int)<=n:=aa;have s2:(n:Int)<3:=aa;have aG:=aW (H.trans HD.x);have a5:=aX.cell (show ws.cell? (aM g7 1)=γ (aO (γ (aM GV_ 0)) s.bays.length s.bays.length) from ((YT.ext aG.o).cell 1).trans rfl);have HV:=aW (Yu.bv.ext aG.o);go_wp2_with fail;refine fP 17 (DK [(13,.any),(16,.any)]) (FO (fun m=>(PR m).sc (GQ.i (-1) 0)) (Dr n)) (Uh _ _) ah ah ?_;refine Qd ?_;refine kU 13 rf ah ?_;refine Qd ?_;(iterate 7 (go_big_quiet_step (fail)));refine dV rf 44 _ rfl _ _ rf (bz 2 fun t=>ev (i*6+(2*n+t))) _ (by
       rintro W ⟨x,rfl⟩;have G:=(HV.ext x.ext).JR (m:=i*3+n) aa rfl;rw[show(fun t=>ev (2*(i*3+n)+t))=fun t=>ev (i*6+(2*n+t)) from funext fun t=>by congr 1;omega,show(i*3+n)*12=i*36+n*12 by omega] at G;exact G) A8 rfl (ig _) ?_
      refine Qp ?_;(iterate 4 (go_big_quiet_step (fail)));refine dV rf 45 _ rfl _ _ rf (bz 6 fun t=>ev (k*6+t)) _ (by rintro W ⟨x,rfl⟩;exact(HV.ext x.ext).XD (m:=k) aa aa) Be rfl (iO _) ?_;refine Qp ?_;refine aaL ?_;refine dL rf rf rf ?_ ?_
      .intro R I;have hW:=aG.trans I.1;clear I;go_simp;exact⟨rfl,(Ti _ PR _ (cj.ext hW)).mono fun e w' ⟨v,O,hv,J⟩=>⟨_,O,J,v,rfl,hv⟩⟩
      intro cC Zi Zj YD;obtain⟨R,YC⟩:=YD;obtain⟨e4,rfl,-⟩:FO (fun m=>(PR m).sc (GQ.i (-1) 0)) (Dr n) 13 Zi Zj cC R:=YC.get;clear YC R;refine Qp ?_;have cF:=fun w=>QR (e:=e4) YJ w;refine Qs ?_;clear cF;refine dL rf rf rf ?_ ?_
      .intro R I;have hW:=aG.trans I.1;obtain⟨e5,az,h4⟩:FO (fun m=>(PR m).sc (GQ.i (-1) 0)) (Dr n) 13 Zi Zj (.agg (bz 6 e4).toArray) R:=I.2 13 (.agg (bz 6 e4).toArray,Zi,Zj) rf ah;have ba:bz 6 e4=bz 6 e5:=by injection az with az;simpa using congrArg Array.toList az
       have h5:PV R (.agg (bz 2 fun t=>e4 (2*n+t)).toArray) ((PR n).sc (GQ.i (-1) 0)) 4665:=by
        have:=h4 n YJ;rw[<-uI ba (by omega:2*n<6),<-uI ba (by omega:2*n+1<6)] at this;exact afj this.1 this.2
       clear I h4 az ba;go_simp;exact⟨rfl,(F5 _ (cL n) 4600 _ ((PR n).sc (GQ.i (-1) 0)) 4665 _ ((cg.pv YJ).ext hW) h5 aa).mono fun e w' ⟨v,O,hv,J⟩=>⟨_,O,J,by have h:=a0.o n;rw[h] at hv;exact hv.to (Y.d n).1 (Y.d n).2⟩⟩
      intro cb Z8 ZM YD;clear YD;refine Qp ?_;refine bN ?_;intro wE I;have ZZ:PV wE cb (Dr n) 4600:=I.at_ 16 (e:=(cb,Z8,ZM)) rf;obtain⟨f9,rfl,h0,h1⟩:=ZZ.row;have ZA:=HD.ext I.ext;have N:Hid (wE.there ap (n*12) (bz 2 f9).length):=aW (ZA.b.there AbQ);have H0:=aW h0;have H1:=aW h1;have Zg:=aW ZA;clear I ZZ h0 h1 ZA HD a5 HV;(go_wp2_with (refine aY rfl 44 (.tmp 150) (.tmp 149) rfl ap (n*12) (bz 2 f9) rf rf N.o (ig f9) (dN 2 f9) (fun cP G=>Hid.o ?_)));refine Qz ?_;replace G:=Hid.o G;have cI:=aW (Zg.put YJ H0.o H1.o rfl G);clear G Zg N H0 H1;go_wp2_with fail;refine⟨⟨n+1,aa,au,_,cI.o⟩,?_⟩;exact AdW
     .have bq:decide ((n:Int)<3)=ζ:=ae;obtain rfl:n=3:=aa;have a5:ws.cell? (aM g7 0)=γ (aO (γ (aM GC 0)) s.bays.length s.bays.length):=((YT.ext (H.trans HD.x)).cell 0).trans rfl;have bo:=aW ((Yu.bc.ext (H.trans HD.x)).XD (m:=i) (o:=i*36) aa aa);(go_wp2_with (refine σ rfl 45 _ rfl GC (i*36) rf (bz 6 fun t=>ec (i*6+t)) _ bo.o Be rfl (iO _) (Hid.o ?_)));refine Qz ?_;clear a5 bq;(go_wp2_with (refine bF rfl 45 rfl _ sQ (fun cc G=>Hid.o ?_)));refine Qz ?_;replace G:=Hid.o G;have YZ:Blk cc ws.heap.size 45 (bz 6 fun _=>zEn).toArray:=by rw[G];exact Blk.new _ _ _
      have ZG:Ext ws cc:=by rw[G];exact Ext.new _ _
      have N:=aW (eX (f:=fun t=>ec (i*6+t)) YZ);have am:=aW YZ;have Zx:=aW ZG;clear G YZ ZG bo;(go_wp2_with (refine aY rfl 45 (.tmp 18) (.tmp 156) rfl ws.heap.size (0) (bz 6 fun t=>ec (i*6+t)) rf rf N.o (iO _) (dN 6 _) (fun ca G=>Hid.o ?_)));refine Qz ?_;replace G:=Hid.o G;have hp:=iw Zx.o (κ _) am.o G;have Yw:=aW (HD.b.ext hp.2.1);have U:=aW hp.1;have bn:Hid (Ph3 ca ed Dr 4600):=aW (fun m hm=>⟨(HD.v m hm).1.ext hp.2.1,(HD.v m hm).2.ext hp.2.1⟩);have Zm:=aW (HD.x.trans hp.2.1);clear hp G N am Zx HD;generalize ws.heap.size=ZK at U⊢;have YA:=aW (H.trans Zm.o);replace HQ:=HQ.aC Zm.o;replace af:=af.aA YA.o;replace ZH:=ZH.aA Zm.o;replace ZF:=ZF.aA Zm.o;have bk:=aX.blk (show Blk ca YY 42 #[eA.s1,aO eA.A1 eA.n1 eA.c1,eA.s2,aO eA.A2 eA.n2 eA.c2,eA.s3,aO eA.A3 eA.n3 eA.c3] from ac.ext Zm.o);have bl:=aX.blk (ZJ.ext Zm.o);clear ac ZJ Zm;go_wp2_with fail;refine fP 17 (OX [(1,.any),(3,.any),(5,.any),(6,.any),(10,.any),(12,.any),(14,.any),(15,.any)]) (NPs [(1,.pv (Dr 0+(Dr 1+Dr 2)) 9201),(3,.pv (P 0+(P 1+P 2)) 9201),(5,.pv ((P 0+(P 1+P 2)).sc (GQ.i C.z0.r C.z0.x)) 9266),(6,.eq (.bool ε)),(10,.pv (Dr 1+(Dr 2).sc (GQ.i (-1) 0)) 9266),(12,.pv (P 1+(P 2).sc (GQ.i (-1) 0)) 9266),(14,.pv ((P 1+(P 2).sc (GQ.i (-1) 0)).sc (GQ.i C.z1.r C.z1.x)) 9331),(15,.eq (.bool ε))]) (uE _) ah ah ?_;refine Qd ?_;refine kU 1 rf ah ?_;refine Qd ?_;refine dV rf 45 _ rfl ap 0 rf (bz 6 ed) _ Adu Be rfl (iO _) ?_;refine Qp ?_;refine aaL ?_;refine dL rf rf rf ?_ ?_
      .intro R I;have hW:=I.1;clear I;go_simp;exact⟨rfl,(Su _ _ _ (bn.ext hW) Y.dt.1 Y.dt.2).mono fun e w' ⟨v,O,hv,J⟩=>⟨_,O,J,hv⟩⟩
      intro v1 cx Zp YD;clear YD;refine Qp ?_;refine kU 1 rf ah ?_;refine Qd ?_;refine dV rf 45 _ rfl ZK 0 rf (bz 6 fun t=>ec (i*6+t)) _ AdQ Be rfl (iO _) ?_;refine Qp ?_;refine aaL ?_;refine dL rf rf rf ?_ ?_
      .intro R I;have hW:=I.1;clear I;go_simp;exact⟨rfl,(Su _ _ _ (af.ext hW) Y.ct.1 Y.ct.2).mono fun e w' ⟨v,O,hv,J⟩=>⟨_,O,J,hv⟩⟩
      intro v3 cD YR YD;clear YD;refine Qp ?_;refine Qs ?_;refine dL rf rf rf ?_ ?_
      .intro R I;have hW:=I.1;have h3:PV R v3 (P 0+(P 1+P 2)) 9201:=I.2 3 (v3,cD,YR) rf ah;clear I;go_simp;exact⟨rfl,(tL _ (P 0+(P 1+P 2)) 9201 _ (GQ.i C.z0.r C.z0.x) 64 _ h3 (ZF.ext hW) aa).mono fun e w' ⟨v,O,hv,J⟩=>⟨_,O,J,hv⟩⟩
      intro v5 ZQ YG YD;clear YD;refine Qp ?_;refine dL rf rf rf ?_ ?_
      .intro R I;have hW:=I.1;have h1:PV R v1 (Dr 0+(Dr 1+Dr 2)) 9201:=I.2 1 (v1,cx,Zp) rf ah;have h5:PV R v5 ((P 0+(P 1+P 2)).sc (GQ.i C.z0.r C.z0.x)) 9266:=I.2 5 (v5,ZQ,YG) rf ah;clear I;go_simp;exact⟨rfl,(rD _ _ (Dr 0+(Dr 1+Dr 2)) ((P 0+(P 1+P 2)).sc (GQ.i C.z0.r C.z0.x)) 9201 9266 _ h1 h5 Y.e0).mono fun e w' ⟨O,J⟩=>⟨_,O,J,rfl⟩⟩
      intro v6 a7 YP YD;obtain⟨R,YC⟩:=YD;obtain rfl:v6=.bool ε:=YC.get;clear YC R;refine Qp ?_;refine Qs ?_;refine kU 1 rf ah ?_;refine Qd ?_;refine dV rf 45 _ rfl ap 0 rf (bz 6 ed) _ Adu Be rfl (iO _) ?_;refine Qp ?_;refine aaL ?_;refine dL rf rf rf ?_ ?_
      .intro R I;have hW:=I.1;clear I;go_simp;exact⟨rfl,(Mo _ _ _ (bn.ext hW)).mono fun e w' ⟨v,O,hv,J⟩=>⟨_,O,J,hv⟩⟩
      intro cd Zf YU YD;clear YD;refine Qp ?_;refine kU 1 rf ah ?_;refine Qd ?_;refine dV rf 45 _ rfl ZK 0 rf (bz 6 fun t=>ec (i*6+t)) _ AdQ Be rfl (iO _) ?_;refine Qp ?_;refine aaL ?_;refine dL rf rf rf ?_ ?_
      .intro R I;have hW:=I.1;clear I;go_simp;exact⟨rfl,(Mo _ _ _ (af.ext hW)).mono fun e w' ⟨v,O,hv,J⟩=>⟨_,O,J,hv⟩⟩
      intro cr ZU ZT YD;clear YD;refine Qp ?_;refine Qs ?_;refine dL rf rf rf ?_ ?_
      .intro R I;have hW:=I.1;have cJ:PV R cr (P 1+(P 2).sc (GQ.i (-1) 0)) 9266:=I.2 12 (cr,ZU,ZT) rf ah;clear I;go_simp;exact⟨rfl,(tL _ (P 1+(P 2).sc (GQ.i (-1) 0)) 9266 _ (GQ.i C.z1.r C.z1.x) 64 _ cJ (ZH.ext hW) aa).mono fun e w' ⟨v,O,hv,J⟩=>⟨_,O,J,hv⟩⟩
      intro cf Zq Zk YD;clear YD;refine Qp ?_;refine dL rf rf rf ?_ ?_
      .intro R I;have hW:=I.1;have Zv:PV R cd (Dr 1+(Dr 2).sc (GQ.i (-1) 0)) 9266:=I.2 10 (cd,Zf,YU) rf ah;have ZP:PV R cf ((P 1+(P 2).sc (GQ.i (-1) 0)).sc (GQ.i C.z1.r C.z1.x)) 9331:=I.2 14 (cf,Zq,Zk) rf ah;clear I;go_simp;exact⟨rfl,(rD _ _ (Dr 1+(Dr 2).sc (GQ.i (-1) 0)) ((P 1+(P 2).sc (GQ.i (-1) 0)).sc (GQ.i C.z1.r C.z1.x)) 9266 9331 _ Zv ZP Y.e1).mono fun e w' ⟨O,J⟩=>⟨_,O,J,rfl⟩⟩
      intro cw ZV Zc YD;obtain⟨R,YC⟩:=YD;obtain rfl:cw=.bool ε:=YC.get;clear YC R;refine Qp ?_;refine Qs ?_;refine bN ?_;intro wE I;replace HQ:=HQ.aC I.ext;clear I bk bl;go_wp2_with fail
      go_roundw
      case rel=>exact⟨k+1,aa,au,HQ.o⟩
      case measure=>exact aV
end Go.Proofs.YtbfnfkppkmpieaaGreat
