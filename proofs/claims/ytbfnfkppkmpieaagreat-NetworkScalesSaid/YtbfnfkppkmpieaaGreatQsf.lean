import Derived.Test.YtbfnfkppkmpieaaGreatQse
set_option linter.unusedVariables false
set_option linter.unusedSimpArgs false
set_option maxHeartbeats 25600000
set_option maxRecDepth 200000
set_option linter.defProp false
namespace Go.Proofs.YtbfnfkppkmpieaaGreat
open Go.RowKit
open Go.RowKit Go.ChangeShapes Go.WideShapes Go.ChangeAt Go.Joins Go.Deep
open Go.RowKit Go.Deep
open Go.Proofs.Tryz
open Option renaming some->γ,none->δ
open Bool renaming true->ε,false->ζ
open Inhabited renaming default->η
open Value renaming slice->aO
open World renaming alloc->aU
open Mc
def fl (P:Nat->PQ) (j:Nat):GQ:=if j%2=0 then (P (j/2)).u else (P (j/2)).v
def gF (v1 j:Value) (e:Nat->En):List Value:=v1::j::bD 12 e
def fD(v1 j e):(gF v1 j e).length=74:=by show(bD 12 e).length+2=74;rw[bN]
def rU:(prog.info? 47).map (·.zero)=γ (γ (.agg (gF (.slice δ 0 0) (.slice δ 0 0) fun _=>zEn).toArray)):=ah
def XO:zeroCells47=(gF (.slice δ 0 0) (.slice δ 0 0) fun _=>zEn).toArray:=ah
def Qq(a b):(zeroCells47.setIfInBounds 0 a).setIfInBounds 1 b=(gF a b fun _=>zEn).toArray:=by rw[XO];rfl
def mq(v1 j e):(prog.info? 47).map (·.size)=γ (gF v1 j e).length:=by rw[fD];kernel_rfl
def chunk (i:Nat) (x e:Nat->En) (j:Nat):En:=if j/6=i then x (j%6) else e j
theorem CR{n i}(hi:i<n)(x e):gI (bD (n*6) e).toArray (i*36) (bD 6 x)=(bD (n*6) (chunk i x e)).toArray:=by
 rw[jL];congr 1;have D:(bD (n*6) e).length=n*6*6:=bN _ _;have C:(bD 6 x).length=36:=bN _ _;rw[D,C,χ (l:=bD 6 x) aa];apply aam;intro p;by_cases hp:p<n*6*6
 .obtain⟨j,t,rfl,F⟩:∃j t,p=j*6+t/\t<6:=⟨p/6,p%6,aa,aa⟩;have G:j<n*6:=aa;rw[dP (f:=chunk i x e) F G];have B:((bD (n*6) e).take (i*36)).length=i*36:=by rw[Be,D];omega
  unfold chunk;by_cases H:j/6=i
  .rw[ι H];rw[Λ AaU,kC (by rw[B];omega),B,show j*6+t-i*36=j%6*6+t by omega,dP F aa]
  .rw[θ H];by_cases I:j/6<i
   .rw[Λ AaU,Λ (by rw[B];omega),NK aa,dP F G]
   .rw[kC AaU,nH,B,C,Zb,show i*36+36+(j*6+t-(i*36+36))=j*6+t by omega,dP F G]
 .rw[qa AcL,qa Ab4]
def QG:(prog.info? 45).map (fun i=>(i.zero,i.size,i.bytes))=γ (γ (.agg (bD 6 fun _=>zEn).toArray),36,576):=ah
def Ca:∀n:Nat,oJ n (bD 6 fun _=>zEn)=bD (n*6) fun _=>zEn
 |0=>rfl
 |n+1=>by
  rw[qM,Ca n,IK,show(n+1)*6=n*6+6 by omega];simp only[adw]
def Md(n:Nat)(hn:n<=1000)(W:World):(Instr.makeSlice 37 (.int .i64 n) (.int .i64 n)).run prog W=.ok (.slice (γ (aM W.heap.size 0)) n n) (W.alloc (.cells (bD (n*6) fun _=>zEn).toArray 45)):=by
 obtain⟨i0,M,j,l,O⟩:=abL QG;have h:=ac8 (P:=prog) W 37 45 i0 (.agg (bD 6 fun _=>zEn).toArray) underlying37 M j .i64 .i64 n n aa aa Abf aa;rw[h,l];have e:=qU (bD 6 fun _=>zEn) Ab4 n;rw[bN,Ca] at e;simp only[Ex];rw[show(Value.agg (bD 6 fun _=>zEn).toArray).cells=(bD 6 fun _=>zEn).toArray from rfl,e]
structure xM (w:World) (GC GV_:Nat) (ec ev ef:Nat->En) (s:StD) (p:dH) (f:dY):Prop where
 bc:Blk w GC 45 (bD (s.bays.length*6) ec).toArray
 bv:Blk w GV_ 45 (bD (s.bays.length*6) ev).toArray
 c:∀i,i<s.bays.length->Ph3 w (fun j=>ec (i*6+j)) (phv (uD s p f i) (shf f.kind)) 4600
 v:∀i,i<s.bays.length->Ph3 w (fun j=>ev (i*6+j)) (phv (nN s p f i) (shf f.kind)) 4600
 fc:Ph3 w ef (phv (sI (dD s p f) (eZ s p f) f) (shf f.kind)) 4600
 fv:Ph3 w (fun j=>ef (6+j)) (phv (fun n=>kH (dD s p f) (eZ s p f) f n (eZ s p f)) (shf f.kind)) 4600
def xM.ext{w w' GC GV_ ec ev ef s p f}(h:xM w GC GV_ ec ev ef s p f)(x:Ext w w'):xM w' GC GV_ ec ev ef s p f:=
 ⟨h.bc.ext x,h.bv.ext x,fun i hi=>(h.c i hi).ext x,fun i hi=>(h.v i hi).ext x,h.fc.ext x,h.fv.ext x⟩
def Ow(k w)(j:0<=k/\k<=10):
  Calls prog 43 #[.int .i64 k] w fun e w'=>e=.returned (.int .i64 (shf k:Nat))/\w'=w:=by
 have h:k=0\/k=1\/k=2\/k=3\/k=4\/k=5\/k=6\/k=7\/k=8\/k=9\/k=10:=aa;rcases h with rfl|rfl|rfl|rfl|rfl|rfl|rfl|rfl|rfl|rfl|rfl
 all_goals
  go_enter func43,ntmps43;go_wp2;go_ret;exact⟨rfl,rfl⟩
theorem sN(a b e)(ha:a.oneCell'=ε)(hb:b.oneCell'=ε):∀v∈gF a b e,v.oneCell'=ε:=by
 intro v hv;unfold gF at hv;simp only[lh] at hv;rcases hv with rfl|rfl|hv
 .exact ha
 .exact hb
 .exact dX _ _ v hv
theorem Ph3.row{w e P n}(h:Ph3 w e P n):ni w 6 e (fl P) n:=fun j C=>by
 have B:=h (j/2) aa;unfold fl;by_cases l:j%2=0
 .rw[ι l];have:=B.1;rwa[show 2*(j/2)=j by omega] at this
 .rw[θ l];have:=B.2;rwa[show 2*(j/2)+1=j by omega] at this
theorem afg{w e P n}(h:ni w 6 e (fl P) n):Ph3 w e P n:=fun m B=>by
 have l:=h (2*m) aa;have j:=h (2*m+1) aa;unfold fl at l j;rw[ι aa,show 2*m/2=m by omega] at l;rw[θ aa,show(2*m+1)/2=m by omega] at j;exact⟨l,j⟩
section
variable {bs:List BrD} {fN:Nat} {f:dY} {D:GQ}
def Den.dif(h:Den bs fN f D)(n j k):Bd (kH bs fN f n j-kH bs fN f n k) 4600:=
 (((h.LD j).2.2 n).sub ((h.LD k).2.2 n)).bd (iH h.wd (by omega:2200<=2250)) h.ne aa aa
def Den.Ym(h:Den bs fN f D)(j k){m}(C:0<=m/\m<=1000000):Bd (kH bs fN f 1 j-kH bs fN f 1 k-GQ.i m 0) 4600:=by
 have B:=(((h.LD j).2.2 1).sub ((h.LD k).2.2 1));have l:Fr D 0 2251 (GQ.i m 0):=(afr (eP h.wd (pu (by show m.natAbs<=2^20;omega):Wh (GQ.i m 0) (q2 20)))).le aa;exact(B.sub l).bd (iH h.wd (by omega:2200<=2250)) h.ne aa aa
end
def Pp(gx gf i C E){s p f D}(w)(hc:dh w gf)(I:fP w gx 105 393 (fO C E))(hv:oU w gx C E s p f)(l:jG s)(j:oh s.buses.length s.lines.length f)(F:Den (dD s p f) (eZ s p f) f D)(hi:i<s.bays.length):
  Calls prog 45 #[aN gx 0,aN gf 0,(i:Int)] w fun r w'=>∃a:Nat->En,r=.returned (.agg (bD 3 a).toArray)/\ni w' 3 a (uD s p f i) 4600/\Ext w w':=by
 obtain⟨H,bc,wv,B,J,K⟩:=hv.bays;obtain⟨G,L⟩:=F.XF (way s p f i) (fun b hb=>FY l j hi hb);exact OO gx gf i s.bays.length bc C E (kH (dD s p f) (eZ s p f) f) (lv (dD s p f)) (way s p f i) H wv w hc I hv.v hv.live B J hi (K i hi) (fun b hb=>FY l j hi hb)
  (fun b hb n hn=>F.dif n b.a b.b) (fun b hb=>F.Ym b.a b.b (FY l j hi hb).emf) (fun n=>L.bd n)
def qK(gf sh:Nat)(a q D w)(hc:dh w gf)(ha:ni w 3 a q 4600)(hq:tZ q D)(hs:sh<3):
  Calls prog 44 #[aN gf 0,.agg (bD 3 a).toArray,(sh:Int)] w fun r w'=>∃e:Nat->En,r=.returned (.agg (bD 6 e).toArray)/\ni w' 6 e (fl (phv q sh)) 4600/\Ext w w':=
 (KZ gf sh a q D w hc ha hq hs).mono fun r w' ⟨e,l,j,B⟩=>⟨e,l,j.row,B⟩
def Ji(a b l B k):gI (a::b::l).toArray (k+2) B=(a::b::(gI l.toArray k B).toList).toArray:=by
 rw[jL,jL];have j:(a::b::l).length-(k+2)=l.length-k:=by simp only[nV];omega
 have C:k+2+B.length=(k+B.length)+1+1:=aa;rw[j,C,ξ,ξ,show k+2=k+1+1 from rfl,aaz,aaz];simp
theorem Tx(a b e x){i}(hi:i<2):gI (gF a b e).toArray (i*36+2) (bD 6 x)=(gF a b (chunk i x e)).toArray:=by
 unfold gF;rw[Ji,CR (n:=2) hi]
structure SoS (w W:World) (g8 g10 g12 GC GV_:Nat) (C:Nat->Value) (E:Nat->En) (ec ev ef:Nat->En) (s:StD) (p:dH) (f:dY) (i k:Nat):Prop where
 g:fP W g8 105 393 (fO C E)
 c:dh W g10
 b12:Blk W g12 47 (gF (.slice (γ (aM GC 0)) s.bays.length s.bays.length) (.slice (γ (aM GV_ 0)) s.bays.length s.bays.length) ef).toArray
 bc:Blk W GC 45 (bD (s.bays.length*6) ec).toArray
 bv:Blk W GV_ 45 (bD (s.bays.length*6) ev).toArray
 vc:∀j,j<i->Ph3 W (fun t=>ec (j*6+t)) (phv (uD s p f j) (shf f.kind)) 4600
 vv:∀j,j<k->Ph3 W (fun t=>ev (j*6+t)) (phv (nN s p f j) (shf f.kind)) 4600
 x:Ext w W
 lo:w.heap.size<=g8/\w.heap.size<=g10/\w.heap.size<=g12/\w.heap.size<=GC/\w.heap.size<=GV_
 ne:GC≠GV_
section
variable {w W W':World} {g8 g10 g12 GC GV_ i k:Nat} {C:Nat->Value} {E:Nat->En} {ec ev ef:Nat->En} {s:StD} {p:dH} {f:dY}
def SoS.ext(h:SoS w W g8 g10 g12 GC GV_ C E ec ev ef s p f i k)(x:Ext W W'):SoS w W' g8 g10 g12 GC GV_ C E ec ev ef s p f i k:=
 ⟨h.g.ext x,h.c.ext x,h.b12.ext x,h.bc.ext x,h.bv.ext x,fun j l=>(h.vc j l).ext x,fun j l=>(h.vv j l).ext x,h.x.trans x,h.lo,h.ne⟩
def Ph3.mod{S e P n}(h:Ph3 W e P n)(m:Mod S W W')(hS:Far S W):Ph3 W' e P n:=fun j l=>⟨(h j l).1.mod m hS,(h j l).2.mod m hS⟩
def SoS.X4(h:SoS w W g8 g10 g12 GC GV_ C E ec ev ef s p f i k):Far (fun k=>k=GC) W:=fun k j _=>by
 obtain rfl:k=GC:=j;exact⟨_,_,h.bc,dI _ _⟩
def SoS.Ya(h:SoS w W g8 g10 g12 GC GV_ C E ec ev ef s p f i k):Far (fun k=>k=GV_) W:=fun k j _=>by
 obtain rfl:k=GV_:=j;exact⟨_,_,h.bv,dI _ _⟩
theorem SoS.Yd(h:SoS w W g8 g10 g12 GC GV_ C E ec ev ef s p f i i){e}(hi:i<s.bays.length)(O:ni W 6 e (fl (phv (uD s p f i) (shf f.kind))) 4600)(G:W'=puts W GC (i*36) (bD 6 e)):SoS w W' g8 g10 g12 GC GV_ C E (chunk i e ec) ev ef s p f (i+1) i:=by
 have l:Mod (fun k=>k=GC) W W':=by rw[G];exact Mod.puts _ _ _ _ rfl
 have lo:=h.lo;have hS:=h.X4;have J:¬g8=GC:=Blk.eY h.g h.bc aj;have K:¬g10=GC:=Blk.eY h.c h.bc aj;have D:¬g12=GC:=Blk.eY h.b12 h.bc aj;refine⟨h.g.mod l J,Blk.mod h.c l K,h.b12.mod l D,?_,h.bv.mod l (fun e=>h.ne e.symm),fun j H=> ?_,fun j H=>(h.vv j H).mod l hS,fQ h.x l (fun k F=>by have F:k=GC:=F;omega),h.lo,h.ne⟩
 .have:=dm (i*36) (bD 6 e) h.bc;rw[CR hi] at this;rw[G];exact this
 .by_cases I:j=i
  .subst I;refine afg (fun t B=> ?_);show GV W' (chunk j e ec (j*6+t)).v _ _;exact AbC
  .refine afg (fun t B=> ?_);have L:chunk i e ec (j*6+t)=ec (j*6+t):=(by unfold chunk;rw[θ aa]);show GV W' (chunk i e ec (j*6+t)).v _ _;rw[L];exact((h.vc j aa).row t B).mod l hS
theorem SoS.Yi(h:SoS w W g8 g10 g12 GC GV_ C E ec ev ef s p f (i+1) i){e}(hi:i<s.bays.length)(O:ni W 6 e (fl (phv (nN s p f i) (shf f.kind))) 4600)(G:W'=puts W GV_ (i*36) (bD 6 e)):SoS w W' g8 g10 g12 GC GV_ C E ec (chunk i e ev) ef s p f (i+1) (i+1):=by
 have l:Mod (fun k=>k=GV_) W W':=by rw[G];exact Mod.puts _ _ _ _ rfl
 have lo:=h.lo;have hS:=h.Ya;have J:¬g8=GV_:=Blk.eY h.g h.bv aj;have K:¬g10=GV_:=Blk.eY h.c h.bv aj;have D:¬g12=GV_:=Blk.eY h.b12 h.bv aj;refine⟨h.g.mod l J,Blk.mod h.c l K,h.b12.mod l D,h.bc.mod l h.ne,?_,fun j H=>(h.vc j H).mod l hS,fun j H=> ?_,fQ h.x l (fun k F=>by have F:k=GV_:=F;omega),h.lo,h.ne⟩
 .have:=dm (i*36) (bD 6 e) h.bv;rw[CR hi] at this;rw[G];exact this
 .by_cases I:j=i
  .subst I;refine afg (fun t B=> ?_);show GV W' (chunk j e ev (j*6+t)).v _ _;exact AbC
  .refine afg (fun t B=> ?_);have L:chunk i e ev (j*6+t)=ev (j*6+t):=(by unfold chunk;rw[θ aa]);show GV W' (chunk i e ev (j*6+t)).v _ _;rw[L];exact((h.vv j aa).row t B).mod l hS
def SoS.Vz(h:SoS w W g8 g10 g12 GC GV_ C E ec ev ef s p f i k){m a e}(G:m<2)(ha:a=m*36+2)(I:W'=puts W g12 a (bD 6 e)):SoS w W' g8 g10 g12 GC GV_ C E ec ev (chunk m e ef) s p f i k/\Mod (fun k=>k=g12) W W'/\Far (fun k=>k=g12) W:=by
 subst ha;have D:Mod (fun k=>k=g12) W W':=by rw[I];exact Mod.puts _ _ _ _ rfl
 have lo:=h.lo;have hS:Far (fun k=>k=g12) W:=fun k F _=>by
  obtain rfl:k=g12:=F;refine⟨_,_,h.b12,?_⟩;show(List.all (_::_::bD 12 ef) _)=ε;rw[abQ,abQ];exact dI 12 ef
 have J:¬g8=g12:=Blk.eY h.g h.b12 aj;have K:¬g10=g12:=Blk.eY h.c h.b12 aj;have B:¬GC=g12:=Blk.eY h.bc h.b12 aj;have l:¬GV_=g12:=Blk.eY h.bv h.b12 aj;refine⟨⟨h.g.mod D J,Blk.mod h.c D K,?_,h.bc.mod D B,h.bv.mod D l,fun j H=>(h.vc j H).mod D hS,fun j H=>(h.vv j H).mod D hS,fQ h.x D (fun k F=>by have F:k=g12:=F;omega),h.lo,h.ne⟩,D,hS⟩;have:=dm (m*36+2) (bD 6 e) h.b12;rw[Tx _ _ _ _ G] at this;rw[I];exact this
def SoS.Mq(h:SoS w W g8 g10 g12 GC GV_ C E ec ev ef s p f i k){a}(ha:a+36<=74)(x):W.there g12 a (bD 6 x).length:=h.b12.there (by rw[Ad,fD,bN];omega)
def WP{w gx a C E}(h:fP w gx 105 393 (fO C E))(ha:a<=57){o}(l:o=33+a*6):w.rangeAt gx o (bD 3 fun k=>E (a+k)):=fun t v hv=>by
 have D:t<18:=by have:=(μ.1 hv).1;rwa[bN] at this
 obtain⟨j,u,rfl,B⟩:∃j u,t=j*6+u/\u<6:=⟨t/6,t%6,aa,aa⟩;rw[dP B aa] at hv;have:=h.en (e:=a+j) aa (a:=33+(a+j)*6) rfl u v hv;rw[l,show 33+a*6+(j*6+u)=33+(a+j)*6+u by omega];exact this
def SoS.WG(h:SoS w W g8 g10 g12 GC GV_ C E ec ev ef s p f i k){j}(l:j<s.bays.length)(x):W.there GC (j*36) (bD 6 x).length:=h.bc.there AaG
def SoS.WB(h:SoS w W g8 g10 g12 GC GV_ C E ec ev ef s p f i k){j}(l:j<s.bays.length)(x):W.there GV_ (j*36) (bD 6 x).length:=h.bv.there AaG
end
theorem solve_run{A0 n0 c0 A1 n1 c1 A2 n2 c2 A3 n3 c3 LH s PA pn pc PB V qc K p}(f w)(hs:j5 w A0 n0 c0 A1 n1 c1 A2 n2 c2 A3 n3 c3 LH s)(hp:iN w PA pn PB V K p)(hc:chk s=0)(ZF:jq s p=0)(hf:fu s.buses.length s.lines.length f=0):
  Calls prog 11 #[stV s.name A0 n0 c0 A1 n1 c1 A2 n2 c2 A3 n3 c3,lG PA pn pc PB V qc,nX f] w fun r w'=>∃GC GV_ ec ev ef,r=.returned (.tuple #[.agg (gF (.slice (γ (aM GC 0)) s.bays.length s.bays.length) (.slice (γ (aM GV_ 0)) s.bays.length s.bays.length) ef).toArray,aJ])/\xM w' GC GV_ ec ev ef s (resolve 0 p) f/\Ext w w':=by
 obtain rfl:=hs.l3;have YC:=uf hc;have Zp:=afw hf;have aw:=YC.nq;have Zf:=rW (p:=resolve 0 p) YC Zp;obtain⟨D,hD⟩:=agm (bs:=dD s (resolve 0 p) f) (fN:=eZ s (resolve 0 p) f) (f:=f) Zf.2 Zf.1 Zp.r;have ZG:=Hg YC Zp (resolve 0 p);have Yw:=aW hs;have ZM:=aW hp;have Yz:=aW hc;have Z9:=aW ZF;have YY:=aW hf;have YH:=aW YC;have ZR:=aW Zp;have ao:=aW aw;have aI:=aW Zf;have HD:=aW hD;have Zn:=aW ZG;clear hs hp hc ZF hf YC Zp aw Zf hD ZG;unfold stV lG nX;go_enter func11,ntmps11;(go_wp2_with (refine bJ rfl 47 rfl _ rU (fun w_ G=>Hid.o ?_)));refine Qz ?_;replace G:=Hid.o G;have HX:Hid (Ext w w_):=aW AcU;have Yu:Hid (Blk w_ w.heap.size 27 #[s.name,aO A0 n0 c0,aO A1 n1 c1,aO A2 n2 c2,aO A3 s.bays.length c3]):=aW Adc;have U:Hid (Blk w_ (w.heap.size+1) 31 #[aO PA pn pc,aO PB V qc]):=aW Ado;have Yt:Hid (Blk w_ (w.heap.size+2) 33 #[f.kind,f.line,f.obj,f.num,f.den,f.r]):=aW (by rw[G];exact(aeW _ _ ag).alloc _);have S:Hid (Blk w_ (w.heap.size+3) 47 (gF (.slice δ 0 0) (.slice δ 0 0) fun _=>zEn).toArray):=aW (by rw[G];exact aeW _ _ ag);clear G;(try simp only[fZ]);have YO:Hid (w.heap.size<=w.heap.size+3):=aW aa;generalize w.heap.size+3=g6 at S YO⊢;generalize w.heap.size+2=g5 at Yt⊢;generalize w.heap.size+1=g4 at U⊢;generalize L:w.heap.size=g3 at Yu⊢;clear L;have k3:=Yu.cell;have k4:=U.cell;have k5:=Yt.cell;go_wp2_with fail;clear k3 k4 k5;refine(Oi f _ (Yw.ext HX.o) (ZM.ext HX.o) Yz.o Z9.o YY.o).mono ?_;rintro _ w1 ⟨C,E,gx,rfl,YM,F⟩;have aq:=aW (Yw.ext (HX.trans F));replace HX:=HX.aC F;replace Yu:=Yu.aA F;replace Yt:=Yt.aA F;replace S:=S.aA F;have YF:=aW YM;have Z7:=Yu;have ZB:=S;clear F YM U;(go_wp2_with (refine bJ rfl 105 rfl _ yX (fun W G=>Hid.o ?_)));refine Qz ?_;replace G:=Hid.o G;have F:Ext w1 W:=by rw[G];exact Ext.new _ _
 have YP:Blk W w1.heap.size 105 (gl zC fun _=>zEn).toArray:=by rw[G];exact Blk.new _ _ _
 have N:=aW (Ju (C':=C) (E':=E) YP);clear G;generalize Zi:w1.heap.size=g8 at YP N⊢;refine bf rfl 105 (.tmp 8) (.tmp 19) rfl g8 (0) (gl C E) rf rf N.o (uP C E) (Qh YF.one) (fun T G=> ?_);refine Qp ?_;replace G:=Hid.o G;have HO:=VX (w:=w1) F aa YP G;have YA:Hid (fP T g8 105 393 (fO C E)):=aW HO.1;have HY:=aW HO.2;have YW:Hid (w1.heap.size<=g8):=aW aa;clear HO G F YP N Zi;obtain⟨P,ZW⟩:=an1 T 109 #[aJ];have k5:=((Yt.ext HY.o).ext P).cell;go_wp2_with fail;have Zh:Hid (w1.heap.size<=T.heap.size):=aW HY.size;have HC:Hid (dh (T.alloc (.cells #[aJ] 109)) T.heap.size):=aW ZW;replace Yu:=aW ((Yu.ext HY.o).ext P);replace Yt:=aW ((Yt.ext HY.o).ext P);replace S:=aW ((S.ext HY.o).ext P);replace YA:=YA.aA P;replace HY:=HY.aC P;clear P ZW k5;generalize aU _ _=w3 at Yu Yt S YA HC HY⊢;generalize T.heap.size=g10 at HC Zh⊢;refine(Ow f.kind _ ZR.kind).mono ?_;rintro _ w3 ⟨rfl,ay⟩;subst ay;have k3:=Yu.cell;obtain⟨sh,ZH⟩:∃n,shf f.kind=n:=⟨_,rfl⟩;have ZP:sh<3:=by rw[<-ZH];exact V3 _
 rw[ZH];have YX:=aW ZH;clear ZH;have Zq:=aX.blk Yu.o;go_wp2_with fail;refine tR 10 [(3,.mk s.bays.length 45 ((bD (s.bays.length*6) fun _=>zEn).toArray)),(7,.mk s.bays.length 45 ((bD (s.bays.length*6) fun _=>zEn).toArray)),(9,.box 47 zeroCells47)] ?_;refine Qs ?_;refine eF rf rf rf ?_ ?_
 .exact Abj
 intro v_ GC ap YG;obtain⟨R,Yy⟩:=YG;obtain⟨rfl,YR,-⟩:NR.holds (.mk s.bays.length 45 ((bD (s.bays.length*6) fun _=>zEn).toArray)) GC ap v_ R:=Yy.get;clear Yy R;refine Qp ?_;refine Qs ?_;refine eF rf rf rf ?_ ?_
 .exact Abj
 intro v_ GV_ ac YG;obtain⟨R,Yy⟩:=YG;obtain⟨rfl,l,-⟩:NR.holds (.mk s.bays.length 45 ((bD (s.bays.length*6) fun _=>zEn).toArray)) GV_ ac v_ R:=Yy.get;clear Yy R;refine Qp ?_;refine Qs ?_;refine Eb ?_;intro g12 aG H;refine bP ?_;intro wE I;have F:=I.ext;have Zx:=I.hB 3;have ZN:=aW (I.low 3 _ rf);have YS:=I.hB 7;have ZA:=aW (I.low 7 _ rf);have Zz:=I.hB 9;have Zy:=aW (I.low 9 _ rf);have YQ:=aW (I.nn 3 7 YR l);have Zt:=aW (I.nn 3 9 YR H);have Zr:=aW (I.nn 7 3 l YR);have YV:=aW (I.nn 7 9 l H);have Zw:=aW (I.nn 9 3 H YR);have YT:=aW (I.nn 9 7 H l);clear YR;clear l;clear H;have Yx:=aW F;clear I F;have YZ:Hid (Blk wE g12 47 (gF (.slice δ 0 0) (.slice δ 0 0) fun _=>zEn).toArray):=aW (by rw[<-XO];exact Zz.o);have N:Hid (wE.there g12 0 (gF (.slice (γ (aM GC 0)) s.bays.length s.bays.length) (.slice (γ (aM GV_ 0)) s.bays.length s.bays.length) fun _=>zEn).length):=aW (YZ.there AbX);refine bf rfl 47 (.tmp 12) (.tmp 36) rfl g12 0 (gF (.slice (γ (aM GC 0)) s.bays.length s.bays.length) (.slice (γ (aM GV_ 0)) s.bays.length s.bays.length) fun _=>zEn) rf (congrArg Value.agg (Qq _ _)) N.o (mq _ _ _) (sN _ _ _ rfl rfl) (fun w4 G=> ?_);refine Qp ?_;replace G:=Hid.o G;have YI:Mod (fun k=>k=g12) wE w4:=by rw[G];exact Mod.puts _ _ _ _ rfl
 have Za:Blk w4 g12 47 (gF (.slice (γ (aM GC 0)) s.bays.length s.bays.length) (.slice (γ (aM GV_ 0)) s.bays.length s.bays.length) fun _=>zEn).toArray:=by have:=dm 0 (gF (.slice (γ (aM GC 0)) s.bays.length s.bays.length) (.slice (γ (aM GV_ 0)) s.bays.length s.bays.length) fun _=>zEn) YZ.o;rw[iA _ _ (by rw[fD,fD])] at this;rw[G];exact this
 have Ze:w3.heap.size<=g12:=Zy.o;have ZL:w3.heap.size<=GC:=ZN.o;have ZK:w3.heap.size<=GV_:=ZA.o;have az:=HY.size;have Yq:Ext w3 w4:=fQ Yx.o YI (fun k hk=>by have hk:k=g12:=hk;omega);have nc:¬GC=g12:=Blk.eY Zx.o YZ.o aj;have nv:¬GV_=g12:=Blk.eY YS.o YZ.o aj;have HS:Hid (SoS w1 w4 g8 g10 g12 GC GV_ C E (fun _=>zEn) (fun _=>zEn) (fun _=>zEn) s (resolve 0 p) f 0 0):=aW ⟨YA.ext Yq,HC.ext Yq,Za,Zx.mod YI nc,YS.mod YI nv,fun j hj=>absurd hj aa,fun j hj=>absurd hj aa,HY.trans Yq,⟨YW.o,Zh.o,aa,aa,aa⟩,YQ.o⟩;replace Yu:=Yu.aA Yq;replace S:=S.aA Yq;clear YI Za Ze ZL ZK az Yq nc nv G N YZ Zz Zx YS Zy ZN ZA YQ Zt Zw YV YT Zr Yx HC YA HY Yt Zq k3;have k3:=Yu.cell;go_wp2_with fail;clear k3;go_loopw [40] (fun iv wr=>∃i:Nat,i<=s.bays.length/\iv=.int .i64 i/\∃ec ev,SoS w1 wr g8 g10 g12 GC GV_ C E ec ev (fun _=>zEn) s (resolve 0 p) f i i) (aT s.bays.length)
 case atStart=>exact⟨0,aa,rfl,_,_,HS.o⟩
 case round=>
  clear HS;rename World=>wr;obtain⟨i,hi,rfl,ec,ev,hR⟩:=hrel;have HR:=aW hR;clear hR;by_cases Yp:i<s.bays.length
  .have hd:decide ((i:Int)<s.bays.length)=ε:=ae;have q1:(0:Int)<=i:=aa;have q2:(i:Int)<s.bays.length:=aa;have Zv:wrap64 ((i:Int)+1)=(i:Int)+1:=Aa _ (by have:=ao.o;omega);have Zg:=aW Zv;clear Zv;obtain⟨G1,Z8⟩:=HD.XF (way s (resolve 0 p) f i) (fun b hb=>FY YH.o ZR.o Yp hb);obtain⟨G2,Zm⟩:=HD.seqB YH.o Yp;have ZE:Hid (tZ (uD s (resolve 0 p) f i) G1):=aW Z8;have YN:=aW Zm;clear Z8 Zm;have B:=aW ((YF.new (Y:=g8) HR.lo.1).ext HR.x);have ZO:=aX.cell (show wr.cell? (aM g12 0)=γ (aO (γ (aM GC 0)) s.bays.length s.bays.length) from (HR.b12.cell 0).trans rfl);go_wp2_with fail;refine tR 7 [(4,.row 3 (uD s (resolve 0 p) f i) (4600)),(6,.row 6 (fl (phv (uD s (resolve 0 p) f i) sh)) (4600))] ?_;refine Qs ?_;refine eF rf rf rf ?_ ?_
   .intro R I;have hW:=I.1;clear I;go_simp;exact⟨rfl,(Pp g8 g10 i C E _ (HR.c.ext hW) (HR.g.ext hW) (B.ext hW) YH.o ZR.o HD.o Yp).mono fun e w' ⟨a,O,hv,J⟩=>⟨_,O,J,a,rfl,hv⟩⟩
   intro v_ Zj Zc YG;obtain⟨R,Yy⟩:=YG;obtain⟨ea,rfl,-⟩:NR.holds (.row 3 (uD s (resolve 0 p) f i) (4600)) Zj Zc v_ R:=Yy.get;clear Yy R;refine Qp ?_;refine Qs ?_;refine eF rf rf rf ?_ ?_
   .intro R I;have hW:=I.1;have ZI:ni R 3 ea (uD s (resolve 0 p) f i) 4600:=afc (I.2 4 (.agg (bD 3 ea).toArray,Zj,Zc) rf ah);clear I;go_simp;exact⟨rfl,(qK g10 sh ea _ G1 _ (HR.c.ext hW) ZI ZE.o ZP).mono fun e w' ⟨a,O,hv,J⟩=>⟨_,O,J,a,rfl,hv⟩⟩
   intro v_ af ai YG;obtain⟨R,Yy⟩:=YG;obtain⟨Z,rfl,-⟩:NR.holds (.row 6 (fl (phv (uD s (resolve 0 p) f i) sh)) (4600)) af ai v_ R:=Yy.get;clear Yy R;refine Qp ?_;refine bP ?_;intro wE I;have F:=I.ext;have YL:Hid (∀j,j<3->GV wE (ea j).v ((uD s (resolve 0 p) f i) j) (4600)):=aW (afc (I.at_ 4 (e:=(.agg (bD 3 ea).toArray,Zj,Zc)) rf));have YK:Hid (∀j,j<6->GV wE (Z j).v ((fl (phv (uD s (resolve 0 p) f i) sh)) j) (4600)):=aW (afc (I.at_ 6 (e:=(.agg (bD 6 Z).toArray,af,ai)) rf));have Yx:=aW F;clear I F;have N:=aW ((HR.ext Yx.o).WG Yp Z);(iterate 3 (try (first|go_values|go_skip|go_guarded|go_step|go_upon|go_in|go_back|go_simp)));refine bf rfl 45 (.tmp 50) (.tmp 49) rfl GC (i*36) (bD 6 Z) rf rf N.o (je Z) (dX 6 Z) (fun wb G=> ?_);refine Qp ?_;replace G:=Hid.o G;have Yv:=aW ((HR.ext Yx.o).Yd Yp (by rw[YX.o];exact YK.o) G);clear G N Yx YL YK ZO B HR;have B:=aW ((YF.new (Y:=g8) Yv.lo.1).ext Yv.x);have ZO:=aX.cell (show wb.cell? (aM g12 1)=γ (aO (γ (aM GV_ 0)) s.bays.length s.bays.length) from (Yv.b12.cell 1).trans rfl);have Zq:=aX.blk (Z7.ext Yv.x);go_wp2_with fail;refine tR 8 [(5,.row 3 (nN s (resolve 0 p) f i) (4600)),(7,.row 6 (fl (phv (nN s (resolve 0 p) f i) sh)) (4600))] ?_;refine Qs ?_;refine eF rf rf rf ?_ ?_
   .intro R I;have hW:=I.1;clear I;go_simp;exact⟨rfl,(OD g8 g10 i C E _ (Yv.c.ext hW) (Yv.g.ext hW) (B.ext hW) ((aq.ext Yv.x).ext hW) YH.o Yp).mono fun e w' ⟨a,O,hv,J⟩=>⟨_,O,J,a,rfl,hv⟩⟩
   intro v_ Zk Zo YG;obtain⟨R,Yy⟩:=YG;obtain⟨ea,rfl,-⟩:NR.holds (.row 3 (nN s (resolve 0 p) f i) (4600)) Zk Zo v_ R:=Yy.get;clear Yy R;refine Qp ?_;refine Qs ?_;refine eF rf rf rf ?_ ?_
   .intro R I;have hW:=I.1;have ZI:ni R 3 ea (nN s (resolve 0 p) f i) 4600:=afc (I.2 5 (.agg (bD 3 ea).toArray,Zk,Zo) rf ah);clear I;go_simp;exact⟨rfl,(qK g10 sh ea _ G2 _ (Yv.c.ext hW) ZI YN.o ZP).mono fun e w' ⟨a,O,hv,J⟩=>⟨_,O,J,a,rfl,hv⟩⟩
   intro v_ am ac YG;obtain⟨R,Yy⟩:=YG;obtain⟨Z,rfl,-⟩:NR.holds (.row 6 (fl (phv (nN s (resolve 0 p) f i) sh)) (4600)) am ac v_ R:=Yy.get;clear Yy R;refine Qp ?_;refine bP ?_;intro wE I;have F:=I.ext;have YL:Hid (∀j,j<3->GV wE (ea j).v ((nN s (resolve 0 p) f i) j) (4600)):=aW (afc (I.at_ 5 (e:=(.agg (bD 3 ea).toArray,Zk,Zo)) rf));have YK:Hid (∀j,j<6->GV wE (Z j).v ((fl (phv (nN s (resolve 0 p) f i) sh)) j) (4600)):=aW (afc (I.at_ 7 (e:=(.agg (bD 6 Z).toArray,am,ac)) rf));have Yx:=aW F;clear I F;have N:=aW ((Yv.ext Yx.o).WB Yp Z);(iterate 3 (try (first|go_values|go_skip|go_guarded|go_step|go_upon|go_in|go_back|go_simp)));refine bf rfl 45 (.tmp 59) (.tmp 58) rfl GV_ (i*36) (bD 6 Z) rf rf N.o (je Z) (dX 6 Z) (fun wd G=> ?_);refine Qp ?_;replace G:=Hid.o G;have HR:=aW ((Yv.ext Yx.o).Yi Yp (by rw[YX.o];exact YK.o) G);clear G N Yx YL YK ZO Zq B Yv;go_wp2_with fail
   go_roundw
   case rel=>exact⟨i+1,aa,by rw[Zg.o];rfl,_,_,HR.o⟩
   case measure=>rw[Zg.o];simp[aT,intOf];omega
  .obtain rfl:i=s.bays.length:=aa;have hd:decide ((s.bays.length:Int)<(s.bays.length:Int))=ζ:=ag;have B:=aW ((YF.new (Y:=g8) HR.lo.1).ext HR.x);obtain⟨ff,Zl⟩:∃g:Nat->En,(fun k=>E (54+k))=g:=⟨_,rfl⟩;have Yr:=aW (WP HR.g (a:=54) aa (o:=357) aa);rw[Zl] at Yr;have ad:Hid (ni wr 3 ff (sI (dD s (resolve 0 p) f) (eZ s (resolve 0 p) f) f) 4600):=aW (fun k hk=>by rw[<-Zl];exact(B.i k hk).up aa);clear Zl;(go_wp2_with (refine υ rfl 102 _ rfl g8 (357) rf (bD 3 ff) _ Yr.o xx rfl (jV _) (Hid.o ?_)));refine Qz ?_;go_wp2_with fail;refine(qK g10 sh ff _ D _ HR.c ad.o HD.XZ ZP).mono ?_;rintro _ we ⟨e1,rfl,M,F⟩;replace HR:=HR.aA F;replace B:=B.aA F;have YB:=aW M;clear M F Yr ad;have N:=aW (HR.Mq (a:=2) aa e1);(go_wp2_with (refine bf rfl 45 (.tmp 65) (.tmp 64) rfl g12 (2) (bD 6 e1) rf rf N.o (je e1) (dX 6 e1) (fun wf G=>Hid.o ?_)));refine Qz ?_;replace G:=Hid.o G;obtain⟨ZC,YD,YJ⟩:=HR.Vz (m:=0) aa aa G;replace HR:=aW ZC;replace YB:Hid (ni wf 6 e1 _ 4600):=aW (fun k hk=>(YB.o k hk).mod YD YJ);clear ZC YD YJ G N B;have B:=aW ((YF.new (Y:=g8) HR.lo.1).ext HR.x);obtain⟨fN,ZQ⟩:∃n,eZ s (resolve 0 p) f=n:=⟨_,rfl⟩;have ZY:=HR.g.cell_ (k:=14) (v:=.int .i64 (fN:Int)) aa ((dR aa).trans (by rw[B.o.faulty,ZQ]));have ZV:fN<=17:=by rw[<-ZQ];exact Zn.o.1
   have YU:=aW ZQ;clear ZQ;go_wp2_with fail;refine(Xh g8 fN C E _ HR.g ZV).mono ?_;rintro _ wg ⟨rfl,F⟩;replace HR:=HR.aA F;replace B:=B.aA F;replace YB:=YB.aA F;clear F ZY;have av:ni wg 3 (fun k=>E (k*18+fN)) (fun n=>kH (dD s (resolve 0 p) f) (eZ s (resolve 0 p) f) f n fN) 4600:=fun k hk=>(B.v k fN hk aa).up aa;have ad:=aW av;clear av;go_wp2_with fail;refine(qK g10 sh (fun k=>E (k*18+fN)) _ D _ HR.c ad.o (HD.LD fN) ZP).mono ?_;rintro _ wh ⟨e2,rfl,M,F⟩;replace HR:=HR.aA F;replace YB:=YB.aA F;have ZJ:=aW M;clear M F ad B;have N:=aW (HR.Mq (a:=38) aa e2);(go_wp2_with (refine bf rfl 45 (.tmp 71) (.tmp 70) rfl g12 (38) (bD 6 e2) rf rf N.o (je e2) (dX 6 e2) (fun wi G=>Hid.o ?_)));refine Qz ?_;replace G:=Hid.o G;obtain⟨ZC,YD,YJ⟩:=HR.Vz (m:=1) aa aa G;replace HR:=aW ZC;replace YB:Hid (ni wi 6 e1 _ 4600):=aW (fun k hk=>(YB.o k hk).mod YD YJ);replace ZJ:Hid (ni wi 6 e2 _ 4600):=aW (fun k hk=>(ZJ.o k hk).mod YD YJ);clear ZC YD YJ G N;obtain⟨ef,ZU⟩:∃g,chunk 1 e2 (chunk 0 e1 fun _=>zEn)=g:=⟨_,rfl⟩;rw[ZU] at HR;have ZZ:=aW ZU;clear ZU;have kc:wi.cell? (aM g10 0)=γ (.int .i64 0):=HR.c.cell 0;have Yr:=aW HR.b12.rng;(go_wp2_with (refine υ rfl 47 _ rfl g12 (0) rf (gF (.slice (γ (aM GC 0)) s.bays.length s.bays.length) (.slice (γ (aM GV_ 0)) s.bays.length s.bays.length) ef) _ Yr.o underlying47 rfl (mq _ _ _) (Hid.o ?_)));refine Qz ?_;clear kc Yr;have N:Hid (wi.there g6 0 (gF (.slice (γ (aM GC 0)) s.bays.length s.bays.length) (.slice (γ (aM GV_ 0)) s.bays.length s.bays.length) ef).length):=aW ((ZB.ext HR.x).there AbX);refine bf rfl 47 (.tmp 6) (.tmp 78) rfl g6 (0) (gF (.slice (γ (aM GC 0)) s.bays.length s.bays.length) (.slice (γ (aM GV_ 0)) s.bays.length s.bays.length) ef) rf rf N.o (mq _ _ _) (sN _ _ _ rfl rfl) (fun wj G=> ?_);refine Qp ?_;replace G:=Hid.o G;have ar:Hid (Blk wj g6 47 (gF (.slice (γ (aM GC 0)) s.bays.length s.bays.length) (.slice (γ (aM GV_ 0)) s.bays.length s.bays.length) ef).toArray):=aW (by have:=dm 0 (gF (.slice (γ (aM GC 0)) s.bays.length s.bays.length) (.slice (γ (aM GV_ 0)) s.bays.length s.bays.length) ef) (ZB.ext HR.x);rw[iA _ _ (by rw[fD,fD])] at this;rw[G];exact this);have Zd:Hid (Mod (fun k=>k=g6) wi wj):=aW (by rw[G];exact Mod.puts _ _ _ _ rfl);have ZT:Hid (Far (fun k=>k=g6) wi):=aW (fun k hk _=>by
    have hk:k=g6:=hk;rw[hk];refine⟨_,_,ZB.ext HR.x,?_⟩;show(List.all (_::_::bD 12 (fun _=>zEn)) _)=ε;rw[abQ,abQ];exact dI 12 (fun _=>zEn))
   have aB:=ZB.lt;have ax:=HR.lo;have ZX:=YO.o;have YE:Hid (Ext w wj):=aW (fQ (HX.trans HR.x) Zd.o (fun k hk=>by have hk:k=g6:=hk;omega));have Q:Hid (¬GC=g6):=aW aa;have aE:Hid (¬GV_=g6):=aW aa;clear G N aB ax ZX;go_wp2_with fail;refine GN rfl rfl rfl ar.o underlying47 rfl (mq _ _ _) ⟨GC,GV_,ec,ev,ef,rfl,⟨HR.bc.mod Zd.o Q.o,HR.bv.mod Zd.o aE.o,fun i hi=>(HR.vc i hi).mod Zd.o ZT.o,fun i hi=>(HR.vv i hi).mod Zd.o ZT.o,?_,?_⟩,YE.o⟩
   .refine afg (fun t ht=> ?_);have e0:ef t=e1 t:=(by rw[<-ZZ.o];unfold chunk;rw[θ aa,ι aa,aaO ht]);rw[e0,YX.o];exact(YB.o t ht).mod Zd.o ZT.o
   .refine afg (fun t ht=> ?_);have e0:ef (6+t)=e2 t:=(by rw[<-ZZ.o];unfold chunk;rw[ι aa,show(6+t)%6=t by omega]);have h2:=(ZJ.o t ht).mod Zd.o ZT.o;rw[YU.o] at h2;rw[e0,YX.o,YU.o];exact h2
theorem ic{P ops rest C}{Q:Act->Prop}{o a}(j:Region.wanted o (yielded ops a.tmps)=ε)(F)(x:Operand)(D:o.op=.load F x)(b B)(J:a.eval x=.pointer (γ (aM b B)))(cs)(d:TypeDesc)(l:∀w,C w->w.rangeAt b B cs)(G:P.underlying F=γ d)(hd:d.isRow=ε)(hi:(P.info? F).map (·.size)=γ cs.length)(h:wpQuiet P ops C Q rest (a.put o.dst (.agg cs.toArray))):wpQuiet P ops C Q (o::rest) a:=by
 unfold wpQuiet;rw[ι j];refine⟨.agg cs.toArray,fun w j=> ?_,h⟩;unfold Oper.quietAt execOp;simp only[D,J,Instr.loadAt,Instr.sureAddr,aaD,aa7,aax,run_loadVar_mid w b B F cs d (l w j) G hd hi];exact⟨rfl,rfl⟩
inductive NP where
 |any
 |gv (q:GQ) (n:Nat)
 |pv (p:PQ) (n:Nat)
 |eq (u:Value)
def NP.holds:NP->Nat->Nat->Value->World->Prop
 | .any,_,_,_,_=>True
 | .gv q n,_,_,v,w=>GV w v q n
 | .pv p n,_,_,v,w=>PV w v p n
 | .eq u,_,_,v,_=>v=u
def agI(f:NP){lo hi v w w'}(h:f.holds lo hi v w)(x:Ext w w'):f.holds lo hi v w':=by
 cases f with
 |any=>trivial
 |gv q n=>exact GV.ext h x
 |pv p n=>exact PV.ext h x
 |eq u=>exact h
def VC:List (Nat×NP)->Nat->NP
 |[],_=> .any
 |p::r,i=>bif Nat.beq p.1 i then p.2 else VC r i
def UH:List (Nat×NP)->Nat->Bool
 |[],_=>ζ
 |p::r,i=>Nat.beq p.1 i||UH r i
def NPs (l:List (Nat×NP)):Nat->Nat->Nat->Value->World->Prop:=fun i lo hi v w=>(VC l i).holds lo hi v w
def Ck(l:List (Nat×NP)):∀i lo hi v w w',NPs l i lo hi v w->Ext w w'->NPs l i lo hi v w':=fun _ _ _ _ _ _ h x=>agI _ h x
def Blk.Xi{w g n m o t e}(h:Blk w g t (bD n e).toArray)(B:2*m+1<n)(l:o=m*12):w.rangeAt g o (bD 2 fun t=>e (2*m+t)):=fun j v hv=>by
 have C:j<12:=by have:=(μ.1 hv).1;rwa[bN] at this
 rw[h.cell,Γ,<-hv,l];obtain⟨a,b,rfl,hb⟩:∃a b,j=a*6+b/\b<6:=⟨j/6,j%6,aa,aa⟩;rw[dP (f:=fun t=>e (2*m+t)) hb aa,show m*12+(a*6+b)=(2*m+a)*6+b by omega,dP hb aa]
def Ph3.pv{w e P n}(h:Ph3 w e P n){m}(j:m<3):PV w (.agg (bD 2 fun t=>e (2*m+t)).toArray) (P m) n:=afP (h m j).1 (h m j).2
def Np(m n w)(l0: -9223372036854775808<=m)(u0:m<=9223372036854775807)(l1: -9223372036854775808<=n)(u1:n<=9223372036854775807):
  CV 18 #[.int .i64 m,.int .i64 n] w fun v w'=>GV w' v (GQ.i m n) 64:=
 (Mx m n w l0 u0 l1 u1).mono fun e w' ⟨v,O,hv,J⟩=>⟨v,O,⟨m,n,1,hv,LX m n,XB l0 u0 l1 u1⟩,J⟩
def LP(v0 q0 n0 v1 q1 n1 w)(j:PV w v0 q0 n0)(D:GV w v1 q1 n1)(hn:n0+n1+1<=12800):
  CV 23 #[v0,v1] w fun v w'=>PV w' v (q0.sc q1) (n0+n1+1):=KO v0 q0 n0 v1 q1 n1 w j D hn
def ve(a b P Q k w)(hP:Ph3 w a P 4600)(hQ:Ph3 w b Q 4600)(hk:0<=k/\k<=1000)(K:∀m,m<3->(P m).sc (GQ.i k 0)=Q m):
  CE 32 #[.agg (bD 6 a).toArray,.agg (bD 6 b).toArray,.int .i64 k] w (.bool ε):=by
 have HP:=aW hP;have HQ:=aW hQ;have Y:=aW K;have T:=aW hk;clear hP hQ K hk;obtain⟨-,N⟩:=an1 w 45 ((bD 6 a).toArray);obtain⟨-,-,M⟩:=an2 w 45 ((bD 6 a).toArray) 45 ((bD 6 b).toArray);have H:=aW (N.alloc (.cells (bD 6 b).toArray 45));have U:=aW M;clear N M;have S:Hid (Ext w ((w.alloc (.cells (bD 6 a).toArray 45)).alloc (.cells (bD 6 b).toArray 45))):=aW ((Ext.new _ _).alloc _);go_enter func32,ntmps32;go_wp2_with fail;generalize aU _ _=w0 at H U S⊢;generalize w.heap.size+1=g2 at U⊢;generalize w.heap.size=g1 at H⊢;go_loopw [8] (fun iv wr=>∃i:Nat,i<=3/\iv=.int .i64 i/\Ext w0 wr) (aT 3)
 case atStart=>exact⟨0,aa,rfl,Ext.refl _⟩
 case round=>
  rename World=>wr;obtain⟨i,hi,rfl,hR⟩:=hrel;have G:=aW hR;clear hR;by_cases F:i<3
  .have hd:decide ((i:Int)<3)=ε:=ae;have q1:(0:Int)<=i:=aa;have q2:(i:Int)<3:=aa;have l:=aW (H.ext G.o);have j:=aW (U.ext G.o);go_wp2_with fail;refine iX 10 (UH [(4,.any),(5,.any),(9,.any)]) (NPs [(4,.gv (GQ.i k 0) 64),(5,.pv ((P i).sc (GQ.i k 0)) 4665),(9,.eq (.bool ε))]) (Ck _) ah ah ?_;refine Qd ?_;refine nM 4 rf ah ?_;refine Qd ?_;(go_big_quiet_step (fail));(go_big_quiet_step (fail));refine ic rf 44 _ rfl g1 (i*12) rf (bD 2 fun t=>a (2*i+t)) _ (by rintro W ⟨x,rfl⟩;exact(l.ext x.ext).Xi (m:=i) aa rfl) aai rfl (kD _) ?_;refine Qp ?_;(go_big_quiet_step (fail));refine aa6 ?_;refine eF rf rf rf ?_ ?_
   .intro R I;clear I;go_simp;exact⟨rfl,(Np k 0 _ Aa1 Aa1 aj aj).mono fun e w' ⟨v,O,hv,J⟩=>⟨_,O,J,hv⟩⟩
   intro v4 D Yq B;clear B;refine Qp ?_;refine eF rf rf rf ?_ ?_
   .intro R I;have V:=S.trans (G.trans I.1);have h4:GV R v4 (GQ.i k 0) 64:=I.2 4 (v4,D,Yq) rf ah;clear I;go_simp;exact⟨rfl,(LP _ (P i) 4600 _ (GQ.i k 0) 64 _ ((HP.pv F).ext V) h4 aa).mono fun e w' ⟨v,O,hv,J⟩=>⟨_,O,J,hv⟩⟩
   intro v5 C Z B;clear B;refine Qp ?_;refine nM 3 rf ah ?_;refine Qd ?_;(go_big_quiet_step (fail));(go_big_quiet_step (fail));refine ic rf 44 _ rfl g2 (i*12) rf (bD 2 fun t=>b (2*i+t)) _ (by rintro W ⟨x,rfl⟩;exact(j.ext x.ext).Xi (m:=i) aa rfl) aai rfl (kD _) ?_;refine Qp ?_;refine aa6 ?_;refine eF rf rf rf ?_ ?_
   .intro R I;have V:=S.trans (G.trans I.1);have h5:PV R v5 ((P i).sc (GQ.i k 0)) 4665:=I.2 5 (v5,C,Z) rf ah;clear I;go_simp;exact⟨rfl,(vR _ _ ((P i).sc (GQ.i k 0)) (Q i) 4665 4600 _ h5 ((HQ.pv F).ext V) (Y.o i F)).mono fun e w' ⟨O,J⟩=>⟨_,O,J,rfl⟩⟩
   intro v9 ZG ac B;obtain⟨R,L⟩:=B;obtain rfl:v9=.bool ε:=L.get;clear L R;refine Qp ?_;refine bP ?_;intro wE I;have Yx:=aW (G.trans I.ext);clear I G l j;go_wp2_with fail;refine⟨⟨i+1,aa,rfl,Yx.o⟩,?_⟩;simp[aT,intOf];omega
  .have hd:decide ((i:Int)<3)=ζ:=ae;go_wp2_with fail;go_ret;exact⟨rfl,S.trans G.o⟩
section
variable {b:BrD}
def xV(B:b.b=17):lv [b] b.a=ε:=lQ.2 (.neutral b ag B)
theorem Gt(hb:gV b)(B:b.b=17)(sq):usd (lv [b]) sq [b]=[b.nb sq]:=by
 unfold usd;have:used (lv [b]) b=ε:=by
  unfold used;rw[xV B,B];have:=hb.a;simp;omega
 simp[ade,this]
def KX(hb:gV b):∀c∈[b],gV c:=fun c hc=>by
 simp only[lh,I6,aaM] at hc;subst hc;exact hb
def ML(f:Nb->GQ)(x):iM f [x]=f x:=by
 show GQ.i 0 0+f x=f x;ext<;>simp only[GQ.cO,GQ.bY,GQ.dM,GQ.dJ]<;>grind
theorem Nr(hb:gV b)(B:b.b=17)(sq v):GQ.i 1 0/b.zs sq*oM (lv [b]) (rwx (lv [b])) (cnt (lv [b]) 18) (usd (lv [b]) sq [b]) v b.a=v (rwx (lv [b]) b.a):=by
 have hn:=wH (KX hb) sq;have h:=hn.kcl (v:=v) (xV B);have ha:=hb.a;rw[Gt hb B] at h⊢;rw[ML] at h;rw[<-h];unfold Nb.at_;show _=(if b.a=b.a then GQ.i 1 0/b.zs sq*(_-_) else _)+(if b.a=b.b then _ else GQ.i 0 0);rw[ι rfl,θ aa,GQ.add_zero'];show _=GQ.i 1 0/b.zs sq*(oM (lv [b]) (rwx (lv [b])) (cnt (lv [b]) 18) [b.nb sq] v b.a-oM (lv [b]) (rwx (lv [b])) (cnt (lv [b]) 18) [b.nb sq] v b.b);rw[mH (k:=b.b) (by rw[B];exact(Dq (KX hb)).none)];generalize oM _ _ _ _ _ _=U;ext<;>simp only[GQ.dU,GQ.dV,GQ.bL,GQ.bK,GQ.dM,GQ.dJ]<;>grind
def VL(hb:gV b)(sq):GQ.i 1 0/b.zs sq≠GQ.i 0 0:=fun e=>by
 have:=hb.im sq;show False;have j:(b.nb sq).y=GQ.i 1 0/b.zs sq:=rfl;rw[j,e] at this;simp only[GQ.dJ] at this;grind
theorem Tt(hb:gV b)(B:b.b=17):bef [b] b.a=GQ.i b.emf 0:=by
 have h:=Nr hb B 1 (feed (rwx (lv [b])) (usd (lv [b]) 1 [b]));rw[(wH (KX hb) 1).U3 (xV B),Gt hb B,ML] at h;unfold Nb.src at h;rw[ι ⟨B,rfl⟩] at h;unfold bef;rw[Gt hb B];refine aff (c:=GQ.i 1 0/b.zs 1) ?_ (VL hb 1);rw[GQ.dZ,h];exact GQ.dZ _ _
theorem TE(hb:gV b)(B:b.b=17)(sq):drp [b] b.a sq b.a=b.zs sq:=by
 have h:=Nr hb B sq (unit (rwx (lv [b]) b.a));unfold drp;refine aff (c:=GQ.i 1 0/b.zs sq) ?_ (VL hb sq);rw[GQ.dZ,h,GQ.dZ,Mt (hb.ne sq)];show(if rwx (lv [b]) b.a=rwx (lv [b]) b.a then GQ.i 1 0 else GQ.i 0 0)=_;rw[ι rfl]
end
def gBr:BrD:=⟨13,17,⟨0,10⟩,⟨0,10⟩,1,1,100⟩
def QQ:gV gBr:=⟨aj,aj,aj,aj,aj,aj,aj⟩
theorem VY(sq):gBr.zs sq=GQ.i 0 10:=by
 unfold BrD.zs;rw[show gBr.z0=⟨0,10⟩ from rfl,show gBr.z1=⟨0,10⟩ from rfl,adw];decide+kernel
theorem FJ(f)(B:f.kind≠0)(n):sI [gBr] 13 f n=ng f.kind (GQ.i 100 0) (GQ.i 0 10) (GQ.i 0 10) (GQ.i f.r 0) n:=by
 unfold sI;have j:lv [gBr] 13=ε:=xV (b:=gBr) rfl;rw[ι ⟨B,j⟩];unfold fcu;have C:bef [gBr] 13=GQ.i 100 0:=Tt QQ rfl;have l:∀sq,drp [gBr] 13 sq 13=GQ.i 0 10:=fun sq=>(TE QQ rfl sq).trans (VY sq);rw[C,l,l]
def Uy:phv (sI [gBr] 13 ⟨10,ζ,0,0,0,0⟩) 0 0=⟨GQ.i 0 (-10),GQ.i 0 0⟩:=by
 show phq (sI [gBr] 13 ⟨10,ζ,0,0,0,0⟩) 0*PQ.zp 0=_;rw[show PQ.zp 0=PQ.one from rfl,PQ.pX,XT,FJ _ aj,FJ _ aj,FJ _ aj];refine PQ.ext ?_ ?_<;>decide+kernel
def U1(f:dY):dD gL JZ f=[gBr]:=by
 have j:fV gL JZ 1=[gBr]:=by decide+kernel
 show fV gL JZ 1++[]=[gBr];rw[j];rfl
theorem QJ{f:dY}(j:f.line=ζ)(B:f.kind≠0)(l:f.obj=0):eZ gL JZ f=13:=by
 unfold eZ;rw[θ (by rw[j];decide),θ B,l];decide+kernel
theorem Blk.Yc{w:World}{g m o:Nat}{t:TypeId}{a b:Value}{e:Nat->En}(h:Blk w g t (gF a b e).toArray)(B:2*m+1<12)(l:o=2+m*12):w.rangeAt g o (bD 2 fun t=>e (2*m+t)):=fun j v hv=>by
 have C:j<12:=by have:=(μ.1 hv).1;rwa[bN] at this
 rw[h.cell,Γ,<-hv,l];obtain⟨x,y,rfl,hb⟩:∃a b,j=a*6+b/\b<6:=⟨j/6,j%6,aa,aa⟩;rw[dP (f:=fun t=>e (2*m+t)) hb aa];unfold gF;rw[show 2+m*12+(x*6+y)=((2*m+x)*6+y)+1+1 by omega,aa2,aa2,dP hb aa]
theorem Blk.XE{w:World}{g k o:Nat}{t:TypeId}{a b:Value}{e:Nat->En}(h:Blk w g t (gF a b e).toArray)(B:k<2)(l:o=2+k*36):w.rangeAt g o (bD 6 fun t=>e (6*k+t)):=fun j v hv=>by
 have C:j<36:=by have:=(μ.1 hv).1;rwa[bN] at this
 rw[h.cell,Γ,<-hv,l];obtain⟨x,y,rfl,hb⟩:∃a b,j=a*6+b/\b<6:=⟨j/6,j%6,aa,aa⟩;rw[dP (f:=fun t=>e (6*k+t)) hb aa];unfold gF;rw[show 2+k*36+(x*6+y)=((6*k+x)*6+y)+1+1 by omega,aa2,aa2,dP hb aa]
theorem Ps(n:Nat)(e:Nat->En):∀v∈bD n e,nY v=ε:=fun v hv=>by
 unfold bD at hv;rw[ac9] at hv;obtain⟨j,_,l⟩:=hv;unfold En.cells at l;simp only[lh,I6,aaM] at l;rcases l with rfl|rfl|rfl|rfl|rfl|rfl<;>rfl
theorem TS(a b:Value)(e:Nat->En)(ha:nY a=ε)(hb:nY b=ε):∀(j:Nat) (v:Value),(gF a b e).toArray[j]? =γ v->nY v=ε:=fun j v hv=>by
 rw[Γ] at hv;have l:=wo hv;unfold gF at l;simp only[lh] at l;rcases l with rfl|rfl|l
 .exact ha
 .exact hb
 .exact Ps _ _ v l
def AB{w W W':World}{g GC GV_:Nat}{F ec ev ef:Nat->En}{s:StD}{p:dH}{f:dY}(J:Ext w W)(I:w.heap.size<=g)(hb:Blk W g 47 (gF (.slice δ 0 0) (.slice δ 0 0) F).toArray)(hs:xM W GC GV_ ec ev ef s p f)(C:W'=puts W g 0 (gF (.slice (γ (aM GC 0)) s.bays.length s.bays.length) (.slice (γ (aM GV_ 0)) s.bays.length s.bays.length) ef)):
  Blk W' g 47 (gF (.slice (γ (aM GC 0)) s.bays.length s.bays.length) (.slice (γ (aM GV_ 0)) s.bays.length s.bays.length) ef).toArray/\xM W' GC GV_ ec ev ef s p f/\Ext w W':=by
 have m:Mod (fun k=>k=g) W W':=by rw[C];exact Mod.puts _ _ _ _ rfl
 have H:iq (fun k=>k=g) W:=fun k G _=>by
  obtain rfl:k=g:=G;exact⟨_,_,hb,TS _ _ _ rfl rfl⟩
 have l:=dm 0 (gF (.slice (γ (aM GC 0)) s.bays.length s.bays.length) (.slice (γ (aM GV_ 0)) s.bays.length s.bays.length) ef) hb;rw[iA _ _ (by rw[fD,fD]),<-C] at l;have gv:∀{v:Value} {q:GQ} {n:Nat},GV W v q n->GV W' v q n:=fun h=>h.fM m H;have B:∀{e:Nat->En} {P:Nat->PQ},Ph3 W e P 4600->Ph3 W' e P 4600:=fun h j D=>⟨gv (h j D).1,gv (h j D).2⟩;exact⟨l,⟨hs.bc.mod m (Blk.eY hs.bc hb aj),hs.bv.mod m (Blk.eY hs.bv hb aj),fun i hi=>B (hs.c i hi),fun i hi=>B (hs.v i hi),B hs.fc,B hs.fv⟩,fQ J m (fun k e=>by have e:k=g:=e;omega)⟩
def I7:dY:=⟨10,ζ,0,0,0,0⟩
def F5:fu gL.buses.length gL.lines.length I7=0:=by decide+kernel
theorem Ag(w:World):CE 15 #[] w (.bool ε):=by
 go_enter func15,ntmps15;go_wp2_with fail;refine(Xn w).mono ?_;rintro _ w1 ⟨A0,A2,A3,L,rfl,hs,J⟩;have HS:=aW hs;have HX:=aW J;clear hs J;unfold stV;go_wp2_with fail;have H:Ext w1 (aL w1 #[gL.name,aO A0 1 1,(),aO A2 1 1,aO A3 1 1] 27):=Ext.new _ _;obtain⟨-,Yr⟩:=ah1 w1 27 #[gL.name,aO A0 1 1,(),aO A2 1 1,aO A3 1 1];replace HS:=HS.aA H;replace HX:=HX.aC H;clear H;generalize aU _ _=w2 at Yr HS HX⊢;generalize w1.heap.size=g1 at Yr⊢;have YS:=aX.blk Yr.o;refine uE 10 8 [(ε,0),(ε,1),(ε,3),(ζ,2),(ζ,4),(ε,5),(ε,6),(ε,7)] [(ζ,9)] (fun a a' w'=>∃(gb:Nat) (pv:Value) (GC GV_:Nat) (ec ev ef:Nat->En),a'=⟨#[.bool ζ,.pointer (γ (aM g1 0)),.pointer (γ (aM gb 0)),undef,.agg #[gL.name,aO A0 1 1,(),aO A2 1 1,aO A3 1 1],.tuple #[.agg (gF (.slice (γ (aM GC 0)) gL.bays.length gL.bays.length) (.slice (γ (aM GV_ 0)) gL.bays.length gL.bays.length) ef).toArray,aJ],.agg #[gL.name,aO A0 1 1,(),aO A2 1 1,aO A3 1 1],.agg #[gL.name,aO A0 1 1,(),aO A2 1 1,aO A3 1 1],pv,.agg #[(10:Int),ζ,aJ,aJ,aJ,aJ],.tuple #[.agg (gF (.slice (γ (aM GC 0)) gL.bays.length gL.bays.length) (.slice (γ (aM GV_ 0)) gL.bays.length gL.bays.length) ef).toArray,aJ],.agg (gF (.slice (γ (aM GC 0)) gL.bays.length gL.bays.length) (.slice (γ (aM GV_ 0)) gL.bays.length gL.bays.length) ef).toArray,.int .i64 0,undef,undef,undef,undef,undef,undef,undef,undef,undef,undef,undef,undef,undef,undef,undef,undef],[]⟩/\Blk w' gb 47 (gF (.slice (γ (aM GC 0)) gL.bays.length gL.bays.length) (.slice (γ (aM GV_ 0)) gL.bays.length gL.bays.length) ef).toArray/\xM w' GC GV_ ec ev ef gL JZ I7/\Ext w2 w') ah ah ?_ ?_
 .have P:Ext w2 w2.drew:=(Ext.refl _).drew;generalize w2.drew=w3 at P⊢;refine gJ [0,1,3] [(ζ,2),(ζ,4),(ε,5),(ε,6),(ε,7)] _ ah ?_;refine Gq ?_;clear YS;refine nL 2 [(ζ,4),(ε,5),(ε,6),(ε,7)] ah ah ?_ ?_
  ·
   intro K I;simp only[bG];go_wp2_with fail;refine(AZ _ (HS.ext P) yn).mono ?_;rintro _ Q ⟨PA,pc,PB,qc,U,rfl,hp,F⟩;replace P:=P.trans F;have HP:=aW hp;clear hp F;go_wp2_with fail;refine I _ _ ⟨⟨_,P⟩,rfl⟩ ?_;clear I K;refine nL 4 [(ε,5),(ε,6),(ε,7)] ah ah ?_ ?_
   ·
    intro K I;simp only[bG];go_wp2_with fail;have l:=HP.o;rw[uk] at l;refine(solve_run I7 _ (HS.ext P) l yn one_pos F5).mono ?_;clear l;rintro _ wS ⟨GC,GV_,ec,ev,ef,rfl,B,F⟩;replace P:=P.trans F;replace HP:=HP.aA F;have S:=aW B;clear B F;go_wp2_with fail;refine I _ _ ⟨⟨_,P⟩,rfl⟩ ?_;clear I K;refine gJ [5,6,7] [] _ ah ?_;refine Gq ?_;refine qx ah ?_;intro K I;simp only[bG];refine bJ rfl 47 rfl _ rU (fun wA G=> ?_);refine Qp ?_;replace G:=Hid.o G;have F:=Ext.new wS (.cells (gF (.slice δ 0 0) (.slice δ 0 0) fun _=>zEn).toArray 47);have Y:Blk wA wS.heap.size 47 (gF (.slice δ 0 0) (.slice δ 0 0) fun _=>zEn).toArray:=by rw[G];exact Blk.new _ _ _
    rw[<-G] at F;have YP:w2.heap.size<=wS.heap.size:=P.size;replace P:=P.trans F;replace HP:=HP.aA F;replace S:=S.aA F;have V:=aW Y;have YN:=aW YP;clear G Y YP F;generalize wS.heap.size=gb at V YN⊢;simp only[wpList];refine⟨trivial,?_⟩;refine I _ _ ⟨⟨_,P⟩,rfl⟩ ?_;clear I K;refine bz 9 [] ah ?_;intro K I;simp only[bG];have N:Hid (World.there wA gb 0 (gF (.slice (γ (aM GC 0)) gL.bays.length gL.bays.length) (.slice (γ (aM GV_ 0)) gL.bays.length gL.bays.length) ef).length):=aW (V.there AbX);refine bf rfl 47 (.tmp 2) (.tmp 11) rfl gb 0 (gF (.slice (γ (aM GC 0)) gL.bays.length gL.bays.length) (.slice (γ (aM GV_ 0)) gL.bays.length gL.bays.length) ef) rf rf N.o (mq _ _ _) (sN _ _ _ rfl rfl) (fun wT G=> ?_);refine Qp ?_;replace G:=Hid.o G;have j:=AB P YN.o V.o S.o G;clear G N;simp only[wpList];refine⟨trivial,?_⟩;refine I _ _ ⟨⟨_,j.2.2⟩,rfl⟩ ?_;clear I K;exact⟨gb,lG PA 1 pc PB 1 qc,GC,GV_,ec,ev,ef,by simp only[Act.put,aQ,BB,De],j.1,j.2.1,j.2.2⟩
   ·
    intro K I;simp only[bG];refine bJ rfl 47 rfl _ rU (fun wA G=> ?_);refine Qp ?_;replace G:=Hid.o G;have F:=Ext.new Q (.cells (gF (.slice δ 0 0) (.slice δ 0 0) fun _=>zEn).toArray 47);have Y:Blk wA Q.heap.size 47 (gF (.slice δ 0 0) (.slice δ 0 0) fun _=>zEn).toArray:=by rw[G];exact Blk.new _ _ _
    rw[<-G] at F;have YP:w2.heap.size<=Q.heap.size:=P.size;replace P:=P.trans F;replace HP:=HP.aA F;have V:=aW Y;have YN:=aW YP;clear G Y YP F;generalize Q.heap.size=gb at V YN⊢;simp only[wpList];refine⟨trivial,?_⟩;exact Aan
  ·
   intro K I;simp only[bG];refine bJ rfl 47 rfl _ rU (fun wA G=> ?_);refine Qp ?_;replace G:=Hid.o G;have F:=Ext.new w3 (.cells (gF (.slice δ 0 0) (.slice δ 0 0) fun _=>zEn).toArray 47);have Y:Blk wA w3.heap.size 47 (gF (.slice δ 0 0) (.slice δ 0 0) fun _=>zEn).toArray:=by rw[G];exact Blk.new _ _ _
   rw[<-G] at F;have YP:w2.heap.size<=w3.heap.size:=P.size;replace P:=P.trans F;have V:=aW Y;have YN:=aW YP;clear G Y YP F;generalize w3.heap.size=gb at V YN⊢;simp only[wpList];refine⟨trivial,?_⟩;refine I _ _ ⟨⟨_,P⟩,rfl⟩ ?_;clear I K;refine bz 2 [(ζ,4),(ε,5),(ε,6),(ε,7),(ζ,9)] ah ?_;intro K I;simp only[bG];go_wp2_with fail;refine(AZ _ (HS.ext P) yn).mono ?_;rintro _ Q ⟨PA,pc,PB,qc,U,rfl,hp,F⟩;replace P:=P.trans F;replace V:=V.aA F;have HP:=aW hp;clear hp F;go_wp2_with fail;exact Aan
 rintro _ w5 ⟨gb,pv,GC,GV_,ec,ev,ef,rfl,Y,B,F⟩;have V:=aW Y;have S:=aW B;replace HX:=HX.aC F;clear Y B F YS HS Yr;have M:PV w5 (.agg (bD 2 fun t=>ef (2*0+t)).toArray) ⟨GQ.i 0 (-10),GQ.i 0 0⟩ 4600:=by
  have:=S.fc.pv (m:=0) aa;rw[U1,QJ (f:=I7) rfl aj rfl] at this;have e:phv (sI [gBr] 13 I7) (shf I7.kind) 0=⟨GQ.i 0 (-10),GQ.i 0 0⟩:=Uy;rw[e] at this;exact this
 have T:=aW M;clear M;have ac:=aX.cell (show w5.cell? (aM gb 0)=γ (aO (γ (aM GC 0)) 1 1) from (V.cell 0).trans rfl);go_wp2_with fail;refine iX 16 (UH [(12,.any),(13,.any),(14,.any)]) (NPs [(12,.gv (GQ.i 0 (-10)) 64),(13,.pv (PQ.plain (GQ.i 0 (-10))) 64),(14,.eq (.bool ε))]) (Ck _) ah ah ?_;refine Qd ?_;refine nM 12 rf ah ?_;refine Qd ?_;(iterate 11 (go_big_quiet_step (fail)));refine ic rf 44 _ rfl gb 2 rf (bD 2 fun t=>ef (2*0+t)) _ (by rintro W ⟨x,rfl⟩;exact(V.ext x.ext).Yc (m:=0) aa rfl) aai rfl (kD _) ?_;refine Qp ?_;refine aa6 ?_;refine eF rf rf rf ?_ ?_
 .intro R I;clear I;go_simp;exact⟨rfl,(Np 0 (-10) _ aj aj aj aj).mono fun e w' ⟨v,O,hv,J⟩=>⟨_,O,J,hv⟩⟩
 intro v4 D Yq YG;clear YG;refine Qp ?_;refine eF rf rf rf ?_ ?_
 .intro R I;have h4:GV R v4 (GQ.i 0 (-10)) 64:=I.2 12 (v4,D,Yq) rf ah;clear I;go_simp;exact⟨rfl,(Oj _ _ 64 _ h4 aa).mono fun e w' ⟨v,O,hv,J⟩=>⟨_,O,J,hv⟩⟩
 intro v5 C Z YG;clear YG;refine Qp ?_;refine eF rf rf rf ?_ ?_
 .intro R I;have hW:=I.1;have h5:PV R v5 (PQ.plain (GQ.i 0 (-10))) 64:=I.2 13 (v5,C,Z) rf ah;clear I;go_simp;exact⟨rfl,(vR _ _ _ _ 4600 64 _ (T.ext hW) h5 rfl).mono fun e w' ⟨O,J⟩=>⟨_,O,J,rfl⟩⟩
 intro v9 ZG ad YG;obtain⟨R,Yy⟩:=YG;obtain rfl:v9=.bool ε:=Yy.get;clear Yy R;refine Qp ?_;refine Qs ?_;refine bP ?_;intro wE I;have Yx:=aW (HX.trans I.ext);clear I;go_wp2_with fail;go_ret;exact⟨rfl,Yx.o⟩
section
variable {k:Int} {s:StD} {p:dH} {f:dY}
theorem OU(h:chk s=0):fJ s.name=ε/\lu s=ε/\dA (sJ s) s.buses.length=0/\dA (kW s) s.lines.length=0/\dA (rq s) s.srcs.length=0/\dA (tY s) s.bays.length=0:=by
 unfold chk at h;by_cases D:fJ s.name=ε
 .rw[ι D] at h;by_cases C:lu s=ε
  .rw[ι C] at h;by_cases B:dA (sJ s) s.buses.length=0
   .rw[ι B] at h;by_cases j:dA (kW s) s.lines.length=0
    .rw[ι j] at h;by_cases l:dA (rq s) s.srcs.length=0
     .rw[ι l] at h;exact⟨D,C,B,j,l,h⟩
     .rw[θ l] at h;exact absurd h l
    .rw[θ j] at h;exact absurd h j
   .rw[θ B] at h;exact absurd h B
  .rw[θ C] at h;cases h
 .rw[θ D] at h;cases h
theorem AO(b l g q:Nat):nms (s.emk k) b l g q=nms s b l g q:=by
 unfold nms;have:((s.emk k).srcs.take g).map qG.name=(s.srcs.take g).map qG.name:=by
  show((s.srcs.map (qG.emk k)).take g).map qG.name=_;rw[<-List.map_take,aei];rfl
 rw[this];rfl
def xQ:(s.emk k).srcs.length=s.srcs.length:=by show(s.srcs.map _).length=_;rw[aar]
theorem TJ(h:chk s=0)(F:1<=k)(O:∀i,i<s.srcs.length->k*(s.srcs.getD i η).emf<=1000000):chk (s.emk k)=0:=by
 obtain⟨I,C,K,H,J,L⟩:=OU h;have hc:lu (s.emk k)=ε:=by unfold lu at C⊢;rw[xQ];exact C
 have M:dA (sJ (s.emk k)) (s.emk k).buses.length=0:=by
  rw[<-K];exact pK fun i _=>by unfold sJ;rw[AO];rfl
 have N:dA (kW (s.emk k)) (s.emk k).lines.length=0:=by
  rw[<-H];exact pK fun i _=>by unfold kW;rw[AO];rfl
 have D:dA (rq (s.emk k)) (s.emk k).srcs.length=0:=by
  refine dE fun i hi=> ?_;rw[xQ] at hi;have l:=mV J i hi;unfold rq at l⊢;rw[AO,yj i hi];simp only[qG.emk] at l⊢;by_cases hn:eu (nms s s.buses.length s.lines.length i 0) (s.srcs.getD i η).name=0
  .rw[ι hn] at l;have B:eu (nms s (s.emk k).buses.length (s.emk k).lines.length i 0) (s.srcs.getD i η).name=0:=hn;refine(ι B).trans ?_;have j:jr (s.srcs.getD i η)=ε:=by
    by_cases j:jr (s.srcs.getD i η)=ε
    .exact j
    .rw[θ j] at l;cases l
   refine ι ?_;unfold jr at j⊢;simp only[ρ,fw] at j⊢;refine⟨⟨⟨?_,O i hi⟩,j.1.2⟩,j.2⟩;have:=j.1.1.1
   calc (1:Int)=1*1:=rfl
    _<=k*(s.srcs.getD i η).emf:=abj F this aa aa
  .rw[θ hn] at l;exact absurd l hn
 have G:dA (tY (s.emk k)) (s.emk k).bays.length=0:=by
  rw[<-L];refine pK fun i _=> ?_;unfold tY su;rw[AO,xQ];rfl
 unfold chk;rw[ι (show fJ (s.emk k).name=ε from I),ι hc,ι M,ι N,ι D];exact G
end
section
variable {k:Int} {s:StD} {p:dH} {f:dY}
structure Vk (s:StD) (p:dH) (f:dY) (k:Int):Prop where
 c:∀i,i<s.bays.length->∀m,m<3->(phv (uD s p f i) (shf f.kind) m).sc (GQ.i k 0)=phv (uD (s.emk k) p f i) (shf f.kind) m
 v:∀i,i<s.bays.length->∀m,m<3->(phv (nN s p f i) (shf f.kind) m).sc (GQ.i k 0)=phv (nN (s.emk k) p f i) (shf f.kind) m
 fc:∀m,m<3->(phv (sI (dD s p f) (eZ s p f) f) (shf f.kind) m).sc (GQ.i k 0)=phv (sI (dD (s.emk k) p f) (eZ (s.emk k) p f) f) (shf f.kind) m
 fv:∀m,m<3->(phv (fun n=>kH (dD s p f) (eZ s p f) f n (eZ s p f)) (shf f.kind) m).sc (GQ.i k 0)=phv (fun n=>kH (dD (s.emk k) p f) (eZ (s.emk k) p f) f n (eZ (s.emk k) p f)) (shf f.kind) m
def agw(h:jG s)(j:oh s.buses.length s.lines.length f):Vk s p f k:=by
 have hb:=(rW (p:=p) h j).2;refine⟨fun i hi m _=>(vE (fun n _=>RD h j hi n) m).symm,fun i hi m _=>(vE (fun n _=>QK h j hi n) m).symm,fun m _=>(vE (fun n _=> ?_) m).symm,fun m _=>(vE (fun n _=> ?_) m).symm⟩
 .rw[sZ h,vF,SX hb]
 .rw[sZ h,vF,xh hb]
def P8:jq (s.emk k) p=jq s p:=rfl
def Td(g:qG):(oN g).set 1 (.int .i64 (k*g.emf))=oN (g.emk k):=rfl
end
def Tu (k:Int) (s:StD) (i j:Nat):qG:=if j<i then (s.srcs.getD j η).emk k else s.srcs.getD j η
structure ScI (w W:World) (t u:TypeId) (A:Option Addr) (g h:Nat) (hd cur:Array Value) (k:Int) (s:StD) (i:Nat):Prop where
 b8:Blk W h u hd
 b:0<s.srcs.length->A=γ ⟨g,0,δ⟩/\Blk W g t cur/\w.heap.size<=g/\h≠g
 r:∀j,j<s.srcs.length->∀m v,(oN (Tu k s i j))[m]? =γ v->cur[j*6+m]? =γ v
 e:∀j,j<i->k*(s.srcs.getD j η).emf<=1000000
 x:Ext w W
section
variable {w W W':World} {t u:TypeId} {A:Option Addr} {g h i:Nat} {hd cur:Array Value} {k:Int} {s:StD}
def ScI.ext(q:ScI w W t u A g h hd cur k s i)(x:Ext W W'):ScI w W' t u A g h hd cur k s i:=⟨q.b8.ext x,fun j=>⟨(q.b j).1,(q.b j).2.1.ext x,(q.b j).2.2⟩,q.r,q.e,q.x.trans x⟩
def ScI.cell(q:ScI w W t u A g h hd cur k s i){j m:Nat}{v:Value}(l:j<s.srcs.length)(B:(oN (Tu k s i j))[m]? =γ v):W.cell? (aM g (j*6+m))=γ v:=((q.b aa).2.1.cell _).trans (q.r j l m v B)
def ScI.arr(q:ScI w W t u A g h hd cur k s s.srcs.length):Arr W A s.srcs.length 6 (fun i=>oN ((s.emk k).srcs.getD i η)):=fun B=>⟨g,0,(q.b B).1,(q.b B).2.1.lt,fun j l m v C=>by
 rw[aan];refine q.cell l ?_;show(oN (if j<s.srcs.length then (s.srcs.getD j η).emk k else s.srcs.getD j η))[m]? =γ v;rw[ι l,<-yj j l];exact C⟩
theorem ScI.put(q:ScI w W t u A g h hd cur k s i)(hi:i<s.srcs.length):
  ∃l,Blk (W.setCell ⟨g,i*6+1,δ⟩ (.int .i64 (k*(s.srcs.getD i η).emf))) g t l/\(k*(s.srcs.getD i η).emf<=1000000->ScI w (W.setCell ⟨g,i*6+1,δ⟩ (.int .i64 (k*(s.srcs.getD i η).emf))) t u A g h hd l k s (i+1))/\Blk (W.setCell ⟨g,i*6+1,δ⟩ (.int .i64 (k*(s.srcs.getD i η).emf))) h u hd/\l[i*6+1]? =γ (.int .i64 (k*(s.srcs.getD i η).emf))/\Ext w (W.setCell ⟨g,i*6+1,δ⟩ (.int .i64 (k*(s.srcs.getD i η).emf))):=by
 obtain⟨K,hb,Z,hn⟩:=q.b aa;have C:Mod (fun k=>k=g) W (W.setCell ⟨g,i*6+1,δ⟩ (.int .i64 (k*(s.srcs.getD i η).emf))):=Mod.only (Only.set _ _ _ _) rfl;have J:=q.x.mod C (fun k e=>by have e:k=g:=e;omega);have I:=q.r i hi 1 _ rfl;have D:i*6+1<cur.size:=(aaK.1 I).1;refine⟨_,hb.mM _ _,fun O=>⟨q.b8.mod C hn,fun _=>⟨K,hb.mM _ _,Z,hn⟩,fun j H m v B=> ?_,fun j H=> ?_,J⟩,q.b8.mod C hn,abT D,J⟩
 .have M:m<6:=(μ.1 B).1;have F:=q.r j H;unfold Tu at B F;by_cases e:j=i
  .subst e;rw[ι aa,<-Td] at B;rw[θ aa] at F;by_cases L:m=1
   .subst L;rw[abT D];exact B
   .rw[aaf aa] at B;rw[acj aa];exact F m v B
  .rw[acj aa];refine F m v ?_;by_cases G:j<i
   .rw[ι aa] at B;rw[ι G];exact B
   .rw[θ aa] at B;rw[θ G];exact B
 .by_cases e:j=i
  .subst e;exact O
  .exact q.e j aa
def agq{v:Value}{n B:Nat}{l:List Value}(hn:s.srcs.length=n)(I:Blk W h u hd)(N:W.ownsRow B t 6 v n l)(Q:w.heap.size<=h)(C:h<B)(Z:∀j,j<n->∀m v,(oN (s.srcs.getD j η))[m]? =γ v->l[j*6+m]? =γ v)(J:Ext w W):
  ∃A c g cur,v=.slice A n c/\ScI w (W.setCell ⟨h,3,δ⟩ v) t u A g h (hd.setIfInBounds 3 v) cur k s 0:=by
 subst hn;have D:∀v,Ext w (W.setCell ⟨h,3,δ⟩ v):=fun v=>J.mod (Mod.only (S:=fun k=>k=h) (Only.set _ _ _ _) rfl) (fun k e=>by have e:k=h:=e;omega);rcases N.2 with ⟨rfl,K⟩|⟨g,G,cur,rfl,hb,M,-,-,-,L⟩
 .exact⟨_,_,0,#[],by rw[K],I.mM _ _,fun P=>aa,fun j H=>aa,fun j H=>aa,D _⟩
 .refine⟨_,_,g,cur,rfl,I.mM _ _,fun _=>⟨rfl,Blk.far M (show g≠h by omega) _,aa,aa⟩,fun j H m v O=> ?_,fun j H=>aa,D _⟩;have F:=Z j H m v O;rw[<-L,acK] at F;split at F
  .simpa using F
  .cases F
end
def Blk.Ug{w:World}{g n m o:Nat}{t:TypeId}{e:Nat->En}(h:Blk w g t (bD n e).toArray)(B:m*6+5<n)(l:o=m*36):w.rangeAt g o (bD 6 fun t=>e (m*6+t)):=fun j v hv=>by
 have C:j<36:=by have:=(μ.1 hv).1;rwa[bN] at this
 rw[h.cell,Γ,<-hv,l];obtain⟨a,b,rfl,hb⟩:∃a b,j=a*6+b/\b<6:=⟨j/6,j%6,aa,aa⟩;rw[dP (f:=fun t=>e (m*6+t)) hb aa,show m*36+(a*6+b)=(m*6+a)*6+b by omega,dP hb aa]
section
variable {w:World} {A0:Option Addr} {n0 c0:Nat} {A1:Option Addr} {n1 c1:Nat} {A2:Option Addr} {n2 c2:Nat} {A3:Option Addr} {n3 c3:Nat} {L:Nat->Hd} {s:StD}
theorem r5c(hs:rZ w A0 n0 c0 A1 n1 c1 A2 n2 c2 A3 n3 c3 L s):CE 31 #[stV s.name A0 n0 c0 A1 n1 c1 A2 n2 c2 A3 n3 c3] w (.int .i64 (chk s)):=by
 cases h:lu s
 .exact IP w hs.buses.len hs.l1 hs.l2 hs.l3 h
 .unfold lu at h;simp only[ρ,Θ] at h;have B:=hs.buses.len;have l:=hs.l1;have j:=hs.l2;have C:=hs.l3;exact uo w (hs.is_ ⟨aa,aa,aa,aa⟩)
def LY(hs:rZ w A0 n0 c0 A1 n1 c1 A2 n2 c2 A3 n3 c3 L s):Calls prog 30 #[stV s.name A0 n0 c0 A1 n1 c1 A2 n2 c2 A3 n3 c3] w fun e w'=>∃PA B C PB V qc K p,e=.returned (lG PA B C PB V qc)/\iN w' PA B PB V K p/\Ext w w':=by
 by_cases hc:chk s=0
 .exact(AZ w (hs.ok hc) hc).mono fun _ _ ⟨PA,C,PB,qc,K,j,D,l⟩=>⟨_,_,_,_,_,_,_,_,j,D,l⟩
 .exact(LJ w (fun w' x=>r5c (hs.ext x)) hc).mono fun _ _ ⟨j,l⟩=>⟨_,_,_,_,_,_,_,_,j,Vb _,l⟩
def j5.emk{w W:World}{g h:Nat}{A:Option Addr}{hd cur:Array Value}{k:Int}{t u:TypeId}(hs:j5 W A0 n0 c0 A1 n1 c1 A2 n2 c2 A3 n3 c3 L s)(q:ScI w W t u A g h hd cur k s s.srcs.length)(c:Nat):j5 W A0 n0 c0 A1 n1 c1 A n2 c A3 n3 c3 L (s.emk k):=
 ⟨hs.buses,hs.nc,hs.mx,hs.l1,hs.lines,xQ.trans hs.l2,hs.l2 ▸ q.arr,hs.l3,hs.bays,hs.links⟩
end
def NB{w A W':World}{GC GV_:Nat}{ec ev ef:Nat->En}{s:StD}{p:dH}{f:dY}(hs:xM w GC GV_ ec ev ef s p f)(j:A=w.alloc (.cells (gF (.slice δ 0 0) (.slice δ 0 0) fun _=>zEn).toArray 47))(l:W'=puts A w.heap.size 0 (gF (.slice (γ (aM GC 0)) s.bays.length s.bays.length) (.slice (γ (aM GV_ 0)) s.bays.length s.bays.length) ef)):
  Blk W' w.heap.size 47 (gF (.slice (γ (aM GC 0)) s.bays.length s.bays.length) (.slice (γ (aM GV_ 0)) s.bays.length s.bays.length) ef).toArray/\xM W' GC GV_ ec ev ef s p f/\Ext w W':=by
 have J:Ext w A:=by rw[j];exact Ext.new _ _
 exact AB J (κ _) (by rw[j];exact Blk.new _ _ _) (hs.ext J) l
def Blk.Vi{w:World}{g:Nat}{t:TypeId}{a b:Value}{e:Nat->En}(h:Blk w g t (gF a b e).toArray):w.cell? (aM g 0)=γ a:=(h.cell 0).trans rfl
def Blk.UG{w:World}{g:Nat}{t:TypeId}{a b:Value}{e:Nat->En}(h:Blk w g t (gF a b e).toArray):w.cell? (aM g 1)=γ b:=(h.cell 1).trans rfl
def Blk.TY{w:World}{g:Nat}{t:TypeId}{a b:Value}{e:Nat->En}(h:Blk w g t (gF a b e).toArray):w.rangeAt g 2 (bD 6 e)/\w.rangeAt g 38 (bD 6 fun j=>e (6+j)):=⟨by simpa using h.XE (k:=0) aa rfl,by simpa using h.XE (k:=1) aa rfl⟩
def mE{P:Program}{ops:Array Oper}{rest:List Oper}{op:Oper}{a:Act}{w:World}{Q:Exit->Act->World->Prop}(j:Region.wanted op (yielded ops a.tmps)=ε)(F:TypeId)(x:Operand)(l:op.op=.load F x)(b o:Nat)(J:a.eval x=.pointer (γ (aM b o)))(cs:List Value)(d:TypeDesc)(hc:w.rangeAt b o cs)(B:P.underlying F=γ d)(hd:d.isRow=ε)(hi:(P.info? F).map (·.size)=γ cs.length)(h:wpList P ops Q rest (a.put op.dst (.agg cs.toArray)) w):wpList P ops Q (op::rest) a w:=
 wpList_step fun K I=>by rw[ι j];exact wp_load_mid F x l b o J cs d hc B hd hi (I _ _ h)
def Ja (f:Nat->List Value):Nat->List Value
 |0=>[]
 |n+1=>Ja f n++f n
theorem Ir{f:Nat->List Value}(h:∀j,(f j).length=6):∀n,(Ja f n).length=n*6/\(∀j,j<n->∀m,m<6->(Ja f n)[j*6+m]? =(f j)[m]?)/\∀u,u∈Ja f n->∃j,u∈f j
 |0=>⟨rfl,fun j B=>absurd B aa,fun u l=>by cases l⟩
 |n+1=>by
  obtain⟨F,D,G⟩:=Ir h n;have H:=h n;unfold Ja;refine⟨by rw[nH];omega,fun j B m C=> ?_,fun u l=> ?_⟩
  .by_cases e:j=n
   .subst e;rw[kC aa,F,show j*6+m-j*6=m by omega]
   .rw[Λ aa];exact D j aa m C
  .rcases aaH.1 l with l|l
   .exact G u l
   .exact⟨_,l⟩
def O9{w:World}{A2:Option Addr}{n2:Nat}{s:StD}(h:Arr w A2 n2 6 (fun i=>oN (s.srcs.getD i η))):∃l,Reads w w.heap.size 6 A2 n2 l/\(∀u∈l,u.oneCell'=ε)/\∀j,j<n2->∀m v,(oN (s.srcs.getD j η))[m]? =γ v->l[j*6+m]? =γ v:=by
 obtain⟨D,C,G⟩:=Ir (f:=fun i=>oN (s.srcs.getD i η)) (fun _=>rfl) n2;refine⟨_,⟨D,fun hn=> ?_⟩,fun u B=> ?_,fun j H m v B=>(C j H m (μ.1 B).1).trans B⟩
 .obtain⟨b,o,F,hb,hc⟩:=h hn;refine⟨_,F,hb,fun p u hp=> ?_⟩;have Z:=(μ.1 hp).1;rw[D] at Z;obtain⟨a,c,rfl,ha⟩:∃a c,p=a*6+c/\c<6:=⟨p/6,p%6,aa,aa⟩;rw[C a aa c ha] at hp;have:=hc a aa c u hp;rw[Addr.add_lit];rwa[ace] at this
 .obtain⟨j,B⟩:=G u B;simp only[oN,lh,I6,aaM] at B;rcases B with rfl|rfl|rfl|rfl|rfl|rfl<;>rfl
theorem KL{A0:Option Addr}{n0 c0:Nat}{A1:Option Addr}{n1 c1:Nat}{A2:Option Addr}{n2 c2:Nat}{A3:Option Addr}{n3 c3:Nat}{L:Nat->Hd}{s:StD}(f:dY)(k:Int)(w:World)(hs:rZ w A0 n0 c0 A1 n1 c1 A2 n2 c2 A3 n3 c3 L s):
  CE 7 #[stV s.name A0 n0 c0 A1 n1 c1 A2 n2 c2 A3 n3 c3,nX f,k] w (.bool ε):=by
 have HS:=aW hs;clear hs;unfold stV nX;go_enter func7,ntmps7;go_wp2_with fail;have F:Ext w (aL (aL w #[s.name,aO A0 n0 c0,aO A1 n1 c1,aO A2 n2 c2,aO A3 n3 c3] 27) #[f.kind,f.line,f.obj,f.num,f.den,f.r] 33):=(Ext.new _ _).alloc _;obtain⟨-,Yu,U⟩:=ah2 w 27 #[s.name,aO A0 n0 c0,aO A1 n1 c1,aO A2 n2 c2,aO A3 n3 c3] 33 #[f.kind,f.line,f.obj,f.num,f.den,f.r];have HX:=aW F;clear F;generalize aU _ _=w0 at HX Yu U⊢;generalize w.heap.size+1=g4 at U⊢;generalize w.heap.size=g3 at Yu⊢;refine(LY (HS.ext HX.o)).mono ?_;rintro _ w1 ⟨PA,pn,pc,PB,V,qc,K,p,rfl,hp,F⟩;have HP:=aW hp;clear hp;unfold lG;have D:Ext w1 (aL w1 #[aO PA pn pc,aO PB V qc] 31):=Ext.new _ _;obtain⟨-,M⟩:=ah1 w1 31 #[aO PA pn pc,aO PB V qc];replace HP:=HP.aA D;replace D:=F.trans D;replace HX:=HX.aC D;replace Yu:=Yu.aA D;replace U:=U.aA D;clear F D;have k3:=Yu.cell;go_wp2_with fail;clear k3;generalize aU _ _=w2 at HX HP Yu U M⊢;generalize w1.heap.size=g7 at M⊢;refine(r5c (HS.ext HX.o)).mono ?_;rintro _ w3 ⟨rfl,F⟩;replace HX:=HX.aC F;replace HP:=HP.aA F;replace Yu:=Yu.aA F;replace U:=U.aA F;replace M:=M.aA F;clear F;obtain⟨ck,P⟩:∃z,chk s=z:=⟨_,rfl⟩;rw[P];by_cases h0:ck=0
 rotate_left
 .have hd:decide (ck=0)=ζ:=by simpa using h0
  have Z9:(ck==0)=ζ:=by simpa using h0
  have Zo:(ck !=0)=ε:=by simpa using h0
  clear P h0;exact AcD
 subst h0;have Yz:=aW P;clear P;have k3:=Yu.cell;have k4:=U.cell;have k7:=M.cell;go_wp2_with fail;clear k3 k4 k7;refine(Pj f _ (HS.ext HX.o) HP.o).mono ?_;rintro _ w4 ⟨b,rfl,F,hb⟩;replace HX:=HX.aC F;replace HP:=HP.aA F;replace Yu:=Yu.aA F;replace U:=U.aA F;replace M:=M.aA F;clear F;have hv:b=ζ\/b=ε/\k<1\/b=ε/\1<=k/\20<k\/b=ε/\1<=k/\k<=20:=by cases b<;>simp;omega
 rcases hv with rfl|⟨rfl,h1⟩|⟨rfl,h1,h2⟩|⟨rfl,h1,h2⟩
 case' inr.inl=>have hd:decide (k<1)=ε:=Δ h1
 case' inr.inr.inl=>
  have hd:decide (k<1)=ζ:=π aa;have O:decide (20<k)=ε:=Δ h2
 case' inr.inr.inr=>
  have hd:decide (k<1)=ζ:=π aa;have O:decide (20<k)=ζ:=π aa;have T:Hid (1<=k/\k<=20):=aW ⟨h1,h2⟩;have HT:=aW (hb rfl);clear h1 h2 hb;have k3:=Yu.cell;have l3:=Yu.lt;(go_wp2_with (at_builtin;refine Hid.o ?_));refine aW ?_;clear k3 l3 hd O;obtain⟨Yv,YP⟩:=an1 w4 27 #[s.name,aO A0 n0 c0,aO A1 n1 c1,aO A2 n2 c2,aO A3 n3 c3];have hz:(w4.alloc (.cells #[s.name,aO A0 n0 c0,aO A1 n1 c1,aO A2 n2 c2,aO A3 n3 c3] 27)).heap.size=w4.heap.size+1:=ag;generalize w4.alloc (.cells #[s.name,aO A0 n0 c0,aO A1 n1 c1,aO A2 n2 c2,aO A3 n3 c3] 27)=w5 at Yv YP hz⊢;rw[<-hz];have YL:=HS.l2;obtain⟨l,hr,h1,Z⟩:=O9 (HS.ext (HX.trans (Yv.trans (Ext.new w5 (.cells #[] 83))))).srcs;refine jk Jq rfl (.tmp 38) (.tmp 40) rfl w5.heap.size _ 0 [] rf (aaZ _ #[] 0 (κ _) aj rfl) A2 n2 c2 l rf hr h1 Adl Adl ag ?_;intro v w6 ho hg;refine Qp ?_;have Yp:Ext w5 w6:=fI hg (Ext.new w5 _) Ac8;rw[aan,aaX] at ho;have Yt:=YP.ext Yp;obtain⟨A,c,g,cur,rfl,hi⟩:=agq (k:=k) YL Yt ho (κ _) aa Z (Yv.trans Yp);have HI:Hid (ScI w4 _ 83 27 A g w4.heap.size #[s.name,aO A0 n0 c0,aO A1 n1 c1,aO A n2 c,aO A3 n3 c3] cur k s 0):=aW hi;have k8:=Yt.cell;have f8:=Yt.frozen;have YE:=aW YL;clear Yv YP hz hr h1 Z ho hg Yp Yt hi YL;go_wp2_with fail;clear k8 f8;generalize w6.setCell ⟨w4.heap.size,3,δ⟩ (.slice A n2 c)=w7 at HI⊢;generalize w4.heap.size=g8 at HI⊢;have YH:=aW (uf Yz.o);go_loopw [46] (fun iv wr=>∃i:Nat,i<=n2/\iv=.int .i64 i/\∃cur,ScI w4 wr 83 27 A g g8 #[s.name,aO A0 n0 c0,aO A1 n1 c1,aO A n2 c,aO A3 n3 c3] cur k s i) (aT n2)
  case atStart=>exact⟨0,aa,rfl,_,HI.o⟩
  case round=>
   clear HI;rename World=>wr;obtain⟨i,hi,rfl,cur,hq⟩:=hrel;have HI:=aW hq;clear hq;by_cases Yq:i<n2
   .have Z9:decide ((i:Int)<n2)=ε:=ae;have q1:(0:Int)<=i:=aa;have q2:(i:Int)<n2:=aa;have ac:n2<=2:=by have:=HT.o;omega
    have YJ:i<s.srcs.length:=by have:=YE.o;omega
    obtain⟨hA,hb,-,-⟩:=HI.b aa;subst hA;have Z8:=YH.src i YJ;unfold jr at Z8;simp only[ρ,fw] at Z8;obtain⟨YK,h1,h2,h3,h4,h5⟩:=HI.put YJ;have hc:wr.cell? (aM g (i*6+1))=γ (.int .i64 (s.srcs.getD i η).emf):=HI.cell YJ (by unfold Tu;rw[θ aa];rfl);generalize (s.srcs.getD i η).emf=em at h1 h2 h3 h4 h5 hc Z8;have p0:0<=k*em:=abI Aa1 aa;have p1:k*em<=20*1000000:=abj T.o.2 Z8.1.1.2 aa aa;have hm:wrap64 (k*em)=k*em:=Aa _ aa;rw[<-hm] at h1 h2 h3 h4 h5;have hf:=hb.frozen (i*6+1);have k8:=HI.b8.cell;have H2:=aW h2;have H1:=aW h1;have H3:=aW h3;have H4:=aW h4;have H5:=aW h5;have HM:=aW hm;have YT:=aW (And.intro p0 p1);clear h1 h2 h3 h4 h5 hb Z8 hm p0 p1;go_wp2_with fail
    go_region;clear hc hf k8;have F:Ext (wr.setCell ⟨g,i*6+1,δ⟩ (.int .i64 (wrap64 (k*em)))) (wr.setCell ⟨g,i*6+1,δ⟩ (.int .i64 (wrap64 (k*em)))).drew:=(Ext.refl _).drew;replace H1:=H1.aA F;replace H2:=aW (fun h=>(H2.o h).ext F);replace H3:=H3.aA F;replace H5:=H5.aC F;clear F;generalize (wr.setCell ⟨g,i*6+1,δ⟩ (.int .i64 (wrap64 (k*em)))).drew=w8 at H1 H2 H3 H5⊢;rw[HM.o] at H2 H4;have hc:w8.cell? (aM g (i*6+1))=γ (.int .i64 (k*em)):=(H1.cell _).trans H4.o;have k8:=H3.cell;generalize k*em=ke at H2 H4 hc;by_cases Yr:ke<=1000000
    .have HW:Hid (ScI w4 w8 83 27 (γ ⟨g,0,δ⟩) g g8 #[s.name,aO A0 n0 c0,aO A1 n1 c1,aO (γ (aM g 0)) n2 c,aO A3 n3 c3] YK k s (i+1)):=aW (H2.o Yr);have hd:decide (1000000<ke)=ζ:=π aa;clear Yr;go_wp2_with fail
     go_roundw
     case rel=>exact⟨i+1,aa,au,_,HW.o⟩
     case measure=>exact aV
    .have hd:decide (1000000<ke)=ε:=Δ aa;clear Yr;go_wp2_with fail;refine(Ag _).mono ?_;rintro _ w2 ⟨rfl,D⟩;have HY:=aW (HX.trans (H5.trans D));clear D;go_wp2_with fail;go_ret;exact⟨rfl,HY.o⟩
   .obtain rfl:n2=i:=aa;have YL:=YE.o;subst YL;have Z9:decide ((s.srcs.length:Int)<(s.srcs.length:Int))=ζ:=ag;have F:=HI.x;have YI:=aW (HX.trans F);have Yw:=aW ((HS.ext YI.o).is_ Adl);have YF:=aW (Yw.emk HI.o c);have YN:=aW (TJ Yz.o T.o.1 HI.e);have YY:Hid (fu s.buses.length s.lines.length f=0):=aW (by
     have G:=HT.o.2.1;unfold xu at G;rwa[ι Yz.o] at G)
    have YA:=aW HI.b8;replace HP:=HP.aA F;replace Yu:=Yu.aA F;replace U:=U.aA F;replace M:=M.aA F;have k3:=Yu.cell;have k4:=U.cell;have k7:=M.cell;clear F HI HX HS YE hi Yq;go_wp2_with fail;clear k3 k4 k7;refine(solve_run f _ Yw.o HP.o Yz.o HT.o.2.2 YY.o).mono ?_;rintro _ w9 ⟨GC,GV_,ec,ev,ef,rfl,hs,F⟩;have S:=aW hs;(go_wp2_with (refine bJ rfl 47 rfl _ rU (fun wA G=>Hid.o ?_)));refine Qz ?_;replace G:=Hid.o G;have HA:=aW G;clear G;have N:Hid (World.there wA w9.heap.size 0 (gF (.slice (γ (aM GC 0)) s.bays.length s.bays.length) (.slice (γ (aM GV_ 0)) s.bays.length s.bays.length) ef).length):=aW (by rw[HA.o];exact(Blk.new w9 47 (gF (.slice δ 0 0) (.slice δ 0 0) fun _=>zEn).toArray).there AbX);(go_wp2_with (refine bf rfl 47 (.tmp 10) (.tmp 76) rfl w9.heap.size (0) (gF (.slice (γ (aM GC 0)) s.bays.length s.bays.length) (.slice (γ (aM GV_ 0)) s.bays.length s.bays.length) ef) rf rf N.o (mq _ _ _) (sN _ _ _ rfl rfl) (fun wT G=>Hid.o ?_)));refine Qz ?_;replace G:=Hid.o G;have hf:=NB S.o HA.o G;replace F:=F.trans hf.2.2;have YC:=aW hf.1;replace S:=aW hf.2.1;replace YI:=YI.aC F;replace YF:=YF.aA F;replace HP:=HP.aA F;replace U:=U.aA F;replace M:=M.aA F;replace YA:=YA.aA F;clear hf G N HA hs F Yw Yu;generalize w9.heap.size=g10 at YC⊢;have k4:=U.cell;have k7:=M.cell;have k8:=YA.cell;go_wp2_with fail;clear k4 k7 k8;refine(solve_run f _ YF.o HP.o YN.o (P8.trans HT.o.2.2) YY.o).mono ?_;rintro _ wB ⟨GD,GW,dc,dv,df,rfl,hs,F⟩;have YB:=aW hs;rw[show(s.emk k).bays=s.bays from rfl];(go_wp2_with (refine bJ rfl 47 rfl _ rU (fun wC G=>Hid.o ?_)));refine Qz ?_;replace G:=Hid.o G;have HA:=aW G;clear G;have N:Hid (World.there wC wB.heap.size 0 (gF (.slice (γ (aM GD 0)) s.bays.length s.bays.length) (.slice (γ (aM GW 0)) s.bays.length s.bays.length) df).length):=aW (by rw[HA.o];exact(Blk.new wB 47 (gF (.slice δ 0 0) (.slice δ 0 0) fun _=>zEn).toArray).there AbX);(go_wp2_with (refine bf rfl 47 (.tmp 12) (.tmp 83) rfl wB.heap.size (0) (gF (.slice (γ (aM GD 0)) s.bays.length s.bays.length) (.slice (γ (aM GW 0)) s.bays.length s.bays.length) df) rf rf N.o (mq _ _ _) (sN _ _ _ rfl rfl) (fun wT G=>Hid.o ?_)));refine Qz ?_;replace G:=Hid.o G;have hf:=NB YB.o HA.o G;replace F:=F.trans hf.2.2;have YD:=aW hf.1;have Yx:=aW (S.ext F);replace YB:=aW hf.2.1;replace YI:=YI.aC F;replace YC:=YC.aA F;clear hf G N HA hs F YF HP U M YA S;generalize wB.heap.size=g12 at YD⊢;have Y:Hid (Vk s (resolve 0 p) f k):=aW (agw YH.o (afw YY.o));have k0:=YC.Vi;have C:=YC.UG;have k2:=YD.Vi;have k3:=YD.UG;go_wp2_with fail;clear k0 C k2 k3;have ac:s.bays.length<=16:=YH.nq;go_loopw [118] (fun iv wr=>∃i:Nat,i<=s.bays.length/\iv=.int .i64 i/\Ext wT wr) (aT s.bays.length)
    case atStart=>exact⟨0,aa,rfl,Ext.refl _⟩
    case round=>
     rename World=>ws;obtain⟨i,hi,rfl,H⟩:=hrel;have B:=aW H;clear H;by_cases Yq:i<s.bays.length
     rotate_left
     .obtain rfl:i=s.bays.length:=aa;have hd:decide ((s.bays.length:Int)<(s.bays.length:Int))=ζ:=ag;go_wp2_with fail;refine(Ag _).mono ?_;rintro _ wD ⟨rfl,F⟩;replace B:=B.aC F;clear F hd;have H1:=aW (YC.ext B.o).TY.1;have H2:=aW (YD.ext B.o).TY.1;(go_wp2_with (refine mE rf 45 _ rfl g10 2 rf (bD 6 ef) _ H1.o A8 rfl (je _) (Hid.o ?_)));refine Qz ?_;(go_wp2_with (refine mE rf 45 _ rfl g12 2 rf (bD 6 df) _ H2.o A8 rfl (je _) (Hid.o ?_)));refine Qz ?_;clear H1 H2;go_wp2_with fail;refine(ve _ _ _ _ k _ (Yx.fc.ext B.o) (YB.fc.ext B.o) Aa1 Y.fc).mono ?_;rintro _ wE ⟨rfl,F⟩;replace B:=B.aC F;clear F;have H1:=aW (YC.ext B.o).TY.2;have H2:=aW (YD.ext B.o).TY.2;(go_wp2_with (refine mE rf 45 _ rfl g10 38 rf (bD 6 (fun j=>ef (6+j))) _ H1.o A8 rfl (je _) (Hid.o ?_)));refine Qz ?_;(go_wp2_with (refine mE rf 45 _ rfl g12 38 rf (bD 6 (fun j=>df (6+j))) _ H2.o A8 rfl (je _) (Hid.o ?_)));refine Qz ?_;clear H1 H2;go_wp2_with fail;refine(ve _ _ _ _ k _ (Yx.fv.ext B.o) (YB.fv.ext B.o) Aa1 Y.fv).mono ?_;rintro _ wE ⟨rfl,F⟩;replace B:=B.aC F;clear F;go_wp2_with fail;go_ret;exact⟨rfl,YI.trans B.o⟩
     have Q:i*6+5<(s.emk k).bays.length*6:=(by omega:i*6+5<s.bays.length*6);have hd:decide ((i:Int)<s.bays.length)=ε:=ae;have q1:(0:Int)<=i:=aa;have q2:(i:Int)<s.bays.length:=aa;have ad:=aX.cell (YC.ext B.o).Vi;have YS:=aX.cell (YC.ext B.o).UG;have YQ:=aX.cell (YD.ext B.o).Vi;have Zq:=aX.cell (YD.ext B.o).UG;go_wp2_with fail;refine iX 27 (UH [(11,.any),(25,.any)]) (NPs [(11,.eq (.bool ε)),(25,.eq (.bool ε))]) (Ck _) ah ah ?_;refine Qd ?_;refine Qs ?_;refine nM 1 rf ah ?_;refine Qd ?_;refine ic rf 45 _ rfl GC _ rf (bD 6 fun t=>ec (i*6+t)) _ (by rintro W ⟨x,rfl⟩;exact(Yx.bc.ext (B.trans x.ext)).Ug (m:=i) aa rfl) A8 rfl (je _) ?_;refine Qp ?_;refine aa6 ?_;refine Qs ?_;refine nM 1 rf ah ?_;refine Qd ?_;refine ic rf 45 _ rfl GD _ rf (bD 6 fun t=>dc (i*6+t)) _ (by rintro W ⟨x,rfl⟩;exact(YB.bc.ext (B.trans x.ext)).Ug (m:=i) Q rfl) A8 rfl (je _) ?_;refine Qp ?_;refine aa6 ?_;refine Qs ?_;refine eF rf rf rf ?_ ?_
     .intro R I;have hW:=B.trans I.1;clear I;go_simp;exact⟨rfl,(ve _ _ _ _ k _ ((Yx.c i Yq).ext hW) ((YB.c i Yq).ext hW) Aa1 (Y.c i Yq)).mono fun e w' ⟨O,J⟩=>⟨_,O,J,rfl⟩⟩
     intro YM YR Zd YG;obtain⟨R,Yy⟩:=YG;obtain rfl:YM=.bool ε:=Yy.get;clear Yy R;refine Qp ?_;refine Qs ?_;refine nM 1 rf ah ?_;refine Qd ?_;refine ic rf 45 _ rfl GV_ _ rf (bD 6 fun t=>ev (i*6+t)) _ (by rintro W ⟨x,rfl⟩;exact(Yx.bv.ext (B.trans x.ext)).Ug (m:=i) aa rfl) A8 rfl (je _) ?_;refine Qp ?_;refine aa6 ?_;refine Qs ?_;refine nM 1 rf ah ?_;refine Qd ?_;refine ic rf 45 _ rfl GW _ rf (bD 6 fun t=>dv (i*6+t)) _ (by rintro W ⟨x,rfl⟩;exact(YB.bv.ext (B.trans x.ext)).Ug (m:=i) Q rfl) A8 rfl (je _) ?_;refine Qp ?_;refine aa6 ?_;refine Qs ?_;refine eF rf rf rf ?_ ?_
     .intro R I;have hW:=B.trans I.1;clear I;go_simp;exact⟨rfl,(ve _ _ _ _ k _ ((Yx.v i Yq).ext hW) ((YB.v i Yq).ext hW) Aa1 (Y.v i Yq)).mono fun e w' ⟨O,J⟩=>⟨_,O,J,rfl⟩⟩
     intro YO ZC Zt YG;obtain⟨R,Yy⟩:=YG;obtain rfl:YO=.bool ε:=Yy.get;clear Yy R;refine Qp ?_;refine Qs ?_;refine bP ?_;intro wE I;replace B:=B.aC I.ext;clear I;go_wp2_with fail
     go_roundw
     case rel=>exact⟨i+1,aa,au,B.o⟩
     case measure=>exact aV
 all_goals
  clear hb Yu U M HP;exact AcD
end Go.Proofs.YtbfnfkppkmpieaaGreat
