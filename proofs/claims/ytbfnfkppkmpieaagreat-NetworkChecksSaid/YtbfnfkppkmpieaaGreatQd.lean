import Derived.Test.YtbfnfkppkmpieaaGreatQc3
set_option linter.unusedVariables false
set_option linter.unusedSimpArgs false
set_option maxHeartbeats 25600000
set_option maxRecDepth 200000
set_option linter.defProp false
namespace Go.Proofs.YtbfnfkppkmpieaaGreat
open Go.RowKit
def Pi{a b}(h:a<=b):2^a<=2^b:=Nat.pow_le_pow_right aa h
def dlt (i k:Nat):GQ:=if i=k then GQ.i 1 0 else GQ.i 0 0
theorem GN(C H y i j):jo C H y i j=y*(dlt i C*dlt j H):=by
 unfold jo dlt;by_cases h:i=C<;>by_cases l:j=H
 .rw[if_pos ⟨h,l⟩,if_pos h,if_pos l];ext<;>simp only[GQ.aZ,GQ.aX,GQ.dE,GQ.dB]<;>grind
 .rw[if_neg (fun e=>l e.2),if_neg l,GQ.bI,GQ.bI]
 .rw[if_neg (fun e=>h e.1),if_neg h,GQ.eH,GQ.bI]
 .rw[if_neg (fun e=>h e.1),if_neg h,GQ.eH,GQ.bI]
def Br.al (b:Br) (i:Nat):GQ:=dlt i b.p-(if b.nt then GQ.i 0 0 else dlt i b.q)
theorem La(X)(b:Br)(i j):stm X b i j=X i j+b.y*(b.al i*b.al j):=by
 unfold stm Br.al;cases hb:b.nt
 .simp only[Bool.false_eq_true,if_false,GN];generalize dlt i b.p=c1;generalize dlt i b.q=c2;generalize dlt j b.p=c3;generalize dlt j b.q=c4;ext<;>simp only[GQ.bQ,GQ.bN,GQ.aZ,GQ.aX,GQ.ky,GQ.ku,GQ.dI,GQ.dJ]<;>grind
 .simp only[if_true,GN];generalize dlt i b.p=c1;generalize dlt j b.p=c3;ext<;>simp only[GQ.bQ,GQ.bN,GQ.aZ,GQ.aX,GQ.dI,GQ.dJ,GQ.dE,GQ.dB]<;>grind
def GH:∀(bs:List Br) (X:Nat->Nat->GQ) (i j:Nat),eU X bs i j=X i j+gX (fun b=>b.y*(b.al i*b.al j)) bs
 |[],X,i,j=>(GQ.add_zero' _).symm
 |b::bs,X,i,j=>by
  show eU (stm X b) bs i j=X i j+(gX (fun b=>b.y*(b.al i*b.al j)) bs+b.y*(b.al i*b.al j));rw[GH bs (stm X b) i j,La];generalize gX _ bs=t;generalize b.y*(b.al i*b.al j)=u;generalize X i j=v;ext<;>simp only[GQ.bQ,GQ.bN]<;>grind
def Gl(r0):∀(bs:List Bu) (i c:Nat),nM r0 bs i c=r0 i c+gX (fun b=>b.y*(b.al i*b.u c)) bs
 |[],i,c=>(GQ.add_zero' _).symm
 |b::bs,i,c=>by
  show nM r0 bs i c+b.y*(b.al i*b.u c)=r0 i c+(gX (fun b=>b.y*(b.al i*b.u c)) bs+b.y*(b.al i*b.u c));rw[Gl r0 bs i c];generalize gX _ bs=t;generalize b.y*(b.al i*b.u c)=u;generalize r0 i c=v;ext<;>simp only[GQ.bQ,GQ.bN]<;>grind
def rhs (rw_:Nat->Nat) (us:List Nb) (f:Nat) (al be:Nat->GQ):Nat->Nat->GQ:=fun i j=>al j*feed rw_ us i+be j*unit f i
def Nb.bu (n:Nat) (rw_:Nat->Nat) (al:Nat->GQ) (b:Nb):Bu:=⟨b.y,(b.br rw_).al,fun c=>if c<n then (b.br rw_).al c else if b.b=17 then al (c-n)*b.e else GQ.i 0 0⟩
def r0u (n f:Nat) (be:Nat->GQ):Nat->Nat->GQ:=fun i c=>if c<n then GQ.i 0 0 else be (c-n)*unit f i
theorem MW{n f rw_ al be}(us i):side n (eU zmx (us.map (Nb.br rw_))) (rhs rw_ us f al be) i=nM (r0u n f be) (us.map (Nb.bu n rw_ al)) i:=by
 funext c;rw[Gl,qG];unfold side r0u;by_cases hc:c<n
 .rw[if_pos hc,if_pos hc,GH,qG];show zmx i c+_=_;congr 1;refine oQ us fun b hb=> ?_;show _=b.y*((b.br rw_).al i*(if c<n then (b.br rw_).al c else _));rw[if_pos hc];rfl
 .rw[if_neg hc,if_neg hc];unfold rhs feed;rw[<-GK];have e:gX (fun b=>al (c-n)*if b.b=17/\i=rw_ b.a then b.y*b.e else GQ.i 0 0) us=gX (fun a=>(Nb.bu n rw_ al a).y*((Nb.bu n rw_ al a).al i*(Nb.bu n rw_ al a).u c)) us:=by
   refine oQ us fun b hb=> ?_;show _=b.y*((b.br rw_).al i*(if c<n then (b.br rw_).al c else if b.b=17 then al (c-n)*b.e else GQ.i 0 0));rw[if_neg hc];by_cases B:b.b=17
   .have l:(if b.b=17/\i=rw_ b.a then b.y*b.e else GQ.i 0 0)=if i=rw_ b.a then b.y*b.e else GQ.i 0 0:=by
     by_cases hi:i=rw_ b.a
     .rw[if_pos ⟨B,hi⟩,if_pos hi]
     .rw[if_neg (fun e=>hi e.2),if_neg hi]
    have j:(b.br rw_).al i=dlt i (rw_ b.a):=by
     unfold Br.al;show dlt i (rw_ b.a)-(if decide (b.b=17)=true then GQ.i 0 0 else dlt i (rw_ b.b))=_;rw[if_pos (show decide (b.b=17)=true by simp[B])];generalize dlt i (rw_ b.a)=z;ext<;>simp only[GQ.dI,GQ.dJ,GQ.dE,GQ.dB]<;>grind
    rw[l,j,if_pos (show b.b=17 from B)];unfold dlt;by_cases hi:i=rw_ b.a
    .rw[if_pos hi,if_pos hi];ext<;>simp only[GQ.aZ,GQ.aX,GQ.dE,GQ.dB]<;>grind
    .rw[if_neg hi,if_neg hi];ext<;>simp only[GQ.aZ,GQ.aX,GQ.dE,GQ.dB]<;>grind
   .rw[if_neg B,if_neg (fun e=>B e.1),GQ.bI,GQ.bI,GQ.bI]
  rw[e];generalize gX _ us=t;generalize be (c-n)*unit f i=u;ext<;>simp only[GQ.bQ,GQ.bN]<;>grind
structure QZ (b:Nb):Prop where
 z:∃(zn:GQ) (zd:Nat),zn≠GQ.i 0 0/\Wh zn 32000/\b.y*zn=GQ.i zd 0/\zd<=16
 e:Wh b.e 1000000
theorem Ac(b:Br)(i):Wh (b.al i) 1:=by
 have j (i k:Nat):dlt i k=GQ.i 1 0\/dlt i k=GQ.i 0 0:=by
  unfold dlt;split
  .exact Or.inl rfl
  .exact Or.inr rfl
 have B:(if b.nt then GQ.i 0 0 else dlt i b.q)=GQ.i 1 0\/(if b.nt then GQ.i 0 0 else dlt i b.q)=GQ.i 0 0:=by
  split
  .exact Or.inr rfl
  .exact j _ _
 unfold Br.al;rcases j i b.p with e|e<;>rcases B with l|l<;>rw[e,l]
 .exact AbM
 .exact⟨1,0,by ext<;>simp only[GQ.dI,GQ.dJ,GQ.dE,GQ.dB]<;>grind,aj⟩
 .exact⟨-1,0,by ext<;>simp only[GQ.dI,GQ.dJ,GQ.dE,GQ.dB]<;>grind,aj⟩
 .exact AbM
theorem SI(f i):Wh (unit f i) 1:=by
 unfold unit;split
 .exact uJ
 .exact gL _
def BD:Nat:=2^420
def Tv{m}(B:m<=17):∀(bs:List Bu),cz (fun _=>32000) 16 m 1000000 bs<=2^(15*bs.length)*(2^49*2^20)
 |[]=>by
  show fct m*1000000<=2^(15*0)*_;have l:fct m<=fct 17:=FC B;have j:fct 17<=2^49:=aj;have:=Nat.mul_le_mul (Nat.le_trans l j) (show 1000000<=2^20 by decide);simpa using this
 |b::bs=>by
  show(32000+m*16)*cz _ 16 m 1000000 bs<=_;have l:32000+m*16<=2^15:=aa;have j:=Nat.mul_le_mul l (Tv B bs);rw[List.length_cons,show 15*(bs.length+1)=15+15*bs.length by omega,Nat.pow_add,Nat.mul_assoc];exact j
def rC.mono{Z0 m W B C Q}(h:rC Z0 m W Q B)(l:B<=C):rC Z0 m W Q C:=
 ⟨h.q0,fun P j cs G hc=>⟨fun F D=>((h.min P j cs G hc).1 F D).mono l,fun F D H=>((h.min P j cs G hc).2 F D H).mono l⟩⟩
section
variable {L:Nat->Bool} {rw_:Nat->Nat} {n:Nat} {us:List Nb}
theorem Bh{f W al be}(hs:∀b∈us,QZ b)(hn:n<=17)(Z:us.length<=23)(l:n<=W)(ha:∀j,Wh (al j) 1)(hb:∀j,Wh (be j) 1):
  ∃Q,rC (side n (eU zmx (us.map (Nb.br rw_))) (rhs rw_ us f al be)) n W Q BD:=by
 obtain⟨Q,T⟩:=rC.of (r0:=r0u n f be) (w:=fun c=>if c<n then 1 else 1000000) (f:=fun _=>32000) (K:=16) (m:=n) (W:=W) (B0:=1000000) (bs:=us.map (Nb.bu n rw_ al)) (Z0:=side n (eU zmx (us.map (Nb.br rw_))) (rhs rw_ us f al be))
  (fun b hb=>by
   obtain⟨c,hc,rfl⟩:=List.mem_map.1 hb;exact⟨(hs c hc).z,fun i=>Ac _ i⟩)
  (fun c hc=>show(if c<n then 1 else 1000000)=1 from if_pos hc) (fun c _=>by show(if c<n then 1 else 1000000)<=1000000;split<;>omega) aa
  (fun b hb c hc=>by
   obtain⟨d,hd,rfl⟩:=List.mem_map.1 hb;show Wh (if c<n then _ else _) (if c<n then 1 else 1000000);by_cases h:c<n
   .rw[if_pos h,if_pos h];exact Ac _ c
   .rw[if_neg h,if_neg h];split
    .exact((ha (c-n)).mul (hs d hd).e).mono aa
    .exact gL _)
  (fun i c hc=>by
   show Wh (if c<n then _ else _) (if c<n then 1 else 1000000);by_cases h:c<n
   .rw[if_pos h,if_pos h];exact gL _
   .rw[if_neg h,if_neg h];exact((hb (c-n)).mul (SI f i)).mono aa)
  l (fun i hi=>MW us i)
 refine⟨Q,T.mono (Nat.le_trans (Tv hn _) ?_)⟩;rw[List.length_map];unfold BD;rw[<-Nat.pow_add,<-Nat.pow_add];exact Pi (a:=15*us.length+(49+20)) (b:=420) aa
def QJ{f}:rhs rw_ us f (fun _=>GQ.i 1 0) (fun _=>GQ.i 0 0)=col (feed rw_ us):=by
 funext i j;show GQ.i 1 0*feed rw_ us i+GQ.i 0 0*unit f i=feed rw_ us i;rw[GQ.jH,GQ.eH,GQ.add_zero']
def PP{f}:rhs rw_ us f (fun _=>GQ.i 0 0) (fun _=>GQ.i 1 0)=col (unit f):=by
 funext i j;show GQ.i 0 0*feed rw_ us i+GQ.i 1 0*unit f i=unit f i;rw[GQ.jH,GQ.eH];generalize unit f i=u;ext<;>simp only[GQ.bQ,GQ.bN,GQ.dE,GQ.dB]<;>grind
def OC{f}:rhs rw_ us f (fun j=>if j=0 then GQ.i 1 0 else GQ.i 0 0) (fun j=>if j=0 then GQ.i 0 0 else GQ.i 1 0)=EZ (feed rw_ us) (unit f):=by
 funext i j;show(if j=0 then GQ.i 1 0 else GQ.i 0 0)*feed rw_ us i+(if j=0 then GQ.i 0 0 else GQ.i 1 0)*unit f i=if j=0 then feed rw_ us i else unit f i;by_cases h:j=0
 .rw[if_pos h,if_pos h,if_pos h,GQ.jH,GQ.eH,GQ.add_zero']
 .rw[if_neg h,if_neg h,if_neg h,GQ.jH,GQ.eH];generalize unit f i=u;ext<;>simp only[GQ.bQ,GQ.bN,GQ.dE,GQ.dB]<;>grind
def BV.den(h:BV L rw_ n us)(hs:∀b∈us,QZ b)(hn:n<=17)(Z:us.length<=23)(f):
  ∃M,M≠GQ.i 0 0/\Wh M BD/\(∀k,Wh (M*p8 L rw_ n us (feed rw_ us) k) BD)/\∀k,Wh (M*p8 L rw_ n us (unit f) k) BD:=by
 obtain⟨Q,T⟩:=Bh (rw_:=rw_) (f:=f) (W:=n+2) (al:=fun j=>if j=0 then GQ.i 1 0 else GQ.i 0 0) (be:=fun j=>if j=0 then GQ.i 0 0 else GQ.i 1 0) hs hn Z aa (fun j=>by split;exact uJ;exact gL _) (fun j=>by split;exact gL _;exact uJ);rw[OC] at T;have C:(ech n (side n (eU zmx (us.map (Nb.br rw_))) (EZ (feed rw_ us) (unit f))) n).r=n:=zV h.psv.full;obtain⟨o,P,F⟩:=kI n (side n (eU zmx (us.map (Nb.br rw_))) (EZ (feed rw_ us) (unit f))) n;obtain⟨M,m0,G,D⟩:=uS F C T;refine⟨M,m0,G,fun k=> ?_,fun k=> ?_⟩
 .cases B:L k with
  |false=>rw[oU B,GQ.bI];exact gL _
  |true=>
   have l:=h.r.lt k B;rw[qU B,(h.psv.Mc (v:=feed rw_ us) (u:=unit f) l).1,EN C l];exact D _ _ l aa
 .cases B:L k with
  |false=>rw[oU B,GQ.bI];exact gL _
  |true=>
   have l:=h.r.lt k B;rw[qU B,(h.psv.Mc (v:=feed rw_ us) (u:=unit f) l).2,EN C l];exact D _ _ l aa
end
def q2 (n:Nat):Nat:=2^n
def TB{a b}(h:a<=b):q2 a<=q2 b:=Pi h
def oP(a b):q2 (a+b)=q2 a*q2 b:=Nat.pow_add 2 a b
def pM(a):q2 (a+1)=q2 a*2:=Nat.pow_succ 2 a
def Cx{a b}(h:a<b):q2 a<2^b:=Nat.pow_lt_pow_right aa h
def p2 (h:Nat):GQ:=GQ.i ((2^h:Nat):Int) 0
def KR:p2 0=GQ.i 1 0:=rfl
theorem Dz(h):p2 (h+1)=GQ.i 2 0*p2 h:=by
 unfold p2;rw[Nat.pow_succ];ext<;>simp only[GQ.aZ,GQ.aX,GQ.dE,GQ.dB]<;>push_cast<;>grind
def VP(h):p2 h≠GQ.i 0 0:=by
 induction h with
 |zero=>rw[KR];decide
 |succ h ih=>rw[Dz];exact GQ.iK aj ih
theorem Vk(h):Wh (p2 h) (q2 h):=nO (by unfold q2;simp)
def Fr (D:GQ) (h e:Nat) (x:GQ):Prop:=Wh (p2 h*(D*x)) (q2 e)
section
variable {D:GQ} {h e:Nat} {x y:GQ}
theorem Fr.of(J:Wh (D*x) (q2 e)):Fr D 0 e x:=by unfold Fr;rw[KR,GQ.jH];exact J
def Fr.le{j}(J:Fr D h e x)(O:e<=j):Fr D h j x:=Wh.mono J (TB O)
theorem Fr.up(J:Fr D h e x):Fr D (h+1) (e+1) x:=by
 unfold Fr at*
 rw[Dz,GQ.bW,pM,Nat.mul_comm];exact Wh.mul (B:=2) ⟨2,0,rfl,aj⟩ J
theorem Fr.add(J:Fr D h e x)(R:Fr D h e y):Fr D h (e+1) (x+y):=by
 unfold Fr at*
 rw[GQ.oG,GQ.oG,pM,Nat.mul_two];exact J.add R
theorem Fr.sub(J:Fr D h e x)(R:Fr D h e y):Fr D h (e+1) (x-y):=by
 unfold Fr at*
 rw[GQ.lD,GQ.lD,pM,Nat.mul_two];exact J.sub R
theorem Fr.RD{c k}(J:Fr D h e x)(hc:Wh c (q2 k)):Fr D h (e+k) (x*c):=by
 unfold Fr at*
 have j:p2 h*(D*(x*c))=p2 h*(D*x)*c:=by ext<;>simp only[GQ.aZ,GQ.aX]<;>grind
 rw[j,oP];exact J.mul hc
def Fr.V4{c k}(J:Fr D h e x)(hc:Wh c (q2 k)):Fr D h (e+k) (c*x):=by rw[GQ.dW];exact J.RD hc
theorem Fr.zero:Fr D h e (GQ.i 0 0):=by unfold Fr;rw[GQ.bI,GQ.bI];exact gL _
theorem Fr.half(J:Fr D h e x):Fr D (h+1) e (x*⟨1/2,0⟩):=by
 unfold Fr at*
 have j:p2 (h+1)*(D*(x*⟨1/2,0⟩))=p2 h*(D*x):=by
  rw[Dz];ext<;>simp only[GQ.aZ,GQ.aX,GQ.dE,GQ.dB]<;>grind
 rw[j];exact J
def wm{x N M a b n}(C:Wh N (q2 a))(j:Wh M (q2 b))(l:M≠GQ.i 0 0)(J:x*M=N)(D:a+b<n)(B:b+b<n):Bd x n:=by
 refine vw C j l J ?_ ?_
 .rw[<-oP];exact Cx D
 .rw[<-oP];exact Cx B
def Fr.bd{d n}(J:Fr D h e x)(B:Wh D (q2 d))(j:D≠GQ.i 0 0)(C:e+(h+d)<n)(l:h+d+(h+d)<n):Bd x n:=by
 have hq:=(Vk h).mul B;rw[<-oP] at hq;refine vw (N:=p2 h*(D*x)) (M:=p2 h*D) J hq (GQ.iK (VP h) j) ?_ ?_ ?_
 .ext<;>simp only[GQ.aZ,GQ.aX]<;>grind
 .rw[<-oP];exact Cx C
 .rw[<-oP];exact Cx l
end
def xe (kind:Int) (v z1 z0 r:GQ) (k:Nat):GQ:=
 if kind<=3 then v/(z1*GQ.i 2 0+z0+r*GQ.i 3 0)
 else if kind<=6 then
  if k=0 then GQ.i 0 0 else if k=1 then v/(z1*GQ.i 2 0+r) else GQ.i 0 0-v/(z1*GQ.i 2 0+r)
 else if kind<=9 then
  if k=0 then GQ.i 0 0-v/(z1+z1*(z0+r*GQ.i 3 0)/(z1+(z0+r*GQ.i 3 0)))*z1/(z1+(z0+r*GQ.i 3 0))
  else if k=1 then v/(z1+z1*(z0+r*GQ.i 3 0)/(z1+(z0+r*GQ.i 3 0)))
  else GQ.i 0 0-v/(z1+z1*(z0+r*GQ.i 3 0)/(z1+(z0+r*GQ.i 3 0)))*(z0+r*GQ.i 3 0)/(z1+(z0+r*GQ.i 3 0))
 else if k=1 then v/(z1+r) else GQ.i 0 0
structure Seen (M0 M1 v z1 z0:GQ):Prop where
 m0:M0≠GQ.i 0 0
 m1:M1≠GQ.i 0 0
 w0:Wh M0 (q2 420)
 w1:Wh M1 (q2 420)
 wv:Wh (M1*v) (q2 420)
 wz1:Wh (M1*z1) (q2 420)
 wz0:Wh (M0*z0) (q2 420)
 i1:0<z1.im
 i0:0<z0.im
structure Gp (K:GQ) (A:Nat->GQ):Prop where
 k0:K≠GQ.i 0 0
 wk:Wh K (q2 1278)
 wa:∀k,Wh (K*A k) (q2 1278)
def gJ{x a b}(h:Wh x (q2 a))(j:a<=b):Wh x (q2 b):=h.mono (TB j)
def dS{x y a b}(J:Wh x (q2 a))(R:Wh y (q2 b)):Wh (x*y) (q2 (a+b)):=by rw[oP];exact J.mul R
def LU{x y a}(J:Wh x (q2 a))(R:Wh y (q2 a)):Wh (x+y) (q2 (a+1)):=by rw[pM,Nat.mul_two];exact J.add R
def Lj{x a}(J:Wh x (q2 a)):Wh (GQ.i 0 0-x) (q2 (a+1)):=by rw[pM,Nat.mul_two];exact(gL (q2 a)).sub J
def UY{m a}(h:m.natAbs<=2^a):Wh (GQ.i m 0) (q2 a):=nO h
def GQ.cancel{a b c}(h:a*c=b*c)(hc:c≠GQ.i 0 0):a=b:=by
 refine GQ.lT ?_;have l:(a-b)*c=GQ.i 0 0:=by
  have:(a-b)*c=a*c-b*c:=by ext<;>simp only[GQ.aZ,GQ.aX,GQ.dI,GQ.dJ]<;>grind
  rw[this,h];ext<;>simp only[GQ.dI,GQ.dJ,GQ.dE,GQ.dB]<;>grind
 by_cases j:a-b=GQ.i 0 0
 .exact j
 .exact absurd l (GQ.iK j hc)
section
variable {M0 M1 v z1 z0:GQ}
def Seen.lin(h:Seen M0 M1 v z1 z0){a b c}(ha:a.natAbs<=2^12)(hb:b.natAbs<=2^12)(hc:c.natAbs<=2^13):Wh (M0*(M1*(z1*GQ.i a 0+z0*GQ.i b 0+GQ.i c 0))) (q2 854):=by
 have e:M0*(M1*(z1*GQ.i a 0+z0*GQ.i b 0+GQ.i c 0))=M0*(M1*z1)*GQ.i a 0+M1*(M0*z0)*GQ.i b 0+M0*M1*GQ.i c 0:=by
  ext<;>simp only[GQ.aZ,GQ.aX,GQ.bQ,GQ.bN]<;>grind
 rw[e];exact LU (a:=853) (LU (a:=852) (gJ (dS (dS h.w0 h.wz1) (UY ha)) aa) (gJ (dS (dS h.w1 h.wz0) (UY hb)) aa)) (gJ (dS (dS h.w0 h.w1) (UY hc)) aa)
def Seen.num(h:Seen M0 M1 v z1 z0):Wh (M0*(M1*v)) (q2 854):=gJ (dS h.w0 h.wv) aa
def Seen.mm(h:Seen M0 M1 v z1 z0){x}(J:x≠GQ.i 0 0):M0*(M1*x)≠GQ.i 0 0:=GQ.iK h.m0 (GQ.iK h.m1 J)
def Seen.ne(h:Seen M0 M1 v z1 z0){a b c}(ha:0<=a)(hb:0<=b)(l:1<=a\/1<=b):z1*GQ.i a 0+z0*GQ.i b 0+GQ.i c 0≠GQ.i 0 0:=by
 refine KV ?_;simp only[GQ.bN,GQ.aX,GQ.dE,GQ.dB];have D:=h.i1;have C:=h.i0;have j:(0:Rat)<=(a:Rat):=by exact_mod_cast ha
 have B:(0:Rat)<=(b:Rat):=by exact_mod_cast hb
 have p1:0<=z1.im*(a:Rat):=Rat.mul_nonneg (Rat.le_of_lt D) j;have P:0<=z0.im*(b:Rat):=Rat.mul_nonneg (Rat.le_of_lt C) B;rcases l with h|h
 .have:(0:Rat)<(a:Rat):=by exact_mod_cast (show 0<a by omega)
  have:=Rat.mul_pos D this
  push_cast
  grind
 .have:(0:Rat)<(b:Rat):=by exact_mod_cast (show 0<b by omega)
  have:=Rat.mul_pos C this
  push_cast
  grind
def Gp.one{S}(h:Seen M0 M1 v z1 z0)(hS:Wh (M0*(M1*S)) (q2 854))(j:S≠GQ.i 0 0){A}(l:∀k,A k=v/S\/A k=GQ.i 0 0\/A k=GQ.i 0 0-v/S):Gp (M0*(M1*S)) A:=by
 have hc:=GQ.gu (x:=v) j;have Y:Wh (M0*(M1*S)*(v/S)) (q2 854):=by
  have e:M0*(M1*S)*(v/S)=M0*(M1*v):=by
   rw[GQ.bW,GQ.bW,GQ.dW S,hc]
  rw[e];exact h.num
 refine⟨h.mm j,gJ hS aa,fun k=> ?_⟩;rcases l k with e|e|e<;>rw[e]
 .exact gJ Y aa
 .rw[GQ.bI];exact gL _
 .rw[GQ.lD,GQ.bI];exact gJ (Lj Y) aa
def Seen.bcg(h:Seen M0 M1 v z1 z0){r}(W:0<=r)(Y:r<=1000):∃K,K≠GQ.i 0 0/\Wh K (q2 1274)/\
  Wh (K*(v/(z1+z1*(z0+GQ.i r 0*GQ.i 3 0)/(z1+(z0+GQ.i r 0*GQ.i 3 0))))) (q2 1274)/\
  Wh (K*(v/(z1+z1*(z0+GQ.i r 0*GQ.i 3 0)/(z1+(z0+GQ.i r 0*GQ.i 3 0)))*(z0+GQ.i r 0*GQ.i 3 0)/(z1+(z0+GQ.i r 0*GQ.i 3 0)))) (q2 1274)/\
  Wh (K*(v/(z1+z1*(z0+GQ.i r 0*GQ.i 3 0)/(z1+(z0+GQ.i r 0*GQ.i 3 0)))*z1/(z1+(z0+GQ.i r 0*GQ.i 3 0)))) (q2 1274)/\
  Bd (z1*(z0+GQ.i r 0*GQ.i 3 0)/(z1+(z0+GQ.i r 0*GQ.i 3 0))) 2600/\z1+(z0+GQ.i r 0*GQ.i 3 0)≠GQ.i 0 0/\z1+z1*(z0+GQ.i r 0*GQ.i 3 0)/(z1+(z0+GQ.i r 0*GQ.i 3 0))≠GQ.i 0 0:=by
 have G:z0+GQ.i r 0*GQ.i 3 0=z1*GQ.i 0 0+z0*GQ.i 1 0+GQ.i (r*3) 0:=by
  ext<;>simp only[GQ.aZ,GQ.aX,GQ.bQ,GQ.bN,GQ.dE,GQ.dB]<;>push_cast<;>grind
 have J:z1+(z0+GQ.i r 0*GQ.i 3 0)=z1*GQ.i 1 0+z0*GQ.i 1 0+GQ.i (r*3) 0:=by
  ext<;>simp only[GQ.aZ,GQ.aX,GQ.bQ,GQ.bN,GQ.dE,GQ.dB]<;>push_cast<;>grind
 have R:z1+(z0+GQ.i r 0*GQ.i 3 0)+(z0+GQ.i r 0*GQ.i 3 0)=z1*GQ.i 1 0+z0*GQ.i 2 0+GQ.i (r*3+r*3) 0:=by
  ext<;>simp only[GQ.aZ,GQ.aX,GQ.bQ,GQ.bN,GQ.dE,GQ.dB]<;>push_cast<;>grind
 have w1:=h.lin (a:=0) (b:=1) (c:=r*3) aj aj aa;have w2:=h.lin (a:=1) (b:=1) (c:=r*3) aj aj aa;have I:=h.lin (a:=1) (b:=2) (c:=r*3+r*3) aj aj aa;have n1:=h.ne (a:=0) (b:=1) (c:=r*3) aj aj (Or.inr aj);have n2:=h.ne (a:=1) (b:=1) (c:=r*3) aj aj (Or.inl aj);have n3:=h.ne (a:=1) (b:=2) (c:=r*3+r*3) aj aj (Or.inl aj);rw[<-G] at w1 n1;rw[<-J] at w2 n2;rw[<-R] at I n3;have P:z1≠GQ.i 0 0:=KV h.i1;generalize z0+GQ.i r 0*GQ.i 3 0=w at w1 n1 w2 n2 I n3⊢;generalize T:z1+w=both at w2 n2 I n3⊢;have L:=GQ.gu (x:=z1*w) n2;generalize z1*w/both=t at L⊢;have V:Bd t 2600:=by
  refine wm (N:=M1*z1*(M0*(M1*w))) (M:=M1*(M0*(M1*both))) (dS h.wz1 w1) (dS h.w1 w2) (GQ.iK h.m1 (h.mm n2)) ?_ aa aa
  .have H:t*(M1*(M0*(M1*both)))=M1*(M0*M1)*(t*both):=by ext<;>simp only[GQ.aZ,GQ.aX]<;>grind
   rw[H,L];ext<;>simp only[GQ.aZ,GQ.aX]<;>grind
 have j:(z1+t)*both=z1*(both+w):=by
  have:(z1+t)*both=z1*both+t*both:=by ext<;>simp only[GQ.aZ,GQ.aX,GQ.bQ,GQ.bN]<;>grind
  rw[this,L,GQ.oG]
 have D:z1+t≠GQ.i 0 0:=by
  intro e;rw[e,GQ.eH] at j;exact GQ.iK P n3 j.symm
 have i1:=GQ.gu (x:=v) D;have F:=D;generalize z1+t=S at i1 j D F⊢;generalize v/S=i at i1⊢;have hi:i*(z1*(both+w))=v*both:=by rw[<-j,<-GQ.bW,i1]
 have o1:=GQ.gu (x:=i*w) n2;have O:=GQ.gu (x:=i*z1) n2;generalize i*w/both=o at o1⊢;generalize i*z1/both=q at O⊢;have Q:o*(z1*(both+w))=v*w:=by
  refine GQ.cancel (c:=both) ?_ n2;have H:o*(z1*(both+w))*both=o*both*(z1*(both+w)):=by rw[GQ.bW,GQ.dW (z1*(both+w)),<-GQ.bW]
  have U:v*w*both=v*both*w:=by rw[GQ.bW,GQ.dW w,<-GQ.bW]
  rw[H,o1,U,<-hi,GQ.bW,GQ.bW,GQ.dW w]
 have hq:q*(both+w)=v:=by
  refine GQ.cancel (c:=both) ?_ n2;have H:q*(both+w)*both=q*both*(both+w):=by rw[GQ.bW,GQ.dW (both+w),<-GQ.bW]
  rw[H,O,GQ.bW,hi]
 have C:Wh (M1*z1*(M0*(M1*(both+w)))*i) (q2 1274):=by
  have e:M1*z1*(M0*(M1*(both+w)))*i=M1*v*(M0*(M1*both)):=by
   have H:M1*z1*(M0*(M1*(both+w)))*i=M1*(M0*M1)*(i*(z1*(both+w))):=by
    generalize both+w=s;ext<;>simp only[GQ.aZ,GQ.aX]<;>grind
   rw[H,hi];ext<;>simp only[GQ.aZ,GQ.aX]<;>grind
  rw[e];exact gJ (dS h.wv w2) aa
 have l:Wh (M1*z1*(M0*(M1*(both+w)))*o) (q2 1274):=by
  have e:M1*z1*(M0*(M1*(both+w)))*o=M1*v*(M0*(M1*w)):=by
   have H:M1*z1*(M0*(M1*(both+w)))*o=M1*(M0*M1)*(o*(z1*(both+w))):=by
    generalize both+w=s;ext<;>simp only[GQ.aZ,GQ.aX]<;>grind
   rw[H,Q];ext<;>simp only[GQ.aZ,GQ.aX]<;>grind
  rw[e];exact gJ (dS h.wv w1) aa
 have B:Wh (M1*z1*(M0*(M1*(both+w)))*q) (q2 1274):=by
  have e:M1*z1*(M0*(M1*(both+w)))*q=M1*z1*(M0*(M1*v)):=by
   have H:M1*z1*(M0*(M1*(both+w)))*q=M1*z1*(M0*M1)*(q*(both+w)):=by
    generalize both+w=s;ext<;>simp only[GQ.aZ,GQ.aX]<;>grind
   rw[H,hq];ext<;>simp only[GQ.aZ,GQ.aX]<;>grind
  rw[e];exact gJ (dS h.wz1 h.num) aa
 exact⟨M1*z1*(M0*(M1*(both+w))),GQ.iK (GQ.iK h.m1 P) (h.mm n3),gJ (dS h.wz1 I) aa,C,l,B,V,n2,F⟩
theorem Seen.cur(h:Seen M0 M1 v z1 z0)(kind){r}(G:0<=r)(I:r<=1000):∃K,Gp K (xe kind v z1 z0 (GQ.i r 0)):=by
 by_cases j:kind<=3
 .have e:z1*GQ.i 2 0+z0+GQ.i r 0*GQ.i 3 0=z1*GQ.i 2 0+z0*GQ.i 1 0+GQ.i (r*3) 0:=by
   ext<;>simp only[GQ.aZ,GQ.aX,GQ.bQ,GQ.bN,GQ.dE,GQ.dB]<;>push_cast<;>grind
  refine⟨_,Gp.one h (h.lin (a:=2) (b:=1) (c:=r*3) aj aj aa) (h.ne aj aj (Or.inl aj)) (fun k=> ?_)⟩
  left;unfold xe;rw[if_pos j,e]
 by_cases D:kind<=6
 .have e:z1*GQ.i 2 0+GQ.i r 0=z1*GQ.i 2 0+z0*GQ.i 0 0+GQ.i r 0:=by
   ext<;>simp only[GQ.aZ,GQ.aX,GQ.bQ,GQ.bN,GQ.dE,GQ.dB]<;>push_cast<;>grind
  refine⟨_,Gp.one h (h.lin (a:=2) (b:=0) (c:=r) aj aj aa) (h.ne aj aj (Or.inl aj)) (fun k=> ?_)⟩;unfold xe;rw[if_neg j,if_pos D,e];split
  .right;left;rfl
  .split
   .left;rfl
   .right;right;rfl
 by_cases F:kind<=9
 .obtain⟨K,k0,H,C,l,B,_⟩:=h.bcg G I;unfold xe;simp only[if_neg j,if_neg D,if_pos F];have neg {x y:GQ} (J:Wh (x*y) (q2 1274)):Wh (x*(GQ.i 0 0-y)) (q2 1278):=by
   rw[GQ.lD,GQ.bI];exact gJ (Lj J) aa
  refine⟨K,k0,gJ H aa,fun k=> ?_⟩;split
  .exact neg B
  .split
   .exact gJ C aa
   .exact neg l
 .have e:z1+GQ.i r 0=z1*GQ.i 1 0+z0*GQ.i 0 0+GQ.i r 0:=by
   ext<;>simp only[GQ.aZ,GQ.aX,GQ.bQ,GQ.bN,GQ.dE,GQ.dB]<;>push_cast<;>grind
  refine⟨_,Gp.one h (h.lin (a:=1) (b:=0) (c:=r) aj aj aa) (h.ne aj aj (Or.inl aj)) (fun k=> ?_)⟩;unfold xe;rw[if_neg j,if_neg D,if_neg F,e];split
  .left;rfl
  .right;left;rfl
def Gp.bd{K A}(h:Gp K A)(k):Bd (A k) 2600:=wm (N:=K*A k) (M:=K) (h.wa k) h.wk h.k0 (GQ.dW _ _) aa aa
def Seen.bd(h:Seen M0 M1 v z1 z0)(kind){r}(j:0<=r)(l:r<=1000)(k):Bd (xe kind v z1 z0 (GQ.i r 0) k) 2600:=by
 obtain⟨K,I⟩:=h.cur kind j l;exact I.bd k
def Seen.neD(h:Seen M0 M1 v z1 z0)(r):z1+GQ.i r 0≠GQ.i 0 0:=by
 have e:z1+GQ.i r 0=z1*GQ.i 1 0+z0*GQ.i 0 0+GQ.i r 0:=by
  ext<;>simp only[GQ.aZ,GQ.aX,GQ.bQ,GQ.bN,GQ.dE,GQ.dB]<;>push_cast<;>grind
 rw[e];exact h.ne aj aj (Or.inl aj)
end
structure qy (nb nl:Nat) (f:dQ):Prop where
 r:0<=f.r/\f.r<=1000
 kind:0<=f.kind/\f.kind<=10
 lk:f.line=true->1<=f.kind
 line:f.line=true->(0<=f.obj/\f.obj<nl)/\(2<=f.den/\f.den<=16)/\1<=f.num/\f.num<=f.den-1
 bus:f.line=false->1<=f.kind->0<=f.obj/\f.obj<nb
theorem qy.of{nb nl f}(h:eD nb nl f=0):qy nb nl f:=by
 unfold eD at h;by_cases D:f=⟨0,false,0,0,0,0⟩
 .subst D;exact⟨⟨aj,aj⟩,⟨aj,aj⟩,(fun e=>by cases e),(fun e=>by cases e),fun _ e=>absurd e (show ¬(1:Int)<=0 by decide)⟩
 rw[if_neg D] at h;by_cases l:btw f.kind 1 10=true
 .rw[if_pos l] at h;rw[eP] at l;generalize hc:(if f.line=true then (nl:Int) else (nb:Int))=j at h;by_cases B:btw f.obj 0 (j-1)=true
  .rw[if_pos B] at h;rw[eP] at B;by_cases Z:f.line=true/\(f.den<2\/16<f.den\/f.num<1\/f.den-1<f.num)
   .rw[if_pos Z] at h;exact absurd h aj
   rw[if_neg Z] at h;by_cases hb:f.line=false/\(f.num≠0\/f.den≠0)
   .rw[if_pos hb] at h;exact absurd h aj
   rw[if_neg hb] at h;by_cases C:btw f.r 0 1000=true
   .rw[eP] at C;refine⟨C,aa,fun _=>l.1,fun e=> ?_,fun e _=> ?_⟩
    .rw[if_pos e] at hc;have:¬(f.den<2\/16<f.den\/f.num<1\/f.den-1<f.num):=fun x=>Z ⟨e,x⟩;omega
    .rw[if_neg (by rw[e];decide)] at hc;omega
   .rw[if_neg C] at h;exact absurd h aj
  .rw[if_neg B] at h;exact absurd h aj
 .rw[if_neg l] at h;exact absurd h aj
structure gF (x:BrD):Prop where
 a:x.a<17
 b:x.b<=17
 n:1<=x.n/\x.n<=15
 d:1<=x.d/\x.d<=16
 z0:okZ x.z0=true
 z1:okZ x.z1=true
 emf:0<=x.emf/\x.emf<=1000000
section
variable {s:StD} {p:dC} {f:dQ}
def kR(h:lG s)(p){k}(j:k<s.buses.length):0<=(groups s p).getD k 0/\((groups s p).getD k 0).toNat<4:=by
 have l:=h.groups p k (by rw[uj];exact j);have:=h.nb;omega
theorem KU(h:lG s)(p){i}(hi:i<s.bays.length)(j:(sides s p i).1.1=1):(sides s p i).1.2.toNat<4:=by
 have G:=h.link hi;unfold sides at j⊢;by_cases l:(s.bays.getD i default).kind=3
 .rw[if_pos l];exact(kR h p (h.bus hi (k:=0) aa).2).2
 .rw[if_neg l] at j⊢;simp only[] at j⊢;unfold uh at j⊢;split
  .exact(kR h p (h.bus hi (k:=0) aa).2).2
  .split
   .rename_i B
    exact(kR h p (h.bus hi (k:=1) B.1).2).2
   .decide
theorem uM(h:lG s)(p){i}(hi:i<s.bays.length)(j:nP s p i=true):13<=kT s p i/\kT s p i<17:=by
 unfold nP at j;simp only[Bool.and_eq_true,decide_eq_true_eq] at j;have:=KU h p hi j.2;unfold kT;omega
theorem UE{x}(h:bS x=true)(j:x.kind=3):okZ x.z=true:=by
 unfold bS at h;rw[if_pos j] at h;simp only[Bool.and_eq_true] at h;exact h.1.1
theorem RU{nl ns x}(h:iX nl ns x=0)(j:x.kind=2):0<=x.obj/\x.obj<ns:=by
 unfold iX at h;rw[if_neg aa,if_pos j] at h;split at h
 .rename_i hb
  rw[eP] at hb;omega
 .exact absurd h aj
theorem Vw{nl ns x}(h:iX nl ns x=0)(j:x.kind=1):0<=x.obj/\x.obj<nl:=by
 unfold iX at h;rw[if_pos j] at h;split at h
 .rename_i hb
  rw[eP] at hb;omega
 .exact absurd h aj
theorem Vb{x}(h:bS x=true):0<=x.en/\x.en<=1:=by
 unfold bS at h;simp only[Bool.and_eq_true] at h;have j:=h.2.1.1.1;rw[eP] at j;split at j<;>omega
theorem Bg(h:lG s){i}(hi:i<s.bays.length){b}(hb:iV s p i=some b):gF b/\13<=b.a/\(b.b=17\/13<=b.b):=by
 unfold iV at hb;simp only[] at hb;split at hb
 .rename_i C
  have hn:=uM h p hi C;split at hb
  .rename_i j
   injection hb with hb;subst hb;have D:=RU (h.obj i hi) j;have hs:=h.src (s.bays.getD i default).obj.toNat aa;unfold jB at hs;simp only[Bool.and_eq_true] at hs;have O:=eP.1 hs.1.1;exact⟨⟨hn.2,ag,ag,ag,hs.2,hs.1.2,⟨by simp only[];omega,by simp only[];omega⟩⟩,hn.1,Or.inl rfl⟩
  .split at hb
   .rename_i j
    injection hb with hb;subst hb;have B:=UE (h.rng i hi) j.1;have G:=h.link hi;have F:=G.2.1 j.1;have H:=kR h p (h.bus hi (k:=1) aa).2;have l:(sides s p i).2.2=(groups s p).getD (iZ s i 1) 0:=by unfold sides;rw[if_pos j.1];rfl
    refine⟨⟨hn.2,?_,ag,ag,B,B,ag⟩,hn.1,Or.inr ?_⟩
    .simp only[l];omega
    .simp only[l];omega
   .cases hb
 .cases hb
theorem ED(h:lG s){l e}(Z:l<6)(O:e<=1):∀n,n<=s.bays.length->Ca s p l e n<17/\Ca s p l e n≠12
 |0,_=>by
  show 2*l+e<17/\2*l+e≠12;omega
 |n+1,hn=>by
  show(if rJ s p l e n=true then kT s p n else Ca s p l e n)<17/\(if rJ s p l e n=true then kT s p n else Ca s p l e n)≠12;split
  .rename_i J
   unfold rJ at J;simp only[Bool.and_eq_true] at J;have:=uM h p (i:=n) aa J.1.1.1;omega
  .exact ED h Z O n aa
theorem yJ(h:lG s)(F:qy s.buses.length s.lines.length f){l e}(Z:l<s.lines.length)(O:e<=1):gF (half s p f l e):=by
 have G:=h.nl;have j:=h.line l Z;have C:=ED (p:=p) h (l:=l) (e:=e) aa O _ (Nat.le_refl _);have D:=ED (p:=p) h (l:=l) (e:=1-e) aa aa _ (Nat.le_refl _);unfold half;simp only[];split
 .rename_i B
  unfold qY at B;simp only[Bool.and_eq_true,decide_eq_true_eq] at B;have:=F.line B.1;refine⟨C.1,ag,?_,by simp only[];omega,j.2,j.1,ag⟩;simp only[];split<;>omega
 .exact⟨C.1,Nat.le_of_lt D.1,ag,ag,j.2,j.1,ag⟩
def Du(h:lG s):∀n,n<=s.bays.length->(gQ s p n).length<=n/\∀b∈gQ s p n,gF b
 |0,_=>⟨Nat.le_refl _,by simp[gQ]⟩
 |n+1,hn=>by
  have B:=Du h n aa;show(gQ s p n++(iV s p n).toList).length<=n+1/\∀b∈gQ s p n++(iV s p n).toList,gF b;cases hb:iV s p n with
  |none=>exact⟨ae,by simpa using B.2⟩
  |some c=>
   refine⟨ae,fun b j=> ?_⟩;rw[List.mem_append] at j;rcases j with l|l
   .exact B.2 b l
   .simp only[Option.toList_some,List.mem_singleton] at l;subst l;exact(Bg h aa hb).1
theorem IZ(l):(uA s p f l).length=if qY f l=true then 2 else 1:=by
 unfold uA;split<;>rfl
theorem Iz{l B}(h:qY f l=true)(I:qY f B=true):l=B:=by
 unfold qY at h I;simp only[Bool.and_eq_true,decide_eq_true_eq] at h I;omega
theorem zX(h:lG s)(C:qy s.buses.length s.lines.length f):∀n,n<=s.lines.length->((jS s p f n).length<=n+1/\((∀l,l<n->qY f l=false)->(jS s p f n).length<=n))/\∀b∈jS s p f n,gF b
 |0,_=>⟨⟨by simp[jS],by simp[jS]⟩,by simp[jS]⟩
 |n+1,hn=>by
  have B:=zX h C n aa;have D:=IZ (s:=s) (p:=p) (f:=f) n;show((jS s p f n++uA s p f n).length<=n+1+1/\(_->(jS s p f n++uA s p f n).length<=n+1))/\∀b∈jS s p f n++uA s p f n,gF b;rw[List.length_append,D];refine⟨⟨?_,fun j=> ?_⟩,fun b hb=> ?_⟩
  .split
   .rename_i j
    have:=B.1.2 (fun l Z=>by
     cases J:qY f l with
     |false=>rfl
     |true=>have:=Iz j J;omega)
    omega
   .have:=B.1.1;omega
  .rw[if_neg (by rw[j n aa];decide)];have:=B.1.2 (fun l Z=>j l aa);omega
  .rw[List.mem_append] at hb;rcases hb with hb|hb
   .exact B.2 b hb
   .unfold uA at hb;split at hb
    .simp only[List.mem_cons,List.not_mem_nil,or_false] at hb;rcases hb with rfl|rfl
     .exact yJ h C aa aa
     .exact yJ h C aa aa
    .simp only[List.mem_cons,List.not_mem_nil,or_false] at hb;subst hb;exact yJ h C aa aa
theorem Dk(h:lG s)(l:qy s.buses.length s.lines.length f):(cZ s p f).length<=23/\∀b∈cZ s p f,gF b:=by
 have B:=Du (p:=p) h _ (Nat.le_refl _);have j:=zX (p:=p) h l _ (Nat.le_refl _);have:=h.nq;have:=h.nl;refine⟨by unfold cZ;rw[List.length_append];omega,fun b hb=> ?_⟩;rw[cZ,List.mem_append] at hb;rcases hb with hb|hb
 .exact B.2 b hb
 .exact j.2 b hb
theorem FK(h:lG s)(l:qy s.buses.length s.lines.length f)(p):fH s p f<=17/\(f.kind≠0->fH s p f<17):=by
 unfold fH;split
 .omega
 .rename_i Z
  split
  .rename_i j;exact⟨aa,fun e=>absurd j e⟩
  .rename_i j
   have hb:=l.bus (by simpa using Z) (by have:=l.kind;omega);have:=kR h p (k:=f.obj.toNat) aa;omega
end
inductive JoinD (bs:List BrD):Nat->Prop
 |neutral (b:BrD) (h:b∈bs) (hn:b.b=17):JoinD bs b.a
 |fro (b:BrD) (h:b∈bs) (hn:b.b≠17) (hq:JoinD bs b.b):JoinD bs b.a
 |fwd (b:BrD) (h:b∈bs) (hn:b.b≠17) (hp:JoinD bs b.a):JoinD bs b.b
noncomputable def lv (bs:List BrD) (k:Nat):Bool:= @decide (JoinD bs k) (Classical.propDecidable _)
section
variable {bs:List BrD}
theorem ou{k}:lv bs k=true↔JoinD bs k:=by
 unfold lv;exact @decide_eq_true_iff _ (Classical.propDecidable _)
def JoinD.lt{k}(hb:∀b∈bs,gF b)(h:JoinD bs k):k<17:=by
 cases h with
 |neutral b h hn=>exact(hb b h).a
 |fro b h hn hq=>exact(hb b h).a
 |fwd b h hn hp=>have:=(hb b h).b;omega
def JoinD.live{L}(j:xy bs L)(hb:∀b∈bs,gF b){k}(h:JoinD bs k):L k=true:=by
 induction h with
 |neutral b h hn=>exact(j.closed b h (Or.inl hn)).1 AbN
 |fro b h hn _ ih=>exact(j.closed b h (Or.inr (Or.inr ih))).1 AbN
 |fwd b h hn _ ih=>exact(j.closed b h (Or.inr (Or.inl ih))).2 hn
def Vr{L}(hb:∀b∈bs,gF b)(j:xy bs L)(B:∀k,L k=true->JoinD bs k):L=lv bs:=by
 funext k;cases h:L k with
 |true=>exact(ou.2 (B k h)).symm
 |false=>
  cases l:lv bs k with
  |false=>rfl
  |true=>rw[(ou.1 l).live j hb] at h;cases h
def sN(hb:∀b∈bs,gF b){k}(h:lv bs k=true):k<17:=(ou.1 h).lt hb
def Aw(hb:∀b∈bs,gF b):xy bs (lv bs):=by
 refine⟨fun b h Z=> ?_,?_⟩
 .rcases Z with Z|Z|Z
  .exact⟨fun _=>ou.2 (.neutral b h Z),fun hn=>absurd Z hn⟩
  .refine⟨fun _=>Z,fun hn=>ou.2 (.fwd b h hn (ou.1 Z))⟩
  .have:b.b≠17:=by have:=sN hb Z;omega
   exact⟨fun _=>ou.2 (.fro b h this (ou.1 Z)),fun _=>Z⟩
 .cases h:lv bs 17 with
  |false=>rfl
  |true=>have:=sN hb h;omega
end
def cnt (L:Nat->Bool):Nat->Nat
 |0=>0
 |k+1=>cnt L k+(if L k=true then 1 else 0)
def rwx (L:Nat->Bool) (k:Nat):Nat:=if L k=true then cnt L k else 0
section
variable {L:Nat->Bool}
def cnt_mono:∀{j k:Nat},j<=k->cnt L j<=cnt L k
 |j,0,h=>by rw[show j=0 by omega];exact Nat.le_refl _
 |j,k+1,h=>by
  by_cases e:j=k+1
  .rw[e];exact Nat.le_refl _
  .have:=cnt_mono (j:=j) (k:=k) aa;show _<=cnt L k+_;omega
def cnt_lt{j k}(B:L j=true)(h:j<k):cnt L j<cnt L k:=by
 have C:cnt L (j+1)<=cnt L k:=cnt_mono h;have l:cnt L (j+1)=cnt L j+(if L j=true then 1 else 0):=rfl;rw[if_pos B] at l;omega
def Jh(k):cnt L k<=k:=by
 induction k with
 |zero=>exact Nat.le_refl _
 |succ k ih=>
  show cnt L k+_<=_;split<;>omega
def FU:∀{k i:Nat},i<cnt L k->∃j,j<k/\L j=true/\cnt L j=i
 |0,i,h=>absurd h (by show ¬i<0;omega)
 |k+1,i,h=>by
  have I:i<cnt L k+(if L k=true then 1 else 0):=h;by_cases B:i<cnt L k
  .obtain⟨j,F,C,D⟩:=FU B;exact⟨j,aa,C,D⟩
  .by_cases l:L k=true
   .rw[if_pos l] at I;exact⟨k,aa,l,aa⟩
   .rw[if_neg l] at I;omega
theorem Rwx.of(h:∀k,L k=true->k<17):Rwx L (rwx L) (cnt L 18):=by
 refine⟨fun k l=> ?_,fun j k C l e=> ?_,fun i hi=> ?_⟩
 .unfold rwx;rw[if_pos l];exact cnt_lt l (by have:=h k l;omega)
 .unfold rwx at e;rw[if_pos C,if_pos l] at e;by_cases D:j<k
  .have:=cnt_lt C D;omega
  .by_cases B:k<j
   .have:=cnt_lt l B;omega
   .omega
 .obtain⟨j,_,B,F⟩:=FU hi;exact⟨j,B,by unfold rwx;rw[if_pos B];exact F⟩
def EA(h:L 17=false):cnt L 18<=17:=by
 show cnt L 17+(if L 17=true then 1 else 0)<=17;rw[h];have:=Jh (L:=L) 17;simpa using this
end
def BrD.zs (b:BrD) (sq:Nat):GQ:=zq (if sq=0 then b.z0 else b.z1) b.n b.d
def BrD.nb (sq:Nat) (b:BrD):Nb:=⟨b.a,b.b,GQ.i 1 0/b.zs sq,GQ.i b.emf 0⟩
def used (L:Nat->Bool) (b:BrD):Bool:=L b.a&&decide (b.a≠b.b)
def usd (L:Nat->Bool) (sq:Nat) (bs:List BrD):List Nb:=(bs.filter (used L)).map (BrD.nb sq)
def yx{a b:Rat}(ha:0<a)(hb:0<b):0<a/b:=by rw[Rat.div_def];exact Rat.mul_pos ha (Rat.inv_pos.2 hb)
theorem KI(z:Imp){n d}(D:okZ z=true)(hn:1<=n/\n<=15)(hd:1<=d/\d<=16):0<(zq z n d).im/\∃j:GQ,j≠GQ.i 0 0/\Wh j 32000/\zq z n d*GQ.i d 0=j:=by
 have C:=D7.1 D;have B:(0:Rat)<(d:Rat):=by exact_mod_cast (show 0<d by omega)
 have J:1<=n*z.x:=by have:=Int.mul_le_mul hn.1 C.2.1 aa aa;omega
 have P:n*z.x<=15000:=by have:=Int.mul_le_mul hn.2 C.2.2 aa aa;omega
 have H:0<=n*z.r:=Int.mul_nonneg aa C.1.1;have l:n*z.r<=15000:=by have:=Int.mul_le_mul hn.2 C.1.2 C.1.1 aa;omega
 refine⟨?_,GQ.i (n*z.r) (n*z.x),?_,⟨_,_,rfl,aa⟩,?_⟩
 .show 0<((n*z.x:Int):Rat)/(d:Rat);have:(0:Rat)<((n*z.x:Int):Rat):=by exact_mod_cast (show 0<n*z.x by omega)
  exact yx this B
 .intro e;have F:((n*z.x:Int):Rat)=((0:Int):Rat):=congrArg GQ.im e;have G:n*z.x=0:=by exact_mod_cast F
  omega
 .unfold zq;ext<;>simp only[GQ.aZ,GQ.aX,GQ.dE,GQ.dB]<;>grind
section
variable {b:BrD}
def gF.zi(h:gF b)(sq):okZ (if sq=0 then b.z0 else b.z1)=true:=by split;exact h.z0;exact h.z1
def gF.ne(h:gF b)(sq):b.zs sq≠GQ.i 0 0:=KV (KI _ (h.zi sq) h.n h.d).1
def K6{z}(h:z≠GQ.i 0 0):GQ.i 1 0/z*z=GQ.i 1 0:=GQ.gu h
def uC{z}(h:0<z.im):(GQ.i 1 0/z).im<0:=by
 have j:=KV h;have hn:=QY j;show(((0:Int):Rat)*z.re-((1:Int):Rat)*z.im)/z.nrm<0;have e:(((0:Int):Rat)*z.re-((1:Int):Rat)*z.im)/z.nrm= -(z.im/z.nrm):=ak;rw[e];have:=yx h hn;grind
def gF.sz(h:gF b)(sq):QZ (b.nb sq):=by
 obtain⟨D,j,l,B,C⟩:=KI _ (h.zi sq) h.n h.d;have hd:=h.d;refine⟨⟨j,b.d.toNat,l,B,?_,aa⟩,nO (by have:=h.emf;show b.emf.natAbs<=_;omega)⟩;show GQ.i 1 0/b.zs sq*j=_;rw[<-C,<-GQ.bW];show GQ.i 1 0/b.zs sq*b.zs sq*_=_;rw[K6 (h.ne sq),GQ.jH,show((b.d.toNat:Nat):Int)=b.d by omega]
def gF.im(h:gF b)(sq):(b.nb sq).y.im<0:=uC (KI _ (h.zi sq) h.n h.d).1
end
theorem wY{bs}(hb:∀b∈bs,gF b)(sq):BV (lv bs) (rwx (lv bs)) (cnt (lv bs) 18) (usd (lv bs) sq bs):=by
 have D:=Aw hb;refine⟨Rwx.of (fun k j=>sN hb j),⟨D.none,fun c hc=> ?_⟩,fun c hc=> ?_,fun k j=> ?_⟩
 .obtain⟨b,C,rfl⟩:=List.mem_map.1 hc;obtain⟨F,l⟩:=List.mem_filter.1 C;unfold used at l;simp only[Bool.and_eq_true,decide_eq_true_eq] at l;refine⟨l.1,?_,l.2⟩;by_cases e:b.b=17
  .exact Or.inl e
  .exact Or.inr ((D.closed b F (Or.inr (Or.inl l.1))).2 e)
 .obtain⟨b,C,rfl⟩:=List.mem_map.1 hc;exact(hb b (List.mem_filter.1 C).1).im sq
 .replace j:=ou.1 j;have mem {b:BrD} (h:b∈bs) (ha:JoinD bs b.a) (B:b.a≠b.b):b.nb sq∈usd (lv bs) sq bs:=
   List.mem_map_of_mem (List.mem_filter.2 ⟨h,by unfold used;simp[ou.2 ha,B]⟩)
  induction j with
  |neutral b h hn=>exact JoinN.neutral (b.nb sq) (mem h (.neutral b h hn) AbN) hn
  |fro b h hn hq ih=>
   by_cases e:b.a=b.b
   .rw[e];exact ih
   .exact JoinN.fro (b.nb sq) (mem h (.fro b h hn hq) e) hn ih
  |fwd b h hn hp ih=>
   by_cases e:b.a=b.b
   .rw[<-e];exact ih
   .exact JoinN.fwd (b.nb sq) (mem h hp e) hn ih
theorem NI{bs}(hb:∀b∈bs,gF b)(Z:bs.length<=23)(L sq):(usd L sq bs).length<=23/\∀b∈usd L sq bs,QZ b:=by
 refine⟨?_,fun c hc=> ?_⟩
 .unfold usd;rw[List.length_map];have:=List.length_filter_le (used L) bs;omega
 .obtain⟨b,j,rfl⟩:=List.mem_map.1 hc;exact(hb b (List.mem_filter.1 j).1).sz sq
def KC{s i}(hi:i<s.size):(s[i]'hi).toNat=uR s i:=by
 have j:i<s.data.size:=hi;show(s.data[i]'j).toNat=(s.data.getD i 0).toNat;rw[Array.getD,dif_pos j];rfl
def jk{s k}(h:∀j,j<k->iJ s j=true)(g:iJ s k=true)(j)(l:j<k+1):iJ s j=true:=by
 by_cases e:j=k
 .rw[e];exact g
 .exact h j aa
def Cv(s i):uR s i<256:=(s.data.getD i 0).toNat_lt
def Kv{s i l}(h:uR s i=l):iJ s i=(dD l||(decide (0<i)&&dV l)):=by rw[<-h];rfl
def nc0(l:Nat)(h:0<=l)(g:l<=47):decide ((97:Int)<=(l:Int))=false/\(¬(97:Int)<=(l:Int))/\decide ((65:Int)<=(l:Int))=false/\(¬(65:Int)<=(l:Int))/\decide ((48:Int)<=(l:Int))=false/\(¬(48:Int)<=(l:Int))/\decide ((l:Int)<=122)=true/\(l:Int)<=122/\decide ((l:Int)<=90)=true/\(l:Int)<=90/\decide ((l:Int)<=57)=true/\(l:Int)<=57/\decide ((l:Int)<48)=true/\(l:Int)<48/\decide ((57:Int)<(l:Int))=false/\(¬(57:Int)<(l:Int))/\((l:Int)==95)=false/\((l:Int) !=95)=true/\(¬(l:Int)=95):=by
 refine⟨?_,?_,?_,?_,?_,?_,?_,?_,?_,?_,?_,?_,?_,?_,?_,?_,?_,?_,?_⟩<;>first|omega|(simp;omega)|simp
def nc1(l:Nat)(h:48<=l)(g:l<=57):decide ((97:Int)<=(l:Int))=false/\(¬(97:Int)<=(l:Int))/\decide ((65:Int)<=(l:Int))=false/\(¬(65:Int)<=(l:Int))/\decide ((48:Int)<=(l:Int))=true/\(48:Int)<=(l:Int)/\decide ((l:Int)<=122)=true/\(l:Int)<=122/\decide ((l:Int)<=90)=true/\(l:Int)<=90/\decide ((l:Int)<=57)=true/\(l:Int)<=57/\decide ((l:Int)<48)=false/\(¬(l:Int)<48)/\decide ((57:Int)<(l:Int))=false/\(¬(57:Int)<(l:Int))/\((l:Int)==95)=false/\((l:Int) !=95)=true/\(¬(l:Int)=95):=by
 refine⟨?_,?_,?_,?_,?_,?_,?_,?_,?_,?_,?_,?_,?_,?_,?_,?_,?_,?_,?_⟩<;>first|omega|(simp;omega)|simp
def nc2(l:Nat)(h:58<=l)(g:l<=64):decide ((97:Int)<=(l:Int))=false/\(¬(97:Int)<=(l:Int))/\decide ((65:Int)<=(l:Int))=false/\(¬(65:Int)<=(l:Int))/\decide ((48:Int)<=(l:Int))=true/\(48:Int)<=(l:Int)/\decide ((l:Int)<=122)=true/\(l:Int)<=122/\decide ((l:Int)<=90)=true/\(l:Int)<=90/\decide ((l:Int)<=57)=false/\(¬(l:Int)<=57)/\decide ((l:Int)<48)=false/\(¬(l:Int)<48)/\decide ((57:Int)<(l:Int))=true/\(57:Int)<(l:Int)/\((l:Int)==95)=false/\((l:Int) !=95)=true/\(¬(l:Int)=95):=by
 refine⟨?_,?_,?_,?_,?_,?_,?_,?_,?_,?_,?_,?_,?_,?_,?_,?_,?_,?_,?_⟩<;>first|omega|(simp;omega)|simp
def nc3(l:Nat)(h:65<=l)(g:l<=90):decide ((97:Int)<=(l:Int))=false/\(¬(97:Int)<=(l:Int))/\decide ((65:Int)<=(l:Int))=true/\(65:Int)<=(l:Int)/\decide ((48:Int)<=(l:Int))=true/\(48:Int)<=(l:Int)/\decide ((l:Int)<=122)=true/\(l:Int)<=122/\decide ((l:Int)<=90)=true/\(l:Int)<=90/\decide ((l:Int)<=57)=false/\(¬(l:Int)<=57)/\decide ((l:Int)<48)=false/\(¬(l:Int)<48)/\decide ((57:Int)<(l:Int))=true/\(57:Int)<(l:Int)/\((l:Int)==95)=false/\((l:Int) !=95)=true/\(¬(l:Int)=95):=by
 refine⟨?_,?_,?_,?_,?_,?_,?_,?_,?_,?_,?_,?_,?_,?_,?_,?_,?_,?_,?_⟩<;>first|omega|(simp;omega)|simp
def nc4(l:Nat)(h:95<=l)(g:l<=95):decide ((97:Int)<=(l:Int))=false/\(¬(97:Int)<=(l:Int))/\decide ((65:Int)<=(l:Int))=true/\(65:Int)<=(l:Int)/\decide ((48:Int)<=(l:Int))=true/\(48:Int)<=(l:Int)/\decide ((l:Int)<=122)=true/\(l:Int)<=122/\decide ((l:Int)<=90)=false/\(¬(l:Int)<=90)/\decide ((l:Int)<=57)=false/\(¬(l:Int)<=57)/\decide ((l:Int)<48)=false/\(¬(l:Int)<48)/\decide ((57:Int)<(l:Int))=true/\(57:Int)<(l:Int)/\((l:Int)==95)=true/\((l:Int) !=95)=false/\(l:Int)=95:=by
 refine⟨?_,?_,?_,?_,?_,?_,?_,?_,?_,?_,?_,?_,?_,?_,?_,?_,?_,?_,?_⟩<;>first|omega|(simp;omega)|simp
def nc5(l:Nat)(h:97<=l)(g:l<=122):decide ((97:Int)<=(l:Int))=true/\(97:Int)<=(l:Int)/\decide ((65:Int)<=(l:Int))=true/\(65:Int)<=(l:Int)/\decide ((48:Int)<=(l:Int))=true/\(48:Int)<=(l:Int)/\decide ((l:Int)<=122)=true/\(l:Int)<=122/\decide ((l:Int)<=90)=false/\(¬(l:Int)<=90)/\decide ((l:Int)<=57)=false/\(¬(l:Int)<=57)/\decide ((l:Int)<48)=false/\(¬(l:Int)<48)/\decide ((57:Int)<(l:Int))=true/\(57:Int)<(l:Int)/\((l:Int)==95)=false/\((l:Int) !=95)=true/\(¬(l:Int)=95):=by
 refine⟨?_,?_,?_,?_,?_,?_,?_,?_,?_,?_,?_,?_,?_,?_,?_,?_,?_,?_,?_⟩<;>first|omega|(simp;omega)|simp
def nc6(l:Nat)(h:123<=l)(g:l<=255):decide ((97:Int)<=(l:Int))=true/\(97:Int)<=(l:Int)/\decide ((65:Int)<=(l:Int))=true/\(65:Int)<=(l:Int)/\decide ((48:Int)<=(l:Int))=true/\(48:Int)<=(l:Int)/\decide ((l:Int)<=122)=false/\(¬(l:Int)<=122)/\decide ((l:Int)<=90)=false/\(¬(l:Int)<=90)/\decide ((l:Int)<=57)=false/\(¬(l:Int)<=57)/\decide ((l:Int)<48)=false/\(¬(l:Int)<48)/\decide ((57:Int)<(l:Int))=true/\(57:Int)<(l:Int)/\((l:Int)==95)=false/\((l:Int) !=95)=true/\(¬(l:Int)=95):=by
 refine⟨?_,?_,?_,?_,?_,?_,?_,?_,?_,?_,?_,?_,?_,?_,?_,?_,?_,?_,?_⟩<;>first|omega|(simp;omega)|simp
def Cu(s w):
  Calls Tryz.prog 63 #[.string s] w fun e w'=>e=.returned (.bool (fT s))/\w'=w:=by
 by_cases h0:s.size=0\/12<s.size
 .have Q:=aJ (x9 h0);rcases h0 with h0|h0
  .have hs:s=ByteArray.empty:=by
    cases s with
    |mk d=>exact congrArg ByteArray.mk (Array.eq_empty_of_size_eq_zero h0)
   subst hs;go_enter Tryz.func63,Tryz.ntmps63;exact Acm
  .have t1:decide ((s.size:Int)<1)=false:=ae;have t2:¬(s.size:Int)<1:=aa;have t3:decide ((12:Int)<(s.size:Int))=true:=ae;have t4:(12:Int)<(s.size:Int):=aa;have t5:((s.size:Int)==0)=false:=by simp;intro e;rw[e] at h0;simp at h0
   have t6:¬(s.size:Int)=0:=aa;have t7:¬s=ByteArray.empty:=by intro e;rw[e] at h0;simp at h0
   clear h0;go_enter Tryz.func63,Tryz.ntmps63;exact Acm
 .have hp:0<s.size:=aa;have hm:s.size<=12:=aa;have t1:decide ((s.size:Int)<1)=false:=ae;have t2:¬(s.size:Int)<1:=aa;have t3:decide ((12:Int)<(s.size:Int))=false:=ae;have t4:¬(12:Int)<(s.size:Int):=aa;have t5:((s.size:Int)==0)=false:=by simp;intro e;rw[e] at hp;simp at hp
  have t6:¬(s.size:Int)=0:=aa;have t7:¬s=ByteArray.empty:=by intro e;rw[e] at hp;simp at hp
  clear h0;go_enter Tryz.func63,Tryz.ntmps63;go_wp2_with fail
  go_loop [3] (fun i=>∃k:Nat,k<=s.size/\i=.int .i64 (k:Int)/\∀j,j<k->iJ s j=true) (fun i=>s.size-(intOf i).toNat)
  case atStart=>exact⟨0,aa,rfl,fun j hj=>absurd hj aa⟩
  case round=>
   exact Aaa
def G9(s w):
  Calls Tryz.prog 70 #[.string s] w fun e w'=>e=.returned (.bool (fT s))/\w'=w:=by
 by_cases h0:s.size=0\/12<s.size
 .have Q:=aJ (x9 h0);rcases h0 with h0|h0
  .have hs:s=ByteArray.empty:=by
    cases s with
    |mk d=>exact congrArg ByteArray.mk (Array.eq_empty_of_size_eq_zero h0)
   subst hs;go_enter Tryz.func70,Tryz.ntmps70;exact Acm
  .have t1:decide ((s.size:Int)<1)=false:=ae;have t2:¬(s.size:Int)<1:=aa;have t3:decide ((12:Int)<(s.size:Int))=true:=ae;have t4:(12:Int)<(s.size:Int):=aa;have t5:((s.size:Int)==0)=false:=by simp;intro e;rw[e] at h0;simp at h0
   have t6:¬(s.size:Int)=0:=aa;have t7:¬s=ByteArray.empty:=by intro e;rw[e] at h0;simp at h0
   clear h0;go_enter Tryz.func70,Tryz.ntmps70;exact Acm
 .have hp:0<s.size:=aa;have hm:s.size<=12:=aa;have t1:decide ((s.size:Int)<1)=false:=ae;have t2:¬(s.size:Int)<1:=aa;have t3:decide ((12:Int)<(s.size:Int))=false:=ae;have t4:¬(12:Int)<(s.size:Int):=aa;have t5:((s.size:Int)==0)=false:=by simp;intro e;rw[e] at hp;simp at hp
  have t6:¬(s.size:Int)=0:=aa;have t7:¬s=ByteArray.empty:=by intro e;rw[e] at hp;simp at hp
  clear h0;go_enter Tryz.func70,Tryz.ntmps70;go_wp2_with fail
  go_loop [17] (fun i=>∃k:Nat,k<=s.size/\i=.int .i64 (k:Int)/\∀j,j<k->iJ s j=true) (fun i=>s.size-(intOf i).toNat)
  case atStart=>exact⟨0,aa,rfl,fun j hj=>absurd hj aa⟩
  case round=>
   exact Aaa
def bf(x lo hi w):
  Calls Tryz.prog 109 #[.int .i64 x,.int .i64 lo,.int .i64 hi] w fun e w'=>e=.returned (.bool (btw x lo hi))/\w=w':=by
 go_enter Tryz.func109,Tryz.ntmps109;go_wp2
 .go_ret;simp_all [btw]
 .go_ret;simp_all [btw];omega
def cK(x lo hi w):
  Calls Tryz.prog 116 #[.int .i64 x,.int .i64 lo,.int .i64 hi] w fun e w'=>e=.returned (.bool (btw x lo hi))/\w=w':=by
 go_enter Tryz.func116,Tryz.ntmps116;go_wp2
 .go_ret;simp_all [btw]
 .go_ret;simp_all [btw];omega
def QL (z:Imp):Value:=.agg #[.int .i64 z.r,.int .i64 z.x]
theorem bD(z:Imp)(w):
  Calls Tryz.prog 66 #[QL z] w fun e w'=>e=.returned (.bool (okZ z))/\w'=w.alloc (.cells #[.int .i64 z.r,.int .i64 z.x] 54):=by
 obtain⟨r,x⟩:=z;unfold QL;dsimp only;cases h:btw r 0 1000
 .have T:Hid (okZ ⟨r,x⟩=false):=aJ (by simp[okZ,h]);exact Aa5
 .have T:Hid (okZ ⟨r,x⟩=btw x 1 1000):=aJ (by simp[okZ,h]);exact Aa5
theorem bK(z:Imp)(w):
  Calls Tryz.prog 115 #[QL z] w fun e w'=>e=.returned (.bool (okZ z))/\w'=w.alloc (.cells #[.int .i64 z.r,.int .i64 z.x] 54):=by
 obtain⟨r,x⟩:=z;unfold QL;dsimp only;cases h:btw r 0 1000
 .have T:Hid (okZ ⟨r,x⟩=false):=aJ (by simp[okZ,h]);exact Aa4
 .have T:Hid (okZ ⟨r,x⟩=btw x 1 1000):=aJ (by simp[okZ,h]);exact Aa4
def Q7 (g:Ce):Value:=.agg #[.string g.name,.int .i64 g.emf,.int .i64 g.z1.r,.int .i64 g.z1.x,.int .i64 g.z0.r,.int .i64 g.z0.x]
theorem ym(g w):
  CE 67 #[Q7 g] w (.bool (jB g)):=by
 obtain⟨nm,emf,⟨r1,j⟩,⟨r0,l⟩⟩:=g;unfold Q7;dsimp only;cases h:btw emf 1 1000000
 .have T:Hid (jB ⟨nm,emf,⟨r1,j⟩,⟨r0,l⟩⟩=false):=aJ (by simp[jB,h]);go_enter Tryz.func67,Tryz.ntmps67;(go_wp2_with (go_at_call 109;refine(bf _ _ _ _).mono ?_;rintro e w1 ⟨rfl,rfl⟩));go_ret;exact⟨aQ T.symm,Ext.new _ _⟩
 .cases B:okZ ⟨r1,j⟩
  .have T:Hid (jB ⟨nm,emf,⟨r1,j⟩,⟨r0,l⟩⟩=false):=aJ (by simp[jB,h,B]);go_enter Tryz.func67,Tryz.ntmps67;(go_wp2_with (first|(go_at_call 109;refine(bf _ _ _ _).mono ?_;rintro e w1 ⟨rfl,rfl⟩)|(go_at_call 66;refine(bD ⟨_,_⟩ _).mono ?_;rintro e w1 ⟨rfl,rfl⟩)));go_ret;exact⟨aQ T.symm,(Ext.new _ _).trans (Ext.new _ _)⟩
  .have T:Hid (jB ⟨nm,emf,⟨r1,j⟩,⟨r0,l⟩⟩=okZ ⟨r0,l⟩):=aJ (by simp[jB,h,B]);go_enter Tryz.func67,Tryz.ntmps67;(go_wp2_with (first|(go_at_call 109;refine(bf _ _ _ _).mono ?_;rintro e w1 ⟨rfl,rfl⟩)|(go_at_call 66;refine(bD ⟨_,_⟩ _).mono ?_;rintro e w1 ⟨rfl,rfl⟩)));go_ret;exact⟨aQ T.symm,((Ext.new _ _).trans (Ext.new _ _)).trans (Ext.new _ _)⟩
def yF (b:gD) (A:Option Addr) (n c:Nat):Value:=
 .agg #[.string b.name,.int .i64 b.kind,.int .i64 b.obj,.int .i64 b.en,.int .i64 b.z.r,.int .i64 b.z.x,.slice A n c,.bool b.closed,.int .i64 b.ct,.int .i64 b.vt,.int .i64 b.sat,.int .i64 b.travel]
theorem Ju(b A n c w):
  CE 117 #[yF b A n c] w (.bool (bS b)):=by
 obtain⟨nm,kd,obj,en,⟨r,x⟩,B,l,ct,vt,sat,j⟩:=b;unfold yF;dsimp only;by_cases F:kd=3
 .subst F;cases h:okZ ⟨r,x⟩
  .skip;have T:Hid (bS ⟨nm,3,obj,en,⟨r,x⟩,B,l,ct,vt,sat,j⟩=false):=aJ (by simp[bS,h]);exact AbP
  by_cases hv:vt=0
  .subst hv;cases C:btw en 0 0
   .skip;have T:Hid (bS ⟨nm,3,obj,en,⟨r,x⟩,B,l,ct,0,sat,j⟩=false):=aJ (by simp[bS,h,C]);exact AbP
   cases D:btw ct 1 100
   .skip;have T:Hid (bS ⟨nm,3,obj,en,⟨r,x⟩,B,l,ct,0,sat,j⟩=false):=aJ (by simp[bS,h,C,D]);exact AbP
   cases G:btw sat 0 16383
   .skip;have T:Hid (bS ⟨nm,3,obj,en,⟨r,x⟩,B,l,ct,0,sat,j⟩=false):=aJ AcY;exact AbP
   have T:Hid (bS ⟨nm,3,obj,en,⟨r,x⟩,B,l,ct,0,sat,j⟩=btw j 1 6):=aJ AcY;exact AbP
  have v1:((vt:Int)==0)=false:=ae;have M:((vt:Int) !=0)=true:=ae;have T:Hid (bS ⟨nm,3,obj,en,⟨r,x⟩,B,l,ct,vt,sat,j⟩=false):=aJ (by simp[bS,h,hv]);exact AbP
 have O:((kd:Int)==3)=false:=ae;by_cases K:r=0/\x=0
 .obtain⟨rfl,rfl⟩:=K;cases h:btw vt 1 10000
  .skip;have T:Hid (bS ⟨nm,kd,obj,en,⟨0,0⟩,B,l,ct,vt,sat,j⟩=false):=aJ (by simp[bS,F,h]);exact Aag
  by_cases H:kd=1
  .subst H;cases C:btw en 0 1
   .skip;have T:Hid (bS ⟨nm,1,obj,en,⟨0,0⟩,B,l,ct,vt,sat,j⟩=false):=aJ (by simp[bS,h,C]);exact Aag
   cases D:btw ct 1 100
   .skip;have T:Hid (bS ⟨nm,1,obj,en,⟨0,0⟩,B,l,ct,vt,sat,j⟩=false):=aJ (by simp[bS,h,C,D]);exact Aag
   cases G:btw sat 0 16383
   .skip;have T:Hid (bS ⟨nm,1,obj,en,⟨0,0⟩,B,l,ct,vt,sat,j⟩=false):=aJ AcY;exact Aag
   have T:Hid (bS ⟨nm,1,obj,en,⟨0,0⟩,B,l,ct,vt,sat,j⟩=btw j 1 6):=aJ AcY;exact Aag
  have N:((kd:Int)==1)=false:=ae;cases C:btw en 0 0
  .skip;have T:Hid (bS ⟨nm,kd,obj,en,⟨0,0⟩,B,l,ct,vt,sat,j⟩=false):=aJ (by simp[bS,F,h,H,C]);exact Aag
  cases D:btw ct 1 100
  .skip;have T:Hid (bS ⟨nm,kd,obj,en,⟨0,0⟩,B,l,ct,vt,sat,j⟩=false):=aJ (by simp[bS,F,h,H,C,D]);exact Aag
  cases G:btw sat 0 16383
  .skip;have T:Hid (bS ⟨nm,kd,obj,en,⟨0,0⟩,B,l,ct,vt,sat,j⟩=false):=aJ (by simp[bS,F,h,H,C,D,G]);exact Aag
  have T:Hid (bS ⟨nm,kd,obj,en,⟨0,0⟩,B,l,ct,vt,sat,j⟩=btw j 1 6):=aJ (by simp[bS,F,h,H,C,D,G]);exact Aag
 by_cases I:r=0
 .subst I;have J:¬x=0:=fun e=>K ⟨rfl,e⟩;have L:((x:Int)==0)=false:=by simp;exact J
  have T:Hid (bS ⟨nm,kd,obj,en,⟨0,x⟩,B,l,ct,vt,sat,j⟩=false):=aJ (by simp[bS,F,J]);exact Aag
 have r1:((r:Int)==0)=false:=by simp;exact I
 have T:Hid (bS ⟨nm,kd,obj,en,⟨r,x⟩,B,l,ct,vt,sat,j⟩=false):=aJ (by simp[bS,F,I]);exact Aag
theorem sG(b A n c w):
  CE 111 #[yF b A n c] w (.bool (bS b)):=by
 obtain⟨nm,kd,obj,en,⟨r,x⟩,B,l,ct,vt,sat,j⟩:=b;unfold yF;dsimp only;by_cases G:kd=3
 .subst G;by_cases F:en=0
  rotate_left
  .have N:((en:Int)==0)=false:=ae;have M:((en:Int) !=0)=true:=ae;have C:btw en 0 0=false:=by simp[btw];omega
   have T:Hid (bS ⟨nm,3,obj,en,⟨r,x⟩,B,l,ct,vt,sat,j⟩=false):=aJ (by simp[bS,C]);exact Aac
  have N:((en:Int)==0)=true:=ae;have M:((en:Int) !=0)=false:=ae;have C:btw en 0 0=true:=by simp[btw];omega
  cases h:okZ ⟨r,x⟩
  .skip;have T:Hid (bS ⟨nm,3,obj,en,⟨r,x⟩,B,l,ct,vt,sat,j⟩=false):=aJ (by simp[bS,C,h]);exact AbO
  cases D:btw ct 1 100
  .skip;have T:Hid (bS ⟨nm,3,obj,en,⟨r,x⟩,B,l,ct,vt,sat,j⟩=false):=aJ (by simp[bS,C,h,D]);exact AbO
  by_cases hv:vt=0
  .subst hv;cases I:btw sat 0 16383
   .skip;have T:Hid (bS ⟨nm,3,obj,en,⟨r,x⟩,B,l,ct,0,sat,j⟩=false):=aJ (by simp[bS,C,h,D,I]);exact AbO
   have T:Hid (bS ⟨nm,3,obj,en,⟨r,x⟩,B,l,ct,0,sat,j⟩=btw j 1 6):=aJ (by simp[bS,C,h,D,I]);exact AbO
  have v1:((vt:Int)==0)=false:=ae;have P:((vt:Int) !=0)=true:=ae;have T:Hid (bS ⟨nm,3,obj,en,⟨r,x⟩,B,l,ct,vt,sat,j⟩=false):=aJ (by simp[bS,C,h,D,hv]);exact AbO
 have R:((kd:Int)==3)=false:=ae;by_cases H:kd=1
 .subst H;cases F:btw en 0 1
  .skip;have T:Hid (bS ⟨nm,1,obj,en,⟨r,x⟩,B,l,ct,vt,sat,j⟩=false):=aJ (by simp[bS,F]);exact Aac
  by_cases L:r=0/\x=0
  .obtain⟨rfl,rfl⟩:=L;cases D:btw ct 1 100
   .skip;have T:Hid (bS ⟨nm,1,obj,en,⟨0,0⟩,B,l,ct,vt,sat,j⟩=false):=aJ (by simp[bS,F,D]);exact Aac
   cases hv:btw vt 1 10000
   .skip;have T:Hid (bS ⟨nm,1,obj,en,⟨0,0⟩,B,l,ct,vt,sat,j⟩=false):=aJ (by simp[bS,F,D,hv]);exact Aac
   cases I:btw sat 0 16383
   .skip;have T:Hid (bS ⟨nm,1,obj,en,⟨0,0⟩,B,l,ct,vt,sat,j⟩=false):=aJ (by simp[bS,F,D,hv,I]);exact Aac
   have T:Hid (bS ⟨nm,1,obj,en,⟨0,0⟩,B,l,ct,vt,sat,j⟩=btw j 1 6):=aJ (by simp[bS,F,D,hv,I]);exact Aac
  by_cases K:r=0
  .subst K;have J:¬x=0:=fun e=>L ⟨rfl,e⟩;have O:((x:Int)==0)=false:=by simp;exact J
   have T:Hid (bS ⟨nm,1,obj,en,⟨0,x⟩,B,l,ct,vt,sat,j⟩=false):=aJ (by simp[bS,F,J]);exact Aac
  have r1:((r:Int)==0)=false:=by simp;exact K
  have T:Hid (bS ⟨nm,1,obj,en,⟨r,x⟩,B,l,ct,vt,sat,j⟩=false):=aJ (by simp[bS,F,K]);exact Aac
 have Q:((kd:Int)==1)=false:=ae;by_cases F:en=0
 rotate_left
 .have N:((en:Int)==0)=false:=ae;have M:((en:Int) !=0)=true:=ae;have C:btw en 0 0=false:=by simp[btw];omega
  have T:Hid (bS ⟨nm,kd,obj,en,⟨r,x⟩,B,l,ct,vt,sat,j⟩=false):=aJ (by simp[bS,G,H,C]);exact Aac
 have N:((en:Int)==0)=true:=ae;have M:((en:Int) !=0)=false:=ae;have C:btw en 0 0=true:=by simp[btw];omega
 by_cases L:r=0/\x=0
 .obtain⟨rfl,rfl⟩:=L;cases D:btw ct 1 100
  .skip;have T:Hid (bS ⟨nm,kd,obj,en,⟨0,0⟩,B,l,ct,vt,sat,j⟩=false):=aJ (by simp[bS,G,H,C,D]);exact Aac
  cases hv:btw vt 1 10000
  .skip;have T:Hid (bS ⟨nm,kd,obj,en,⟨0,0⟩,B,l,ct,vt,sat,j⟩=false):=aJ (by simp[bS,G,H,C,D,hv]);exact Aac
  cases I:btw sat 0 16383
  .skip;have T:Hid (bS ⟨nm,kd,obj,en,⟨0,0⟩,B,l,ct,vt,sat,j⟩=false):=aJ (by simp[bS,G,H,C,D,hv,I]);exact Aac
  have T:Hid (bS ⟨nm,kd,obj,en,⟨0,0⟩,B,l,ct,vt,sat,j⟩=btw j 1 6):=aJ (by simp[bS,G,H,C,D,hv,I]);exact Aac
 by_cases K:r=0
 .subst K;have J:¬x=0:=fun e=>L ⟨rfl,e⟩;have O:((x:Int)==0)=false:=by simp;exact J
  have T:Hid (bS ⟨nm,kd,obj,en,⟨0,x⟩,B,l,ct,vt,sat,j⟩=false):=aJ (by simp[bS,G,H,C,J]);exact Aac
 have r1:((r:Int)==0)=false:=by simp;exact K
 have T:Hid (bS ⟨nm,kd,obj,en,⟨r,x⟩,B,l,ct,vt,sat,j⟩=false):=aJ (by simp[bS,G,H,C,K]);exact Aac
def stV (nm:ByteArray) (A0:Option Addr) (n0 c0:Nat) (A1:Option Addr) (n1 c1:Nat) (A2:Option Addr) (n2 c2:Nat) (A3:Option Addr) (n3 c3:Nat):Value:=
 .agg #[.string nm,.slice A0 n0 c0,.slice A1 n1 c1,.slice A2 n2 c2,.slice A3 n3 c3]
def Strs (w:World) (A:Option Addr) (n:Nat) (l:List ByteArray):Prop:=Reads w w.heap.size 1 A n (l.map Value.string)
def Strs.ext{w w' A n}{l:List ByteArray}(h:Strs w A n l)(e:Ext w w'):Strs w' A n l:=Reads.ext h e
def Strs.len{w A n}{l:List ByteArray}(h:Strs w A n l):l.length=n:=by simpa using h.1
def Strs.at_{w A n k}{l:List ByteArray}(h:Strs w A n l)(C:k<n):∃j x,A=some j/\j.block<w.heap.size/\l[k]? =some x/\w.cell? (j.add k)=some (.string x):=by
 obtain⟨j,u,e,hb,B,hc⟩:=Reads.at_ h C;rw[List.getElem?_map,Option.map_eq_some_iff] at B;obtain⟨x,J,rfl⟩:=B;exact⟨j,x,e,hb,J,hc⟩
def uz (s:ByteArray):List ByteArray->Nat->Int
 |[],_=> -1
 |x::l,k=>if x=s then (k:Int) else uz s l (k+1)
theorem Cw(s):∀(l:List ByteArray) (k:Nat),decide (0<=uz s l k)=tZ s l
 |[],k=>by simp[uz,tZ]
 |x::l,k=>by
  have B:=Cw s l (k+1);unfold uz tZ;by_cases h:x=s
  .rw[if_pos h,decide_eq_true h];simp
  .rw[if_neg h,B,decide_eq_false h];simp
def toList_eq{x s:ByteArray}:(x.toList==s.toList)=decide (x=s):=by
 rw[Lib.toList_data,Lib.toList_data];by_cases h:x=s
 .rw[h];simp
 .rw[decide_eq_false h];have:¬x.data.toList=s.data.toList:=by
   intro e;apply h;cases x with|mk a=>cases s with|mk b=>exact congrArg ByteArray.mk (Array.toList_inj.1 e)
  simpa using this
def MR{s x}{l:List ByteArray}{k}(J:l[k]? =some x)(h:x=s):uz s (l.drop k) k=(k:Int):=by
 obtain⟨j,rfl⟩:=List.getElem?_eq_some_iff.1 J;rw[List.drop_eq_getElem_cons j,uz,if_pos h]
def Rq{s x}{l:List ByteArray}{k}(J:l[k]? =some x)(h:x≠s):uz s (l.drop k) k=uz s (l.drop (k+1)) (k+1):=by
 obtain⟨j,rfl⟩:=List.getElem?_eq_some_iff.1 J;rw[List.drop_eq_getElem_cons j,uz,if_neg h]
def Oi{s}{l:List ByteArray}{k}(h:l.length<=k):uz s (l.drop k) k= -1:=by
 rw[List.drop_eq_nil_of_le h];rfl
def Bf(s)(l:List ByteArray)(A n c w)(h:Strs w A n l)(hn:n<=9223372036854775807):
  Calls Tryz.prog 108 #[.slice A n c,.string s] w fun e w'=>e=.returned (.int .i64 (uz s l 0))/\w=w':=by
 have H:=aJ h.len;go_enter Tryz.func108,Tryz.ntmps108;go_wp2_with fail
 go_loop [5] (fun i=>∃k:Nat,k<=n/\i=.int .i64 (k:Int)/\uz s l 0=uz s (l.drop k) k) (fun i=>n-(intOf i).toNat)
 case atStart=>exact⟨0,Nat.zero_le _,rfl,rfl⟩
 case round=>
  obtain⟨k,L,rfl,B⟩:=hrel;have C:=aJ B;clear B;by_cases D:k<n
  .obtain⟨M,x,rfl,hb,J,K⟩:=h.at_ D;have G:=aJ J;clear J;by_cases j:x=s
   .have I:(x.toList==s.toList)=true:=by rw[toList_eq];simp[j]
    have F:=aJ j;clear j;go_wp2;go_ret;exact⟨aL (by rw[C.o,MR G.o F.o]),rfl⟩
   .have I:(x.toList==s.toList)=false:=by rw[toList_eq];simp[j]
    have F:=aJ j;go_wp2_with fail
    go_round
    case rel=>exact⟨k+1,aa,au,by rw[C.o,Rq G.o F.o]⟩
    case measure=>simp[intOf];omega
  .go_wp2;go_ret;exact⟨aL (by rw[C.o,Oi AdJ]),rfl⟩
def qX(s)(l:List ByteArray)(A n c w)(h:Strs w A n l)(B:n<=9223372036854775807):
  Calls Tryz.prog 64 #[.slice A n c,.string s] w fun e w'=>e=.returned (.int .i64 (dP l s))/\w=w':=by
 have C:∀w:World,Calls Tryz.prog 63 #[.string s] w fun e w'=>e=.returned (.bool (fT s))/\w=w':=fun w=>(Cu s w).mono (fun e w' j=>⟨j.1,j.2.symm⟩);cases hn:fT s
 .have Q:Hid (dP l s=7):=aJ (by simp[dP,hn]);go_enter Tryz.func64,Tryz.ntmps64;(go_wp2_with (first|(go_at_call 63;refine(C _).mono ?_;rintro e w1 ⟨rfl,rfl⟩)));go_ret;exact⟨aL Q.symm,rfl⟩
 .have hd:=Cw s l 0;cases hc:tZ s l
  .have Q:Hid (dP l s=0):=aJ (by simp only[dP,hn,hc];rfl);rw[hc] at hd;have hd':¬0<=uz s l 0:=by simpa using hd
   exact AaO
  .have Q:Hid (dP l s=8):=aJ (by simp only[dP,hn,hc];rfl);rw[hc] at hd;have hd':0<=uz s l 0:=by simpa using hd
   exact AaO
theorem pK(nm A0 n0 c0 A1 n1 c1 A2 n2 c2 A3 n3 c3 b A n c w):
  CE 110 #[stV nm A0 n0 c0 A1 n1 c1 A2 n2 c2 A3 n3 c3,yF b A n c] w (.int .i64 (iX n1 n2 b)):=by
 obtain⟨C,kd,obj,en,⟨r,x⟩,B,l,ct,vt,sat,j⟩:=b;unfold yF stV;dsimp only;by_cases J:kd=1
 .subst J;by_cases hn:obj<0
  .have F:decide ((obj:Int)<0)=true:=ae;exact AcU
  have F:decide ((obj:Int)<0)=false:=ae;by_cases K:(n1:Int)<=obj
  .have D:decide ((n1:Int)<=obj)=true:=ae;exact AcU
  have D:decide ((n1:Int)<=obj)=false:=ae;have T:Hid (iX n1 n2 ⟨C,1,obj,en,⟨r,x⟩,B,l,ct,vt,sat,j⟩=0):=aJ Ab6;exact Aat
 have N:((kd:Int)==1)=false:=ae;by_cases I:kd=2
 .subst I;by_cases hn:obj<0
  .have F:decide ((obj:Int)<0)=true:=ae;exact Ada
  have F:decide ((obj:Int)<0)=false:=ae;by_cases K:(n2:Int)<=obj
  .have D:decide ((n2:Int)<=obj)=true:=ae;exact Ada
  have D:decide ((n2:Int)<=obj)=false:=ae;have T:Hid (iX n1 n2 ⟨C,2,obj,en,⟨r,x⟩,B,l,ct,vt,sat,j⟩=0):=aJ Ab6;exact Aat
 have M:((kd:Int)==2)=false:=ae;by_cases H:kd=3
 .subst H;by_cases G:obj=0
  .subst G;have T:Hid (iX n1 n2 ⟨C,3,0,en,⟨r,x⟩,B,l,ct,vt,sat,j⟩=0):=aJ Ab6;exact Aat
  have F:((obj:Int)==0)=false:=ae;have D:((obj:Int) !=0)=true:=ae;have T:Hid (iX n1 n2 ⟨C,3,obj,en,⟨r,x⟩,B,l,ct,vt,sat,j⟩=9):=aJ (by simp[iX,btw,G]<;>omega);exact Aat
 have L:((kd:Int)==3)=false:=ae;have T:Hid (iX n1 n2 ⟨C,kd,obj,en,⟨r,x⟩,B,l,ct,vt,sat,j⟩=10):=aJ (by simp[iX,btw,J,I,H]<;>omega);exact Aat
structure Hd where
 A:Option Addr
 n:Nat
 c:Nat
def Hd.v (h:Hd):Value:=.slice h.A h.n h.c
def Arr (w:World) (A:Option Addr) (n k:Nat) (f:Nat->List Value):Prop:=
 0<n->∃b o,A=some ⟨b,o,none⟩/\b<w.heap.size/\∀i,i<n->∀t u,(f i)[t]? =some u->w.cell? ⟨b,o+i*k+t,none⟩=some u
def Arr.ext{w w' A n k f}(h:Arr w A n k f)(x:Ext w w'):Arr w' A n k f:=fun hn=>by
 obtain⟨b,o,e,hb,hc⟩:=h hn;exact⟨b,o,e,Nat.lt_of_lt_of_le hb x.size,fun i hi t u j=>(x.cell (p:=⟨b,_,none⟩) hb).trans (hc i hi t u j)⟩
def Arr.at_{w A n k i f}(h:Arr w A n k f)(hi:i<n):∃b o,A=some ⟨b,o,none⟩/\b<w.heap.size/\∀t u,(f i)[t]? =some u->w.cell? ⟨b,o+i*k+t,none⟩=some u:=by
 obtain⟨b,o,e,hb,hc⟩:=h aa;exact⟨b,o,e,hb,hc i hi⟩
def Arr.congr{w A n k f g}(h:Arr w A n k f)(e:∀i,i<n->f i=g i):Arr w A n k g:=fun hn=>by
 obtain⟨b,o,l,hb,hc⟩:=h hn;exact⟨b,o,l,hb,fun i hi t u j=>hc i hi t u (by rw[e i hi];exact j)⟩
def KA (l:pF):List Value:=[.int .i64 l.bus,.int .i64 l.pos]
def LW (l:Cy):List Value:=[.string l.name,.int .i64 l.z1.r,.int .i64 l.z1.x,.int .i64 l.z0.r,.int .i64 l.z0.x]
def vN (g:Ce):List Value:=[.string g.name,.int .i64 g.emf,.int .i64 g.z1.r,.int .i64 g.z1.x,.int .i64 g.z0.r,.int .i64 g.z0.x]
def jC (b:gD) (h:Hd):List Value:=[.string b.name,.int .i64 b.kind,.int .i64 b.obj,.int .i64 b.en,.int .i64 b.z.r,.int .i64 b.z.x,.slice h.A h.n h.c,.bool b.closed,.int .i64 b.ct,.int .i64 b.vt,.int .i64 b.sat,.int .i64 b.travel]
def Lks (w:World) (A:Option Addr) (n:Nat) (l:List pF):Prop:=l.length=n/\Arr w A n 2 (fun k=>KA (l.getD k default))
def Lks.ext{w w' A n l}(h:Lks w A n l)(x:Ext w w'):Lks w' A n l:=⟨h.1,h.2.ext x⟩
theorem CL{nb x}(B:1<=x.links.length)(l:x.links.length<=2)(j:x.kind=3->x.links.length=2):gN nb x=dF (ik nb x) x.links.length:=by
 unfold gN;rw[if_neg (fun h=>by rcases h with h|h|⟨h,I⟩<;>first|omega|exact I (j h))]
def cO{E n k v}(C:∀j,j<k->E j=0)(l:E k=v)(hv:v≠0)(B:k<n):v=dF E n:=by
 rw[Db C (by rw[l];exact hv) B,l]
def fM{E:Nat->Int}{k:Nat}(l:∀j,j<k->E j=0)(B:E k=0):∀j,j<k+1->E j=0:=fun j C=>by
 by_cases e:j=k
 .rw[e];exact B
 .exact l j aa
theorem qI{nb x}(h:x.links.length<1\/2<x.links.length\/(x.kind=3/\x.links.length≠2)):gN nb x=3:=by
 unfold gN;rw[if_pos h]
theorem uG(nm A0 n0 c0 A1 n1 c1 A2 n2 c2 A3 n3 c3 b A n c w)(hL:Lks w A n b.links):
    CE 112 #[stV nm A0 n0 c0 A1 n1 c1 A2 n2 c2 A3 n3 c3,yF b A n c] w (.int .i64 (gN n0 b)):=by
  have Z:=hL.1;have HL:=aJ hL;clear hL;have H:=aJ Z;clear Z;unfold yF stV;by_cases h1:n<1
  · have d1:decide ((n:Int)<1)=true:=ae;have T:Hid (gN n0 b=3):=aJ (qI (Or.inl AdJ));exact Ab1
  have d1:decide ((n:Int)<1)=false:=ae;by_cases h2:2<n
  · have d2:decide ((2:Int)<(n:Int))=true:=ae;have T:Hid (gN n0 b=3):=aJ (qI (Or.inr (Or.inl AdJ)));exact Ab1
  have d2:decide ((2:Int)<(n:Int))=false:=ae;by_cases h3:b.kind=3/\n≠2
  · obtain⟨hk,WP⟩:=h3;have d3:((b.kind:Int)==3)=true:=by simp[hk]
    have d4:((n:Int) !=2)=true:=ae;have T:Hid (gN n0 b=3):=aJ (qI (Or.inr (Or.inr ⟨hk,by have:=H.o;omega⟩)));clear WP hk;exact Ab1
  have T:Hid (gN n0 b=dF (ik n0 b) n):=aJ (by
    have hh:=H.o;have e:=CL (nb:=n0) (x:=b) aa aa (fun hk=>by
      by_cases e:n=2
      · omega
      · exact absurd (And.intro hk e) h3)
    rw[hh] at e;exact e)
  have H3:=aJ h3;clear h3;have hd:(∃k3:Bool,((b.kind:Int)==3)=k3/\(k3=true->((n:Int) !=2)=false)):=⟨_,rfl,fun h=>by
    have hk:b.kind=3:=by simpa using h
    have:=H3.o;simp;omega⟩
  obtain⟨k3,d3,d4⟩:=hd;cases k3
  (all_goals (first|(replace d4:=d4 rfl)|clear d4));all_goals
    obtain⟨W,B2,B3⟩:=an2 w 27 #[.string nm,.slice A0 n0 c0,.slice A1 n1 c1,.slice A2 n2 c2,.slice A3 n3 c3] 57 #[.string b.name,.int .i64 b.kind,.int .i64 b.obj,.int .i64 b.en,.int .i64 b.z.r,.int .i64 b.z.x,.slice A n c,.bool b.closed,.int .i64 b.ct,.int .i64 b.vt,.int .i64 b.sat,.int .i64 b.travel];have V:=aJ B2;have Wv:=aJ B3;have D:=aJ W;clear B2 B3 W;go_enter Tryz.func112,Tryz.ntmps112;go_wp2_with fail
    go_loopw [6] (fun i wr=>∃k:Nat,k<=n/\i=.int .i64 (k:Int)/\(∀j,j<k->ik n0 b j=0)/\Ext ((w.alloc (.cells #[.string nm,.slice A0 n0 c0,.slice A1 n1 c1,.slice A2 n2 c2,.slice A3 n3 c3] 27)).alloc (.cells #[.string b.name,.int .i64 b.kind,.int .i64 b.obj,.int .i64 b.en,.int .i64 b.z.r,.int .i64 b.z.x,.slice A n c,.bool b.closed,.int .i64 b.ct,.int .i64 b.vt,.int .i64 b.sat,.int .i64 b.travel] 57)) wr) (fun i _=>n-(intOf i).toNat)
    case atStart=>exact⟨0,aa,rfl,by intros;omega,Ext.refl _⟩
    case round=>
      obtain⟨k,hk,rfl,hz,J⟩:=hrel;have P:=aJ hz;have L:=aJ J;have k2:=(V.ext J).cell;have k3:=(Wv.ext J).cell;have hs:w.heap.size+1<wr.heap.size:=by have:=J.size;simp at this;omega
      have WN:w.heap.size<wr.heap.size:=aa;clear hz J;by_cases I:k<n
      · obtain⟨lb,lo,Q,hb,hc⟩:=(HL.ext (D.trans L.o)).2.at_ I;subst Q;have e0:wr.cell? ⟨lb,lo+k*2,none⟩=some (.int .i64 (b.links.getD k default).bus):=hc 0 _ rfl;have e1:wr.cell? ⟨lb,lo+k*2+1,none⟩=some (.int .i64 (b.links.getD k default).pos):=hc 1 _ rfl;clear hc;have F:Hid (ik n0 b k=if btw (b.links.getD k default).bus 0 ((n0:Int)-1)=true then
    (if (b.links.getD k default).pos≠1/\((b.links.getD k default).pos≠0\/b.kind=3) then 16
     else if 0<k/\(b.links.getD (k-1) default).bus=(b.links.getD k default).bus then 12 else 0)
  else 9):=aJ rfl
        generalize b.links.getD k default=l at e0 e1 F;obtain⟨bus,pos⟩:=l;dsimp only at e0 e1 F;by_cases WB:bus<0
        · have q1:decide (bus<0)=true:=ae;exact AdF
        have q1:decide (bus<0)=false:=ae;by_cases WA:(n0:Int)<=bus
        · have q2:decide ((n0:Int)<=bus)=true:=ae;exact AdF
        have q2:decide ((n0:Int)<=bus)=false:=ae;have G:Hid (¬(pos≠1/\(pos≠0\/b.kind=3))->ik n0 b k=if 0<k/\(b.links.getD (k-1) default).bus=bus then 12 else 0):=aJ (fun h=>by
          rw[F.o,if_pos Adi,if_neg h])
        by_cases hp:pos=1
        · subst hp;by_cases Y:k=0
          · subst Y;rw[Nat.zero_mul,Nat.add_zero] at e0 e1;have C:Hid (ik n0 b 0=0):=aJ (by rw[G.o ag,if_neg aa]);exact Adt
          · obtain rfl:k=1:=aa;obtain⟨O,N,Q,WF,hc⟩:=(HL.ext (D.trans L.o)).2.at_ (show 0<n by omega);simp only[Option.some.injEq,Addr.mk.injEq,and_true] at Q;obtain⟨rfl,rfl⟩:=Q;have f0:wr.cell? ⟨lb,lo,none⟩=some (.int .i64 (b.links.getD 0 default).bus):=by
              exact AdB
            clear hc;rw[show lo+1*2=lo+2 from rfl] at e0 e1;by_cases B:(b.links.getD 0 default).bus=bus
            · have C:Hid (ik n0 b 1=12):=aJ (by rw[G.o ag,if_pos ⟨aa,B⟩]);exact Ac2
            · have C:Hid (ik n0 b 1=0):=aJ (by rw[G.o ag,if_neg (fun h=>B h.2)]);exact AaQ
        by_cases K:pos=0
        · subst K;by_cases M:b.kind=3
          · first
            |(exfalso;simp[M] at d3;done)
            |(have C:Hid (ik n0 b k=16):=aJ (by rw[F.o,if_pos Adi,if_pos ⟨aj,Or.inr M⟩]);go_wp2;go_ret;exact⟨aL AcH,(D.trans L.o).alloc _⟩)
          · first
            |(exfalso;simp at d3;exact M d3)
            |
              skip;by_cases Y:k=0
              · subst Y;rw[Nat.zero_mul,Nat.add_zero] at e0 e1;have C:Hid (ik n0 b 0=0):=aJ (by rw[G.o (by simp;exact M),if_neg aa]);exact Adt
              · obtain rfl:k=1:=aa;obtain⟨O,N,Q,WF,hc⟩:=(HL.ext (D.trans L.o)).2.at_ (show 0<n by omega);simp only[Option.some.injEq,Addr.mk.injEq,and_true] at Q;obtain⟨rfl,rfl⟩:=Q;have f0:wr.cell? ⟨lb,lo,none⟩=some (.int .i64 (b.links.getD 0 default).bus):=by
                  exact AdB
                clear hc;rw[show lo+1*2=lo+2 from rfl] at e0 e1;by_cases B:(b.links.getD 0 default).bus=bus
                · have C:Hid (ik n0 b 1=12):=aJ (by rw[G.o (by simp;exact M),if_pos ⟨aa,B⟩]);exact Ac2
                · have C:Hid (ik n0 b 1=0):=aJ (by rw[G.o (by simp;exact M),if_neg (fun h=>B h.2)]);exact AaQ
        · have q6:((pos:Int)==1)=false:=by simp;exact hp
          have S:((pos:Int) !=1)=true:=by simp;exact hp
          have R:((pos:Int)==0)=false:=by simp;exact K
          have U:((pos:Int) !=0)=true:=by simp;exact K
          have C:Hid (ik n0 b k=16):=aJ (by rw[F.o,if_pos Adi,if_pos ⟨hp,Or.inl K⟩]);go_wp2;go_ret;exact⟨aL AcH,(D.trans L.o).alloc _⟩
      · obtain rfl:k=n:=aa;go_wp2;go_ret;exact⟨aL (by rw[T.o];exact(bX P.o).symm),D.trans L.o⟩
def Gt{α:Type}(f:α->GQ)(l2:List α):∀l1:List α,gX f (l1++l2)=gX f l2+gX f l1
 |[]=>(GQ.add_zero' _).symm
 |a::l1=>by
  show gX f (l1++l2)+f a=gX f l2+(gX f l1+f a);rw[Gt f l2 l1];generalize gX f l2=x;generalize gX f l1=y;generalize f a=z;ext<;>simp only[GQ.bQ,GQ.bN]<;>grind
theorem NZ(X)(l:List Br)(b:Br):eU X (l++[b])=stm (eU X l) b:=by
 unfold eU;rw[List.foldl_append];rfl
section
variable {L:Nat->Bool} {sq:Nat} {brs:List BrD} {k:Nat}
def eqA (L:Nat->Bool) (sq:Nat) (brs:List BrD) (k:Nat):Nat->Nat->GQ:=eU zmx ((usd L sq (brs.take k)).map (Nb.br (rwx L)))
def eqB (L:Nat->Bool) (sq:Nat) (brs:List BrD) (k:Nat):Nat->Nat->GQ:=fun i _=>feed (rwx L) (usd L sq (brs.take k)) i
def Fv(j:k<brs.length):brs.take (k+1)=brs.take k++[brs.getD k default]:=by
 rw[List.take_add_one,List.getD_eq_getElem?_getD,List.getElem?_eq_getElem j];rfl
theorem Ql(j:k<brs.length)(l:used L (brs.getD k default)=true):usd L sq (brs.take (k+1))=usd L sq (brs.take k)++[(brs.getD k default).nb sq]:=by
 unfold usd;rw[Fv j,List.filter_append,List.map_append];congr 1;rw[List.filter_cons_of_pos l];rfl
theorem LC(j:k<brs.length)(l:used L (brs.getD k default)=false):usd L sq (brs.take (k+1))=usd L sq (brs.take k):=by
 unfold usd;rw[Fv j,List.filter_append,List.map_append,List.filter_cons_of_neg (by rw[l];decide)];simp
theorem Qo(j:k<brs.length)(l:used L (brs.getD k default)=true):eqA L sq brs (k+1)=stm (eqA L sq brs k) (((brs.getD k default).nb sq).br (rwx L)):=by
 unfold eqA;rw[Ql j l,List.map_append,<-NZ];rfl
theorem Pp(l:k<brs.length)(B:used L (brs.getD k default)=true)(i j):eqB L sq brs (k+1) i j=
  if (brs.getD k default).b=17/\i=rwx L (brs.getD k default).a then eqB L sq brs k i j+GQ.i 1 0/(brs.getD k default).zs sq*GQ.i (brs.getD k default).emf 0 else eqB L sq brs k i j:=by
 unfold eqB feed;rw[Ql l B,Gt];show GQ.i 0 0+(if (brs.getD k default).b=17/\i=rwx L (brs.getD k default).a then GQ.i 1 0/(brs.getD k default).zs sq*GQ.i (brs.getD k default).emf 0 else GQ.i 0 0)+gX (fun b=>if b.b=17/\i=rwx L b.a then b.y*b.e else GQ.i 0 0) (usd L sq (brs.take k))=_;generalize gX (fun b=>if b.b=17/\i=rwx L b.a then b.y*b.e else GQ.i 0 0) (usd L sq (brs.take k))=x;split
 .generalize GQ.i 1 0/(brs.getD k default).zs sq*GQ.i (brs.getD k default).emf 0=y;ext<;>simp only[GQ.bQ,GQ.bN,GQ.dE,GQ.dB]<;>grind
 .ext<;>simp only[GQ.bQ,GQ.bN,GQ.dE,GQ.dB]<;>grind
theorem DW(j:k<brs.length)(l:used L (brs.getD k default)=false):eqA L sq brs (k+1)=eqA L sq brs k:=by unfold eqA;rw[LC j l]
theorem DV(j:k<brs.length)(l:used L (brs.getD k default)=false):eqB L sq brs (k+1)=eqB L sq brs k:=by unfold eqB;rw[LC j l]
def Vj:eqA L sq brs 0=zmx:=rfl
def Vu(i j):eqB L sq brs 0 i j=GQ.i 0 0:=rfl
theorem R7:eqA L sq brs brs.length=eU zmx ((usd L sq brs).map (Nb.br (rwx L))):=by unfold eqA;rw[List.take_length]
theorem R8:eqB L sq brs brs.length=col (feed (rwx L) (usd L sq brs)):=by unfold eqB col;rw[List.take_length]
def U6{b}(h:gF b)(sq):Bd (GQ.i 1 0/b.zs sq) 40:=by
 obtain⟨j,l,z0,Y,e,hd⟩:=(h.sz sq).z;exact wm (a:=4) (b:=15) (nO (D:=l) (by show l<=2^4;omega)) (Y.mono (by show 32000<=2^15;omega)) z0 e aa aa
def OA(hb:∀b∈brs,gF b):∀k,k<=brs.length->∀i j,Bd (eqA L sq brs k i j) (64+110*k)
 |0,_,i,j=>by rw[Vj];exact⟨0,0,1,Jk 0 0,SL aa⟩
 |k+1,hk,i,j=>by
  have B:=OA hb k aa i j;cases l:used L (brs.getD k default) with
  |false=>rw[DW aa l];exact B.mono aa
  |true=>
   rw[Qo aa l,La];have R:=U6 (hb (brs.getD k default) (by rw[List.getD_eq_getElem?_getD,List.getElem?_eq_getElem aa];exact List.getElem_mem _)) sq;have al (x:Nat):Bd ((((brs.getD k default).nb sq).br (rwx L)).al x) 2:=by
    have h:=Ac (((brs.getD k default).nb sq).br (rwx L)) x;exact wm (a:=0) (b:=0) (M:=GQ.i 1 0) h (uJ.mono (Nat.le_refl _)) aj (by ext<;>simp only[GQ.aZ,GQ.aX,GQ.dE,GQ.dB]<;>grind) aa aa
   exact(Bd.add B (Bd.mul R (Bd.mul (al i) (al j)))).mono aa
def Pe(hb:∀b∈brs,gF b):∀k,k<=brs.length->∀i j,Bd (eqB L sq brs k i j) (64+110*k)
 |0,_,i,j=>by rw[Vu];exact⟨0,0,1,Jk 0 0,SL aa⟩
 |k+1,hk,i,j=>by
  have B:=Pe hb k aa i j;cases l:used L (brs.getD k default) with
  |false=>rw[DV aa l];exact B.mono aa
  |true=>
   rw[Pp aa l];have C:brs.getD k default∈brs:=by rw[List.getD_eq_getElem?_getD,List.getElem?_eq_getElem aa];exact List.getElem_mem _
   have R:=U6 (hb _ C) sq;split
   .have O:Bd (GQ.i (brs.getD k default).emf 0) 64:=by
     have:=(hb _ C).emf;exact⟨_,0,1,Jk _ 0,VM aa aa aa aa⟩
    exact(Bd.add B (Bd.mul R O)).mono aa
   .exact B.mono aa
end
def MxI.out'{W G m n P R X}(h:MxI W G m n P R X)(hn:0<m->0<n):Out W G m n R X:=
 ⟨h.o,fun i hi=>⟨(h.row i hi (hn aa)).1,(h.len i hi).1,(h.len i hi).2,(h.row i hi (hn aa)).2⟩⟩
def Oy:BD=q2 420:=rfl
def OJ:BD*BD<2^841:=by
 rw[Oy,<-oP];exact Cx (a:=420+420) (b:=841) aa
def SA{m}(B:m<=17):(BD*BD+m*(BD*BD))*(BD*BD)<2^1690:=by
 have C:BD*BD+m*(BD*BD)<=q2 5*(BD*BD):=by
  have:m*(BD*BD)<=17*(BD*BD):=Nat.mul_le_mul B (Nat.le_refl _);have j:q2 5=32:=rfl;rw[j];omega
 have l:=Nat.mul_le_mul C (Nat.le_refl (BD*BD));refine Nat.lt_of_le_of_lt l ?_;rw[Oy,<-oP,<-oP,<-oP];exact Cx (a:=5+(420+420)+(420+420)) (b:=1690) aa
theorem TD{m n R}(h:∀i,i<m->(R i).n=n)(hn:n<=24):wd m R<=24/\∀i,i<m->(R i).n=wd m R:=by
 unfold wd;by_cases e:m=0
 .rw[if_pos e];exact⟨aa,fun i hi=>aa⟩
 .rw[if_neg e,h 0 aa];exact⟨hn,h⟩
def Dp (rw_:Nat->Nat) (us:List Nb) (v:Nat->GQ):Prop:=v=feed rw_ us\/∃f,v=unit f
section
variable {brs:List BrD} {sq n:Nat} {v:Nat->GQ}
def KX(hb:∀b∈brs,gF b)(Z:brs.length<=23)(hv:Dp (rwx (lv brs)) (usd (lv brs) sq brs) v)(j:cnt (lv brs) 18=n):∃Q,rC (side n (eU zmx ((usd (lv brs) sq brs).map (Nb.br (rwx (lv brs))))) (col v)) n (n+1) Q BD:=by
 have hs:=NI hb Z (lv brs) sq;have hn:n<=17:=j ▸ EA (Aw hb).none;rcases hv with rfl|⟨f,rfl⟩
 .have:=Bh (rw_:=rwx (lv brs)) (n:=n) (us:=usd (lv brs) sq brs) (f:=0) (W:=n+1) (al:=fun _=>GQ.i 1 0) (be:=fun _=>GQ.i 0 0) hs.2 hn hs.1 aa (fun _=>uJ) (fun _=>gL _);rwa[QJ] at this
 .have:=Bh (rw_:=rwx (lv brs)) (n:=n) (us:=usd (lv brs) sq brs) (f:=f) (W:=n+1) (al:=fun _=>GQ.i 0 0) (be:=fun _=>GQ.i 1 0) hs.2 hn hs.1 aa (fun _=>gL _) (fun _=>uJ);rwa[PP] at this
def Hq(hb:∀b∈brs,gF b)(j:cnt (lv brs) 18=n)(Y):(ech n (side n (eU zmx ((usd (lv brs) sq brs).map (Nb.br (rwx (lv brs))))) Y) n).r=n:=by
 subst j;exact zV (wY hb sq).psv.full
def Jt(hb:∀b∈brs,gF b)(Z:brs.length<=23)(hv:Dp (rwx (lv brs)) (usd (lv brs) sq brs) v)(j:cnt (lv brs) 18=n){i}(hi:i<n):Bd (sol n (eU zmx ((usd (lv brs) sq brs).map (Nb.br (rwx (lv brs))))) (col v) i 0) 841:=by
 obtain⟨Q,T⟩:=KX hb Z hv j;have l:=Hq (sq:=sq) hb j (col v);rw[EN l hi 0];exact Lp l T OJ hi aa
def CK{w Ga Gb Pa Pb Ra Rb}(hb:∀b∈brs,gF b)(Z:brs.length<=23)(hv:Dp (rwx (lv brs)) (usd (lv brs) sq brs) v)(B:cnt (lv brs) 18=n)(ha:MxI w Ga n n Pa Ra (eU zmx ((usd (lv brs) sq brs).map (Nb.br (rwx (lv brs))))))(l:MxI w Gb n 1 Pb Rb (col v)):
  Calls Tryz.prog 159 #[.slice (some ⟨Ga,0,none⟩) n n,.slice (some ⟨Gb,0,none⟩) n n] w fun e w'=>∃G RX,e=.returned (.tuple #[.slice (some ⟨G,0,none⟩) n n,.int .i64 0])/\Out w' G n 1 RX (sol n (eU zmx ((usd (lv brs) sq brs).map (Nb.br (rwx (lv brs))))) (col v))/\Ext w w':=by
 obtain⟨Q,T⟩:=KX hb Z hv B;have L:=Hq (sq:=sq) hb B (col v);have hn:n<=17:=B ▸ EA (Aw hb).none;obtain⟨R,E,M,D,I⟩:=(ha.out' (fun h=>h)).mem aa aa;obtain⟨R2,E2,P,F,H⟩:=(l.out' (fun _=>aa)).mem aa aa;have w1:=TD D aa;have w2:=TD F aa;refine(Q5 (N:=841) (Ns:=1690) (Nd:=1690) (Nx:=841) (vb:=fun _ _=>true) (vb2:=fun _ _=>true) M P (fun i j hi C=>(I i j hi (by rw[D i hi] at C;exact C)).vb aa) (fun i j hi C=>(H i j hi (by rw[F i hi] at C;exact C)).vb aa)
  ⟨aa,w1.1,w1.2,fun _ _ _ _=>rfl⟩ ⟨aa,w2.1,w2.2,fun _ _ _ _=>rfl⟩ D F aa I H aa (VA T OJ) (fun _=>Ub L T OJ (SA hn) aa aa)).mono ?_
 rintro e w' ⟨h|⟨_,G,RX,O,K⟩,J⟩
 .omega
 .exact⟨G,RX,O,K,J⟩
end
def C9(g A n c w)(hc:bT w g):
  CE 160 #[.pointer (some ⟨g,0,none⟩),.slice A n c,.int .i64 0] w (.slice A n c):=by
 have B:=Blk.cell hc;have l:=Blk.frozen hc;have j:Ext w (w.setCell ⟨g,0,none⟩ (.int .i64 0)):=(Ext.refl w).stay hc rfl;have O:=hc.ext j;have C:=Blk.cell O;go_enter Tryz.func160,Tryz.ntmps160;go_wp2
 first
  |exact⟨rfl,j⟩
  |(go_ret;exact⟨rfl,j⟩)
def Cg{P}(w F cs u)(j:(P.info? F).map (·.zero)=some (some (.agg cs))):(Instr.alloc F true u).run P w=.ok (.pointer (some ⟨w.heap.size,0,none⟩)) (w.alloc (.cells cs F)):=by
 cases hq:P.info? F with
 |none=>simp[hq] at j
 |some i=>
  have l:i.zero=some (.agg cs):=by simpa[hq] using j
  simp[Instr.alloc,zeroValue,typeInfo,hq,l,Sem.run_bind,newVar,newRow,Value.cells]
theorem eG{P ops rest op a w Q}(L:op.guard=none)(F)(l:op.op=.alloc F)(cs)(j:(P.info? F).map (·.zero)=some (some (.agg cs)))(h:∀w',w'=w.alloc (.cells cs F)->wpList P ops Q rest (a.put op.dst (.pointer (some ⟨w.heap.size,0,none⟩))) w'):wpList P ops Q (op::rest) a w:=
 wpList_plain L fun K I=>by
  unfold Oper.wp execOp;simp only[l,Sem.run_bind,Sem.run_pure,Cg w F cs _ j,Result.andThen_ok];exact I _ _ (h _ rfl)
def vL:(Tryz.prog.info? 100).map (·.zero)=some (some (.agg (aN 18 fun _=>zEn).toArray)):=ah
def Jg:(Tryz.prog.info? 222).map (·.zero)=some (some (.agg (ofC 18 fun _=> .int .i64 0))):=ah
structure rH (w:World) (C:Nat->Value) (A:Option Addr) (nb cb:Nat) (Bv:Nat->BrV) (brs:List BrD) (L:Nat->Bool):Prop where
 br:C 0=.slice A nb cb
 arr:Arr w A nb 20 (fun i=>(Bv i).cs)
 len:brs.length=nb
 ab:∀i,i<nb->(Bv i).a=(brs.getD i default).a/\(Bv i).b=(brs.getD i default).b
 z0:∀i,i<nb->GV w (Bv i).z0.v ((brs.getD i default).zs 0) 64
 z1:∀i,i<nb->GV w (Bv i).z1.v ((brs.getD i default).zs 1) 64
 e:∀i,i<nb->GV w (Bv i).e.v (GQ.i (brs.getD i default).emf 0) 64
 live:∀k,k<18->C (15+k)=.bool (L k)
 ok:∀b∈brs,gF b
 l23:brs.length<=23
structure Lp1 (w wr:World) (g8 g9 g10:Nat) (L:Nat->Bool) (i j:Nat):Prop where
 b8:Blk wr g8 100 (aN 18 fun _=>zEn).toArray
 b9:∃f:Nat->En,Blk wr g9 100 (aN 18 f).toArray/\∀k,k<i->GV wr (f k).v (GQ.i 0 0) 64
 b10:eZ wr g10 222 18 (fun k=> .int .i64 (if k<j then (rwx L k:Nat) else 0:Int))
 x:Ext w wr
 l8:w.heap.size<=g8
 l9:w.heap.size<=g9/\g8<g9
 l10:w.heap.size<=g10/\g9<g10
section
variable {w wr wr':World} {g8 g9 g10:Nat} {L:Nat->Bool} {i j:Nat}
def Lp1.ext(h:Lp1 w wr g8 g9 g10 L i j)(x:Ext wr wr'):Lp1 w wr' g8 g9 g10 L i j:=by
 obtain⟨f,C,B⟩:=h.b9;exact⟨h.b8.ext x,⟨f,C.ext x,fun k l=>(B k l).ext x⟩,h.b10.ext x,h.x.trans x,h.l8,h.l9,h.l10⟩
def Lp1.there(h:Lp1 w wr g8 g9 g10 L i j){k}(B:k<18):wr.there g9 (k*6) 6:=by
 obtain⟨f,l,_⟩:=h.b9;exact l.there AcG
def Lp1.put(h:Lp1 w wr g8 g9 g10 L i j)(hi:i<18){e:En}(O:GV wr e.v (GQ.i 0 0) 64)(Y:wr'=puts wr g9 (i*6) e.cells):Lp1 w wr' g8 g9 g10 L (i+1) j:=by
 subst Y;obtain⟨f,D,F⟩:=h.b9;have B:Mod (fun k=>k=g9) wr (puts wr g9 (i*6) e.cells):=Mod.only (fK _ _ _ _) rfl;have hS:Far (fun k=>k=g9) wr:=fun k l _=>by
  obtain rfl:k=g9:=l;exact⟨_,_,D,cu _ _⟩
 have l9:=h.l9;have l10:=h.l10;refine⟨h.b8.mod B (by show ¬g8=g9;omega),⟨upd f i e,?_,fun k l=> ?_⟩,h.b10.mod B (by show ¬g10=g9;omega),fw h.x B (fun k l=>by have l:k=g9:=l;omega),h.l8,h.l9,h.l10⟩
 .rw[<-mO e hi];exact bY _ _ D
 .by_cases C:k=i
  .subst C;rw[upd_same];exact O.mod B hS
  .rw[upd_ne C];exact(F k aa).mod B hS
theorem Lp1.skip(h:Lp1 w wr g8 g9 g10 L i j)(B:L j=false):Lp1 w wr g8 g9 g10 L i (j+1):=
 ⟨h.b8,h.b9,h.b10.congr (fun k _=>by
  by_cases l:k<j
  .rw[if_pos l,if_pos aa]
  .by_cases C:k=j
   .subst C;rw[if_neg aa,if_pos aa];unfold rwx;rw[B];rfl
   .rw[if_neg l,if_neg aa]),h.x,h.l8,h.l9,h.l10⟩
theorem Lp1.row(h:Lp1 w wr g8 g9 g10 L i j)(G:j<18)(F:L j=true):Lp1 w (wr.setCell ⟨g10,j,none⟩ (.int .i64 (cnt L j:Nat))) g8 g9 g10 L i (j+1):=by
 have D:Mod (fun k=>k=g10) wr (wr.setCell ⟨g10,j,none⟩ (.int .i64 (cnt L j:Nat))):=Mod.set _ _ _ _ rfl;have l9:=h.l9;have l10:=h.l10;have hS:gG (fun k=>k=g10) wr:=gG.of h.b10 (fun k _=>rfl) (fun k l=>l);obtain⟨f,B,C⟩:=h.b9;refine⟨h.b8.mod D (by show ¬g8=g10;omega),⟨f,B.mod D (by show ¬g9=g10;omega),fun k l=>(C k l).fQ D hS⟩,(h.b10.set _ G).congr (fun k _=> ?_),fw h.x D (fun k l=>by have l:k=g10:=l;omega),h.l8,h.l9,h.l10⟩;by_cases C:k=j
 .subst C;rw[upd_same,if_pos aa];unfold rwx;rw[if_pos F]
 .rw[upd_ne C];by_cases B:k<j
  .rw[if_pos B,if_pos aa]
  .rw[if_neg B,if_neg aa]
end
def Ua{L i}(h:L i=true):((cnt L (i+1):Nat):Int)=(cnt L i:Nat)+1:=by
 show((cnt L i+(if L i=true then 1 else 0):Nat):Int)=_;rw[if_pos h];rfl
def Rk{L i}(h:L i=false):cnt L (i+1)=cnt L i:=by
 show cnt L i+(if L i=true then 1 else 0)=_;rw[h];rfl
def jb (L:Nat->Bool):List Value:=(List.range 18).map fun k=>Value.bool (L k)
def sV{w C A nb B Bv brs L}(h:rH w C A nb B Bv brs L){j v}(hv:(jb L)[j]? =some v):C (15+j)=v:=by
 have l:j<18:=by have:=(List.getElem?_eq_some_iff.1 hv).1;simpa[jb] using this
 rw[h.live j l];have e:(jb L)[j]? =some (.bool (L j)):=by simp[jb,List.getElem?_map,List.getElem?_range l]
 rw[e] at hv;injection hv
def tC:(Tryz.prog.info? 99).map (·.size)=some (18:Nat):=ah
def L8{L}{k:Nat}(j:k<18)(w):Sem.run Tryz.prog (Instr.index 99 (.agg (jb L).toArray) (.int .i64 (k:Int))) w=.ok (.bool (L k)) w:=by
 have B:(0:Int)<=(k:Int):=aa;have l:(k:Int)<18:=aa;have h:(jb L)[k]? =some (.bool (L k)):=by simp[jb,List.getElem?_map,List.getElem?_range j]
 simp[Instr.index,run_underlying Tryz.underlying99,asIntOf,go_sem,Tryz.isAgg4,Tryz.sizeOf4,part,h,j]
def vY:(Tryz.prog.info? 167).map (·.size)=some (20:Nat):=ah
def Uk:List Value:=[.int .i64 0,.int .i64 0,.bool false,.slice none 0 0,.bool false,.slice none 0 0,.bool false,.slice none 0 0,.bool false,.slice none 0 0,.bool false,.slice none 0 0,.bool false,.slice none 0 0,.bool false,.slice none 0 0,.bool false,.slice none 0 0,.bool false,.slice none 0 0]
def zBr:Array Value:=Uk.toArray
def Lu:(Tryz.prog.info? 167).map (·.zero)=some (some (.agg zBr)):=ah
theorem Ji(b:BrV):∀v∈b.cs,v.oneCell'=true:=by
 intro v hv;unfold BrV.cs at hv;simp only[List.mem_cons,List.not_mem_nil,or_false] at hv;rcases hv with rfl|rfl|rfl|rfl|rfl|rfl|rfl|rfl|rfl|rfl|rfl|rfl|rfl|rfl|rfl|rfl|rfl|rfl|rfl|rfl<;>rfl
def iy(l B:List Value)(h:l.length=B.length):fD l.toArray 0 B=B.toArray:=by
 rw[jE,List.take_zero,List.nil_append,List.take_of_length_le aa,List.drop_of_length_le aa,List.append_nil]
def OD{w g}{b:BrV}(h:Blk w g 167 zBr):Blk (puts w g 0 b.cs) g 167 b.cs.toArray:=by
 have j:Blk (puts w g 0 b.cs) g 167 (fD Uk.toArray 0 b.cs):=bY 0 b.cs h;rw[iy Uk b.cs rfl] at j;exact j
def Bj{α:Type}[Inhabited α]{l:List α}{i}(h:i<l.length):l.getD i default∈l:=by
 rw[List.getD_eq_getElem?_getD,List.getElem?_eq_getElem h];exact List.getElem_mem _
def Kg:(Tryz.prog.info? 222).map (·.size)=some (18:Nat):=ah
def Lp1.rng{w wr g8 g9 g10 L i}(h:Lp1 w wr g8 g9 g10 L i 18):wr.rangeAt g10 0 ((List.range 18).map fun k=>Value.int .i64 (rwx L k:Nat)):=by
 intro j v hv;have l:j<18:=by have:=(List.getElem?_eq_some_iff.1 hv).1;simpa using this
 rw[Nat.zero_add];refine h.b10.cell_ l ?_;have e:((List.range 18).map fun k=>Value.int .i64 ((rwx L k:Nat):Int))[j]? =some (.int .i64 (rwx L j:Nat)):=by simp[List.getElem?_map,List.getElem?_range l]
 rw[e] at hv;injection hv with hv;rw[<-hv];simp only[if_pos l]
def Rws (n:Nat) (R:Nat->Rw):Nat->Prop:=fun g=>∃i,i<n/\g=(R i).b
structure Lp2 (w wr:World) (g8 g9 g10 Ga Gb:Nat) (L:Nat->Bool) (n:Nat) (Ra Rb:Nat->Rw) (X Y:Nat->Nat->GQ):Prop where
 p1:Lp1 w wr g8 g9 g10 L 18 18
 a:MxI wr Ga n n (Rws n Ra) Ra X
 b:MxI wr Gb n 1 (Rws n Rb) Rb Y
 own:∀k,Rws n Ra k\/Rws n Rb k->w.heap.size<=k/\g10<k/\k≠Ga/\k≠Gb
 dj:∀k,Rws n Ra k->¬Rws n Rb k
section
variable {w wr wr':World} {g8 g9 g10 Ga Gb:Nat} {L:Nat->Bool} {n i j:Nat} {Ra Rb:Nat->Rw} {X Y X' Y':Nat->Nat->GQ}
def Lp1.mod{S}(h:Lp1 w wr g8 g9 g10 L i j)(m:Mod S wr wr')(hS:Far S wr)(l:∀k,S k->w.heap.size<=k/\g10<k):Lp1 w wr' g8 g9 g10 L i j:=by
 obtain⟨f,G,C⟩:=h.b9;have l9:=h.l9;have l10:=h.l10;have D:¬S g8:=fun e=>by have:=(l _ e).2;omega
 have F:¬S g9:=fun e=>by have:=(l _ e).2;omega
 have U:¬S g10:=fun e=>by have:=(l _ e).2;omega
 exact⟨h.b8.mod m D,⟨f,G.mod m F,fun k B=>(C k B).mod m hS⟩,h.b10.mod m U,fw h.x m (fun k B=>(l k B).1),h.l8,h.l9,h.l10⟩
def Lp2.far(h:Lp2 w wr g8 g9 g10 Ga Gb L n Ra Rb X Y):Far (fun k=>Rws n Ra k\/Rws n Rb k) wr:=by
 intro g j _;rcases j with ⟨i,hi,rfl⟩|⟨i,hi,rfl⟩
 .obtain⟨f,hb,_⟩:=(h.a.row i hi aa).2;exact⟨_,_,hb,cu _ _⟩
 .obtain⟨f,hb,_⟩:=(h.b.row i hi aa).2;exact⟨_,_,hb,cu _ _⟩
def Lp2.ext(h:Lp2 w wr g8 g9 g10 Ga Gb L n Ra Rb X Y)(x:Ext wr wr'):Lp2 w wr' g8 g9 g10 Ga Gb L n Ra Rb X Y:=⟨h.p1.ext x,h.a.ext x,h.b.ext x,h.own,h.dj⟩
def Lp2.step(h:Lp2 w wr g8 g9 g10 Ga Gb L n Ra Rb X Y)(ha:MxI wr' Ga n n (Rws n Ra) Ra X')(hb:MxI wr' Gb n 1 (Rws n Rb) Rb Y')(l:Mod (fun k=>Rws n Ra k\/Rws n Rb k) wr wr'):Lp2 w wr' g8 g9 g10 Ga Gb L n Ra Rb X' Y':=
 ⟨h.p1.mod l h.far (fun k j=>⟨(h.own k j).1,(h.own k j).2.1⟩),ha,hb,h.own,h.dj⟩
def Lp2.of{C G}(h:Lp1 w wr g8 g9 g10 L 18 18)(ha:DI wr C Ga n n n (fun _ _=>GQ.i 0 0) Ra)(hb:DI C G Gb n 1 n (fun _ _=>GQ.i 0 0) Rb):Lp2 w G g8 g9 g10 Ga Gb L n Ra Rb zmx (fun _ _=>GQ.i 0 0):=by
 have M:=h.b10.lt;have J:=h.x.size;have la (i:Nat) (hi:i<n):(Ra i).b<C.heap.size:=by
  obtain⟨f,B,_⟩:=(ha.row i hi).2.1;exact B.lt
 have l:Ga<C.heap.size:=ha.o.lt;refine⟨(h.ext ha.ext).ext hb.ext,ha.mx hb.ext,hb.mx (Ext.refl _),fun k D=> ?_,fun k D F=> ?_⟩
 .rcases D with ⟨i,hi,rfl⟩|⟨i,hi,rfl⟩
  .have H:=(ha.row i hi).2.2;have K:=la i hi;have N:=hb.gx;refine⟨aa,aa,fun e=> ?_,aa⟩;obtain⟨f,B,_⟩:=(ha.row i hi).2.1;exact ha.o.fO B aj e.symm
  .have H:=(hb.row i hi).2.2;have O:=ha.ext.size;refine⟨aa,aa,aa,fun e=> ?_⟩;obtain⟨f,B,_⟩:=(hb.row i hi).2.1;exact hb.o.fO B aj e.symm
 .obtain⟨i,hi,rfl⟩:=D;obtain⟨j,I,e⟩:=F;have H:=la i hi;have K:=(hb.row j I).2.2;omega
end
theorem PU{w wq gx gf sq nb Q C A Bv brs g8 g9 g10 Ga Gb n i Ra Rb}(hn:rH w C A nb Q Bv brs (lv brs))(hc:bT wq gf)(h:Lp2 w wq g8 g9 g10 Ga Gb (lv brs) n Ra Rb (eqA (lv brs) sq brs i) (eqB (lv brs) sq brs i))(I:cnt (lv brs) 18=n)(hi:i<brs.length)(G:used (lv brs) (brs.getD i default)=true)(H:sq<=1)(j:gf<w.heap.size):
  Calls Tryz.prog 158 #[.pointer (some ⟨gx,0,none⟩),.pointer (some ⟨gf,0,none⟩),.slice (some ⟨Ga,0,none⟩) n n,.slice (some ⟨Gb,0,none⟩) n n,.agg (ofC 18 (fun k=> .int .i64 (rwx (lv brs) k:Nat))),.agg #[.int .i64 ((Bv i).a:Int),.int .i64 ((Bv i).b:Int),.bool (Bv i).z0.s1,.slice (Bv i).z0.A1 (Bv i).z0.n1 (Bv i).z0.c1,.bool (Bv i).z0.s2,.slice (Bv i).z0.A2 (Bv i).z0.n2 (Bv i).z0.c2,.bool (Bv i).z0.s3,.slice (Bv i).z0.A3 (Bv i).z0.n3 (Bv i).z0.c3,.bool (Bv i).z1.s1,.slice (Bv i).z1.A1 (Bv i).z1.n1 (Bv i).z1.c1,.bool (Bv i).z1.s2,.slice (Bv i).z1.A2 (Bv i).z1.n2 (Bv i).z1.c2,.bool (Bv i).z1.s3,.slice (Bv i).z1.A3 (Bv i).z1.n3 (Bv i).z1.c3,.bool (Bv i).e.s1,.slice (Bv i).e.A1 (Bv i).e.n1 (Bv i).e.c1,.bool (Bv i).e.s2,.slice (Bv i).e.A2 (Bv i).e.n2 (Bv i).e.c2,.bool (Bv i).e.s3,.slice (Bv i).e.A3 (Bv i).e.n3 (Bv i).e.c3],.int .i64 (sq:Int)] wq
   fun e w'=>e=.returned (.tuple #[])/\Lp2 w w' g8 g9 g10 Ga Gb (lv brs) n Ra Rb (eqA (lv brs) sq brs (i+1)) (eqB (lv brs) sq brs (i+1)):=by
 have T:=hn.len;have N:brs.getD i default∈brs:=Bj hi;have D:=hn.ok _ N;have l:=hn.ab i aa;have R:=Aw hn.ok;have B:=G;unfold used at B;simp only[Bool.and_eq_true,decide_eq_true_eq] at B;have K:Rwx (lv brs) (rwx (lv brs)) n:=I ▸ Rwx.of (fun k F=>sN hn.ok F);have S:GV wq ((Bv i).z sq).v ((brs.getD i default).zs sq) 64:=by
  have hs:sq=0\/sq=1:=aa;rcases hs with rfl|rfl
  .exact(hn.z0 i aa).ext h.p1.x
  .exact(hn.z1 i aa).ext h.p1.x
 have J:(Bv i).b=17\/(Bv i).b<17/\rwx (lv brs) (Bv i).b<n/\rwx (lv brs) (Bv i).a≠rwx (lv brs) (Bv i).b:=by
  by_cases e:(Bv i).b=17
  .exact Or.inl e
  .have hb:lv brs (brs.getD i default).b=true:=(R.closed _ N (Or.inr (Or.inl B.1))).2 (by rw[<-l.2];exact e);refine Or.inr ⟨by rw[l.2];exact sN hn.ok hb,by rw[l.2];exact K.lt _ hb,fun P=> ?_⟩;rw[l.1,l.2] at P;exact B.2 (K.inj _ _ B.1 hb P)
 have M:=hn.l23;refine(Sd gx gf Ga Gb n sq (64+110*i) 40 64 (64+110*i) 64 (Rws n Ra) (Rws n Rb) Ra Rb (eqA (lv brs) sq brs i) (eqB (lv brs) sq brs i) (rwx (lv brs)) (Bv i) ((brs.getD i default).zs sq) (GQ.i (brs.getD i default).emf 0) wq hc h.a h.b
  (fun k F=>⟨by have:=(h.own k F).1;omega,(h.own k F).2.2.1,(h.own k F).2.2.2⟩) h.dj H S (D.ne sq) ((hn.e i aa).ext h.p1.x) (by rw[l.1];exact D.a) (by rw[l.1];exact K.lt _ B.1) J (U6 D sq)
  (fun p q _ _=>OA hn.ok i aa p q) (fun p _=>Pe hn.ok i aa p 0) aa aa aa aa aa).mono ?_
 rintro e w' ⟨O,ha,hb,L⟩;refine⟨O,h.step ?_ ?_ L⟩
 .rw[Qo hi G];rw[l.1,l.2] at ha;exact ha
 .refine hb.congr (fun p q _ _=> ?_);rw[Pp hi G,l.1,l.2]
def IW{B wd j l n r Rc}(hd:DI B wd l n 1 n (fun _ _=>GQ.i 0 0) Rc)(x:Ext wd j)(D:r<n):j.there (Rc r).b 0 6:=by
 obtain⟨f,C,_⟩:=(hd.row r D).2.1;exact(C.ext x).there AcG
def Qh{w F wd C B g8 g9 g10 Ga J n r L Pa Ra Rc X}(p1:Lp1 w F g8 g9 g10 L 18 18)(ha:MxI F Ga n n Pa Ra X)(hd:DI F wd J n 1 n (fun _ _=>GQ.i 0 0) Rc)(x:Ext wd C)(I:r<n){e:En}(O:GV C e.v (GQ.i 1 0) 64)(Y:B=puts C (Rc r).b 0 e.cells):Lp1 w B g8 g9 g10 L 18 18/\MxI B Ga n n Pa Ra X/\MxI B J n 1 (Rws n Rc) Rc (col (unit r)):=by
 have M:=hd.mx x;have N:=hd.ext.trans x;obtain⟨K,D,G,_⟩:=M.put (j:=0) I aa (O.up aa);rw[Nat.zero_mul,<-Y] at K D;have P:=(hd.row r I).2.2;have l10:=p1.b10.lt;have lx:=p1.x.size;refine⟨(p1.ext N).mod D G (fun k l=> ?_),(ha.ext N).mod D G (fun l=> ?_) (fun j H hn l=> ?_),K.congr (fun i j hi H=> ?_)⟩
 .have l:k=(Rc r).b:=l;omega
 .have l:Ga=(Rc r).b:=l;have:=ha.o.lt;omega
 .have l:(Ra j).b=(Rc r).b:=l;have:=ha.rb H hn;omega
 .obtain rfl:j=0:=aa;by_cases e:i=r
  .subst e;rw[upd_same,upd_same];simp[col,unit]
  .rw[upd_ne e];simp[col,unit,e]
structure Lp3 (w wr:World) (g8 g9 g10 G:Nat) (L:Nat->Bool) (n:Nat) (RX:Nat->Rw) (X:Nat->Nat->GQ) (i:Nat):Prop where
 b8:Blk wr g8 100 (aN 18 fun _=>zEn).toArray
 b9:∃f:Nat->En,Blk wr g9 100 (aN 18 f).toArray/\∀k,k<18->GV wr (f k).v (if k<i then (if L k=true then X (rwx L k) 0 else GQ.i 0 0) else GQ.i 0 0) 12800
 b10:eZ wr g10 222 18 (fun k=> .int .i64 (if k<18 then (rwx L k:Nat) else 0:Int))
 x:Ext w wr
 l8:w.heap.size<=g8
 l9:w.heap.size<=g9/\g8<g9
 l10:w.heap.size<=g10/\g9<g10
 o:Out wr G n 1 RX X
section
variable {w wr wr':World} {g8 g9 g10 G n i:Nat} {L:Nat->Bool} {RX:Nat->Rw} {X:Nat->Nat->GQ}
def Lp3.of(h:Lp1 w wr g8 g9 g10 L 18 18)(l:Out wr G n 1 RX X):Lp3 w wr g8 g9 g10 G L n RX X 0:=by
 obtain⟨f,C,B⟩:=h.b9;exact⟨h.b8,⟨f,C,fun k j=>by rw[if_neg aa];exact(B k j).up aa⟩,h.b10,h.x,h.l8,h.l9,h.l10,l⟩
def Lp3.skip(h:Lp3 w wr g8 g9 g10 G L n RX X i)(C:L i=false):Lp3 w wr g8 g9 g10 G L n RX X (i+1):=by
 obtain⟨f,F,D⟩:=h.b9;refine⟨h.b8,⟨f,F,fun k B=> ?_⟩,h.b10,h.x,h.l8,h.l9,h.l10,h.o⟩;have j:=D k B;by_cases e:k=i
 .subst e;rw[if_neg aa] at j;rw[if_pos aa,C];exact j
 .by_cases l:k<i
  .rw[if_pos l] at j;rw[if_pos aa];exact j
  .rw[if_neg l] at j;rw[if_neg aa];exact j
theorem Lp3.hd(h:Lp3 w wr g8 g9 g10 G L n RX X i){r}(j:r<n):wr.cell? ⟨G,r,none⟩=some (.slice (some ⟨(RX r).b,0,none⟩) (1:Nat) (1:Nat)):=by
 obtain⟨C,l,B,_⟩:=h.o.row r j;rw[h.o.x.cell,iI j];unfold Rw.v;rw[C,l,B]
def Lp3.en(h:Lp3 w wr g8 g9 g10 G L n RX X i){r}(B:r<n):∃e:En,GV wr e.v (X r 0) 12800/\∀t u,e.cells[t]? =some u->wr.cell? ⟨(RX r).b,t,none⟩=some u:=by
 obtain⟨f,hb,J⟩:=(h.o.row r B).2.2.2;exact AaU
def Lp3.there(h:Lp3 w wr g8 g9 g10 G L n RX X i){k}(l:k<18):wr.there g9 (k*6) 6:=by
 obtain⟨f,j,_⟩:=h.b9;exact j.there AcG
def Lp3.put(h:Lp3 w wr g8 g9 g10 G L n RX X i)(hi:i<18)(P:L i=true){e:En}(O:GV wr e.v (X (rwx L i) 0) 12800)(Y:wr'=puts wr g9 (i*6) e.cells):Lp3 w wr' g8 g9 g10 G L n RX X (i+1):=by
 subst Y;obtain⟨f,F,N⟩:=h.b9;have j:Mod (fun k=>k=g9) wr (puts wr g9 (i*6) e.cells):=Mod.only (fK _ _ _ _) rfl;have hS:Far (fun k=>k=g9) wr:=fun k l _=>by
  obtain rfl:k=g9:=l;exact⟨_,_,F,cu _ _⟩
 have l9:=h.l9;have l10:=h.l10;refine⟨h.b8.mod j (by show ¬g8=g9;omega),⟨upd f i e,?_,fun k l=> ?_⟩,h.b10.mod j (by show ¬g10=g9;omega),fw h.x j (fun k l=>by have l:k=g9:=l;omega),h.l8,h.l9,h.l10,h.o.x.mod j (fun B=>h.o.x.fO F aj B),fun r Q=> ?_⟩
 .rw[<-mO e hi];exact bY _ _ F
 .by_cases C:k=i
  .subst C;rw[upd_same,if_pos aa,if_pos P];exact O.mod j hS
  .rw[upd_ne C];have D:=(N k l).mod j hS;by_cases B:k<i
   .rw[if_pos B] at D;rw[if_pos aa];exact D
   .rw[if_neg B] at D;rw[if_neg aa];exact D
 .obtain⟨M,J,K,I⟩:=h.o.row r Q;refine⟨M,J,K,I.mod j hS (fun B=> ?_)⟩;obtain⟨R,H,_⟩:=I;exact H.fO F aj B
def mJ(f):(Tryz.prog.info? 100).map (·.size)=some (aN 18 f).length:=by rw[aW];kernel_rfl
def Cq(f):(Tryz.prog.info? 100).map (·.size)=some (aN 18 f).toArray.size:=by rw[List.size_toArray];exact mJ f
def Lp3.fin(h:Lp3 w wr g8 g9 g10 G L n RX X 18){f}(hb:Blk wr g9 100 (aN 18 f).toArray)(hv:∀k,k<18->GV wr (f k).v (if k<18 then (if L k=true then X (rwx L k) 0 else GQ.i 0 0) else GQ.i 0 0) 12800)(Y:wr'=puts wr g8 0 (aN 18 f)):
  Blk wr' g8 100 (aN 18 f).toArray/\Ext w wr'/\∀k,k<18->GV wr' (f k).v (if L k=true then X (rwx L k) 0 else GQ.i 0 0) 12800:=by
 subst Y;have B:Mod (fun k=>k=g8) wr (puts wr g8 0 (aN 18 f)):=Mod.only (fK _ _ _ _) rfl;have hS:Far (fun k=>k=g8) wr:=fun k j _=>by
  obtain rfl:k=g8:=j;exact⟨_,_,h.b8,cu _ _⟩
 have l8:=h.l8;refine⟨?_,fw h.x B (fun k j=>by have j:k=g8:=j;omega),fun k j=> ?_⟩
 .have:=bY 0 (aN 18 f) h.b8;exact AbA
 .have l:=(hv k j).mod B hS;rw[if_pos j] at l;exact l
end
def Lf{brs sq n k v}(hb:∀b∈brs,gF b)(Z:brs.length<=23)(hv:Dp (rwx (lv brs)) (usd (lv brs) sq brs) v)(j:cnt (lv brs) 18=n)(l:k<18):
  Bd (if lv brs k=true then sol n (eU zmx ((usd (lv brs) sq brs).map (Nb.br (rwx (lv brs))))) (col v) (rwx (lv brs) k) 0 else GQ.i 0 0) 841:=by
 by_cases h:lv brs k=true
 .rw[if_pos h];exact Jt hb Z hv j (by rw[<-j];exact(Rwx.of (fun k l=>sN hb l)).lt _ h)
 .rw[if_neg h];exact Aa8
def eO (C:Nat->Value) (E:Nat->En) (i:Nat):Value:=if i<33 then C i else ((E ((i-33)/6)).cells[(i-33)%6]?).getD undef
theorem dY{C E i}(h:i<33):eO C E i=C i:=by unfold eO;rw[if_pos h]
theorem qh{C E e t u}(h:(E e).cells[t]? =some u):eO C E (33+e*6+t)=u:=by
 have j:t<6:=(List.getElem?_eq_some_iff.1 h).1;unfold eO;rw[if_neg aa,show(33+e*6+t-33)/6=e by omega,show(33+e*6+t-33)%6=t by omega,h];rfl
def qR(e:En):e.cells.length=6:=rfl
theorem Jd{C E e}(x i):DZ (eO C E) (33+e*6) x.cells i=eO C (upd E e x) i:=by
 by_cases h:33+e*6<=i/\i<33+e*6+6
 .obtain⟨t,rfl⟩:∃t,i=33+e*6+t:=⟨i-(33+e*6),aa⟩;have B:t<6:=aa;have l:x.cells[t]? =some (x.cells[t]'Abr):=List.getElem?_eq_getElem _;rw[qh (E:=upd E e x) (u:=x.cells[t]'Abr) (by rw[upd_same];exact l)];exact K8 _ l
 .rw[DJ _ Abr];unfold eO;by_cases j:i<33
  .rw[if_pos j,if_pos j]
  .rw[if_neg j,if_neg j,upd_ne aa]
theorem ol{C E}(j:∀i,i<33->mM (C i)=true)(i):mM (eO C E i)=true:=by
 unfold eO;by_cases h:i<33
 .rw[if_pos h];exact j i h
 .rw[if_neg h];have:(i-33)%6<6:=Nat.mod_lt _ aa;generalize (i-33)%6=t at this
  match t,this with
  |0,_=>rfl
  |1,_=>rfl
  |2,_=>rfl
  |3,_=>rfl
  |4,_=>rfl
  |5,_=>rfl
structure GrS (w0 w:World) (gx gf:Nat) (C:Nat->Value) (E:Nat->En) (D:Nat->Prop) (Q:Nat->GQ) (N:Nat):Prop where
 b:eZ w gx 105 393 (eO C E)
 v:∀e,e<60->D e->GV w (E e).v (Q e) N
 m:Mod (fun k=>k=gx) w0 w
 f:bT w gf
 n:∀i,i<33->mM (C i)=true
section
variable {w0 w w':World} {gx gf N:Nat} {C:Nat->Value} {E:Nat->En} {D D':Nat->Prop} {Q Q':Nat->GQ}
def GrS.ext(h:GrS w0 w gx gf C E D Q N)(x:Ext w w'):GrS w0 w' gx gf C E D Q N:=⟨h.b.ext x,fun e O hd=>(h.v e O hd).ext x,h.m.trans (Mod.of x),h.f.ext x,h.n⟩
def GrS.far(h:GrS w0 w gx gf C E D Q N):gG (fun k=>k=gx) w:=gG.of h.b (fun k _=>ol h.n k) (fun k j=>j)
def GrS.there(h:GrS w0 w gx gf C E D Q N){e}(O:e<60):w.there gx (33+e*6) 6:=h.b.there aa
def GrS.to(h:GrS w0 w gx gf C E D Q N)(hd:∀e,e<60->D' e->D e/\Q e=Q' e):GrS w0 w gx gf C E D' Q' N:=
 ⟨h.b,fun e O hd'=>by rw[<-(hd e O hd').2];exact h.v e O (hd e O hd').1,h.m,h.f,h.n⟩
def GrS.Ie(h:GrS w0 w gx gf C E D Q N)(Y:Mod (fun k=>k=gx) w w'){v q n}(hv:GV w v q n):GV w' v q n:=hv.fQ Y h.far
def GrS.put(h:GrS w0 w gx gf C E D Q N){e x q}(O:e<60)(J:GV w x.v q N)(Y:w'=puts w gx (33+e*6) x.cells):
  GrS w0 w' gx gf C (upd E e x) (fun k=>k=e\/D k) (upd Q e q) N/\Mod (fun k=>k=gx) w w':=by
 have l:Mod (fun k=>k=gx) w w':=by rw[Y];exact Mod.puts _ _ _ _ rfl
 have B:gf≠gx:=Blk.fO h.f h.b aj;refine⟨⟨?_,fun k F hd=> ?_,h.m.trans l,Blk.mod h.f l B,h.n⟩,l⟩
 .rw[Y];exact(h.b.puts x.cells Abr).congr (fun k _=>Jd x k)
 .by_cases j:k=e
  .subst j;rw[upd_same,upd_same];exact J.fQ l h.far
  .rw[upd_ne j,upd_ne j];exact(h.v k F (hd.resolve_left j)).fQ l h.far
end
theorem Arr.mod{S w w' A n k f}(h:Arr w A n k f)(m:Mod S w w')(B:∀b o,A=some ⟨b,o,none⟩->¬S b):Arr w' A n k f:=fun hn=>by
 obtain⟨b,o,e,hb,hc⟩:=h hn;exact⟨b,o,e,Nat.lt_of_lt_of_le hb m.size,fun i hi t u l=>(by
  have j:=hc i hi t u l;unfold World.cell? at j⊢;simp only[m.block b hb (B b o e)];exact j)⟩
def rH.mod{w w' gx C C' A nb l Bv brs L}(h:rH w C A nb l Bv brs L)(m:Mod (fun k=>k=gx) w w')(j:gG (fun k=>k=gx) w)(F:∀b o,A=some ⟨b,o,none⟩->b≠gx)(B:∀i,i<33->C' i=C i):rH w' C' A nb l Bv brs L:=
 ⟨by rw[B 0 aa];exact h.br,h.arr.mod m F,h.len,h.ab,fun i hi=>(h.z0 i hi).fQ m j,fun i hi=>(h.z1 i hi).fQ m j,fun i hi=>(h.e i hi).fQ m j,fun k D=>by rw[B _ aa];exact h.live k D,h.ok,h.l23⟩
def aY{P ops rest op a w Q}(L:op.guard=none)(F)(l:op.op=.alloc F)(cs)(j:(P.info? F).map (·.zero)=some (some (.agg cs)))(h:∀w',Hid (w'=w.alloc (.cells cs F))->wpList P ops Q rest (a.put op.dst (.pointer (some ⟨w.heap.size,0,none⟩))) w'):wpList P ops Q (op::rest) a w:=eG L F l cs j (fun w' e=>h w' (aJ e))
def aO{P ops rest op a w Q}(L:op.guard=none)(F)(x y:Operand)(j:op.op=.store F x y)(b o cells)(J:a.eval x=.pointer (some ⟨b,o,none⟩))(R:a.eval y=.agg cells.toArray)(l:w.there b o cells.length)(hi:(P.info? F).map (·.size)=some cells.length)(B:∀v∈cells,v.oneCell'=true)(h:∀w',Hid (w'=puts w b o cells)->wpList P ops Q rest (a.put op.dst undef) w'):wpList P ops Q (op::rest) a w:=aT L F x y j b o cells J R l hi B (fun w' e=>h w' (aJ e))
def eY(w:World)(o:Obj):(w.alloc o).heap.size=w.heap.size+1:=ag
def tu:(Tryz.prog.info? 102).map (·.zero)=some (some (.agg (aN 3 fun _=>zEn).toArray)):=ah
def j5(f):(Tryz.prog.info? 102).map (·.size)=some (aN 3 f).length:=by rw[aW];kernel_rfl
def qQ(f):(Tryz.prog.info? 102).map (·.size)=some (aN 3 f).toArray.size:=by rw[List.size_toArray];exact j5 f
def Blk.rng{w g t cs}(h:Blk w g t cs.toArray):w.rangeAt g 0 cs:=fun t v hv=>by
 rw[Nat.zero_add];exact(h.cell t).trans (by rw[List.getElem?_toArray];exact hv)
def eZ.en{w gx e C E}(h:eZ w gx 105 393 (eO C E))(O:e<60){a}(ha:a=33+e*6):w.rangeAt gx a (E e).cells:=fun t v hv=>by
 subst ha;exact h.cell_ (by have:=(List.getElem?_eq_some_iff.1 hv).1;rw[qR] at this;omega) (qh hv)
structure AtS (w wr:World) (n:Nat) (t:TypeId) (g4 g5:Nat) (f:Nat->En):Prop where
 b4:Blk wr g4 t (aN n fun _=>zEn).toArray
 b5:Blk wr g5 t (aN n f).toArray
 x:Ext w wr
 l4:w.heap.size<=g4
 l5:g4<g5
section
variable {w w1 w2 wr wr':World} {g4 g5 n:Nat} {t:TypeId} {f f':Nat->En}
def AtS.start(x:Ext w w1)(j:w2=(w1.alloc (.cells (aN n fun _=>zEn).toArray t)).alloc (.cells (aN n fun _=>zEn).toArray t)):AtS w w2 n t w1.heap.size (w1.heap.size+1) (fun _=>zEn):=by
 subst j;exact⟨(Blk.new _ _ _).alloc _,by have:=Blk.new (w1.alloc (.cells (aN n fun _=>zEn).toArray t)) t (aN n fun _=>zEn).toArray;simpa using this,(x.trans (Ext.new _ _)).trans (Ext.new _ _),x.size,Nat.lt_succ_self _⟩
def AtS.ext(h:AtS w wr n t g4 g5 f)(x:Ext wr wr'):AtS w wr' n t g4 g5 f:=⟨h.b4.ext x,h.b5.ext x,h.x.trans x,h.l4,h.l5⟩
def AtS.to(h:AtS w wr n t g4 g5 f)(j:∀k,k<n->f k=f' k):AtS w wr n t g4 g5 f':=⟨h.b4,by rw[<-AL j];exact h.b5,h.x,h.l4,h.l5⟩
def AtS.there(h:AtS w wr n t g4 g5 f){i}(hi:i<n):wr.there g5 (i*6) 6:=h.b5.there AcG
def AtS.far(h:AtS w wr n t g4 g5 f):Far (fun k=>k=g5) wr:=fun k j _=>by
 obtain rfl:k=g5:=j;exact⟨_,_,h.b5,cu _ _⟩
def AtS.put(h:AtS w wr n t g4 g5 f){i a}(hi:i<n)(e)(ha:a=i*6)(Y:wr'=puts wr g5 a e.cells):AtS w wr' n t g4 g5 (upd f i e)/\Mod (fun k=>k=g5) wr wr':=by
 subst Y;subst ha;have j:Mod (fun k=>k=g5) wr (puts wr g5 (i*6) e.cells):=Mod.puts _ _ _ _ rfl;have l4:=h.l4;have l5:=h.l5;refine⟨⟨h.b4.mod j (by show ¬g4=g5;omega),?_,fw h.x j (fun k l=>by have l:k=g5:=l;omega),h.l4,h.l5⟩,j⟩;have:=bY (i*6) e.cells h.b5;rw[mO e hi] at this;exact this
def AtS.fin(h:AtS w wr n t g4 g5 f)(Y:wr'=puts wr g4 0 (aN n f)):Blk wr' g4 t (aN n f).toArray/\Ext w wr'/\∀v q m,GV wr v q m->GV wr' v q m:=by
 subst Y;have l:Mod (fun k=>k=g4) wr (puts wr g4 0 (aN n f)):=Mod.puts _ _ _ _ rfl;have l4:=h.l4;refine⟨?_,fw h.x l (fun k j=>by have j:k=g4:=j;omega),fun v q m hv=>hv.mod l (fun k j _=>by
  obtain rfl:k=g4:=j;exact⟨_,_,h.b4,cu _ _⟩)⟩
 have:=bY 0 (aN n f) h.b4;exact AbA
end
def VG(gx node:Nat)(C E w)(K:eZ w gx 105 393 (eO C E))(hn:node<=17):
  CE 47 #[.pointer (some ⟨gx,0,none⟩),.int .i64 (node:Int)] w (.agg (aN 3 fun k=>E (k*18+node)).toArray):=by
 have S:=aJ K;have I:=aJ hn;clear K hn;go_enter Tryz.func47,Tryz.ntmps47;(go_wp2_with (refine aY rfl 102 rfl _ tu (fun w1 G=>Hid.o ?_)));refine aJ ?_;refine Qp ?_;replace G:=Hid.o G;subst G;(go_wp2_with (refine aY rfl 102 rfl _ tu (fun w2 G=>Hid.o ?_)));refine aJ ?_;refine Qp ?_;replace G:=Hid.o G;have F:=aJ (AtS.start (n:=3) (t:=102) (Ext.refl w) G);clear G;(try simp only[eY]);generalize w.heap.size+1=g5 at F⊢;generalize w.heap.size=g4 at F⊢;go_wp2_with fail
 go_loopw [7] (fun iv wr=>∃i:Nat,i<=3/\iv=.int .i64 i/\AtS w wr 3 102 g4 g5 (fun k=>if k<i then E (k*18+node) else zEn)) (fun iv _=>3-(intOf iv).toNat)
 case atStart=>exact⟨0,aa,rfl,F.to (fun k _=>by rw[if_neg aa])⟩
 case round=>
  clear F;rename World=>wr;obtain⟨i,hi,rfl,M⟩:=hrel;have Q:=aJ M;clear M;by_cases B:i<3
  .have hd:decide ((i:Int)<3)=true:=ae;have q1:(0:Int)<=(i:Int):=aa;have q2:(i:Int)<3:=aa;have V:(0:Int)<=(node:Int):=aa;have W:(node:Int)<18:=by have:=I.o;omega
   obtain⟨e,O⟩:∃e,E (i*18+node)=e:=⟨_,rfl⟩;have U:=aJ O;have l:Hid (wr.rangeAt gx (33+i*108+node*6) e.cells):=aJ (by rw[<-O];exact(S.ext Q.x).en (e:=i*18+node) (by have:=I.o;omega) aa);have N:=aJ (Q.there B);clear O;(go_wp2_with (refine wpList_load_mid rfl 42 _ rfl gx (33+i*108+node*6) rf (e.cells) _ l.o Tryz.underlying42 rfl bL (Hid.o ?_)));refine aJ ?_;refine Qp ?_;(iterate 3 (try (first|go_values|go_skip|go_guarded|go_step|go_upon|go_in|go_back|go_simp)));refine aO rfl 42 (.tmp 19) (.tmp 18) rfl g5 (i*6) (e.cells) rf rf N.o bL (dZ e) (fun R G=> ?_);refine Qp ?_;replace G:=Hid.o G;have j:=aJ ((Q.put B e rfl G).1.to (f':=fun k=>if k<i+1 then E (k*18+node) else zEn) (fun k _=>by
    by_cases L:k=i
    .subst L;rw[upd_same,if_pos aa,U.o]
    .rw[upd_ne L];by_cases J:k<i
     .rw[if_pos J,if_pos aa]
     .rw[if_neg J,if_neg aa]))
   clear Q l N G;go_wp2_with fail
   go_roundw
   case rel=>exact⟨i+1,aa,au,j.o⟩
   case measure=>simp[intOf];omega
  .obtain rfl:i=3:=aa;have hd:decide ((3:Int)<3)=false:=aj;obtain⟨f,H⟩:∃f:Nat->En,(fun k=>E (k*18+node))=f:=⟨_,rfl⟩;have j:=aJ (Q.to (f':=f) (fun k T=>by rw[if_pos T,<-H]));have P:=aJ H;clear H Q;have l:=aJ j.b5.rng;have N:Hid (wr.there g4 0 (aN 3 f).length):=aJ (j.b4.there AbW);(go_wp2_with (refine wpList_load_mid rfl 102 _ rfl g5 (0) rf (aN 3 f) _ l.o Tryz.underlying102 rfl (j5 _) (Hid.o ?_)));refine aJ ?_;refine Qp ?_;refine aO rfl 102 (.tmp 4) (.tmp 21) rfl g4 (0) (aN 3 f) rf rf N.o (j5 _) (dH 3 _) (fun R G=> ?_);refine Qp ?_;replace G:=Hid.o G;have D:=aJ (j.fin G);clear G;(go_wp2_with fail);exact kD rfl rfl rf D.o.1 Tryz.underlying102 rfl (qQ _) ⟨by rw[P.o],D.o.2.1⟩
noncomputable def bef (bs:List BrD) (k:Nat):GQ:=p8 (lv bs) (rwx (lv bs)) (cnt (lv bs) 18) (usd (lv bs) 1 bs) (feed (rwx (lv bs)) (usd (lv bs) 1 bs)) k
noncomputable def drp (bs:List BrD) (fN s k:Nat):GQ:=p8 (lv bs) (rwx (lv bs)) (cnt (lv bs) 18) (usd (lv bs) s bs) (unit (rwx (lv bs) fN)) k
noncomputable def fcu (bs:List BrD) (fN:Nat) (kind r:Int) (n:Nat):GQ:=xe kind (bef bs fN) (drp bs fN 1 fN) (drp bs fN 0 fN) (GQ.i r 0) n
noncomputable def vbe (bs:List BrD) (n k:Nat):GQ:=if n=1 then bef bs k else GQ.i 0 0
noncomputable def vlt (bs:List BrD) (fN:Nat) (kind r:Int) (n k:Nat):GQ:=vbe bs n k-fcu bs fN kind r n*drp bs fN (min n 1) k
section
variable {bs:List BrD} {fN:Nat}
theorem OL(hb:∀b∈bs,gF b)(Z:bs.length<=23)(k):Bd (bef bs k) 841:=by
 unfold bef;by_cases h:lv bs k=true
 .rw[qU h];exact Jt hb Z (Or.inl rfl) rfl ((Rwx.of (fun k j=>sN hb j)).lt _ h)
 .rw[oU Acn];exact Aa8
theorem OH(hb:∀b∈bs,gF b)(Z:bs.length<=23)(s k):Bd (drp bs fN s k) 841:=by
 unfold drp;by_cases h:lv bs k=true
 .rw[qU h];exact Jt hb Z (Or.inr ⟨_,rfl⟩) rfl ((Rwx.of (fun k j=>sN hb j)).lt _ h)
 .rw[oU Acn];exact Aa8
def UZ(hb:∀b∈bs,gF b)(Z:bs.length<=23)(s fN):∃M,M≠GQ.i 0 0/\Wh M (q2 420)/\(∀k,s=1->Wh (M*bef bs k) (q2 420))/\∀k,Wh (M*drp bs fN s k) (q2 420):=by
 obtain⟨F,B⟩:=NI hb Z (lv bs) s;obtain⟨M,C,D,j,l⟩:=(wY hb s).den B (EA (Aw hb).none) F (rwx (lv bs) fN);rw[<-Oy];exact⟨M,C,D,fun k hs=>by subst hs;exact j k,l⟩
def D9(hb:∀b∈bs,gF b)(Z:bs.length<=23)(B:lv bs fN=true):∃M0 M1,Seen M0 M1 (bef bs fN) (drp bs fN 1 fN) (drp bs fN 0 fN)/\(∀k,Wh (M1*bef bs k) (q2 420))/\(∀k,Wh (M1*drp bs fN 1 k) (q2 420))/\∀k,Wh (M0*drp bs fN 0 k) (q2 420):=by
 obtain⟨M1,M,C,j,l⟩:=UZ hb Z 1 fN;obtain⟨M0,b1,b2,_,b4⟩:=UZ hb Z 0 fN;exact⟨M0,M1,⟨b1,M,b2,C,j fN rfl,l fN,b4 fN,(wY hb 1).drive B,(wY hb 0).drive B⟩,fun k=>j k rfl,l,b4⟩
def Qj(hb:∀b∈bs,gF b)(Z:bs.length<=23)(l:lv bs fN=true)(kind){r}(j:0<=r)(B:r<=1000)(n):Bd (fcu bs fN kind r n) 2600:=by
 obtain⟨M0,M1,h,_⟩:=D9 hb Z l;exact h.bd kind j B n
end
noncomputable def nu (bs:List BrD) (fN:Nat) (f:dQ) (n k:Nat):GQ:=if f.kind≠0/\lv bs fN=true then vlt bs fN f.kind f.r n k else vbe bs n k
noncomputable def vK (bs:List BrD) (fN:Nat) (f:dQ) (n:Nat):GQ:=if f.kind≠0/\lv bs fN=true then fcu bs fN f.kind f.r n else GQ.i 0 0
noncomputable def VK (bs:List BrD) (fN:Nat) (f:dQ) (way:Option BrD) (n:Nat):GQ:=
 match way with
 |none=>GQ.i 0 0
 |some b=>if 13<=b.a/\lv bs b.a=true then (nu bs fN f n b.a-nu bs fN f n b.b-(if n=1 then GQ.i b.emf 0 else GQ.i 0 0))/b.zs (min n 1) else GQ.i 0 0
noncomputable def rR (s:StD) (p:dC) (f:dQ) (i n:Nat):GQ:=
 let x:=s.bays.getD i default
 if x.kind=1 then nu (cZ s p f) (fH s p f) f n (mD s p x.obj.toNat x.en.toNat)
 else if x.kind=2 then
  match iV s p i with
  |some b=>nu (cZ s p f) (fH s p f) f n b.a
  |none=>if n=1 then GQ.i (s.srcs.getD x.obj.toNat default).emf 0 else GQ.i 0 0
 else GQ.i 0 0
noncomputable def yC (s:StD) (p:dC) (f:dQ) (i n:Nat):GQ:=VK (cZ s p f) (fH s p f) f (way s p f i) n
section
variable {bs:List BrD} {fN:Nat} {f:dQ}
structure Den (bs:List BrD) (fN:Nat) (f:dQ) (D:GQ):Prop where
 ne:D≠GQ.i 0 0
 wd:Wh D (q2 2200)
 v:∀n k,Wh (D*nu bs fN f n k) (q2 2200)
 i:∀n,Wh (D*vK bs fN f n) (q2 2200)
theorem Den.of(hb:∀b∈bs,gF b)(Z:bs.length<=23)(C:0<=f.r/\f.r<=1000):∃D,Den bs fN f D:=by
 by_cases h:f.kind≠0/\lv bs fN=true
 .obtain⟨M0,M1,hS,B,l,j⟩:=D9 hb Z h.2;obtain⟨K,I⟩:=hS.cur f.kind C.1 C.2;refine⟨M0*(M1*K),GQ.iK hS.m0 (GQ.iK hS.m1 I.k0),gJ (dS hS.w0 (dS hS.w1 I.wk)) aa,fun n k=> ?_,fun n=> ?_⟩
  .unfold nu;rw[if_pos h];unfold vlt;have hv:Wh (M0*(M1*K)*vbe bs n k) (q2 2199):=by
    unfold vbe;split
    .have e:M0*(M1*K)*bef bs k=M0*(K*(M1*bef bs k)):=by ext<;>simp only[GQ.aZ,GQ.aX]<;>grind
     rw[e];exact gJ (dS hS.w0 (dS I.wk (B k))) aa
    .rw[GQ.bI];exact gL _
   have hd:Wh (M0*(M1*K)*(fcu bs fN f.kind f.r n*drp bs fN (min n 1) k)) (q2 2199):=by
    have ha:Wh (K*fcu bs fN f.kind f.r n) (q2 1278):=I.wa n;by_cases hn:n=0
    .have e:M0*(M1*K)*(fcu bs fN f.kind f.r n*drp bs fN (min n 1) k)=M1*((K*fcu bs fN f.kind f.r n)*(M0*drp bs fN (min n 1) k)):=by ext<;>simp only[GQ.aZ,GQ.aX]<;>grind
     rw[e];have:=j k;rw[show min n 1=0 by omega];exact gJ (dS hS.w1 (dS ha this)) aa
    .have e:M0*(M1*K)*(fcu bs fN f.kind f.r n*drp bs fN (min n 1) k)=M0*((K*fcu bs fN f.kind f.r n)*(M1*drp bs fN (min n 1) k)):=by ext<;>simp only[GQ.aZ,GQ.aX]<;>grind
     rw[e];have:=l k;rw[show min n 1=1 by omega];exact gJ (dS hS.w0 (dS ha this)) aa
   rw[GQ.lD,pM 2199,Nat.mul_two];exact hv.sub hd
  .unfold vK;rw[if_pos h];have e:M0*(M1*K)*fcu bs fN f.kind f.r n=M0*(M1*(K*fcu bs fN f.kind f.r n)):=by ext<;>simp only[GQ.aZ,GQ.aX]<;>grind
   rw[e];exact gJ (dS hS.w0 (dS hS.w1 (I.wa n))) aa
 .obtain⟨M,B,l,j,_⟩:=UZ hb Z 1 fN;refine⟨M,B,gJ l aa,fun n k=> ?_,fun n=> ?_⟩
  .unfold nu;rw[if_neg h];unfold vbe;split
   .exact gJ (j k rfl) aa
   .rw[GQ.bI];exact gL _
  .unfold vK;rw[if_neg h,GQ.bI];exact gL _
end
def EC {α:Type} (P Q R O K N L J M C B F l H D G j I:α):Nat->α
 |1=>P
 |2=>Q
 |3=>R
 |4=>O
 |5=>K
 |6=>N
 |7=>L
 |8=>J
 |9=>M
 |10=>C
 |11=>B
 |12=>F
 |13=>l
 |14=>H
 |15=>D
 |16=>G
 |17=>j
 |_=>I
def RA (w:World) (v:Value) (z1 j G R Y O J B H L l M K Q Z D I T:Int):Prop:=
 ∃(S:Nat->Bool) (A:Nat->Option Addr) (N C:Nat->Nat),v=.agg #[.bool (S 1),.slice (A 1) (N 1) (C 1),.bool (S 2),.slice (A 2) (N 2) (C 2),.bool (S 3),.slice (A 3) (N 3) (C 3),.bool (S 4),.slice (A 4) (N 4) (C 4),.bool (S 5),.slice (A 5) (N 5) (C 5),.bool (S 6),.slice (A 6) (N 6) (C 6),.bool (S 7),.slice (A 7) (N 7) (C 7),.bool (S 8),.slice (A 8) (N 8) (C 8),.bool (S 9),.slice (A 9) (N 9) (C 9),.bool (S 10),.slice (A 10) (N 10) (C 10),.bool (S 11),.slice (A 11) (N 11) (C 11),.bool (S 12),.slice (A 12) (N 12) (C 12),.bool (S 13),.slice (A 13) (N 13) (C 13),.bool (S 14),.slice (A 14) (N 14) (C 14),.bool (S 15),.slice (A 15) (N 15) (C 15),.bool (S 16),.slice (A 16) (N 16) (C 16),.bool (S 17),.slice (A 17) (N 17) (C 17),.bool (S 18),.slice (A 18) (N 18) (C 18)]/\RI w (iv (S 1) (A 1) (N 1) (C 1)) z1/\RI w (iv (S 2) (A 2) (N 2) (C 2)) j/\RI w (iv (S 3) (A 3) (N 3) (C 3)) G/\RI w (iv (S 4) (A 4) (N 4) (C 4)) R/\RI w (iv (S 5) (A 5) (N 5) (C 5)) Y/\RI w (iv (S 6) (A 6) (N 6) (C 6)) O/\RI w (iv (S 7) (A 7) (N 7) (C 7)) J/\RI w (iv (S 8) (A 8) (N 8) (C 8)) B/\RI w (iv (S 9) (A 9) (N 9) (C 9)) H/\RI w (iv (S 10) (A 10) (N 10) (C 10)) L/\RI w (iv (S 11) (A 11) (N 11) (C 11)) l/\RI w (iv (S 12) (A 12) (N 12) (C 12)) M/\RI w (iv (S 13) (A 13) (N 13) (C 13)) K/\RI w (iv (S 14) (A 14) (N 14) (C 14)) Q/\RI w (iv (S 15) (A 15) (N 15) (C 15)) Z/\RI w (iv (S 16) (A 16) (N 16) (C 16)) D/\RI w (iv (S 17) (A 17) (N 17) (C 17)) I/\RI w (iv (S 18) (A 18) (N 18) (C 18)) T
def RA.mk{w s1 A1 n1 c1 s2 A2 n2 c2 s3 A3 n3 c3 s4 A4 n4 c4 s5 A5 n5 c5 s6 A6 n6 c6 s7 A7 n7 c7 s8 A8 n8 c8 s9 A9 n9 c9 W Ws U V S F N P WL WG Wt Wz Wp WJ WH c13 WR WM WP c14 Wv WA Wx Ww Xj C Xn WX WE j Wy WI Xk WV Xl Xh z1 z2 G R Y O J z8 H L l M K Q Z D I T}(h1:RI w (iv s1 A1 n1 c1) z1)(h2:RI w (iv s2 A2 n2 c2) z2)(h3:RI w (iv s3 A3 n3 c3) G)(h4:RI w (iv s4 A4 n4 c4) R)(h5:RI w (iv s5 A5 n5 c5) Y)(h6:RI w (iv s6 A6 n6 c6) O)(h7:RI w (iv s7 A7 n7 c7) J)(h8:RI w (iv s8 A8 n8 c8) z8)(h9:RI w (iv s9 A9 n9 c9) H)(Xa:RI w (iv W Ws U V) L)(WC:RI w (iv S F N P) l)(WB:RI w (iv WL WG Wt Wz) M)(Wu:RI w (iv Wp WJ WH c13) K)(XI:RI w (iv WR WM WP c14) Q)(WF:RI w (iv Wv WA Wx Ww) Z)(Wq:RI w (iv Xj C Xn WX) D)(B:RI w (iv WE j Wy WI) I)(Wo:RI w (iv Xk WV Xl Xh) T):RA w (.agg #[.bool s1,.slice A1 n1 c1,.bool s2,.slice A2 n2 c2,.bool s3,.slice A3 n3 c3,.bool s4,.slice A4 n4 c4,.bool s5,.slice A5 n5 c5,.bool s6,.slice A6 n6 c6,.bool s7,.slice A7 n7 c7,.bool s8,.slice A8 n8 c8,.bool s9,.slice A9 n9 c9,.bool W,.slice Ws U V,.bool S,.slice F N P,.bool WL,.slice WG Wt Wz,.bool Wp,.slice WJ WH c13,.bool WR,.slice WM WP c14,.bool Wv,.slice WA Wx Ww,.bool Xj,.slice C Xn WX,.bool WE,.slice j Wy WI,.bool Xk,.slice WV Xl Xh]) z1 z2 G R Y O J z8 H L l M K Q Z D I T:=
 ⟨EC s1 s2 s3 s4 s5 s6 s7 s8 s9 W S WL Wp WR Wv Xj WE Xk,EC A1 A2 A3 A4 A5 A6 A7 A8 A9 Ws F WG WJ WM WA C j WV,EC n1 n2 n3 n4 n5 n6 n7 n8 n9 U N Wt WH WP Wx Xn Wy Xl,EC c1 c2 c3 c4 c5 c6 c7 c8 c9 V P Wz c13 c14 Ww WX WI Xh,rfl,h1,h2,h3,h4,h5,h6,h7,h8,h9,Xa,WC,WB,Wu,XI,WF,Wq,B,Wo⟩
def Qn{cs:Array Value}(h:cs.size=36):(Tryz.prog.info? 45).map (·.size)=some cs.size:=by rw[h];kernel_rfl
def U9{fn:Func}{R:Ending->World->Prop}{a:Act}{w:World}{t u g:Nat}{cs:Array Value}(l:fn.results= #[.cell t 45,.tmp u])(hd:a.defers=[])(hp:a.tmps[t]?.getD undef=.pointer (some ⟨g,0,none⟩))(hb:Blk w g 45 cs)(j:R (.returned (.tuple #[.agg cs,a.tmps.getD u undef])) w)(hs:cs.size=36:=by rfl):bodyPost Tryz.prog fn R .ret a w:=
 bodyPost_ret (v:=.tuple #[.agg cs,a.tmps.getD u undef]) (by simp[results,l,hp,asAddr,run_loadVar_row w g 45 45 cs (0,0) _ hb Tryz.underlying45 rfl (Qn hs)]) hd j
def St.row{w W:World}{bs bs':List Bk}{fs}(h:St w W bs fs)(i:Nat){g:Nat}{t cs cs'}(e:bs[i]? =some (g,t,cs))(B:Own w g)(hn:kz cs=true)(J:bs.set i (g,t,cs')=bs'):St w (W.setRow g cs') bs' fs:=by
 have hb:=h.blk i e;refine⟨(Only.setRow W g cs').ext h.ext B,fun p hp=> ?_,J ▸ IB (p:=(g,t,cs)) e h.nd,fun q hq=> ?_⟩
 .obtain⟨j,l⟩:=List.getElem?_of_mem hp;rw[<-J] at l;have T:i<bs.length:=(List.getElem?_eq_some_iff.1 e).1;by_cases L:i=j
  .subst L;rw[List.getElem?_set_self T] at l;injection l with l;subst l;exact setRow_heap W g _ _ _ _ hb
  .rw[List.getElem?_set_ne L] at l;exact(Only.setRow W g cs').blk (h.blks p (List.mem_of_getElem? l)) (zx h.nd (fun h=>L h.symm) l e)
 .obtain⟨A',n',c',D,C⟩:=h.nums q hq;exact⟨A',n',c',D,C.only (Only.setRow W g cs') hb (su hn)⟩
def AV (w:World) (v:Value) (P p1 p2:PQ) (n:Nat):Prop:=∃z1 j G R Y O J B H L l M K Q Z D I T:Int,RA w v z1 j G R Y O J B H L l M K Q Z D I T/\Is P.u z1 j G/\Sz n z1 j G/\Is P.v R Y O/\Sz n R Y O/\Is p1.u J B H/\Sz n J B H/\Is p1.v L l M/\Sz n L l M/\Is p2.u K Q Z/\Sz n K Q Z/\Is p2.v D I T/\Sz n D I T
def ph0 (x y z:GQ):PQ:=⟨x+(y+z),GQ.i 0 0⟩
def ph1 (x y z:GQ):PQ:=⟨GQ.bM 2 x (-1) (y+z) 2,GQ.bM 1 z (-1) y 2*GQ.ip 1⟩
def ph2 (x y z:GQ):PQ:=⟨GQ.bM 2 x (-1) (y+z) 2,GQ.bM 1 y (-1) z 2*GQ.ip 1⟩
def phq (q:Nat->GQ) (m:Nat):PQ:=if m=0 then ph0 (q 0) (q 1) (q 2) else if m=1 then ph1 (q 0) (q 1) (q 2) else ph2 (q 0) (q 1) (q 2)
def phv (q:Nat->GQ) (sh m:Nat):PQ:=phq q ((m+3-sh)%3)*PQ.zp (8*sh%12)
section
variable {q q' x y:Nat->GQ} {c z r:GQ} {m:Nat}
def VH:phq q 0=ph0 (q 0) (q 1) (q 2):=rfl
def VZ:phq q 1=ph1 (q 0) (q 1) (q 2):=rfl
def VW:phq q 2=ph2 (q 0) (q 1) (q 2):=rfl
end
def rP (q:Nat->GQ) (D:GQ):Prop:=D≠GQ.i 0 0/\Wh D (q2 2250)/\∀n,Fr D 0 2250 (q n)
def FrP (D:GQ) (h e:Nat) (p:PQ):Prop:=Fr D h e p.u/\Fr D h e p.v
section
variable {D:GQ} {h e:Nat} {p t:PQ} {q:Nat->GQ}
def Px{a b k}(h:a.natAbs+b.natAbs<=2^k):Wh (GQ.i a b) (q2 k):=⟨a,b,rfl,h⟩
def Fr.UD{x y}(J:Fr D h e x)(R:Fr D h e y):Fr D h (e+1) (GQ.bM 1 x 1 y 1):=by
 have:GQ.bM 1 x 1 y 1=x+y:=by ext<;>simp only[GQ.bM,GQ.bQ,GQ.bN]<;>grind
 rw[this];exact J.add R
def Fr.Oc{x y}(J:Fr D h e x)(R:Fr D h e y):Fr D (h+1) (e+1) (GQ.bM 1 x (-1) y 2):=by
 have:GQ.bM 1 x (-1) y 2=(x-y)*⟨1/2,0⟩:=by ext<;>simp only[GQ.bM,GQ.dI,GQ.dJ,GQ.aZ,GQ.aX]<;>grind
 rw[this];exact(J.sub R).half
def Fr.Va{x y}(J:Fr D h e x)(R:Fr D h e y):Fr D (h+1) (e+2) (GQ.bM 2 x (-1) y 2):=by
 have:GQ.bM 2 x (-1) y 2=(x*GQ.i 2 0-y)*⟨1/2,0⟩:=by ext<;>simp only[GQ.bM,GQ.dI,GQ.dJ,GQ.aZ,GQ.aX,GQ.dE,GQ.dB]<;>grind
 rw[this];exact((J.RD (k:=1) (Px aj)).sub (R.le aa)).half
def Fr.TI{x}(J:Fr D h e x):Fr D h e (x*GQ.ip 1):=by
 have:=J.RD (c:=GQ.ip 1) (k:=0) ⟨0,1,by ext<;>simp only[GQ.ip,GQ.aZ,GQ.aX,GQ.dE,GQ.dB]<;>grind,aj⟩;exact this
theorem FrP.phqq(B:Fr D 0 e (q 0))(l:Fr D 0 e (q 1))(j:Fr D 0 e (q 2))(m:Nat):FrP D 1 (e+3) (phq q m):=by
 have hs:=l.add j;have z:∀h e,Fr D h e (GQ.i 0 0):=fun h e=>Fr.zero;have hb:=(Fr.Va (B.le (by omega:e<=e+1)) hs);unfold phq;split
 .exact⟨((B.le (by omega:e<=e+1)).add hs).up,z _ _⟩
 .split
  .exact⟨hb,(Fr.TI (Fr.Oc j l)).le aa⟩
  .exact⟨hb,(Fr.TI (Fr.Oc l j)).le aa⟩
def FrP.zp{sh}(hp:FrP D h e p)(hs:sh<3):FrP D (h+1) (e+4) (p*PQ.zp (8*sh%12)):=by
 have R:∀(a b:GQ),Wh (a*GQ.i 2 0) (q2 1)->Wh (b*GQ.i 2 0) (q2 1)->FrP D (h+1) (e+4) (p*⟨a,b⟩):=fun a b ha hb=>by
  have l (x:GQ):x=x*GQ.i 2 0*⟨1/2,0⟩:=by ext<;>simp only[GQ.aZ,GQ.aX,GQ.dE,GQ.dB]<;>grind
  have m1 {x c:GQ} (J:Fr D h e x) (hc:Wh (c*GQ.i 2 0) (q2 1)):Fr D (h+1) (e+1) (x*c):=by
   have:x*c=x*(c*GQ.i 2 0)*⟨1/2,0⟩:=by ext<;>simp only[GQ.aZ,GQ.aX,GQ.dE,GQ.dB]<;>grind
   rw[this];exact(J.RD hc).half
  refine⟨?_,?_⟩
  .show Fr D (h+1) (e+4) (p.u*a+GQ.i 3 0*(p.v*b));exact((m1 hp.1 ha).le (by omega:e+1<=e+3)).add ((m1 hp.2 hb).V4 (k:=2) (Px aj))
  .show Fr D (h+1) (e+4) (p.u*b+p.v*a);exact((m1 hp.1 hb).add (m1 hp.2 ha)).le aa
 have j:sh=0\/sh=1\/sh=2:=aa;rcases j with rfl|rfl|rfl
 .rw[show 8*0%12=0 by rfl,PQ.zp0];exact R _ _ ⟨2,0,by ext<;>simp only[GQ.aZ,GQ.aX,GQ.dE,GQ.dB]<;>grind,aj⟩ ⟨0,0,by ext<;>simp only[GQ.aZ,GQ.aX,GQ.dE,GQ.dB]<;>grind,aj⟩
 .rw[show 8*1%12=8 by rfl,PQ.zp8];exact R _ _ ⟨-1,0,by ext<;>simp only[GQ.aZ,GQ.aX,GQ.dE,GQ.dB]<;>grind,aj⟩ ⟨0,-1,by ext<;>simp only[GQ.aZ,GQ.aX,GQ.dE,GQ.dB]<;>grind,aj⟩
 .rw[show 8*2%12=4 by rfl,PQ.zp4];exact R _ _ ⟨-1,0,by ext<;>simp only[GQ.aZ,GQ.aX,GQ.dE,GQ.dB]<;>grind,aj⟩ ⟨0,1,by ext<;>simp only[GQ.aZ,GQ.aX,GQ.dE,GQ.dB]<;>grind,aj⟩
def rP.phv(hq:rP q D){sh:Nat}(hs:sh<3)(m:Nat):FrP D 2 2257 (phv q sh m):=FrP.zp (FrP.phqq (hq.2.2 0) (hq.2.2 1) (hq.2.2 2) _) hs
def FrP.bd(hp:FrP D h e p)(B:Wh D (q2 2250))(j:D≠GQ.i 0 0){n}(C:e+(h+2250)<n)(l:h+2250+(h+2250)<n):Bd p.u n/\Bd p.v n:=⟨hp.1.bd B j C l,hp.2.bd B j C l⟩
def rP.bd(hq:rP q D)(n):Bd (q n) 4600:=(hq.2.2 n).bd hq.2.1 hq.1 aa aa
def rP.sum(hq:rP q D):Bd (GQ.bM 1 (q 1) 1 (q 2) 1) 4600:=(Fr.UD (hq.2.2 1) (hq.2.2 2)).bd hq.2.1 hq.1 aa aa
def rP.phq(hq:rP q D)(m:Nat):Bd (phq q m).u 4600/\Bd (phq q m).v 4600:=(FrP.phqq (hq.2.2 0) (hq.2.2 1) (hq.2.2 2) m).bd hq.2.1 hq.1 aa aa
end
section
variable {bs:List BrD} {fN:Nat} {f:dQ} {D:GQ}
def Den.JP(h:Den bs fN f D)(k):rP (fun n=>nu bs fN f n k) D:=⟨h.ne,gJ h.wd aa,fun n=>(Fr.of (h.v n k)).le aa⟩
def Den.Wl(h:Den bs fN f D):rP (vK bs fN f) D:=⟨h.ne,gJ h.wd aa,fun n=>(Fr.of (h.i n)).le aa⟩
def gF.zw{b}(h:gF b)(sq):∃j:GQ,j≠GQ.i 0 0/\Wh j (q2 15)/\∀x:GQ,x/b.zs sq*j=x*GQ.i b.d 0:=by
 obtain⟨_,j,F,B,C⟩:=KI (if sq=0 then b.z0 else b.z1) (h.zi sq) h.n h.d;refine⟨j,F,B.mono (by show 32000<=2^15;decide),fun x=> ?_⟩;rw[<-C];have D:x/b.zs sq*b.zs sq=x:=GQ.gu (h.ne sq);have l:x/b.zs sq*(b.zs sq*GQ.i b.d 0)=x/b.zs sq*b.zs sq*GQ.i b.d 0:=(GQ.bW _ _ _).symm;exact l.trans (by rw[D])
def Den.VI(h:Den bs fN f D)(way:Option BrD)(Y:∀b,way=some b->gF b):∃E,rP (VK bs fN f way) E:=by
 cases way with
 |none=>exact⟨D,h.ne,gJ h.wd aa,fun n=>Fr.zero⟩
 |some b=>
  have hb:=Y b rfl;obtain⟨z0,n0,w0,G⟩:=hb.zw 0;obtain⟨z1,n1,w1,H⟩:=hb.zw 1;refine⟨D*(z0*z1),GQ.iK h.ne (GQ.iK n0 n1),gJ (dS h.wd (dS w0 w1)) aa,fun n=> ?_⟩;refine Fr.of ?_;show Wh (D*(z0*z1)*(if 13<=b.a/\lv bs b.a=true then (nu bs fN f n b.a-nu bs fN f n b.b-(if n=1 then GQ.i b.emf 0 else GQ.i 0 0))/b.zs (min n 1) else GQ.i 0 0)) (q2 2250);split
  .have j:Wh (if n=1 then GQ.i b.emf 0 else GQ.i 0 0) (q2 20):=by
    split
    .exact nO (by have:=hb.emf;show b.emf.natAbs<=2^20;omega)
    .exact gL _
   have J:Wh (D*(nu bs fN f n b.a-nu bs fN f n b.b-(if n=1 then GQ.i b.emf 0 else GQ.i 0 0))) (q2 2221):=by
    have M:=gJ (h.v n b.a) (by omega:2200<=2219);have C:=gJ (h.v n b.b) (by omega:2200<=2219);have F:=dS h.wd j;rw[GQ.lD,GQ.lD,pM 2220,Nat.mul_two];refine Wh.sub ?_ F;rw[pM 2219,Nat.mul_two];exact M.sub C
   have hd:Wh (GQ.i b.d 0) (q2 4):=nO (by have:=hb.d;show b.d.natAbs<=2^4;omega);generalize nu bs fN f n b.a-nu bs fN f n b.b-(if n=1 then GQ.i b.emf 0 else GQ.i 0 0)=X at J⊢;by_cases hn:n=0
   .rw[show min n 1=0 by omega];have B:D*(z0*z1)*(X/b.zs 0)=D*X*(GQ.i b.d 0*z1):=by
     have:=G X;have l:D*(z0*z1)*(X/b.zs 0)=D*(X/b.zs 0*z0)*z1:=by generalize X/b.zs 0=y;ext<;>simp only[GQ.aZ,GQ.aX]<;>grind
     rw[l,this];ext<;>simp only[GQ.aZ,GQ.aX]<;>grind
    rw[B];exact gJ (dS J (dS hd w1)) aa
   .rw[show min n 1=1 by omega];have B:D*(z0*z1)*(X/b.zs 1)=D*X*(GQ.i b.d 0*z0):=by
     have:=H X;have l:D*(z0*z1)*(X/b.zs 1)=D*(X/b.zs 1*z1)*z0:=by generalize X/b.zs 1=y;ext<;>simp only[GQ.aZ,GQ.aX]<;>grind
     rw[l,this];ext<;>simp only[GQ.aZ,GQ.aX]<;>grind
    rw[B];exact gJ (dS J (dS hd w0)) aa
  .rw[GQ.bI];exact gL _
def rP.const(m)(j:m.natAbs<=2^20):rP (fun n=>if n=1 then GQ.i m 0 else GQ.i 0 0) (GQ.i 1 0):=
 ⟨aj,gJ (Px (a:=1) (b:=0) (k:=0) aj) aa,fun n=>Fr.of (by
  rw[GQ.jH];show Wh (if n=1 then GQ.i m 0 else GQ.i 0 0) (q2 2250);split
  .exact gJ (nO (by exact j):Wh _ (q2 20)) aa
  .exact gL _)⟩
end
section
variable {s:StD} {p:dC} {f:dQ} {D:GQ}
theorem Den.seqB(hs:lG s)(h:Den (cZ s p f) (fH s p f) f D){i}(hi:i<s.bays.length):∃E,rP (rR s p f i) E:=by
 unfold rR;simp only[];by_cases B:(s.bays.getD i default).kind=1
 .simp only[if_pos B];exact⟨D,h.JP _⟩
 .simp only[if_neg B];by_cases j:(s.bays.getD i default).kind=2
  .simp only[if_pos j];cases hb:iV s p i with
   |some b=>exact⟨D,h.JP _⟩
   |none=>
    have C:=RU (hs.obj i hi) j;have l:=hs.src (s.bays.getD i default).obj.toNat aa;unfold jB at l;simp only[Bool.and_eq_true] at l;have O:=eP.1 l.1.1;exact⟨_,rP.const _ aa⟩
  .simp only[if_neg j];exact⟨D,h.ne,gJ h.wd aa,fun n=>Fr.zero⟩
theorem DX(h:lG s)(l:qy s.buses.length s.lines.length f){i}(hi:i<s.bays.length){b}(hb:way s p f i=some b):gF b:=by
 unfold way at hb;split at hb
 .rename_i j
  injection hb with hb;subst hb;have B:=Vw (h.obj i hi) j;have O:=Vb (h.rng i hi);exact yJ h l aa aa
 .exact(Bg h hi hb).1
end
structure vC (w:World) (bv:BrV) (b:BrD):Prop where
 pa:bv.a=b.a
 pb:bv.b=b.b
 z0:GV w bv.z0.v (b.zs 0) 64
 z1:GV w bv.z1.v (b.zs 1) 64
 e:GV w bv.e.v (GQ.i b.emf 0) 64
def vC.ext{w w' bv b}(h:vC w bv b)(x:Ext w w'):vC w' bv b:=⟨h.pa,h.pb,h.z0.ext x,h.z1.ext x,h.e.ext x⟩
def vC.fQ{S w w' bv b}(h:vC w bv b)(m:Mod S w w')(j:gG S w):vC w' bv b:=⟨h.pa,h.pb,h.z0.fQ m j,h.z1.fQ m j,h.e.fQ m j⟩
def mh (w:World) (k:Nat) (e:Nat->En) (f:Nat->GQ) (n:Nat):Prop:=∀j,j<k->GV w (e j).v (f j) n
def mh.ext{w w' k n e f}(h:mh w k e f n)(x:Ext w w'):mh w' k e f n:=fun j l=>(h j l).ext x
inductive NR where
 |any
 |gv (q:GQ) (n:Nat)
 |row (k:Nat) (f:Nat->GQ) (n:Nat)
 |box (t:TypeId) (cs:Array Value)
 |eq (u:Value)
 |br (b:BrD)
 |mk (n:Nat) (t:TypeId) (cs:Array Value)
def NR.holds:NR->Nat->Nat->Value->World->Prop
 | .any,_,_,_,_=>True
 | .gv q n,_,_,v,w=>∃e:En,v=e.v/\GV w e.v q n
 | .row k f n,_,_,v,w=>∃e:Nat->En,v=.agg (aN k e).toArray/\mh w k e f n
 | .box t cs,lo,hi,v,w=>v=.pointer (some ⟨lo,0,none⟩)/\lo<hi/\Blk w lo t cs
 | .eq u,_,_,v,_=>v=u
 | .mk n t cs,lo,hi,v,w=>v=.slice (some ⟨lo,0,none⟩) n n/\lo<hi/\Blk w lo t cs
 | .br b,lo,hi,v,w=>v=.pointer (some ⟨lo,0,none⟩)/\lo<hi/\∃bv:BrV,Blk w lo 167 bv.cs.toArray/\vC w bv b
def NR.GM(f:NR){lo hi v w w'}(h:f.holds lo hi v w)(x:Ext w w'):f.holds lo hi v w':=by
 cases f with
 |any=>trivial
 |gv q n=>obtain⟨e,j,l⟩:=h;exact⟨e,j,l.ext x⟩
 |row k f n=>obtain⟨e,j,l⟩:=h;exact⟨e,j,l.ext x⟩
 |box t cs=>exact⟨h.1,h.2.1,h.2.2.ext x⟩
 |eq u=>exact h
 |br b=>obtain⟨j,l,bv,B,C⟩:=h;exact⟨j,l,bv,B.ext x,C.ext x⟩
 |mk n t cs=>exact⟨h.1,h.2.1,h.2.2.ext x⟩
def NR.ng{q n lo hi v w}(h:NR.holds (.gv q n) lo hi v w):GV w v q n:=by
 obtain⟨e,rfl,j⟩:=h;exact j
def OX{k e l}(h:aN k e=aN k l){j}(C:j<k):e j=l j:=by
 have hc:(e j).cells=(l j).cells:=by
  apply List.ext_getElem?;intro t;by_cases B:t<6
  .rw[<-dM (f:=e) B C,<-dM (f:=l) B C,h]
  .rw[List.getElem?_eq_none Abr,List.getElem?_eq_none Abr]
 generalize e j=a at hc⊢;generalize l j=b at hc⊢;cases a;cases b
 simpa[En.cells,and_assoc] using hc
def NR.rowAt{k n lo hi e f w}(h:NR.holds (.row k f n) lo hi (.agg (aN k e).toArray) w):mh w k e f n:=by
 obtain⟨F,l,C⟩:=h;injection l with l;have D:aN k e=aN k F:=by simpa using congrArg Array.toList l
 exact fun j B=>by rw[OX D B];exact C j B
def TQ:List (Nat×NR)->Nat->NR
 |[],_=> .any
 |p::r,i=>bif Nat.beq p.1 i then p.2 else TQ r i
def Ib:List (Nat×NR)->Nat->Bool
 |[],_=>false
 |p::r,i=>Nat.beq p.1 i||Ib r i
def NRs (l:List (Nat×NR)):Nat->Nat->Nat->Value->World->Prop:=fun i lo hi v w=>(TQ l i).holds lo hi v w
def qw(l):∀i lo hi v w w',NRs l i lo hi v w->Ext w w'->NRs l i lo hi v w':=fun _ _ _ _ _ _ h x=>NR.GM _ h x
def nE (w:World) (X:Nat) (v:Value) (o:Option BrD):Prop:=
 match o with
 |none=>v=.pointer none
 |some b=>∃(g k:Nat) (bv:BrV),v=.pointer (some ⟨g,k,none⟩)/\g≠X/\g<w.heap.size/\(∀t u,bv.cs[t]? =some u->w.cell? ⟨g,k+t,none⟩=some u)/\bv.a=b.a/\bv.b=b.b/\GV w bv.z0.v (b.zs 0) 64/\GV w bv.z1.v (b.zs 1) 64/\GV w bv.e.v (GQ.i b.emf 0) 64
def nE.ext{w w' X v}{o:Option BrD}(h:nE w X v o)(x:Ext w w'):nE w' X v o:=by
 cases o with
 |none=>exact h
 |some b=>
  obtain⟨g,k,bv,I,B,l,H,F,J,D,G,C⟩:=h;exact⟨g,k,bv,I,B,Nat.lt_of_lt_of_le l x.size,fun t u j=>x.cell_ (H t u j),F,J,D.ext x,G.ext x,C.ext x⟩
theorem nE.mod{w w' X v}{o:Option BrD}(h:nE w X v o)(m:Mod (fun k=>k=X) w w')(l:gG (fun k=>k=X) w):nE w' X v o:=by
 cases o with
 |none=>exact h
 |some b=>
  obtain⟨g,k,bv,K,C,B,J,H,L,G,I,F⟩:=h;refine⟨g,k,bv,K,C,Nat.lt_of_lt_of_le B m.size,fun t u D=> ?_,H,L,G.fQ m l,I.fQ m l,F.fQ m l⟩;have j:=J t u D;unfold World.cell? at j⊢;simp only[m.block g B C] at j⊢;exact j
def nE.new{w X Y v}{o:Option BrD}(h:nE w X v o)(l:w.heap.size<=Y):nE w Y v o:=by
 cases o with
 |none=>exact h
 |some b=>
  obtain⟨g,k,bv,C,D,j,B⟩:=h;exact⟨g,k,bv,C,aa,j,B⟩
structure nI (w:World) (X:Nat) (C:Nat->Value) (E:Nat->En) (s:StD) (p:dC) (f:dQ):Prop where
 v:∀n k,n<3->k<18->GV w (E (n*18+k)).v (nu (cZ s p f) (fH s p f) f n k) 4400
 i:∀n,n<3->GV w (E (54+n)).v (vK (cZ s p f) (fH s p f) f n) 4400
 seen:f.kind≠0->lv (cZ s p f) (fH s p f)=true->GV w (E 57).v (bef (cZ s p f) (fH s p f)) 4400/\GV w (E 58).v (drp (cZ s p f) (fH s p f) 0 (fH s p f)) 4400/\GV w (E 59).v (drp (cZ s p f) (fH s p f) 1 (fH s p f)) 4400
 live:∀k,k<18->C (15+k)=.bool (lv (cZ s p f) k)
 ends:∀l e,l<6->e<2->C (1+2*l+e)=.int .i64 (mD s p l e:Nat)
 faulty:C 14=.int .i64 (fH s p f:Nat)
 c0:∃A n c,C 0=.slice A n c
 bays:∃(BA:Option Addr) (bc:Nat) (wv:Nat->Value),C 13=.slice BA s.bays.length bc/\Arr w BA s.bays.length 1 (fun i=>[wv i])/\∀i,i<s.bays.length->nE w X (wv i) (way s p f i)
def nI.ext{w w' X C E s p f}(h:nI w X C E s p f)(x:Ext w w'):nI w' X C E s p f:=by
 refine⟨fun n k hn F=>(h.v n k hn F).ext x,fun n hn=>(h.i n hn).ext x,fun l j=> ?_,h.live,h.ends,h.faulty,h.c0,?_⟩
 .obtain⟨a,b,c⟩:=h.seen l j;exact⟨a.ext x,b.ext x,c.ext x⟩
 .obtain⟨D,bc,wv,l,j,B⟩:=h.bays;exact⟨D,bc,wv,l,j.ext x,fun i hi=>(B i hi).ext x⟩
def nI.new{w X Y C E s p f}(h:nI w X C E s p f)(l:w.heap.size<=Y):nI w Y C E s p f:=by
 obtain⟨F,bc,wv,D,j,B⟩:=h.bays;exact⟨h.v,h.i,h.seen,h.live,h.ends,h.faulty,h.c0,F,bc,wv,D,j,fun i hi=>(B i hi).new l⟩
def nI.one{w X C E s p f}(h:nI w X C E s p f):∀i,i<33->(C i).oneCell'=true:=fun i hi=>by
 by_cases B:i=0
 .subst B;obtain⟨A,n,c,e⟩:=h.c0;rw[e];rfl
 .by_cases F:i<13
  .have:=h.ends ((i-1)/2) ((i-1)%2) aa (Nat.mod_lt _ aa);rw[show 1+2*((i-1)/2)+(i-1)%2=i by omega] at this;rw[this];rfl
  .by_cases l:i=13
   .subst l;obtain⟨D,bc,wv,e,_⟩:=h.bays;rw[e];rfl
   .by_cases j:i=14
    .subst j;rw[h.faulty];rfl
    .have:=h.live (i-15) aa;rw[show 15+(i-15)=i by omega] at this;rw[this];rfl
def gl (C:Nat->Value) (E:Nat->En):List Value:=(List.range 393).map (eO C E)
def uD(C E):(gl C E).length=393:=by simp[gl]
theorem P9{C E}(h:∀i,i<33->(C i).oneCell'=true):∀v∈gl C E,v.oneCell'=true:=by
 intro v hv;obtain⟨i,hi,rfl⟩:=List.mem_map.1 hv;by_cases j:i<33
 .rw[dY j];exact h i j
 .unfold eO;rw[if_neg j];have l:(i-33)%6<(E ((i-33)/6)).cells.length:=by rw[qR];exact Nat.mod_lt _ aa
  rw[List.getElem?_eq_getElem l];exact dZ _ _ (List.getElem_mem _)
def tL(C E):(Tryz.prog.info? 105).map (·.size)=some (gl C E).length:=by rw[uD];kernel_rfl
def zC (i:Nat):Value:=if i=0 then .slice none 0 0 else if i<13 then .int .i64 0 else if i=13 then .slice none 0 0 else if i=14 then .int .i64 0 else .bool false
def xC:(Tryz.prog.info? 105).map (·.zero)=some (some (.agg (gl zC fun _=>zEn).toArray)):=ah
def PN{w g C E}(h:Blk w g 105 (gl C E).toArray):eZ w g 105 393 (eO C E):=h
def He{w g C C' E E'}(h:Blk w g 105 (gl C E).toArray):w.there g 0 (gl C' E').length:=h.there (by rw[List.size_toArray,uD,uD];omega)
def UH{w W W' g C C' E E'}(J:Ext w W)(l:w.heap.size<=g)(hb:Blk W g 105 (gl C E).toArray)(Y:W'=puts W g 0 (gl C' E')):Blk W' g 105 (gl C' E').toArray/\Ext w W':=by
 subst Y;refine⟨?_,fw J (Mod.puts (S:=fun k=>k=g) _ _ _ _ rfl) (fun k j=>by have j:k=g:=j;omega)⟩;have:=bY 0 (gl C' E') hb;rw[iy _ _ (by rw[uD,uD])] at this;exact this
def tR{P:Program}{K:Nat}{Q:Exit->Act->World->Prop}{a:Act}{w:World}{l:List Oper}(n:Nat)(m:List (Nat×NR)){q:Prop}(h:q)(t:q->wpT P l.toArray w (Ib m) (NRs m) (fun F a'=>∀w',dO w (NRs m) F w'->wpList P l.toArray Q (l.drop n) a' w') (l.take n) 0 Book.none a:=by
   intro h;simp only[List.take_succ_cons,List.take_zero,List.drop_succ_cons,List.drop_zero];exact h)(B:P.follows .mixedOrders=true:=by kernel_rfl)(j:Region.lexTailB .any l.toArray n=true:=by kernel_rfl):(Code.region K l.toArray true).wp P Q a w:=bR n (Ib m) (NRs m) (qw _) B j (t h)
def dO.hR{w W:World}{Φ:Nat->Nat->Nat->Value->World->Prop}{F:Book}(h:dO w Φ F W)(i:Nat){v:Value}{lo hi n:Nat}{q:GQ}(l:F i=some (v,lo,hi):=by rfl)(j:Φ i lo hi v W=NR.holds (.gv q n) lo hi v W:=by rfl):Hid (GV W v q n):=aJ (NR.ng (j ▸ h.at_ i l))
def Mi(N v0 q0 v1 q1 v2 q2 w)(WA:GV w v0 q0 N)(J:GV w v1 q1 N)(WR:GV w v2 q2 N)(hs:Bd (GQ.bM 1 q1 1 q2 1) N)(hn:2*N+65<=12800):
  CV 85 #[v0,v1,v2] w fun v w'=>(∃u,v=.tuple #[u,.int .i64 0]/\AV w' u (⟨GQ.bM 1 q0 1 (GQ.bM 1 q1 1 q2 1) 1,GQ.i 0 0⟩) (⟨GQ.bM 2 q0 (-1) (GQ.bM 1 q1 1 q2 1) 2,GQ.bM 1 q2 (-1) q1 2*GQ.ip 1⟩) (⟨GQ.bM 2 q0 (-1) (GQ.bM 1 q1 1 q2 1) 2,GQ.bM 1 q1 (-1) q2 2*GQ.ip 1⟩) (N+N+65)):=by
 have hS:=St.start w;obtain⟨Xf,Xe,Xc,WA,I0,S0⟩:=WA;obtain⟨C,L,Z,P,D,W,U,Y,G,H,S,V,rfl,WJ,WH,WI⟩:=WA;replace hS:=hS.aU WJ;clear WJ;replace hS:=hS.aU WH;clear WH;replace hS:=hS.aU WI;clear WI;obtain⟨WN,WO,WL,J,I1,S1⟩:=J;obtain⟨Wv,Ws,Wq,Wt,Wy,Wu,Ww,Wx,Wp,Q,Wo,O,rfl,WE,WF,WG⟩:=J;replace hS:=hS.aU WE;clear WE;replace hS:=hS.aU WF;clear WF;replace hS:=hS.aU WG;clear WG;obtain⟨Xm,Xk,Xl,WR,I2,S2⟩:=WR;obtain⟨WV,W9,WX,Xh,Xg,WZ,Xj,Xi,Xa,WY,WW,K,rfl,Xq,Xp,Xr⟩:=WR;replace hS:=hS.aU Xq;clear Xq;replace hS:=hS.aU Xp;clear Xp;replace hS:=hS.aU Xr;clear Xr;have l:=(St.al (St.al (St.al (St.al hS 42 #[.bool C,.slice L Z P,.bool D,.slice W U Y,.bool G,.slice H S V] (g:=w.heap.size) ag) 42 #[.bool Wv,.slice Ws Wq Wt,.bool Wy,.slice Wu Ww Wx,.bool Wp,.slice Q Wo O] (g:=(w.heap.size+1)) ag) 42 #[.bool WV,.slice W9 WX Xh,.bool Xg,.slice WZ Xj Xi,.bool Xa,.slice WY WW K] (g:=(w.heap.size+2)) ag) 45 #[.bool false,.slice none 0 0,.bool false,.slice none 0 0,.bool false,.slice none 0 0,.bool false,.slice none 0 0,.bool false,.slice none 0 0,.bool false,.slice none 0 0,.bool false,.slice none 0 0,.bool false,.slice none 0 0,.bool false,.slice none 0 0,.bool false,.slice none 0 0,.bool false,.slice none 0 0,.bool false,.slice none 0 0,.bool false,.slice none 0 0,.bool false,.slice none 0 0,.bool false,.slice none 0 0,.bool false,.slice none 0 0,.bool false,.slice none 0 0,.bool false,.slice none 0 0] (g:=(w.heap.size+3)) ag);have WC:=(l.aH 3).cell;have WB:=(l.aH 2).cell;have WK:=(l.aH 1).cell;go_enter Tryz.func85,Tryz.ntmps85;(go_wp2_with fail);clear WC WB WK;clear l;refine gA5 hS 42 #[.bool C,.slice L Z P,.bool D,.slice W U Y,.bool G,.slice H S V] 42 #[.bool Wv,.slice Ws Wq Wt,.bool Wy,.slice Wu Ww Wx,.bool Wp,.slice Q Wo O] 42 #[.bool WV,.slice W9 WX Xh,.bool Xg,.slice WZ Xj Xi,.bool Xa,.slice WY WW K] 45 #[.bool false,.slice none 0 0,.bool false,.slice none 0 0,.bool false,.slice none 0 0,.bool false,.slice none 0 0,.bool false,.slice none 0 0,.bool false,.slice none 0 0,.bool false,.slice none 0 0,.bool false,.slice none 0 0,.bool false,.slice none 0 0,.bool false,.slice none 0 0,.bool false,.slice none 0 0,.bool false,.slice none 0 0,.bool false,.slice none 0 0,.bool false,.slice none 0 0,.bool false,.slice none 0 0,.bool false,.slice none 0 0,.bool false,.slice none 0 0,.bool false,.slice none 0 0] 42 #[.bool C,.slice L Z P,.bool D,.slice W U Y,.bool G,.slice H S V,.bool Wv,.slice Ws Wq Wt,.bool Wy,.slice Wu Ww Wx,.bool Wp,.slice Q Wo O,.bool WV,.slice W9 WX Xh,.bool Xg,.slice WZ Xj Xi,.bool Xa,.slice WY WW K] ?_;clear hS;intro w1 g3 o3 g4 o4 g5 o5 g6 o6 WU Yi hS;refine(JK WU q0 q1 q2 N N N _ (hS.aH 0) ⟨_,_,_,RG.mk (hS.aF 8) (hS.aF 7) (hS.aF 6),I0,S0⟩ aa ⟨_,_,_,RG.mk (hS.aF 5) (hS.aF 4) (hS.aF 3),I1,S1⟩ aa ⟨_,_,_,RG.mk (hS.aF 2) (hS.aF 1) (hS.aF 0),I2,S2⟩ aa).mono ?_;rintro e w2 ⟨rfl,F⟩;replace hS:=hS.mv F;clear F;have Wz:=(St.al hS 197 #[.int .i64 0] (g:=w2.heap.size) ag);have WM:=(Wz.aH 4).cell;have WQ:=(Wz.aH 3).cell;(go_wp2_with fail);clear WM WQ;clear Wz;refine gA1 hS 197 #[.int .i64 0] ?_;clear hS;intro w3 g8 o8 hS;obtain⟨bg,bq,be,XR⟩:=fV (GQ.bM (1) q1 (1) q2 (1));have aI:Sz N bg bq be:=hs.sz XR;refine(mi (ji g8 _ _ q1 q2 (1) (1) (1) _ _ _ (hS.aH 0) ⟨_,_,_,RG.mk (hS.aF 5) (hS.aF 4) (hS.aF 3),I1,S1⟩ ⟨_,_,_,RG.mk (hS.aF 2) (hS.aF 1) (hS.aF 0),I2,S2⟩ aa aa aa aa aa aa aa aa) XR).mono ?_;rintro e w4 ⟨v_,rfl,M,F⟩;replace hS:=hS.mv F;clear F;obtain⟨ax,Ye,az,av,aB,Yg,ar,aG,ay,Yf,aw,aE,rfl,ZU,YY,Zr⟩:=M;replace hS:=hS.aU ZU;clear ZU;replace hS:=hS.aU YY;clear YY;replace hS:=hS.aU Zr;clear Zr;have WP:=(St.al hS 42 #[.bool false,.slice none 0 0,.bool false,.slice none 0 0,.bool false,.slice none 0 0] (g:=w4.heap.size) ag);have Xb:=(WP.aH 0).cell;have Xd:=(WP.aH 0).frozen;have WT:=(St.al hS 42 #[.bool ax,.slice Ye az av,.bool aB,.slice Yg ar aG,.bool ay,.slice Yf aw aE] (g:=w4.heap.size) ag);have XF:=(WT.aH 1).cell;have YP:=(St.al (St.al hS 42 #[.bool ax,.slice Ye az av,.bool aB,.slice Yg ar aG,.bool ay,.slice Yf aw aE] (g:=w4.heap.size) ag) 45 #[.bool false,.slice none 0 0,.bool false,.slice none 0 0,.bool false,.slice none 0 0,.bool false,.slice none 0 0,.bool false,.slice none 0 0,.bool false,.slice none 0 0,.bool false,.slice none 0 0,.bool false,.slice none 0 0,.bool false,.slice none 0 0,.bool false,.slice none 0 0,.bool false,.slice none 0 0,.bool false,.slice none 0 0,.bool false,.slice none 0 0,.bool false,.slice none 0 0,.bool false,.slice none 0 0,.bool false,.slice none 0 0,.bool false,.slice none 0 0,.bool false,.slice none 0 0] (g:=(w4.heap.size+1)) ag);have XG:=(YP.aH 7).cell;have Xn:=(YP.aH 1).cell;(go_wp2_with fail);clear Xb Xd XF XG Xn;clear WP WT YP;refine gA2 hS 42 #[.bool ax,.slice Ye az av,.bool aB,.slice Yg ar aG,.bool ay,.slice Yf aw aE] 45 #[.bool false,.slice none 0 0,.bool false,.slice none 0 0,.bool false,.slice none 0 0,.bool false,.slice none 0 0,.bool false,.slice none 0 0,.bool false,.slice none 0 0,.bool false,.slice none 0 0,.bool false,.slice none 0 0,.bool false,.slice none 0 0,.bool false,.slice none 0 0,.bool false,.slice none 0 0,.bool false,.slice none 0 0,.bool false,.slice none 0 0,.bool false,.slice none 0 0,.bool false,.slice none 0 0,.bool false,.slice none 0 0,.bool false,.slice none 0 0,.bool false,.slice none 0 0] ?_;clear hS;intro w5 g9 o9 g10 Xu hS;obtain⟨bp,bb,a6,aP⟩:=fV (GQ.bM (1) q0 (1) (GQ.bM (1) q1 (1) q2 (1)) (1));have bA:Sz (N+N+65) bp bb a6:=(Bd.bM (m:=1) ⟨_,_,_,I0,S0⟩ ⟨_,_,_,XR,aI⟩ aa aa aa aa aa aa aa).sz aP;refine(mi (ji g8 _ _ q0 (GQ.bM (1) q1 (1) q2 (1)) (1) (1) (1) _ _ _ (hS.aH 2) ⟨_,_,_,RG.mk (hS.aF 11) (hS.aF 10) (hS.aF 9),I0,S0⟩ ⟨_,_,_,RG.mk (hS.aF 2) (hS.aF 1) (hS.aF 0),XR,aI⟩ aa aa aa aa aa aa aa aa) aP).mono ?_;rintro e w6 ⟨v_,rfl,M,F⟩;replace hS:=hS.mv F;clear F;obtain⟨Zg,WS,ZR,ao,Yr,Xz,Zk,Zy,Zm,T,ZK,ap,rfl,Zo,ac,ZM⟩:=M;replace hS:=hS.aU Zo;clear Zo;replace hS:=hS.aU ac;clear ac;replace hS:=hS.aU ZM;clear ZM;(go_wp2_with fail);refine(Ir _).mono ?_;rintro e w7 ⟨v_,rfl,M,F⟩;replace hS:=hS.mv F;clear F;obtain⟨ZJ,XC,Yl,Ym,YZ,XI,Yu,Z9,ZT,Xy,YA,Yo,rfl,Zt,Z8,Yy⟩:=M;replace hS:=hS.aU Zt;clear Zt;replace hS:=hS.aU Z8;clear Z8;replace hS:=hS.aU Yy;clear Yy;have Xw:=(hS.aH 0).cell;have Xv:=(hS.aH 0).frozen;have Zc:=hS.pt 0 0 [.bool Zg,.slice WS ZR ao,.bool Yr,.slice Xz Zk Zy,.bool Zm,.slice T ZK ap,.bool ZJ,.slice XC Yl Ym,.bool YZ,.slice XI Yu Z9,.bool ZT,.slice Xy YA Yo] Xu;have XK:=(Zc.aH 7).cell;have XN:=(Zc.aH 1).cell;(go_wp2_with fail);clear Xw Xv XK XN;clear Zc;replace hS:=hS.pt 0 0 [.bool Zg,.slice WS ZR ao,.bool Yr,.slice Xz Zk Zy,.bool Zm,.slice T ZK ap,.bool ZJ,.slice XC Yl Ym,.bool YZ,.slice XI Yu Z9,.bool ZT,.slice Xy YA Yo] Xu;refine gW hS ?_;clear hS;intro w8 hS;obtain⟨bh,bk,bm,a2⟩:=fV (GQ.bM (2) q0 (-1) (GQ.bM (1) q1 (1) q2 (1)) (2));have bx:Sz (N+N+65) bh bk bm:=(Bd.bM (m:=2) ⟨_,_,_,I0,S0⟩ ⟨_,_,_,XR,aI⟩ aa aa aa aa aa aa aa).sz a2;refine(mi (ji g8 _ _ q0 (GQ.bM (1) q1 (1) q2 (1)) (2) (-1) (2) _ _ _ (hS.aH 2) ⟨_,_,_,RG.mk (hS.aF 17) (hS.aF 16) (hS.aF 15),I0,S0⟩ ⟨_,_,_,RG.mk (hS.aF 8) (hS.aF 7) (hS.aF 6),XR,aI⟩ aa aa aa aa aa aa aa aa) a2).mono ?_;rintro e w9 ⟨v_,rfl,M,F⟩;replace hS:=hS.mv F;clear F;obtain⟨ZE,XP,ZV,Yv,ZQ,Xx,aq,ZX,ZN,XM,YW,ZO,rfl,Yt,af,Yn⟩:=M;replace hS:=hS.aU Yt;clear Yt;replace hS:=hS.aU af;clear af;replace hS:=hS.aU Yn;clear Yn;have XO:=(hS.aH 0).cell;have XH:=(hS.aH 0).frozen;have Yp:=hS.pt 0 12 [.bool ZE,.slice XP ZV Yv,.bool ZQ,.slice Xx aq ZX,.bool ZN,.slice XM YW ZO] Xu;have XJ:=(Yp.aH 5).cell;have XE:=(Yp.aH 6).cell;(go_wp2_with fail);clear XO XH XJ XE;clear Yp;replace hS:=hS.pt 0 12 [.bool ZE,.slice XP ZV Yv,.bool ZQ,.slice Xx aq ZX,.bool ZN,.slice XM YW ZO] Xu;refine gW hS ?_;clear hS;intro Xt hS;obtain⟨YI,YG,YH,X8⟩:=fV (GQ.bM (1) q2 (-1) q1 (2));have bw:Sz (N+N+65) YI YG YH:=(Bd.bM (m:=2) ⟨_,_,_,I2,S2⟩ ⟨_,_,_,I1,S1⟩ aa aa aa aa aa aa aa).sz X8;refine(mi (ji g8 _ _ q2 q1 (1) (-1) (2) _ _ _ (hS.aH 2) ⟨_,_,_,RG.mk (hS.aF 14) (hS.aF 13) (hS.aF 12),I2,S2⟩ ⟨_,_,_,RG.mk (hS.aF 17) (hS.aF 16) (hS.aF 15),I1,S1⟩ aa aa aa aa aa aa aa aa) X8).mono ?_;rintro e Xo ⟨v_,rfl,M,F⟩;replace hS:=hS.mv F;clear F;obtain⟨cf,YF,ck,cc,ch,YC,ci,cn,cg,Yd,cp,ce,rfl,ZL,Zw,ZP⟩:=M;replace hS:=hS.aU ZL;clear ZL;replace hS:=hS.aU Zw;clear Zw;replace hS:=hS.aU ZP;clear ZP;(go_wp2_with fail);obtain⟨a5,a8,ba,a0⟩:=fV ((GQ.bM (1) q2 (-1) q1 (2))*GQ.ip 1);have bV:Sz (N+N+65) a5 a8 ba:=(Bd.rot ⟨_,_,_,X8,bw⟩ 1).sz a0;refine(mi (gV g8 _ (GQ.bM (1) q2 (-1) q1 (2)) (N+N+65) 1 (1) _ rfl (hS.aH 2) ⟨_,_,_,RG.mk (hS.aF 2) (hS.aF 1) (hS.aF 0),X8,bw⟩ aa aa) a0).mono ?_;rintro e Yw ⟨v_,rfl,M,F⟩;replace hS:=hS.mv F;clear F;obtain⟨ZI,R,YX,am,Yk,XD,Za,Yj,ZW,XQ,Yx,Zp,rfl,ai,ZB,Zv⟩:=M;replace hS:=hS.aU ai;clear ai;replace hS:=hS.aU ZB;clear ZB;replace hS:=hS.aU Zv;clear Zv;have Yb:=(hS.aH 0).cell;have Yc:=(hS.aH 0).frozen;have YU:=hS.pt 0 18 [.bool ZI,.slice R YX am,.bool Yk,.slice XD Za Yj,.bool ZW,.slice XQ Yx Zp] Xu;have YE:=(YU.aH 7).cell;have Yz:=(YU.aH 1).cell;(go_wp2_with fail);clear Yb Yc YE Yz;clear YU;replace hS:=hS.pt 0 18 [.bool ZI,.slice R YX am,.bool Yk,.slice XD Za Yj,.bool ZW,.slice XQ Yx Zp] Xu;refine gW hS ?_;clear hS;intro cr hS;obtain⟨a4,a9,bn,a3⟩:=fV (GQ.bM (2) q0 (-1) (GQ.bM (1) q1 (1) q2 (1)) (2));have b0:Sz (N+N+65) a4 a9 bn:=(Bd.bM (m:=2) ⟨_,_,_,I0,S0⟩ ⟨_,_,_,XR,aI⟩ aa aa aa aa aa aa aa).sz a3;refine(mi (ji g8 _ _ q0 (GQ.bM (1) q1 (1) q2 (1)) (2) (-1) (2) _ _ _ (hS.aH 2) ⟨_,_,_,RG.mk (hS.aF 26) (hS.aF 25) (hS.aF 24),I0,S0⟩ ⟨_,_,_,RG.mk (hS.aF 17) (hS.aF 16) (hS.aF 15),XR,aI⟩ aa aa aa aa aa aa aa aa) a3).mono ?_;rintro e cv ⟨v_,rfl,M,F⟩;replace hS:=hS.mv F;clear F;obtain⟨Yh,XB,Yq,Zz,ZA,XA,Zj,ZF,ZY,XL,Zx,ZH,rfl,Z7,ZC,ad⟩:=M;replace hS:=hS.aU Z7;clear Z7;replace hS:=hS.aU ZC;clear ZC;replace hS:=hS.aU ad;clear ad;have Zi:=(hS.aH 0).cell;have Zh:=(hS.aH 0).frozen;have YV:=hS.pt 0 24 [.bool Yh,.slice XB Yq Zz,.bool ZA,.slice XA Zj ZF,.bool ZY,.slice XL Zx ZH] Xu;have bl:=(YV.aH 6).cell;have a7:=(YV.aH 5).cell;(go_wp2_with fail);clear Zi Zh bl a7;clear YV;replace hS:=hS.pt 0 24 [.bool Yh,.slice XB Yq Zz,.bool ZA,.slice XA Zj ZF,.bool ZY,.slice XL Zx ZH] Xu;refine gW hS ?_;clear hS;intro cx hS;obtain⟨YS,YM,YL,XV⟩:=fV (GQ.bM (1) q1 (-1) q2 (2));have bt:Sz (N+N+65) YS YM YL:=(Bd.bM (m:=2) ⟨_,_,_,I1,S1⟩ ⟨_,_,_,I2,S2⟩ aa aa aa aa aa aa aa).sz XV;refine(mi (ji g8 _ _ q1 q2 (1) (-1) (2) _ _ _ (hS.aH 2) ⟨_,_,_,RG.mk (hS.aF 26) (hS.aF 25) (hS.aF 24),I1,S1⟩ ⟨_,_,_,RG.mk (hS.aF 23) (hS.aF 22) (hS.aF 21),I2,S2⟩ aa aa aa aa aa aa aa aa) XV).mono ?_;rintro e cw ⟨v_,rfl,M,F⟩;replace hS:=hS.mv F;clear F;obtain⟨YO,XU,YD,YQ,YT,XW,YN,YK,YB,XT,YJ,YR,rfl,Ze,Zq,ZG⟩:=M;replace hS:=hS.aU Ze;clear Ze;replace hS:=hS.aU Zq;clear Zq;replace hS:=hS.aU ZG;clear ZG;(go_wp2_with fail);obtain⟨bj,bo,bi,a1⟩:=fV ((GQ.bM (1) q1 (-1) q2 (2))*GQ.ip 1);have cb:Sz (N+N+65) bj bo bi:=(Bd.rot ⟨_,_,_,XV,bt⟩ 1).sz a1;refine(mi (gV g8 _ (GQ.bM (1) q1 (-1) q2 (2)) (N+N+65) 1 (1) _ rfl (hS.aH 2) ⟨_,_,_,RG.mk (hS.aF 2) (hS.aF 1) (hS.aF 0),XV,bt⟩ aa aa) a1).mono ?_;rintro e ca ⟨v_,rfl,M,F⟩;replace hS:=hS.mv F;clear F;obtain⟨Ya,I,X3,XX,XZ,B,X6,X5,XY,j,X9,X7,rfl,Zd,ZZ,Zf⟩:=M;replace hS:=hS.aU Zd;clear Zd;replace hS:=hS.aU ZZ;clear ZZ;replace hS:=hS.aU Zf;clear Zf;have cl:=(hS.aH 0).cell;have cj:=(hS.aH 0).frozen;have X4:=hS.pt 0 30 [.bool Ya,.slice I X3 XX,.bool XZ,.slice B X6 X5,.bool XY,.slice j X9 X7] Xu;have cd:=(X4.aH 2).cell;have Zl:=(X4.aH 0);have Zn:=(X4.aH 4);have HT:=aJ (And.intro Zl Zn);clear Zl Zn X4;(iterate 33 (try (first|go_values|go_skip|go_guarded|go_step|go_upon|go_in|go_back|go_simp)));(go_wp2_with (first|(refine wpList_load_row rfl 45 _ rfl g10 rf 45 _ (0,0) _ HT.o.1 Tryz.underlying45 rfl (Qn rfl) ?_)|(refine wpList_store_row rfl 45 _ _ rfl g6 _ rf rf 45 _ HT.o.2 (Qn rfl) rf ah ?_)));replace hS:=(St.row (St.put (W':=((((((ca.setCell ⟨g10,30,none⟩ (.bool Ya)).setCell ⟨g10,31,none⟩ (.slice I X3 XX)).setCell ⟨g10,32,none⟩ (.bool XZ)).setCell ⟨g10,33,none⟩ (.slice B X6 X5)).setCell ⟨g10,34,none⟩ (.bool XY)).setCell ⟨g10,35,none⟩ (.slice j X9 X7))) hS 0 30 [.bool Ya,.slice I X3 XX,.bool XZ,.slice B X6 X5,.bool XY,.slice j X9 X7] (cs':= #[.bool Zg,.slice WS ZR ao,.bool Yr,.slice Xz Zk Zy,.bool Zm,.slice T ZK ap,.bool ZJ,.slice XC Yl Ym,.bool YZ,.slice XI Yu Z9,.bool ZT,.slice Xy YA Yo,.bool ZE,.slice XP ZV Yv,.bool ZQ,.slice Xx aq ZX,.bool ZN,.slice XM YW ZO,.bool ZI,.slice R YX am,.bool Yk,.slice XD Za Yj,.bool ZW,.slice XQ Yx Zp,.bool Yh,.slice XB Yq Zz,.bool ZA,.slice XA Zj ZF,.bool ZY,.slice XL Zx ZH,.bool Ya,.slice I X3 XX,.bool XZ,.slice B X6 X5,.bool XY,.slice j X9 X7]) (bs':=_) rfl Xu rfl rfl ah rfl) 4 (cs':= #[.bool Zg,.slice WS ZR ao,.bool Yr,.slice Xz Zk Zy,.bool Zm,.slice T ZK ap,.bool ZJ,.slice XC Yl Ym,.bool YZ,.slice XI Yu Z9,.bool ZT,.slice Xy YA Yo,.bool ZE,.slice XP ZV Yv,.bool ZQ,.slice Xx aq ZX,.bool ZN,.slice XM YW ZO,.bool ZI,.slice R YX am,.bool Yk,.slice XD Za Yj,.bool ZW,.slice XQ Yx Zp,.bool Yh,.slice XB Yq Zz,.bool ZA,.slice XA Zj ZF,.bool ZY,.slice XL Zx ZH,.bool Ya,.slice I X3 XX,.bool XZ,.slice B X6 X5,.bool XY,.slice j X9 X7]) (bs':=_) rfl o6 ah rfl);exact U9 rfl rfl rfl (hS.aH 4) ⟨_,rfl,⟨_,rfl,_,_,_,_,_,_,_,_,_,_,_,_,_,_,_,_,_,_,RA.mk (hS.aF 23) (hS.aF 22) (hS.aF 21) (hS.aF 20) (hS.aF 19) (hS.aF 18) (hS.aF 17) (hS.aF 16) (hS.aF 15) (hS.aF 11) (hS.aF 10) (hS.aF 9) (hS.aF 8) (hS.aF 7) (hS.aF 6) (hS.aF 2) (hS.aF 1) (hS.aF 0),aP,Sz.mono bA aa,(Jk 0 0),Sz.mono (SL (n:=1) aa) aa,a2,Sz.mono bx aa,a0,Sz.mono bV aa,a3,Sz.mono b0 aa,a1,Sz.mono cb aa⟩,hS.ext⟩
structure lY (w:World) (A0:Option Addr) (n0 c0:Nat) (A1:Option Addr) (n1 c1:Nat) (A2:Option Addr) (n2 c2:Nat) (A3:Option Addr) (n3 c3:Nat) (L:Nat->Hd) (s:StD):Prop where
 buses:Strs w A0 n0 s.buses
 nc:n0<=c0
 mx:n0<=1000000/\n1<=1000000/\n2<=1000000/\n3<=1000000
 l1:s.lines.length=n1
 lines:Arr w A1 n1 5 (fun i=>LW (s.lines.getD i default))
 l2:s.srcs.length=n2
 srcs:Arr w A2 n2 6 (fun i=>vN (s.srcs.getD i default))
 l3:s.bays.length=n3
 bays:Arr w A3 n3 12 (fun i=>jC (s.bays.getD i default) (L i))
 links:∀i,i<n3->Lks w (L i).A (L i).n (s.bays.getD i default).links
section
variable {w w':World} {A0:Option Addr} {n0 c0:Nat} {A1:Option Addr} {n1 c1:Nat} {A2:Option Addr} {n2 c2:Nat} {A3:Option Addr} {n3 c3:Nat} {L:Nat->Hd} {s:StD}
def lY.ext(h:lY w A0 n0 c0 A1 n1 c1 A2 n2 c2 A3 n3 c3 L s)(x:Ext w w'):lY w' A0 n0 c0 A1 n1 c1 A2 n2 c2 A3 n3 c3 L s:=
 ⟨h.buses.ext x,h.nc,h.mx,h.l1,h.lines.ext x,h.l2,h.srcs.ext x,h.l3,h.bays.ext x,fun i hi=>(h.links i hi).ext x⟩
end
def r9:Elem Tryz.prog 22 9 1 16:=Elem.of Tryz.underlying22 (z:=.string ByteArray.empty) ah rfl aa
def S9(l:List ByteArray):∀u∈l.map Value.string,u.oneCell'=true:=by
 exact Abo
def jT{α:Type}[Inhabited α]{l:List α}{k}(j:k<l.length):l.take (k+1)=l.take k++[l.getD k default]:=by
 rw[List.take_succ_eq_append_getElem j,List.getD_eq_getElem?_getD,List.getElem?_eq_getElem j];rfl
theorem TC{s b k}(j:k<s.lines.length):nms s b (k+1) 0 0=nms s b k 0 0++[(s.lines.getD k default).name]:=by
 unfold nms;rw[jT j];simp
theorem TH{s b l k}(j:k<s.srcs.length):nms s b l (k+1) 0=nms s b l k 0++[(s.srcs.getD k default).name]:=by
 unfold nms;rw[jT j];simp
theorem Tt{s b l g k}(j:k<s.bays.length):nms s b l g (k+1)=nms s b l g k++[(s.bays.getD k default).name]:=by
 unfold nms;rw[jT j];simp
theorem Pj{s b}:nms s b 0 0 0=s.buses.take b:=by unfold nms;simp
theorem yM{s b l g q}(j:b<=s.buses.length)(D:l<=s.lines.length)(B:g<=s.srcs.length)(C:q<=s.bays.length):(nms s b l g q).length=b+l+g+q:=by
 unfold nms;simp;omega
def Strs.take{w A n b}{l:List ByteArray}(h:Strs w A n l)(hb:b<=n):Strs w A b (l.take b):=by
 have Z:=h.len;refine⟨ae,fun hp=> ?_⟩;obtain⟨D,e,C,hc⟩:=h.2 aa;refine⟨D,e,C,fun j u B=>hc j u ?_⟩;rw[List.map_take,List.getElem?_take] at B;split at B
 .exact B
 .cases B
def Strs.jJ{w B n v}{l:List ByteArray}(h:w.ownsRow B 9 1 v n (l.map Value.string)):∃A c,v=.slice A n c/\n<=c/\Strs w A n l:=by
 obtain⟨A,c,e,j,_,C⟩:=iT h;exact⟨A,c,e,j,C⟩
theorem Jq(nm){A0 n0 c0 A1 n1 c1 A2 n2 c2 A3 n3 c3 L s}(w)(hs:lY w A0 n0 c0 A1 n1 c1 A2 n2 c2 A3 n3 c3 L s)(b l g q)(hb:b<=n0)(Z:l<=n1)(hg:g<=n2)(hq:q<=n3):
  Calls Tryz.prog 65 #[stV nm A0 n0 c0 A1 n1 c1 A2 n2 c2 A3 n3 c3,.int .i64 (b:Int),.int .i64 (l:Int),.int .i64 (g:Int),.int .i64 (q:Int)] w
   fun e w'=>∃A c,e=.returned (.slice A (b+l+g+q) c)/\Strs w' A (b+l+g+q) (nms s b l g q)/\Ext w w':=by
 have B:=hs.nc;have WL:=hs.mx;obtain⟨m0,m1,m2,m3⟩:=WL;have S:=(hs.buses.take hb).ext (Ext.new w (.cells #[.string nm,.slice A0 n0 c0,.slice A1 n1 c1,.slice A2 n2 c2,.slice A3 n3 c3] 27));have P:=aJ hs;have HT:=aJ S;clear hs S;have Xf:b<=c0:=aa;unfold stV;obtain⟨-,B2⟩:=an1 w 27 #[.string nm,.slice A0 n0 c0,.slice A1 n1 c1,.slice A2 n2 c2,.slice A3 n3 c3];have V:=aJ B2;clear B2;have j:Hid (((w.alloc (.cells #[.string nm,.slice A0 n0 c0,.slice A1 n1 c1,.slice A2 n2 c2,.slice A3 n3 c3] 27)).alloc (.cells #[] 9)).ownsRow (w.heap.size+1) 9 1 (.slice (some ⟨w.heap.size+1,0,none⟩) 0 0) 0 []):=aJ (by
  have:=World.ownsRow_lit (base:=w.heap.size+1) (e:=9) (size:=1) (w.alloc (.cells #[.string nm,.slice A0 n0 c0,.slice A1 n1 c1,.slice A2 n2 c2,.slice A3 n3 c3] 27)) #[] 0 ag AdG ag;simpa using this)
 go_enter Tryz.func65,Tryz.ntmps65;(go_wp2_with (at_builtin;refine iY r9 rfl (.tmp 15) (.tmp 19) rfl (w.heap.size+1) _ 0 [] rf j.o _ b _ ((s.buses.take b).map Value.string) rf (HT.ext (Ext.new _ _)) (S9 _) aa aa Ads ?_));intro v1 w1 M WU;have F:Ext (w.alloc (.cells #[.string nm,.slice A0 n0 c0,.slice A1 n1 c1,.slice A2 n2 c2,.slice A3 n3 c3] 27)) w1:=fq WU (Ext.new _ _) Aa1;have H:=aJ F;have G:Hid (w1.ownsRow (w.heap.size+1) 9 1 v1 (b+0) ((nms s b 0 0 0).map Value.string)):=aJ (by rw[Pj];simpa using M);clear F M WU;go_wp2_with fail
 go_loopw [11,12] (fun v i wr=>∃k:Nat,k<=l/\i=.int .i64 (k:Int)/\wr.ownsRow (w.heap.size+1) 9 1 v (b+k) ((nms s b k 0 0).map Value.string)/\Ext (w.alloc (.cells #[.string nm,.slice A0 n0 c0,.slice A1 n1 c1,.slice A2 n2 c2,.slice A3 n3 c3] 27)) wr) (fun _ i _=>l-(intOf i).toNat)
 case atStart=>exact⟨0,aa,rfl,G.o,H.o⟩
 case round=>
  clear G H;obtain⟨k,hk,rfl,M,J⟩:=hrel;have G:=aJ M;have H:=aJ J;have R:w.heap.size<wr.heap.size:=by have:=J.size;simp at this;omega
  have k2:=(V.ext J).cell;clear M J;by_cases U:k<l
  .have hd:decide (k<l)=true:=ae;obtain⟨lb,lo,Q,T,hc⟩:=(P.ext ((Ext.new _ _).trans H.o)).lines.at_ (show k<n1 by omega);have N:Hid (nms s b (k+1) 0 0=nms s b k 0 0++[(s.lines.getD k default).name]):=aJ (TC (by have:=P.l1;omega));subst Q;have Y:wr.cell? ⟨lb,lo+k*5,none⟩=some (.string (s.lines.getD k default).name):=hc 0 _ rfl;clear hc;generalize (s.lines.getD k default).name=x at Y N;(go_wp2_with (at_builtin;refine dK r9 rfl (.tmp 26) (.tmp 33) rfl (w.heap.size+1) _ (b+k) _ rf (G.alloc _) wr.heap.size 1 1 [.string x] rf (Blk.new _ _ _) rfl AcB aa aa aa Ads ?_));intro g1 O w2 D C _ _;have K:Hid (w2.ownsRow (w.heap.size+1) 9 1 (.slice (some ⟨g1,0,none⟩) (b+k+1) O) (b+(k+1)) ((nms s b (k+1) 0 0).map Value.string)):=aJ Ac7;have W:=aJ (fq C (H.alloc _) (fun g' I=>by have:=(G.lt g' I).1;simp;omega));clear D C;go_wp2_with fail
   exact Ab7
  .obtain rfl:l=k:=aa
   go_wp2_with fail
   go_loopw [11,13] (fun v i wr=>∃k:Nat,k<=g/\i=.int .i64 (k:Int)/\wr.ownsRow (w.heap.size+1) 9 1 v (b+l+k) ((nms s b l k 0).map Value.string)/\Ext (w.alloc (.cells #[.string nm,.slice A0 n0 c0,.slice A1 n1 c1,.slice A2 n2 c2,.slice A3 n3 c3] 27)) wr) (fun _ i _=>g-(intOf i).toNat)
   case atStart=>exact⟨0,aa,rfl,G.o,H.o⟩
   case round=>
    clear G H;obtain⟨k,hk,rfl,M,J⟩:=hrel;have G:=aJ M;have H:=aJ J;have R:w.heap.size<wr.heap.size:=by have:=J.size;simp at this;omega
    have k2:=(V.ext J).cell;clear M J;by_cases U:k<g
    .have hd:decide (k<g)=true:=ae;obtain⟨lb,lo,Q,T,hc⟩:=(P.ext ((Ext.new _ _).trans H.o)).srcs.at_ (show k<n2 by omega);have N:Hid (nms s b l (k+1) 0=nms s b l k 0++[(s.srcs.getD k default).name]):=aJ (TH (by have:=P.l2;omega));subst Q;have Y:wr.cell? ⟨lb,lo+k*6,none⟩=some (.string (s.srcs.getD k default).name):=hc 0 _ rfl;clear hc;generalize (s.srcs.getD k default).name=x at Y N;(go_wp2_with (at_builtin;refine dK r9 rfl (.tmp 40) (.tmp 47) rfl (w.heap.size+1) _ (b+l+k) _ rf (G.alloc _) wr.heap.size 1 1 [.string x] rf (Blk.new _ _ _) rfl AcB aa aa aa Ads ?_));intro g1 O w2 D C _ _;have K:Hid (w2.ownsRow (w.heap.size+1) 9 1 (.slice (some ⟨g1,0,none⟩) (b+l+k+1) O) (b+l+(k+1)) ((nms s b l (k+1) 0).map Value.string)):=aJ Ac7;have W:=aJ (fq C (H.alloc _) (fun g' I=>by have:=(G.lt g' I).1;simp;omega));clear D C;go_wp2_with fail
     exact Ab7
    .obtain rfl:g=k:=aa
     go_wp2_with fail
     go_loopw [11,14] (fun v i wr=>∃k:Nat,k<=q/\i=.int .i64 (k:Int)/\wr.ownsRow (w.heap.size+1) 9 1 v (b+l+g+k) ((nms s b l g k).map Value.string)/\Ext (w.alloc (.cells #[.string nm,.slice A0 n0 c0,.slice A1 n1 c1,.slice A2 n2 c2,.slice A3 n3 c3] 27)) wr) (fun _ i _=>q-(intOf i).toNat)
     case atStart=>exact⟨0,aa,rfl,G.o,H.o⟩
     case round=>
      clear G H;obtain⟨k,hk,rfl,M,J⟩:=hrel;have G:=aJ M;have H:=aJ J;have R:w.heap.size<wr.heap.size:=by have:=J.size;simp at this;omega
      have k2:=(V.ext J).cell;clear M J;by_cases U:k<q
      .have hd:decide (k<q)=true:=ae;obtain⟨lb,lo,Q,T,hc⟩:=(P.ext ((Ext.new _ _).trans H.o)).bays.at_ (show k<n3 by omega);have N:Hid (nms s b l g (k+1)=nms s b l g k++[(s.bays.getD k default).name]):=aJ (Tt (by have:=P.l3;omega));subst Q;have Y:wr.cell? ⟨lb,lo+k*12,none⟩=some (.string (s.bays.getD k default).name):=hc 0 _ rfl;clear hc;generalize (s.bays.getD k default).name=x at Y N;(go_wp2_with (at_builtin;refine dK r9 rfl (.tmp 54) (.tmp 61) rfl (w.heap.size+1) _ (b+l+g+k) _ rf (G.alloc _) wr.heap.size 1 1 [.string x] rf (Blk.new _ _ _) rfl AcB aa aa aa Ads ?_));intro g1 O w2 D C _ _;have K:Hid (w2.ownsRow (w.heap.size+1) 9 1 (.slice (some ⟨g1,0,none⟩) (b+l+g+k+1) O) (b+l+g+(k+1)) ((nms s b l g (k+1)).map Value.string)):=aJ Ac7;have W:=aJ (fq C (H.alloc _) (fun g' I=>by have:=(G.lt g' I).1;simp;omega));clear D C;go_wp2_with fail
       exact Ab7
      .obtain rfl:q=k:=aa;(go_wp2_with fail);obtain⟨A,c,rfl,hc,hr⟩:=Strs.jJ G.o;go_wp2;go_ret;exact⟨A,c,rfl,hr,(Ext.new _ _).trans H.o⟩
def Arr.bay{w:World}{A:Option Addr}{n i:Nat}{f:Nat->gD}{g:Nat->Hd}(h:Arr w A n 12 (fun i=>jC (f i) (g i)))(hi:i<n):
  ∃lb lo,A=some ⟨lb,lo,none⟩/\lb<w.heap.size/\w.cell? ⟨lb,lo+i*12,none⟩=some (.string (f i).name)/\w.cell? ⟨lb,lo+i*12+1,none⟩=some (.int .i64 (f i).kind)/\w.cell? ⟨lb,lo+i*12+2,none⟩=some (.int .i64 (f i).obj)/\w.cell? ⟨lb,lo+i*12+3,none⟩=some (.int .i64 (f i).en)/\w.cell? ⟨lb,lo+i*12+4,none⟩=some (.int .i64 (f i).z.r)/\w.cell? ⟨lb,lo+i*12+5,none⟩=some (.int .i64 (f i).z.x)/\w.cell? ⟨lb,lo+i*12+6,none⟩=some (.slice (g i).A (g i).n (g i).c)/\w.cell? ⟨lb,lo+i*12+7,none⟩=some (.bool (f i).closed)/\w.cell? ⟨lb,lo+i*12+8,none⟩=some (.int .i64 (f i).ct)/\w.cell? ⟨lb,lo+i*12+9,none⟩=some (.int .i64 (f i).vt)/\w.cell? ⟨lb,lo+i*12+10,none⟩=some (.int .i64 (f i).sat)/\w.cell? ⟨lb,lo+i*12+11,none⟩=some (.int .i64 (f i).travel):=by
 obtain⟨lb,lo,j,hb,hc⟩:=h.at_ hi;exact⟨lb,lo,j,hb,hc 0 _ rfl,hc 1 _ rfl,hc 2 _ rfl,hc 3 _ rfl,hc 4 _ rfl,hc 5 _ rfl,hc 6 _ rfl,hc 7 _ rfl,hc 8 _ rfl,hc 9 _ rfl,hc 10 _ rfl,hc 11 _ rfl⟩
def FI{α:Type}[Inhabited α]{p:α->Bool}{l:List α}:∀{k:Nat},k<=l.length->(∀j,j<k->p (l.getD j default)=false)->(l.take k).any p=false
 |0,_,_=>ag
 |k+1,hk,h=>by
  rw[jT aa,List.any_append,FI aa (fun j B=>h j aa)];simp[-List.getD_eq_getElem?_getD,h k aa]
def any_some{α:Type}[Inhabited α]{p:α->Bool}{l:List α}{k i}(j:k<i)(hi:i<=l.length)(h:p (l.getD k default)=true):(l.take i).any p=true:=by
 rw[List.any_eq_true];refine⟨l.getD k default,?_,h⟩;rw[List.getD_eq_getElem?_getD,List.getElem?_eq_getElem aa];rw[List.mem_take_iff_getElem];exact⟨k,aa,rfl⟩
theorem qF{x y}(h:x.kind≠y.kind\/x.obj≠y.obj\/x.en≠y.en):lI x y=false:=by
 unfold lI;rcases h with h|h|h<;>simp[h]
theorem CR{x y}(B:x.kind=y.kind)(l:x.obj=y.obj)(j:x.en=y.en):lI x y=true:=by
 unfold lI;simp[B,l,j]
theorem FW(nm){A0 n0 c0 A1 n1 c1 A2 n2 c2 A3 n3 c3 L s}(w)(hs:lY w A0 n0 c0 A1 n1 c1 A2 n2 c2 A3 n3 c3 L s)(i)(hi:i<n3):
  CE 68 #[stV nm A0 n0 c0 A1 n1 c1 A2 n2 c2 A3 n3 c3,.int .i64 (i:Int)] w (.int .i64 (rF s i)):=by
 have S:=hs.l1;have Ww:=hs.l2;have Y:=hs.l3;have WL:=hs.mx;have Wy:s.buses.length=n0:=hs.buses.len;have G:=hs.links i hi;have M:Hid (rF s i=if iX n1 n2 (s.bays.getD i default)=0 then
  (if bS (s.bays.getD i default)=true then (if nD (s.bays.take i) (s.bays.getD i default)=true then 12 else gN n0 (s.bays.getD i default)) else 2)
 else iX n1 n2 (s.bays.getD i default)):=aJ (by rw[<-S,<-Ww,<-Wy];rfl)
 have HS:=aJ hs;have Z:=aJ Y;obtain⟨m0,m1,m2,m3⟩:=WL;clear S Ww Y Wy;obtain⟨lb,lo,K,hb,e0,e1,e2,e3,e4,e5,e6,e7,e8,e9,WI,WH⟩:=hs.bays.bay hi;have HA:=aJ K;rw[K];clear hs K;revert e0 e1 e2 e3 e4 e5 e6 e7 e8 e9 WI WH M G;generalize Wp:s.bays.getD i default=b;generalize L i=h;intro G M e0 e1 e2 e3 e4 e5 e6 e7 e8 e9 WI WH;have WM:=aJ Wp;have I:=aJ G;clear Wp G;obtain⟨W,B2,B3⟩:=an2 w 27 #[.string nm,.slice A0 n0 c0,.slice A1 n1 c1,.slice A2 n2 c2,.slice (some ⟨lb,lo,none⟩) n3 c3] 57 #[.string b.name,.int .i64 b.kind,.int .i64 b.obj,.int .i64 b.en,.int .i64 b.z.r,.int .i64 b.z.x,.slice h.A h.n h.c,.bool b.closed,.int .i64 b.ct,.int .i64 b.vt,.int .i64 b.sat,.int .i64 b.travel];have V:=aJ B2;have H:=aJ B3;have D:=aJ W;clear B2 B3 W;unfold stV;generalize ho:iX n1 n2 b=B at M;have HO:=aJ ho;clear ho;by_cases h0:B=0
 rotate_left
 .have q0:((B:Int) !=0)=true:=by simp;exact h0
  have T:Hid (rF s i=B):=aJ (by rw[M.o,if_neg h0]);clear h0;go_enter Tryz.func68,Tryz.ntmps68;(go_wp2_with fail);refine(pK nm A0 n0 c0 A1 n1 c1 A2 n2 c2 _ n3 c3 b h.A h.n h.c _).mono ?_;rintro e w1 ⟨rfl,J⟩;rw[HO.o];(go_wp2_with fail);go_ret;exact⟨aL T.symm,D.trans J⟩
 subst h0;cases P:bS b
 .have T:Hid (rF s i=2):=aJ (by rw[M.o,if_pos rfl,if_neg (by rw[P];decide)]);have Q:=aJ P;clear P;go_enter Tryz.func68,Tryz.ntmps68;(go_wp2_with fail);refine(pK nm A0 n0 c0 A1 n1 c1 A2 n2 c2 _ n3 c3 b h.A h.n h.c _).mono ?_;rintro e w1 ⟨rfl,J⟩;rw[HO.o];have k3:=(H.ext J).cell;have C:=aJ (D.trans J);clear J;(go_wp2_with fail);refine(sG b h.A h.n h.c _).mono ?_;rintro e w2 ⟨rfl,J⟩;rw[Q.o];(go_wp2_with fail);go_ret;exact⟨aL T.symm,C.trans J⟩
 have Q:=aJ P;have T:Hid (rF s i=if nD (s.bays.take i) b=true then 12 else gN n0 b):=aJ (by rw[M.o,if_pos rfl,if_pos P]);clear P M;by_cases F:b.kind=3
 .have q3:((b.kind:Int) !=3)=false:=by simp[F]
  have l:Hid (rF s i=gN n0 b):=aJ (by rw[T.o,if_neg (by simp[nD,F])]);clear F;go_enter Tryz.func68,Tryz.ntmps68;(go_wp2_with fail);refine(pK nm A0 n0 c0 A1 n1 c1 A2 n2 c2 _ n3 c3 b h.A h.n h.c _).mono ?_;rintro e w1 ⟨rfl,J⟩;rw[HO.o];have k3:=(H.ext J).cell;have C:=aJ J;clear J;(go_wp2_with fail);refine(sG b h.A h.n h.c _).mono ?_;rintro e w2 ⟨rfl,J⟩;rw[Q.o];replace C:=C.aC J;have k3:=(H.ext C.o).cell;have k2:=(V.ext C.o).cell;clear J;(go_wp2_with fail);refine wp_loop_rounds 1 ?_;rw[rounds_succ];by_cases U:0<i
  .have d0:decide (0<i)=true:=ae;exact AaV
  .have d0:decide (0<i)=false:=ae;exact AaV
 .have q3:((b.kind:Int) !=3)=true:=by simp;exact F
  have Xt:=aJ F;clear F;go_enter Tryz.func68,Tryz.ntmps68;(go_wp2_with fail);refine(pK nm A0 n0 c0 A1 n1 c1 A2 n2 c2 _ n3 c3 b h.A h.n h.c _).mono ?_;rintro e w1 ⟨rfl,J⟩;rw[HO.o];have k3:=(H.ext J).cell;have C:=aJ J;clear J;(go_wp2_with fail);refine(sG b h.A h.n h.c _).mono ?_;rintro e w2 ⟨rfl,J⟩;rw[Q.o];replace C:=C.aC J;clear J k3;go_wp2_with fail
  go_loopw [7] (fun j wr=>∃k:Nat,k<=i/\j=.int .i64 (k:Int)/\(∀j,j<k->lI b (s.bays.getD j default)=false)/\Ext ((w.alloc (.cells #[.string nm,.slice A0 n0 c0,.slice A1 n1 c1,.slice A2 n2 c2,.slice (some ⟨lb,lo,none⟩) n3 c3] 27)).alloc (.cells #[.string b.name,.int .i64 b.kind,.int .i64 b.obj,.int .i64 b.en,.int .i64 b.z.r,.int .i64 b.z.x,.slice h.A h.n h.c,.bool b.closed,.int .i64 b.ct,.int .i64 b.vt,.int .i64 b.sat,.int .i64 b.travel] 57)) wr) (fun j _=>i-(intOf j).toNat)
  case atStart=>exact⟨0,aa,rfl,by intros;omega,C.o⟩
  case round=>
   clear C;obtain⟨k,hk,rfl,hz,J⟩:=hrel;have HZ:=aJ hz;have C:=aJ J;have k2:=(V.ext J).cell;have k3:=(H.ext J).cell;clear hz J;by_cases Wo:k<i
   .have d0:decide (k<i)=true:=ae;obtain⟨O,N,K,WF,f0,f1,f2,f3,_⟩:=(HS.ext (D.trans C.o)).bays.bay (show k<n3 by omega);rw[HA.o] at K;simp only[Option.some.injEq,Addr.mk.injEq,and_true] at K;obtain⟨rfl,rfl⟩:=K;clear f0;generalize R:s.bays.getD k default=y at f1 f2 f3;have HY:=aJ R;clear R;have F:k<n3:=aa;by_cases g1:y.kind=b.kind
    .have t1:((y.kind:Int)==b.kind)=true:=by simp;exact g1
     by_cases g2:y.obj=b.obj
     .have t2:((y.obj:Int)==b.obj)=true:=by simp;exact g2
      by_cases g3:y.en=b.en
      .have t3:((y.en:Int)==b.en)=true:=by simp;exact g3
       have HC:Hid (nD (s.bays.take i) b=true):=aJ (by
        unfold nD;rw[any_some Wo Ac4 (by rw[HY.o];exact CR g1.symm g2.symm g3.symm),decide_eq_true Xt.o];rfl)
       clear g1 g2 g3;(go_wp2_with fail);go_quiet (fail);(go_wp2_with fail);go_ret;exact⟨aL (by rw[T.o,if_pos HC.o]),(D.trans C.o).drewN _⟩
      .have t3:((y.en:Int)==b.en)=false:=by simp;exact g3
       have HN:Hid (lI b (s.bays.getD k default)=false):=aJ (by rw[HY.o];exact qF (.inr (.inr (fun e=>g3 e.symm))));clear g1 g2 g3;(go_wp2_with fail);go_quiet (fail);go_wp2_with fail
       go_roundw
       case rel=>exact⟨k+1,aa,au,(fun j hj=>by
        by_cases e:j=k
        .rw[e];exact HN.o
        .exact HZ.o j aa),C.drewN _⟩
       case measure=>simp[intOf];omega
     .have t2:((y.obj:Int)==b.obj)=false:=by simp;exact g2
      have HN:Hid (lI b (s.bays.getD k default)=false):=aJ (by rw[HY.o];exact qF (.inr (.inl (fun e=>g2 e.symm))));clear g1 g2;(go_wp2_with fail);go_quiet (fail);go_wp2_with fail
      go_roundw
      case rel=>exact⟨k+1,aa,au,(fun j hj=>by
       by_cases e:j=k
       .rw[e];exact HN.o
       .exact HZ.o j aa),C.drewN _⟩
      case measure=>simp[intOf];omega
    .have t1:((y.kind:Int)==b.kind)=false:=by simp;exact g1
     have HN:Hid (lI b (s.bays.getD k default)=false):=aJ (by rw[HY.o];exact qF (.inl (fun e=>g1 e.symm)));clear g1;(go_wp2_with fail);go_quiet (fail);go_wp2_with fail
     go_roundw
     case rel=>exact⟨k+1,aa,au,(fun j hj=>by
      by_cases e:j=k
      .rw[e];exact HN.o
      .exact HZ.o j aa),C.drewN _⟩
     case measure=>simp[intOf];omega
   .obtain rfl:i=k:=aa;have HC:Hid (rF s i=gN n0 b):=aJ (by rw[T.o,if_neg (by unfold nD;rw[FI Ac4 HZ.o];simp)]);(go_wp2_with fail);refine(uG nm A0 n0 c0 A1 n1 c1 A2 n2 c2 _ n3 c3 b h.A h.n h.c _ (I.ext (D.trans C.o))).mono ?_;rintro e w3 ⟨rfl,J⟩;(go_wp2_with fail);go_ret;exact⟨aL HC.symm,(D.trans C.o).trans J⟩
def vV(nm){A0 n0 c0 A1 n1 c1 A2 n2 c2 A3 n3 c3 L s}(w)(hs:lY w A0 n0 c0 A1 n1 c1 A2 n2 c2 A3 n3 c3 L s)(b l g q n)(hb:b<=n0)(Z:l<=n1)(j:g<=n2)(hq:q<=n3)(hn:b+l+g+q=n):
  Calls Tryz.prog 65 #[stV nm A0 n0 c0 A1 n1 c1 A2 n2 c2 A3 n3 c3,.int .i64 (b:Int),.int .i64 (l:Int),.int .i64 (g:Int),.int .i64 (q:Int)] w
   fun e w'=>∃A c,e=.returned (.slice A n c)/\Strs w' A n (nms s b l g q)/\Ext w w':=by
 subst hn;exact Jq nm w hs b l g q hb Z j hq
def Strs.getD{w A n k}{l:List ByteArray}(h:Strs w A n l)(B:k<n):∃j,A=some j/\j.block<w.heap.size/\w.cell? (j.add k)=some (.string (l.getD k default)):=by
 obtain⟨j,x,e,hb,J,hc⟩:=h.at_ B;refine⟨j,e,hb,?_⟩;rw[List.getD_eq_getElem?_getD,J];exact hc
theorem N7{s}(j:fT s.name=true)(l:rM s=true):chk s=(if dF (uI s) s.buses.length=0 then
    if dF (lL s) s.lines.length=0 then
     if dF (sH s) s.srcs.length=0 then dF (uE s) s.bays.length
     else dF (sH s) s.srcs.length
    else dF (lL s) s.lines.length
   else dF (uI s) s.buses.length):=by
 unfold chk;rw[if_pos j,if_pos l]
theorem Tw{s}(h:fT s.name=false):chk s=7:=by unfold chk;rw[if_neg (by rw[h];decide)]
theorem Tu{s}(j:fT s.name=true)(l:rM s=false):chk s=3:=by unfold chk;rw[if_pos j,if_neg (by rw[l];decide)]
theorem xY{A0 n0 c0 A1 n1 c1 A2 n2 c2 A3 n3 c3 L s}(w)(hs:lY w A0 n0 c0 A1 n1 c1 A2 n2 c2 A3 n3 c3 L s):
  CE 31 #[stV s.name A0 n0 c0 A1 n1 c1 A2 n2 c2 A3 n3 c3] w (.int .i64 (chk s)):=by
 have C:∀w:World,Calls Tryz.prog 63 #[.string s.name] w fun e w'=>e=.returned (.bool (fT s.name))/\w=w':=fun w=>(Cu s.name w).mono (fun e w' hh=>⟨hh.1,hh.2.symm⟩);have N:s.buses.length=n0:=hs.buses.len;have S:=hs.l1;have Ww:=hs.l2;have Y:=hs.l3;have WL:=hs.mx;obtain⟨m0,m1,m2,m3⟩:=WL;have HS:=aJ hs;clear hs;have R:=aJ N;have G:=aJ S;have Wu:=aJ Ww;have Z:=aJ Y;unfold stV;cases hn:fT s.name
 .have T:Hid (chk s=7):=aJ (Tw hn);clear N S Ww Y;go_enter Tryz.func31,Tryz.ntmps31;(go_wp2_with (first|(go_at_call 63;refine(C _).mono ?_;rintro e w1 ⟨rfl,rfl⟩)));go_ret;exact⟨aL T.symm,Ext.new _ _⟩
 cases hc:rM s
 .have T:Hid (chk s=3):=aJ (Tu hn hc);have WS:¬(1<=n0/\n0<=4/\n1<=6/\n2<=4/\n3<=16):=by
   intro h;have:rM s=true:=by
    unfold rM;rw[N,S,Ww,Y];simp;omega
   rw[hc] at this;cases this
  clear N S Ww Y hc;have HC:=aJ WS;clear WS;by_cases O:n0<1
  .have d0:decide ((n0:Int)<1)=true:=ae;clear O;exact Aas
  have d0:decide ((n0:Int)<1)=false:=ae;by_cases t1:4<n0
  .have d1:decide ((4:Int)<(n0:Int))=true:=ae;clear t1;exact Aas
  have d1:decide ((4:Int)<(n0:Int))=false:=ae;by_cases t2:6<n1
  .have d2:decide ((6:Int)<(n1:Int))=true:=ae;clear t2;exact Aas
  have d2:decide ((6:Int)<(n1:Int))=false:=ae;by_cases t3:4<n2
  .have d3:decide ((4:Int)<(n2:Int))=true:=ae;clear t3;exact Aas
  have d3:decide ((4:Int)<(n2:Int))=false:=ae;by_cases t4:16<n3
  .have d4:decide ((16:Int)<(n3:Int))=true:=ae;clear t4;exact Aas
  exact Adc
 have T:=aJ (N7 hn hc);have WR:1<=n0/\n0<=4/\n1<=6/\n2<=4/\n3<=16:=by
  unfold rM at hc;rw[N,S,Ww,Y] at hc;simp at hc;omega
 obtain⟨g0,B,g1,g2,g3⟩:=WR;clear hc;rw[N,S,Ww,Y] at T;clear N S Ww Y;have d0:decide ((n0:Int)<1)=false:=ae;have d1:decide ((4:Int)<(n0:Int))=false:=ae;have d2:decide ((6:Int)<(n1:Int))=false:=ae;have d3:decide ((4:Int)<(n2:Int))=false:=ae;have d4:decide ((16:Int)<(n3:Int))=false:=ae;obtain⟨-,B1⟩:=an1 w 27 #[.string s.name,.slice A0 n0 c0,.slice A1 n1 c1,.slice A2 n2 c2,.slice A3 n3 c3];have Ws:=aJ B1;clear B1;have D:Hid (Ext w (w.alloc (.cells #[.string s.name,.slice A0 n0 c0,.slice A1 n1 c1,.slice A2 n2 c2,.slice A3 n3 c3] 27))):=aJ (Ext.new _ _);go_enter Tryz.func31,Tryz.ntmps31;(go_wp2_with (first|(go_at_call 63;refine(C _).mono ?_;rintro e w1 ⟨rfl,rfl⟩)));go_quiet (fail);(go_wp2_with fail);clear d0 d1 d2 d3 d4 C;have H:Hid (Ext (w.alloc (.cells #[.string s.name,.slice A0 n0 c0,.slice A1 n1 c1,.slice A2 n2 c2,.slice A3 n3 c3] 27)) ((w.alloc (.cells #[.string s.name,.slice A0 n0 c0,.slice A1 n1 c1,.slice A2 n2 c2,.slice A3 n3 c3] 27)).drewN nq)):=aJ ((Ext.refl _).drewN _);go_loopw [7] (fun i wr=>∃k:Nat,k<=n0/\i=.int .i64 (k:Int)/\(∀j,j<k->uI s j=0)/\Ext (w.alloc (.cells #[.string s.name,.slice A0 n0 c0,.slice A1 n1 c1,.slice A2 n2 c2,.slice A3 n3 c3] 27)) wr) (fun i _=>n0-(intOf i).toNat)
 case atStart=>exact⟨0,aa,rfl,by intros;omega,H.o⟩
 case round=>
  clear H;obtain⟨k,hk,rfl,hz,J⟩:=hrel;have WH:=aJ hz;have H:=aJ J;have WN:w.heap.size<wr.heap.size:=by have:=J.size;simp at this;omega
  have k1:=(Ws.ext J).cell;clear hz J;by_cases Wo:k<n0
  .have hd:decide (k<n0)=true:=ae;have l:=aJ (HS.ext (D.trans H.o));obtain⟨ad,hA,hb,e0⟩:=l.buses.getD Wo;have M:Hid (uI s k=dP (nms s k 0 0 0) (s.buses.getD k default)):=aJ rfl;generalize s.buses.getD k default=x at e0 M;subst hA;generalize Wq:dP (nms s k 0 0 0) x=ne at M;have WG:=aJ Wq;clear Wq;have Y1:=aK.blk (Ws.ext H.o);have Y2:=fun x:aK wr=>aK.cell e0 x;(go_wp2_with fail);refine bz 9 [(true,0),(true,1),(true,3),(true,4),(true,5),(true,6),(true,7),(false,2),(false,8)] ah ah ?_;refine aS [0,1,3,4,5,6,7] [(false,2),(false,8)] _ ah ?_;simp only[bO,aV,List.cons_append,List.nil_append];(repeat (go_big_quiet_step (fail)));refine wpQuiet_nil ?_;refine aR 2 [(false,8)] ah ?_;intro K I;simp only[aV];(go_wp2_with fail);refine(vV s.name _ (l.ext ((Ext.refl wr).drew)) k 0 0 0 k (show k<=n0 by omega) (Nat.zero_le _) (Nat.zero_le _) (Nat.zero_le _) rfl).mono ?_;rintro e w2 ⟨A,c,rfl,hr,J⟩;have Q:=aJ hr;have P:=((Ext.refl wr).drew).trans J;have W:=aJ P;clear J hr;(go_wp2_with fail);refine I _ _ ⟨⟨w2,P⟩,rfl⟩ ?_;clear I K P;refine aR 8 [] ah ?_;intro K I;simp only[aV];(go_wp2_with fail);refine(qX x _ _ _ _ _ Q.o aa).mono ?_;rintro e w3 ⟨rfl,rfl⟩;rw[WG.o];(go_wp2_with fail);refine I _ _ ⟨⟨w2,W.o⟩,rfl⟩ ?_;clear I K Y1 Y2;simp only[bP,List.drop_succ_cons,List.drop_zero];have k1:=(Ws.ext (H.trans W.o)).cell;by_cases V:ne=0
   rotate_left
   .have q0:((ne:Int) !=0)=true:=by simp;exact V
    have q1:((ne:Int)==0)=false:=by simp;exact V
    have HF:Hid (uI s k=ne):=M;have U:=aJ V;clear V;(go_wp2_with fail);go_ret;exact⟨aL (by
     have h:=cO WH.o HF.o U.o Wo;rw[T.o];skip
     first|exact h|(rw[if_neg Ab5];exact h)),(D.trans H.o).trans W.o⟩
   subst V;have HF:Hid (uI s k=0):=M;go_wp2_with fail
   go_roundw
   case rel=>exact⟨k+1,aa,au,fM WH.o HF.o,H.trans W.o⟩
   case measure=>simp[intOf];omega
  .obtain rfl:n0=k:=aa;clear Wo WN k1;go_wp2_with fail
   go_loopw [9] (fun i wr=>∃k:Nat,k<=n1/\i=.int .i64 (k:Int)/\(∀j,j<k->lL s j=0)/\Ext (w.alloc (.cells #[.string s.name,.slice A0 n0 c0,.slice A1 n1 c1,.slice A2 n2 c2,.slice A3 n3 c3] 27)) wr) (fun i _=>n1-(intOf i).toNat)
   case atStart=>exact⟨0,aa,rfl,by intros;omega,H.o⟩
   case round=>
    clear H;obtain⟨k,hk,rfl,hz,J⟩:=hrel;have WI:=aJ hz;have H:=aJ J;have WN:w.heap.size<wr.heap.size:=by have:=J.size;simp at this;omega
    have k1:=(Ws.ext J).cell;clear hz J;by_cases Wo:k<n1
    .have hd:decide (k<n1)=true:=ae;have l:=aJ (HS.ext (D.trans H.o));obtain⟨lb,lo,hA,hb,hc⟩:=l.lines.at_ Wo;have e0:wr.cell? ⟨lb,lo+k*5,none⟩=some (.string (s.lines.getD k default).name):=hc 0 _ rfl;have e1:wr.cell? ⟨lb,lo+k*5+1,none⟩=some (.int .i64 (s.lines.getD k default).z1.r):=hc 1 _ rfl;have e2:wr.cell? ⟨lb,lo+k*5+2,none⟩=some (.int .i64 (s.lines.getD k default).z1.x):=hc 2 _ rfl;have e3:wr.cell? ⟨lb,lo+k*5+3,none⟩=some (.int .i64 (s.lines.getD k default).z0.r):=hc 3 _ rfl;have e4:wr.cell? ⟨lb,lo+k*5+4,none⟩=some (.int .i64 (s.lines.getD k default).z0.x):=hc 4 _ rfl;clear hc;have M:Hid (lL s k=if dP (nms s n0 k 0 0) (s.lines.getD k default).name=0 then (if (okZ (s.lines.getD k default).z1&&okZ (s.lines.getD k default).z0)=true then 0 else 2) else dP (nms s n0 k 0 0) (s.lines.getD k default).name):=aJ (by rw[<-R.o];rfl);generalize s.lines.getD k default=x at e0 e1 e2 e3 e4 M;subst hA;generalize Wq:dP (nms s n0 k 0 0) x.name=ne at M;have WG:=aJ Wq;clear Wq;have Y1:=aK.blk (Ws.ext H.o);have Y2:=fun x:aK wr=>aK.cell e0 x;(go_wp2_with fail);refine bz 11 [(true,0),(true,1),(true,2),(true,4),(true,5),(true,6),(true,7),(true,8),(true,9),(false,3),(false,10)] ah ah ?_;refine aS [0,1,2,4,5,6,7,8,9] [(false,3),(false,10)] _ ah ?_;simp only[bO,aV,List.cons_append,List.nil_append];(repeat (go_big_quiet_step (fail)));refine wpQuiet_nil ?_;refine aR 3 [(false,10)] ah ?_;intro K I;simp only[aV];(go_wp2_with fail);refine(vV s.name _ (l.ext ((Ext.refl wr).drew)) n0 k 0 0 (n0+k) (Nat.le_refl _) (show k<=n1 by omega) (Nat.zero_le _) (Nat.zero_le _) rfl).mono ?_;rintro e w2 ⟨A,c,rfl,hr,J⟩;have Q:=aJ hr;have P:=((Ext.refl wr).drew).trans J;have W:=aJ P;clear J hr;(go_wp2_with fail);refine I _ _ ⟨⟨w2,P⟩,rfl⟩ ?_;clear I K P;refine aR 10 [] ah ?_;intro K I;simp only[aV];(go_wp2_with fail);refine(qX x.name _ _ _ _ _ Q.o aa).mono ?_;rintro e w3 ⟨rfl,rfl⟩;rw[WG.o];(go_wp2_with fail);refine I _ _ ⟨⟨w2,W.o⟩,rfl⟩ ?_;clear I K Y1 Y2;simp only[bP,List.drop_succ_cons,List.drop_zero];have k1:=(Ws.ext (H.trans W.o)).cell;by_cases V:ne=0
     rotate_left
     .have q0:((ne:Int) !=0)=true:=by simp;exact V
      have q1:((ne:Int)==0)=false:=by simp;exact V
      have HF:Hid (lL s k=ne):=aJ (by rw[M.o,if_neg V]);have U:=aJ V;clear V;(go_wp2_with fail);go_ret;exact⟨aL (by
       have h:=cO WI.o HF.o U.o Wo;rw[T.o];rw[if_pos (bX WH.o)]
       first|exact h|(rw[if_neg Ab5];exact h)),(D.trans H.o).trans W.o⟩
     subst V;generalize Wy:okZ x.z1=z1 at M;generalize WC:okZ x.z0=z0 at M;have WE:=aJ Wy;have F:=aJ WC;clear Wy WC;have Wp:lb<w2.heap.size:=Nat.lt_of_lt_of_le hb W.size;have WT:w.heap.size<w2.heap.size:=Nat.lt_of_lt_of_le WN W.size;replace e0:=W.cell_ e0;replace e1:=W.cell_ e1;replace e2:=W.cell_ e2;replace e3:=W.cell_ e3;replace e4:=W.cell_ e4;cases z1
     .have HF:Hid (lL s k=2):=aJ AcN;have U:Hid ((2:Int)≠0):=aJ aj;(go_wp2_with fail);refine(bD x.z1 _).mono ?_;rintro e w4 ⟨rfl,rfl⟩;rw[WE.o];(go_wp2_with fail);go_ret;exact⟨aL (by
       have h:=cO WI.o HF.o U.o Wo;rw[T.o];rw[if_pos (bX WH.o)]
       first|exact h|(rw[if_neg Ab5];exact h)),(D.trans H.o).trans (W.alloc _)⟩
     cases z0
     .have HF:Hid (lL s k=2):=aJ AcN;have U:Hid ((2:Int)≠0):=aJ aj;(go_wp2_with fail);refine(bD x.z1 _).mono ?_;rintro e w4 ⟨rfl,rfl⟩;rw[WE.o];(go_wp2_with fail);refine(bD x.z0 _).mono ?_;rintro e w5 ⟨rfl,rfl⟩;rw[F.o];(go_wp2_with fail);go_ret;exact⟨aL (by
       have h:=cO WI.o HF.o U.o Wo;rw[T.o];rw[if_pos (bX WH.o)]
       first|exact h|(rw[if_neg Ab5];exact h)),(D.trans H.o).trans ((W.alloc _).alloc _)⟩
     have HF:Hid (lL s k=0):=aJ AcN;(go_wp2_with fail);refine(bD x.z1 _).mono ?_;rintro e w4 ⟨rfl,rfl⟩;rw[WE.o];(go_wp2_with fail);refine(bD x.z0 _).mono ?_;rintro e w5 ⟨rfl,rfl⟩;rw[F.o];go_wp2_with fail
     go_roundw
     case rel=>exact⟨k+1,aa,au,fM WI.o HF.o,H.trans ((W.alloc _).alloc _)⟩
     case measure=>simp[intOf];omega
    .obtain rfl:n1=k:=aa;clear Wo WN k1;go_wp2_with fail
     go_loopw [11] (fun i wr=>∃k:Nat,k<=n2/\i=.int .i64 (k:Int)/\(∀j,j<k->sH s j=0)/\Ext (w.alloc (.cells #[.string s.name,.slice A0 n0 c0,.slice A1 n1 c1,.slice A2 n2 c2,.slice A3 n3 c3] 27)) wr) (fun i _=>n2-(intOf i).toNat)
     case atStart=>exact⟨0,aa,rfl,by intros;omega,H.o⟩
     case round=>
      clear H;obtain⟨k,hk,rfl,hz,J⟩:=hrel;have WY:=aJ hz;have H:=aJ J;have WN:w.heap.size<wr.heap.size:=by have:=J.size;simp at this;omega
      have k1:=(Ws.ext J).cell;clear hz J;by_cases Wo:k<n2
      .have hd:decide (k<n2)=true:=ae;have l:=aJ (HS.ext (D.trans H.o));obtain⟨lb,lo,hA,hb,hc⟩:=l.srcs.at_ Wo;have e0:wr.cell? ⟨lb,lo+k*6,none⟩=some (.string (s.srcs.getD k default).name):=hc 0 _ rfl;have e1:wr.cell? ⟨lb,lo+k*6+1,none⟩=some (.int .i64 (s.srcs.getD k default).emf):=hc 1 _ rfl;have e2:wr.cell? ⟨lb,lo+k*6+2,none⟩=some (.int .i64 (s.srcs.getD k default).z1.r):=hc 2 _ rfl;have e3:wr.cell? ⟨lb,lo+k*6+3,none⟩=some (.int .i64 (s.srcs.getD k default).z1.x):=hc 3 _ rfl;have e4:wr.cell? ⟨lb,lo+k*6+4,none⟩=some (.int .i64 (s.srcs.getD k default).z0.r):=hc 4 _ rfl;have e5:wr.cell? ⟨lb,lo+k*6+5,none⟩=some (.int .i64 (s.srcs.getD k default).z0.x):=hc 5 _ rfl;clear hc;have M:Hid (sH s k=if dP (nms s n0 n1 k 0) (s.srcs.getD k default).name=0 then (if jB (s.srcs.getD k default)=true then 0 else 2) else dP (nms s n0 n1 k 0) (s.srcs.getD k default).name):=aJ (by rw[<-R.o,<-G.o];rfl);generalize s.srcs.getD k default=x at e0 e1 e2 e3 e4 e5 M;subst hA;generalize Wq:dP (nms s n0 n1 k 0) x.name=ne at M;have WG:=aJ Wq;clear Wq;have Y1:=aK.blk (Ws.ext H.o);have Y2:=fun x:aK wr=>aK.cell e0 x;(go_wp2_with fail);refine bz 12 [(true,0),(true,1),(true,2),(true,3),(true,5),(true,6),(true,7),(true,8),(true,9),(true,10),(false,4),(false,11)] ah ah ?_;refine aS [0,1,2,3,5,6,7,8,9,10] [(false,4),(false,11)] _ ah ?_;simp only[bO,aV,List.cons_append,List.nil_append];(repeat (go_big_quiet_step (fail)));refine wpQuiet_nil ?_;refine aR 4 [(false,11)] ah ?_;intro K I;simp only[aV];(go_wp2_with fail);refine(vV s.name _ (l.ext ((Ext.refl wr).drew)) n0 n1 k 0 (n0+n1+k) (Nat.le_refl _) (Nat.le_refl _) (show k<=n2 by omega) (Nat.zero_le _) rfl).mono ?_;rintro e w2 ⟨A,c,rfl,hr,J⟩;have Q:=aJ hr;have P:=((Ext.refl wr).drew).trans J;have W:=aJ P;clear J hr;(go_wp2_with fail);refine I _ _ ⟨⟨w2,P⟩,rfl⟩ ?_;clear I K P;refine aR 11 [] ah ?_;intro K I;simp only[aV];(go_wp2_with fail);refine(qX x.name _ _ _ _ _ Q.o aa).mono ?_;rintro e w3 ⟨rfl,rfl⟩;rw[WG.o];(go_wp2_with fail);refine I _ _ ⟨⟨w2,W.o⟩,rfl⟩ ?_;clear I K Y1 Y2;simp only[bP,List.drop_succ_cons,List.drop_zero];have k1:=(Ws.ext (H.trans W.o)).cell;by_cases V:ne=0
       rotate_left
       .have q0:((ne:Int) !=0)=true:=by simp;exact V
        have q1:((ne:Int)==0)=false:=by simp;exact V
        have HF:Hid (sH s k=ne):=aJ (by rw[M.o,if_neg V]);have U:=aJ V;clear V;(go_wp2_with fail);go_ret;exact⟨aL (by
         have h:=cO WY.o HF.o U.o Wo;rw[T.o];rw[if_pos (bX WH.o)];rw[if_pos (bX WI.o)]
         first|exact h|(rw[if_neg Ab5];exact h)),(D.trans H.o).trans W.o⟩
       subst V;generalize Wy:jB x=z1 at M;have WE:=aJ Wy;clear Wy;have Wp:lb<w2.heap.size:=Nat.lt_of_lt_of_le hb W.size;have WT:w.heap.size<w2.heap.size:=Nat.lt_of_lt_of_le WN W.size;replace e0:=W.cell_ e0;replace e1:=W.cell_ e1;replace e2:=W.cell_ e2;replace e3:=W.cell_ e3;replace e4:=W.cell_ e4;replace e5:=W.cell_ e5;cases z1
       .have HF:Hid (sH s k=2):=aJ AcN;have U:Hid ((2:Int)≠0):=aJ aj;(go_wp2_with fail);refine(ym x _).mono ?_;rintro e w4 ⟨rfl,J⟩;have WX:=aJ (W.trans J);clear J;rw[WE.o];(go_wp2_with fail);go_ret;exact⟨aL (by
         have h:=cO WY.o HF.o U.o Wo;rw[T.o];rw[if_pos (bX WH.o)];rw[if_pos (bX WI.o)]
         first|exact h|(rw[if_neg Ab5];exact h)),(D.trans H.o).trans WX.o⟩
       have HF:Hid (sH s k=0):=aJ AcN;(go_wp2_with fail);refine(ym x _).mono ?_;rintro e w4 ⟨rfl,J⟩;have WX:=aJ (W.trans J);clear J;rw[WE.o];go_wp2_with fail
       go_roundw
       case rel=>exact⟨k+1,aa,au,fM WY.o HF.o,H.trans WX.o⟩
       case measure=>simp[intOf];omega
      .obtain rfl:n2=k:=aa;clear Wo WN k1;go_wp2_with fail
       go_loopw [13] (fun i wr=>∃k:Nat,k<=n3/\i=.int .i64 (k:Int)/\(∀j,j<k->uE s j=0)/\Ext (w.alloc (.cells #[.string s.name,.slice A0 n0 c0,.slice A1 n1 c1,.slice A2 n2 c2,.slice A3 n3 c3] 27)) wr) (fun i _=>n3-(intOf i).toNat)
       case atStart=>exact⟨0,aa,rfl,by intros;omega,H.o⟩
       case round=>
        clear H;obtain⟨k,hk,rfl,hz,J⟩:=hrel;have WW:=aJ hz;have H:=aJ J;have WN:w.heap.size<wr.heap.size:=by have:=J.size;simp at this;omega
        have k1:=(Ws.ext J).cell;clear hz J;by_cases Wo:k<n3
        .have hd:decide (k<n3)=true:=ae;have l:=aJ (HS.ext (D.trans H.o));obtain⟨lb,lo,hA,hb,hc⟩:=l.bays.at_ Wo;have e0:wr.cell? ⟨lb,lo+k*12,none⟩=some (.string (s.bays.getD k default).name):=hc 0 _ rfl;clear hc;have M:Hid (uE s k=if dP (nms s n0 n1 n2 k) (s.bays.getD k default).name=0 then rF s k else dP (nms s n0 n1 n2 k) (s.bays.getD k default).name):=aJ (by rw[<-R.o,<-G.o,<-Wu.o];rfl);generalize s.bays.getD k default=x at e0 M;subst hA;generalize Wq:dP (nms s n0 n1 n2 k) x.name=ne at M;have WG:=aJ Wq;clear Wq;have Y1:=aK.blk (Ws.ext H.o);have Y2:=fun x:aK wr=>aK.cell e0 x;(go_wp2_with fail);refine bz 13 [(true,0),(true,1),(true,2),(true,3),(true,4),(true,6),(true,7),(true,8),(true,9),(true,10),(true,11),(false,5),(false,12)] ah ah ?_;refine aS [0,1,2,3,4,6,7,8,9,10,11] [(false,5),(false,12)] _ ah ?_;simp only[bO,aV,List.cons_append,List.nil_append];(repeat (go_big_quiet_step (fail)));refine wpQuiet_nil ?_;refine aR 5 [(false,12)] ah ?_;intro K I;simp only[aV];(go_wp2_with fail);refine(vV s.name _ (l.ext ((Ext.refl wr).drew)) n0 n1 n2 k (n0+n1+n2+k) (Nat.le_refl _) (Nat.le_refl _) (Nat.le_refl _) (show k<=n3 by omega) rfl).mono ?_;rintro e w2 ⟨A,c,rfl,hr,J⟩;have Q:=aJ hr;have P:=((Ext.refl wr).drew).trans J;have W:=aJ P;clear J hr;(go_wp2_with fail);refine I _ _ ⟨⟨w2,P⟩,rfl⟩ ?_;clear I K P;refine aR 12 [] ah ?_;intro K I;simp only[aV];(go_wp2_with fail);refine(qX x.name _ _ _ _ _ Q.o aa).mono ?_;rintro e w3 ⟨rfl,rfl⟩;rw[WG.o];(go_wp2_with fail);refine I _ _ ⟨⟨w2,W.o⟩,rfl⟩ ?_;clear I K Y1 Y2;simp only[bP,List.drop_succ_cons,List.drop_zero];have k1:=(Ws.ext (H.trans W.o)).cell;by_cases V:ne=0
         rotate_left
         .have q0:((ne:Int) !=0)=true:=by simp;exact V
          have q1:((ne:Int)==0)=false:=by simp;exact V
          have HF:Hid (uE s k=ne):=aJ (by rw[M.o,if_neg V]);have U:=aJ V;clear V;(go_wp2_with fail);go_ret;exact⟨aL (by
           have h:=cO WW.o HF.o U.o Wo;rw[T.o];rw[if_pos (bX WH.o)];rw[if_pos (bX WI.o)];rw[if_pos (bX WY.o)]
           first|exact h|(rw[if_neg Ab5];exact h)),(D.trans H.o).trans W.o⟩
         subst V;generalize Wy:rF s k=be at M;have WE:=aJ Wy;clear Wy;by_cases WB:be=0
         .subst WB;have HF:Hid (uE s k=0):=aJ AcN;(go_wp2_with fail);refine(FW s.name _ (l.ext W.o) k Wo).mono ?_;rintro e w4 ⟨rfl,J⟩;have WX:=aJ (W.trans J);clear J;rw[WE.o];go_wp2_with fail
          go_roundw
          case rel=>exact⟨k+1,aa,au,fM WW.o HF.o,H.trans WX.o⟩
          case measure=>simp[intOf];omega
         .have q0:((be:Int) !=0)=true:=by simp;exact WB
          have HF:Hid (uE s k=be):=aJ AcN;have U:=aJ WB;clear WB;(go_wp2_with fail);refine(FW s.name _ (l.ext W.o) k Wo).mono ?_;rintro e w4 ⟨rfl,J⟩;have WX:=aJ (W.trans J);clear J;rw[WE.o];(go_wp2_with fail);go_ret;exact⟨aL (by
           have h:=cO WW.o HF.o U.o Wo;rw[T.o];rw[if_pos (bX WH.o)];rw[if_pos (bX WI.o)];rw[if_pos (bX WY.o)]
           first|exact h|(rw[if_neg Ab5];exact h)),(D.trans H.o).trans WX.o⟩
        .obtain rfl:n3=k:=aa;clear Wo WN k1;(go_wp2_with fail);go_ret;exact⟨aL (by rw[T.o,if_pos (bX WH.o),if_pos (bX WI.o),if_pos (bX WY.o),bX WW.o]),D.trans H.o⟩
def Nam (w:World) (M n:Nat) (l:List ByteArray):Prop:=
 ∃D:DataW Unit,w.ownsMap Tryz.prog 9 (plainElem Tryz.prog 4) M n D/\Maps.IsMap D/\∀s:ByteArray,s.size<=maxLen->D.atKey (.string s.data.toList) (.lit (.bool false))=.lit (.bool (tZ s l))
def zR:Maps.Keyed Tryz.prog 9:=Maps.string_keyed Tryz.underlying9
def Oa{s}(hs:s.size<=maxLen):keyOf Tryz.prog 9 (.string s)=some (.string s.data.toList):=WideMaps.keyOf_string_mk Tryz.underlying9 hs
def Dt(s x):∀l:List ByteArray,tZ s (l++[x])=(tZ s l||decide (x=s))
 |[]=>by simp[tZ]
 |y::l=>by
  show(decide (y=s)||tZ s (l++[x]))=(decide (y=s)||tZ s l||decide (x=s));rw[Dt s x l,Bool.or_assoc]
theorem uQ{H:Type}{P e}(O:P.underlying e=some .bool){v}{z:DataW H×List MemPlace}(h:plainElem P e v=some z):∃x,v=.bool x/\z=(.lit (.bool x),[]):=by
 unfold plainElem at h;rw[O] at h;cases v<;>simp at h
 exact⟨_,rfl,h.symm⟩
section
variable {w w':World} {M n:Nat} {l:List ByteArray}
def NQ(w:World):Nam (w.alloc (.map #[] 0)) w.heap.size 0 []:=
 ⟨_,World.ownsMap_made w _ _ _,⟨_,rfl⟩,fun s _=>rfl⟩
def Nam.ext(h:Nam w M n l)(x:Ext w w'):Nam w' M n l:=by
 obtain⟨D,B,C,F⟩:=h;have Z:=B.lt;obtain⟨G,j,hb,r⟩:=B;exact⟨D,⟨G,j,(x.block M Z).trans hb,r⟩,C,F⟩
def Nam.lt(h:Nam w M n l):M<w.heap.size:=by obtain⟨D,j,_⟩:=h;exact j.lt
def Nam.look(h:Nam w M n l)(s)(hs:s.size<=maxLen):(Instr.lookup 183 (.map (some M)) (.string s) false).run Tryz.prog w=.ok (.bool (tZ s l)) w:=by
 obtain⟨D,F,_,B⟩:=h;obtain⟨v,ps,C,hv⟩:=F.lookup zR Tryz.underlying183 (by kernel_rfl:(zeroValue 4).run Tryz.prog w=.ok (.bool false) w) (plainElem_bool Tryz.underlying4 false) (Oa hs);rw[C];rw[B s hs] at hv;obtain⟨x,rfl,j⟩:=uQ Tryz.underlying4 hv;simp only[Prod.mk.injEq,DataW.lit.injEq,Lit.bool.injEq] at j;rw[j.1]
def Nam.put{D:DataW Unit}(H:w.ownsMap Tryz.prog 9 (plainElem Tryz.prog 4) M n D)(B:Maps.IsMap D)(C:∀s:ByteArray,s.size<=maxLen->D.atKey (.string s.data.toList) (.lit (.bool false))=.lit (.bool (tZ s l))){x}(F:w'.ownsMap Tryz.prog 9 (plainElem Tryz.prog 4) M (n+1) (D.put (.string x.data.toList) (.lit (.bool true)))):Nam w' M (n+1) (l++[x]):=by
 refine⟨_,F,?_,fun s hs=> ?_⟩
 .obtain⟨G,rfl⟩:=B;exact⟨_,rfl⟩
 .rw[Dt];by_cases e:x=s
  .subst e;rw[Maps.atKey_put_same B (by first|exact True.intro|simp[WideAt.IsKeyLit])];simp
  .rw[Maps.atKey_put_other (fun j=>e (by
    injection j with j;cases s with|mk a=>cases x with|mk b=>exact congrArg ByteArray.mk (Array.toList_inj.1 j.symm))),C s hs]
   simp[e]
end
def jR{S w w' base e size n v xs}(h:w.ownsRow base e size v n xs)(m:Mod S w w')(hs:∀g,v.ownBlock=some g->¬S g):w'.ownsRow base e size v n xs:=by
 refine⟨h.1,?_⟩;rcases h.2 with hn|⟨g,G,cur,hv,hb,l,j⟩
 .exact .inl hn
 .subst hv;exact .inr ⟨g,G,cur,rfl,hb,(m.block g (Array.getElem?_eq_some_iff.1 l).1 (hs g rfl)).trans l,j⟩
def Mod.grown{S w w' row}(h:w.grownBy w' row)(hs:∀g,row=some g->S g):Mod S w w':=
 ⟨h.os,h.tape,h.output,h.size,fun k j hn=>h.block k j (fun e=>hn (hs k e.symm))⟩
def Mod.below{S w w' B}(h:Mod S w w')(hs:∀k,S k->B<=k)(l:B<=w.heap.size):Below B w w':=
 ⟨h.os,h.tape,h.output,h.size,fun k j=>h.block k (Nat.lt_of_lt_of_le j l) (fun e=>by have:=hs k e;omega)⟩
def Nam.mod{S w w' M n}{l:List ByteArray}(h:Nam w M n l)(m:Mod S w w')(hs:¬S M):Nam w' M n l:=by
 have Z:=h.lt;obtain⟨D,⟨F,j,hb,r⟩,B,C⟩:=h;exact⟨D,⟨F,j,(m.block M Z hs).trans hb,r⟩,B,C⟩
structure BSt (w:World) (M B:Nat) (l:List ByteArray) (m0 m1 m2:Nat) (bs:List (gD×Hd)):Prop where
 ord:M<B
 nm:Nam w M l.length l
 rows:∃v0 v1 v2 v3,Blk w B 185 #[.string ByteArray.empty,v0,v1,v2,v3,.map (some M)]/\(∃xs,w.ownsRow (B+1) 9 1 v0 m0 xs)/\(∃xs,w.ownsRow (B+1) 63 5 v1 m1 xs)/\
  (∃xs,w.ownsRow (B+1) 83 6 v2 m2 xs)/\w.ownsRow (B+1) 57 12 v3 bs.length (bs.flatMap fun x=>jC x.1 x.2)
section
variable {w w':World} {M B m0 m1 m2:Nat} {l:List ByteArray} {bs:List (gD×Hd)}
def BSt.ext(h:BSt w M B l m0 m1 m2 bs)(x:Ext w w'):BSt w' M B l m0 m1 m2 bs:=by
 obtain⟨C,L,v0,v1,K,J,hb,⟨N,D⟩,⟨H,F⟩,⟨G,I⟩,j⟩:=h;exact⟨C,L.ext x,v0,v1,K,J,hb.ext x,⟨N,dU D x⟩,⟨H,dU F x⟩,⟨G,dU I x⟩,dU j x⟩
end
def BL(w):Calls Tryz.prog 71 #[] w fun e w'=>e=.returned (.pointer (some ⟨w.heap.size+1,0,none⟩))/\BSt w' w.heap.size (w.heap.size+1) [] 0 0 0 []/\Ext w w':=by
 have j:= @run_makeMap Tryz.prog;go_enter Tryz.func71,Tryz.ntmps71;go_wp2;go_ret;refine⟨rfl,⟨Nat.lt_succ_self _,(NQ w).ext (Ext.new _ _),_,_,_,_,Blk.new' _ _ ag,⟨_,World.ownsRow_nil _ _ _ _⟩,⟨_,World.ownsRow_nil _ _ _ _⟩,⟨_,World.ownsRow_nil _ _ _ _⟩,World.ownsRow_nil _ _ _ _⟩,(Ext.new _ _).trans (Ext.new _ _)⟩
theorem iM{w M B m0 m1 m2}{l:List ByteArray}{bs:List (gD×Hd)}(h:BSt w M B l m0 m1 m2 bs)(s):
  Calls Tryz.prog 114 #[.pointer (some ⟨B,0,none⟩),.string s] w fun e w'=>e=.returned (.int .i64 (dP l s))/\w=w':=by
 have C:∀w:World,Calls Tryz.prog 70 #[.string s] w fun e w'=>e=.returned (.bool (fT s))/\w=w':=fun w=>(G9 s w).mono (fun e w' D=>⟨D.1,D.2.symm⟩);cases hn:fT s
 .have Q:Hid (dP l s=7):=aJ (by simp[dP,hn]);go_enter Tryz.func114,Tryz.ntmps114;(go_wp2_with (first|(go_at_call 70;refine(C _).mono ?_;rintro e w1 ⟨rfl,rfl⟩)));go_ret;exact⟨aL Q.symm,rfl⟩
 .have j:s.size<=maxLen:=by
   have:=hn;simp only[fT,Bool.and_eq_true,decide_eq_true_eq] at this;unfold maxLen;omega
  obtain⟨_,F,v0,v1,I,J,hb,_⟩:=h;have G:=F.look s j;have kB:=hb.cell;have Q:Hid (dP l s=if tZ s l=true then 8 else 0):=aJ (by simp only[dP,hn];rfl);clear F j;cases hi:tZ s l
  all_goals
   rw[hi] at G;have H:=aJ hi;clear hi;go_enter Tryz.func114,Tryz.ntmps114;(go_wp2_with (first|(go_at_call 70;refine(C _).mono ?_;rintro e w1 ⟨rfl,rfl⟩)));go_ret;exact⟨aL (by rw[Q.o,H.o];rfl),rfl⟩
def iR{w w' M B e G size j n n' v H xs l}(R:w.ownsRow (B+1) e size v n xs)(T:w.ownsRow (B+1) G j H n' l)(D:e≠G)(Y:M<B)(m:Mod (fun k=>k=M\/k=B\/H.ownBlock=some k\/w.heap.size<=k) w w'):w'.ownsRow (B+1) e size v n xs:=by
 refine jR R m fun g F=> ?_;have I:=R.lt g F;rintro(h|h|h|h)
 .omega
 .omega
 .rcases sK R T D with C|C
  .rw[F] at C;cases C
  .exact C (F.trans h.symm)
 .omega
def step_mod{w w2 l:World}{M B}{o:Obj}{v:Value}{i u}(j:w.grownBy w2 (some M))(L:(w2.alloc o).grownBy l v.ownBlock):
  Mod (fun k=>k=M\/k=B\/v.ownBlock=some k\/w.heap.size<=k) w (l.setCell ⟨B,i,none⟩ u):=
 ((((Mod.grown j (fun g e=> .inl (by injection e with e;exact e.symm))).trans (Mod.of (Ext.new _ _))).trans (Mod.grown L (fun g e=> .inr (.inr (.inl e))))).trans (Mod.only (Only.set _ _ _ _) (.inr (.inl rfl))))
def kE{w w' M B v e size n xs}(R:w.ownsRow (B+1) e size v n xs)(Y:M<B)(j:B<w.heap.size)(m:Mod (fun k=>k=M\/k=B\/v.ownBlock=some k\/w.heap.size<=k) w w'):Below M w w':=
 m.below (fun k h=>by
  rcases h with h|h|h|h
  .omega
  .omega
  .have:=(R.lt k h).1;omega
  .omega) aa
def nX{w2 j M B n}{o:Obj}{v i u}{l:List ByteArray}{e size k xs}(h:Nam w2 M n l)(R:w2.ownsRow (B+1) e size v k xs)(Y:M<B)(L:(w2.alloc o).grownBy j v.ownBlock):
  Nam (j.setCell ⟨B,i,none⟩ u) M n l:=
 h.mod (S:=fun k=>k=B\/v.ownBlock=some k) (((Mod.of (Ext.new _ _)).trans (Mod.grown L (fun g e=> .inr e))).trans (Mod.only (Only.set _ _ _ _) (.inl rfl))) (by
  rintro(h|h)
  .omega
  .have:=(R.lt M h).1;omega)
theorem rE{s}(h:fT s=true):s.size<=maxLen:=by
 simp only[fT,Bool.and_eq_true,decide_eq_true_eq] at h;unfold maxLen;omega
theorem vJ{l:List ByteArray}{s}(h:dP l s=0):fT s=true:=by
 unfold dP at h;split at h
 .assumption
 .cases h
def Q0{w M B m0 m1 m2}{l:List ByteArray}{bs:List (gD×Hd)}(h:BSt w M B l m0 m1 m2 bs)(s)(Z:l.length<=1000)(P:m0<=1000):
  Calls Tryz.prog 73 #[.pointer (some ⟨B,0,none⟩),.string s] w fun e w'=>e=.returned (.int .i64 (dP l s))/\Below M w w'/\(dP l s=0->BSt w' M B (l++[s]) (m0+1) m1 m2 bs):=by
 have HB:=aJ h;generalize O:dP l s=en;have HE:=aJ O;by_cases T:en=0
 rotate_left
 .have q0:((en:Int) !=0)=true:=by simp;exact T
  have HN:=aJ T;clear h O T;go_enter Tryz.func73,Tryz.ntmps73;(go_wp2_with fail);refine(iM HB.o s).mono ?_;rintro e w1 ⟨rfl,rfl⟩;rw[HE.o];go_wp2;go_ret;exact⟨rfl,Below.refl _ _,fun e=>absurd e HN.o⟩
 .subst T;have W:=rE (vJ O);obtain⟨Y,hN,v0,v1,v2,v3,hb,⟨x0,r0⟩,⟨x1,r1⟩,⟨x2,r2⟩,r3⟩:=h;obtain⟨D,d1,d2,d3⟩:=hN;have kB:=hb.cell;have j:=hb.frozen;have Xi:=aJ hb;have J:=aJ r0;have R1:=aJ r1;have R2:=aJ r2;have R3:=aJ r3;have D1:=aJ d1;have D2:=aJ d2;have D3:=aJ d3;have R:=hb.lt;clear O hb r0 r1 r2 r3 d1 d2 d3;go_enter Tryz.func73,Tryz.ntmps73;(go_wp2_with fail);refine(iM HB.o s).mono ?_;rintro e w1 ⟨rfl,rfl⟩;rw[HE.o];(go_wp2_with (first|(at_mapUpdate;refine wpList_mapUpdate_own _ rfl _ _ _ 183 rfl 9 4 zR Tryz.underlying183 (plainElem Tryz.prog 4) M l.length D rfl D1.o AdG _ _ (.string s.data.toList) rfl rfl (Oa W) (.lit (.bool true)) [] (plainElem_bool Tryz.underlying4 true) ?_)));intro w2 Q F;have H:=dR F Xi.o Ac1;have r2:w2.ownsRow (B+1) 9 1 v0 m0 x0:=J.kept F (.inr (fun e=>by have:=(J.lt M e).1;omega));have WT:=F.size;have U:=aJ r2;have G2:=aJ F;have WK:=aJ Q;have k2:=H.cell;have f2:=H.frozen;have V:=aJ H;clear H r2 F Q kB j;have WE:B<w2.heap.size:=aa;(go_wp2_with (at_builtin;refine dK r9 rfl (.tmp 22) (.tmp 24) rfl (B+1) _ m0 _ rf (U.alloc _) w2.heap.size 1 1 [.string s] rf (Blk.new _ _ _) rfl AcB aa aa aa Ads ?_));intro g G w3 K L I Wo;have C:=dR L (V.alloc _) (iB U.o (Nat.lt_succ_self _));have k3:=C.cell;have f3:=C.frozen;have WQ:=C.lt;have Wv:=aJ C;have G3:=aJ L;have N:=aJ K;clear C L K I Wo k2 f2;go_wp2;go_ret;have P:=step_mod (B:=B) (i:=1) (u:=.slice (some ⟨g,0,none⟩) (m0+1) G) G2.o G3.o;refine⟨rfl,kE J.o Y R P,fun _=>⟨Y,?_,_,_,_,_,Wv.mX 1 _,⟨_,jR N.o (Mod.only (S:=fun k=>k=B) (Only.set _ _ _ _) rfl) (fun g' Wu=>by have:=(N.lt g' Wu).1;omega)⟩,⟨_,iR R1.o J.o aj Y P⟩,⟨_,iR R2.o J.o aj Y P⟩,iR R3.o J.o aj Y P⟩⟩;have hn:=nX (B:=B) (i:=1) (u:=.slice (some ⟨g,0,none⟩) (m0+1) G) (Nam.put D1.o D2.o D3.o WK.o) U.o Y G3.o;simpa using hn
structure mW (w:World) (bs:List Nat) where
 val:World
 kept:∀b∈bs,val.heap[b]? =w.heap[b]?
instance (w:World) (bs:List Nat):Nonempty (mW w bs):=⟨⟨w,fun _ _=>rfl⟩⟩
def mW.blk{w bs g t cs}(h:Blk w g t cs)(j:g∈bs)(x:mW w bs)(i):x.val.cell? ⟨g,i,none⟩=cs[i]? :=
 (show Blk x.val g t cs from (x.kept g j).trans h).cell i
def mZ{P:Program}{Q K a}{w:World}{l:List Oper}(n f S)(G post:List (Bool×Nat))(O:P.follows .mixedOrders=true)(N:(Region.noSelect l.toArray&&Region.sinkB .any l.toArray n&&Region.chainB .any l.toArray n&&decide (n<l.length)&&decide (G.length+(post.length+1)=n)&&rT l.toArray n f post G (Array.replicate l.length false))=true)(hS:S w.drew)(h:kF P l.toArray S (fun a' w'=>wpList P l.toArray Q (l.drop n) a' w') f post G a w.drew):(Code.region K l.toArray true).wp P Q a w:=by
 simp only[Bool.and_eq_true,decide_eq_true_eq] at N;obtain⟨⟨⟨⟨⟨C,hs⟩,hc⟩,hn⟩,T⟩,F⟩:=N;have L:n<l.toArray.size:=by simpa using hn
 have I:HeadInv .any l.toArray n (Array.replicate l.length false):=
  ⟨ag,fun j V _ Z=>AaS,fun t _ R=>getD_in (by simpa using R) (getD_replicate_false _ _)⟩
 have H:=lF (P:=P) C hs hc L G _ a w.drew I F hS h;have D:(l.drop n).length=l.toArray.size-n:=ag;have J:=mQ (P:=P) (Q:=Q) (n:=n) (g:=l.toArray.size-n) (fun B a' w' M=>by
  have:=wpAny_of_seq (P:=P) (ops:=l.toArray) (md:=.any) (Q':=Q) (l.drop n) n B a' w' (fun j=>ag) (by rw[D];exact M.1) M.2;rwa[D] at this) _ _ _ _ H
 exact Aca
def Tx (l:Cy):Value:=.agg #[.string l.name,.int .i64 l.z1.r,.int .i64 l.z1.x,.int .i64 l.z0.r,.int .i64 l.z0.x]
def Dn:Elem Tryz.prog 23 63 5 48:=Elem.of Tryz.underlying23 (z:=.agg #[.string ByteArray.empty,.int .i64 0,.int .i64 0,.int .i64 0,.int .i64 0]) ah rfl aa
def GD:Elem Tryz.prog 24 83 6 56:=Elem.of Tryz.underlying24 (z:=.agg #[.string ByteArray.empty,.int .i64 0,.int .i64 0,.int .i64 0,.int .i64 0,.int .i64 0]) ah rfl aa
theorem Pv{w M B m0 m1 m2}{l:List ByteArray}{bs:List (gD×Hd)}(h:BSt w M B l m0 m1 m2 bs)(x)(Z:l.length<=1000)(hm:m1<=1000):
  Calls Tryz.prog 75 #[.pointer (some ⟨B,0,none⟩),Tx x] w fun e w'=>e=.returned (.int .i64 (if dP l x.name=0 then (if (okZ x.z1&&okZ x.z0)=true then 0 else 2) else dP l x.name))/\Below M w w'/\((if dP l x.name=0 then (if (okZ x.z1&&okZ x.z0)=true then 0 else 2) else dP l x.name)=0->BSt w' M B (l++[x.name]) m0 (m1+1) m2 bs):=by
 have HB:=aJ (h.ext (Ext.new w (.cells #[.string x.name,.int .i64 x.z1.r,.int .i64 x.z1.x,.int .i64 x.z0.r,.int .i64 x.z0.x] 63)));generalize hr:(if dP l x.name=0 then (if (okZ x.z1&&okZ x.z0)=true then 0 else 2) else dP l x.name)=en;have HE:=aJ hr;clear hr;generalize O:dP l x.name=ne at HE;have WG:=aJ O;have Y:=h.ord;have Xu:B<w.heap.size:=by obtain⟨_,_,_,_,_,_,hb,_⟩:=h;exact hb.lt
 have WW:Hid (Below M w (w.alloc (.cells #[.string x.name,.int .i64 x.z1.r,.int .i64 x.z1.x,.int .i64 x.z0.r,.int .i64 x.z0.x] 63))):=aJ ((Ext.new _ _).mono aa);obtain⟨-,WJ⟩:=an1 w 63 #[.string x.name,.int .i64 x.z1.r,.int .i64 x.z1.x,.int .i64 x.z0.r,.int .i64 x.z0.x];have WB:=aJ WJ;clear WJ;unfold Tx;by_cases h0:ne=0
 rotate_left
 .have q0:((ne:Int) !=0)=true:=by simp;exact h0
  have T:Hid (en=ne):=aJ (by rw[<-HE.o,if_neg h0]);have HN:=aJ h0;clear h O h0;go_enter Tryz.func75,Tryz.ntmps75;exact AdA
 subst h0;have WL:=rE (vJ O);have T:Hid (en=if (okZ x.z1&&okZ x.z0)=true then 0 else 2):=aJ AdM;clear O HE;cases N:okZ x.z1
 .have H:=aJ N;clear N;have U:Hid (en=2):=aJ (by rw[T.o,H.o];rfl);clear h;go_enter Tryz.func75,Tryz.ntmps75;(go_wp2_with fail);refine(iM HB.o x.name).mono ?_;rintro e w1 ⟨rfl,rfl⟩;rw[WG.o];(go_wp2_with fail);refine(bK x.z1 _).mono ?_;rintro e w1 ⟨rfl,rfl⟩;rw[H.o];exact AdI
 cases WC:okZ x.z0
 .have H:=aJ N;have WH:=aJ WC;clear N WC;have U:Hid (en=2):=aJ (by rw[T.o,H.o,WH.o];rfl);clear h;go_enter Tryz.func75,Tryz.ntmps75;(go_wp2_with fail);refine(iM HB.o x.name).mono ?_;rintro e w1 ⟨rfl,rfl⟩;rw[WG.o];(go_wp2_with fail);refine(bK x.z1 _).mono ?_;rintro e w1 ⟨rfl,rfl⟩;rw[H.o];exact Adh
 have H:=aJ N;have WH:=aJ WC;clear N WC;have U:Hid (en=0):=aJ (by rw[T.o,H.o,WH.o];rfl);have j:Ext w (((w.alloc (.cells #[.string x.name,.int .i64 x.z1.r,.int .i64 x.z1.x,.int .i64 x.z0.r,.int .i64 x.z0.x] 63)).alloc (.cells #[.int .i64 x.z1.r,.int .i64 x.z1.x] 54)).alloc (.cells #[.int .i64 x.z0.r,.int .i64 x.z0.x] 54)):=(Ext.new _ _).trans (show Ext (w.alloc (.cells #[.string x.name,.int .i64 x.z1.r,.int .i64 x.z1.x,.int .i64 x.z0.r,.int .i64 x.z0.x] 63)) (((w.alloc (.cells #[.string x.name,.int .i64 x.z1.r,.int .i64 x.z1.x,.int .i64 x.z0.r,.int .i64 x.z0.x] 63)).alloc (.cells #[.int .i64 x.z1.r,.int .i64 x.z1.x] 54)).alloc (.cells #[.int .i64 x.z0.r,.int .i64 x.z0.x] 54)) from ((Ext.new _ _).alloc _));have W9:Hid (Below M w (((w.alloc (.cells #[.string x.name,.int .i64 x.z1.r,.int .i64 x.z1.x,.int .i64 x.z0.r,.int .i64 x.z0.x] 63)).alloc (.cells #[.int .i64 x.z1.r,.int .i64 x.z1.x] 54)).alloc (.cells #[.int .i64 x.z0.r,.int .i64 x.z0.x] 54))):=aJ (j.mono aa);have Xd:=aJ (WB.ext (show Ext (w.alloc (.cells #[.string x.name,.int .i64 x.z1.r,.int .i64 x.z1.x,.int .i64 x.z0.r,.int .i64 x.z0.x] 63)) (((w.alloc (.cells #[.string x.name,.int .i64 x.z1.r,.int .i64 x.z1.x,.int .i64 x.z0.r,.int .i64 x.z0.x] 63)).alloc (.cells #[.int .i64 x.z1.r,.int .i64 x.z1.x] 54)).alloc (.cells #[.int .i64 x.z0.r,.int .i64 x.z0.x] 54)) from ((Ext.new _ _).alloc _)));obtain⟨_,hN,v0,v1,v2,v3,hb,⟨x0,r0⟩,⟨x1,r1⟩,⟨x2,r2⟩,r3⟩:=h;have Xc:Hid (∀g,v1.ownBlock=some g->g<w.heap.size):=aJ (fun g e=>(r1.lt g e).2);replace hN:=hN.ext j;replace hb:=hb.ext j;replace r0:=dU r0 j;replace r1:=dU r1 j;replace r2:=dU r2 j;replace r3:=dU r3 j;obtain⟨D,d1,d2,d3⟩:=hN;have Xi:=aJ hb;have R0:=aJ r0;have R1:=aJ r1;have R2:=aJ r2;have R3:=aJ r3;have D1:=aJ d1;have D2:=aJ d2;have D3:=aJ d3;have WY:=hb.lt;have Y1:=aK.blk hb;have Y2:=aK.blk Xd.o;clear hb r0 r1 r2 r3 d1 d2 d3;go_enter Tryz.func75,Tryz.ntmps75;(go_wp2_with fail);refine(iM HB.o x.name).mono ?_;rintro e w1 ⟨rfl,rfl⟩;rw[WG.o];(go_wp2_with fail);refine(bK x.z1 _).mono ?_;rintro e w1 ⟨rfl,rfl⟩;rw[H.o];(go_wp2_with fail);refine(bK x.z0 _).mono ?_;rintro e w1 ⟨rfl,rfl⟩;rw[WH.o];(go_wp2_with fail);refine bz 6 [(true,0),(true,4),(true,5),(false,1),(true,2),(true,3)] ah ah ?_;refine aS [0,4,5] [(false,1),(true,2),(true,3)] _ ah ?_;simp only[bO,aV,List.cons_append,List.nil_append];(repeat (go_big_quiet_step (fail)));refine wpQuiet_nil ?_;refine aR 1 [(true,2),(true,3)] ah ?_;intro K I;simp only[aV];(go_wp2_with fail);refine I _ _ ⟨⟨_,(Ext.refl _).drew⟩,rfl⟩ ?_;clear I K;refine aS [2,3] [] _ ah ?_;simp only[bO,aV,List.cons_append,List.nil_append];(repeat (go_big_quiet_step (fail)));refine wpQuiet_nil ?_;simp only[bP,List.drop_succ_cons,List.drop_zero];clear Y1 Y2;(go_wp2_with (first|(at_mapUpdate;refine wpList_mapUpdate_own _ rfl _ _ _ 183 rfl 9 4 zR Tryz.underlying183 (plainElem Tryz.prog 4) M l.length D rfl D1.drew AdG _ _ (.string x.name.data.toList) rfl rfl (Oa WL) (.lit (.bool true)) [] (plainElem_bool Tryz.underlying4 true) ?_)));intro w2 WM F;have Wz:=dR F (Xi.drew) Ac1;have P:=dR F (Xd.drew) Ac1;have G2:Hid ((((w.alloc (.cells #[.string x.name,.int .i64 x.z1.r,.int .i64 x.z1.x,.int .i64 x.z0.r,.int .i64 x.z0.x] 63)).alloc (.cells #[.int .i64 x.z1.r,.int .i64 x.z1.x] 54)).alloc (.cells #[.int .i64 x.z0.r,.int .i64 x.z0.x] 54)).grownBy w2 (some M)):=aJ ⟨F.os,F.tape,F.output,F.size,F.block⟩;have r2:w2.ownsRow (B+1) 63 5 v1 m1 x1:=R1.kept G2.o (.inr (fun e=>by have:=(R1.lt M e).1;omega));have RR:=aJ r2;have WK:=aJ WM;have WE:=Wz.lt;have WZ:=P.lt;have Y1:=fun(x:mW w2 [B,w.heap.size])=>x.blk Wz ag;have Y2:=fun(x:mW w2 [B,w.heap.size])=>x.blk P ag;have V:=aJ Wz;have W:=aJ P;clear Wz P r2 WM F;(go_wp2_with fail);refine mZ 9 7 (fun w'=>∃x:mW w2 [B,w.heap.size],w'=x.val) [(true,0),(true,1),(true,6),(false,2),(true,3),(true,4),(true,5)] [(false,8)] ah ah ⟨⟨w2.drew,fun _ _=>rfl⟩,rfl⟩ ?_;refine fI [0,1,6] [(false,2),(true,3),(true,4),(true,5)] _ ah ?_;simp only[bO,aV,List.cons_append,List.nil_append];(repeat (go_big_quiet_step (fail)));refine wpQuiet_nil ?_;refine lV 2 [(true,3),(true,4),(true,5)] ah ah ?_ ?_
 .intro K I;simp only[aV];(go_wp2_with fail);refine I _ _ ⟨⟨w2.drew,fun _ _=>rfl⟩,rfl⟩ ?_;clear I K;refine fI [3,4,5] [] _ ah ?_;simp only[bO,aV,List.cons_append,List.nil_append];(repeat (go_big_quiet_step (fail)));refine wpQuiet_nil ?_;refine oK ah ?_;intro K I;simp only[aV];(go_wp2_with fail);refine I _ _ ⟨⟨w2.drew.alloc (.cells #[.string x.name,.int .i64 x.z1.r,.int .i64 x.z1.x,.int .i64 x.z0.r,.int .i64 x.z0.x] 63),fun b hb=>Below.heap_alloc _ _ b AbR⟩,rfl⟩ ?_;clear I K;refine aR 8 [] ah ?_;intro K I;simp only[aV];(go_wp2_with (at_builtin;refine dK Dn rfl (.tmp 34) (.tmp 36) rfl (B+1) _ m1 _ rf (World.ownsRow.alloc (w:=w2.drew) RR.o _) w2.heap.size 1 1 [.string x.name,.int .i64 x.z1.r,.int .i64 x.z1.x,.int .i64 x.z0.r,.int .i64 x.z0.x] rf (Blk.new w2.drew _ _) rfl AcB aa aa aa Ads ?_));intro g G w3 Q L J Wo;have C:=dR L ((V.drew).alloc _) (iB RR.o (Nat.lt_succ_self _));have Wp:=dR L ((W.drew).alloc _) (fun e=>by have:=Xc.o _ e;omega);have k3:=C.cell;have f3:=C.frozen;have WQ:=C.lt;have Wv:=aJ C;have Ww:=aJ Wp;have G3:Hid ((w2.alloc (.cells #[.string x.name,.int .i64 x.z1.r,.int .i64 x.z1.x,.int .i64 x.z0.r,.int .i64 x.z0.x] 63)).grownBy w3 v1.ownBlock):=aJ ⟨L.os,L.tape,L.output,L.size,L.block⟩;have R:=aJ Q;clear C Wp L Q J Wo;(go_wp2_with fail);refine I _ _ ⟨⟨w3,fun b hb=>by
   simp at hb;rcases hb with rfl|rfl
   .exact(Wv.o).trans V.symm
   .exact(Ww.o).trans W.symm⟩,rfl⟩ ?_
  exact AaA
 .intro K I;simp only[aV];(go_wp2_with fail);refine I _ _ ⟨⟨w2.drew.alloc (.cells #[.string x.name,.int .i64 x.z1.r,.int .i64 x.z1.x,.int .i64 x.z0.r,.int .i64 x.z0.x] 63),fun b hb=>Below.heap_alloc _ _ b AbR⟩,rfl⟩ ?_;clear I K;show bP _ _ _ _ [(false,2),(true,3),(true,4),(true,5),(false,8)] _ _;refine aR 2 [(true,3),(true,4),(true,5),(false,8)] ah ?_;intro K I;simp only[aV];(go_wp2_with fail);refine I _ _ ⟨⟨w2.drew.alloc (.cells #[.string x.name,.int .i64 x.z1.r,.int .i64 x.z1.x,.int .i64 x.z0.r,.int .i64 x.z0.x] 63),fun b hb=>Below.heap_alloc _ _ b AbR⟩,rfl⟩ ?_;clear I K;refine aS [3,4,5] [(false,8)] _ ah ?_;simp only[bO,aV,List.cons_append,List.nil_append];(repeat (go_big_quiet_step (fail)));refine wpQuiet_nil ?_;refine aR 8 [] ah ?_;intro K I;simp only[aV];(go_wp2_with (at_builtin;refine dK Dn rfl (.tmp 34) (.tmp 36) rfl (B+1) _ m1 _ rf (World.ownsRow.alloc (w:=w2.drew) RR.o _) w2.heap.size 1 1 [.string x.name,.int .i64 x.z1.r,.int .i64 x.z1.x,.int .i64 x.z0.r,.int .i64 x.z0.x] rf (Blk.new w2.drew _ _) rfl AcB aa aa aa Ads ?_));intro g G w3 Q L J Wo;have C:=dR L ((V.drew).alloc _) (iB RR.o (Nat.lt_succ_self _));have Wp:=dR L ((W.drew).alloc _) (fun e=>by have:=Xc.o _ e;omega);have k3:=C.cell;have f3:=C.frozen;have WQ:=C.lt;have Wv:=aJ C;have Ww:=aJ Wp;have G3:Hid ((w2.alloc (.cells #[.string x.name,.int .i64 x.z1.r,.int .i64 x.z1.x,.int .i64 x.z0.r,.int .i64 x.z0.x] 63)).grownBy w3 v1.ownBlock):=aJ ⟨L.os,L.tape,L.output,L.size,L.block⟩;have R:=aJ Q;clear C Wp L Q J Wo;(go_wp2_with fail);refine I _ _ ⟨⟨w3,fun b hb=>by
   simp at hb;rcases hb with rfl|rfl
   .exact(Wv.o).trans V.symm
   .exact(Ww.o).trans W.symm⟩,rfl⟩ ?_
  exact AaA
theorem Jr{w M B m0 m1 m2}{l:List ByteArray}{bs:List (gD×Hd)}(h:BSt w M B l m0 m1 m2 bs)(x)(Z:l.length<=1000)(hm:m2<=1000):
  Calls Tryz.prog 77 #[.pointer (some ⟨B,0,none⟩),Q7 x] w fun e w'=>e=.returned (.int .i64 (if dP l x.name=0 then (if jB x=true then 0 else 2) else dP l x.name))/\Below M w w'/\((if dP l x.name=0 then (if jB x=true then 0 else 2) else dP l x.name)=0->BSt w' M B (l++[x.name]) m0 m1 (m2+1) bs):=by
 have HB:=aJ (h.ext (Ext.new w (.cells #[.string x.name,.int .i64 x.emf,.int .i64 x.z1.r,.int .i64 x.z1.x,.int .i64 x.z0.r,.int .i64 x.z0.x] 83)));generalize hr:(if dP l x.name=0 then (if jB x=true then 0 else 2) else dP l x.name)=en;have HE:=aJ hr;clear hr;generalize O:dP l x.name=ne at HE;have WG:=aJ O;have Y:=h.ord;have Xu:B<w.heap.size:=by obtain⟨_,_,_,_,_,_,hb,_⟩:=h;exact hb.lt
 have WW:Hid (Below M w (w.alloc (.cells #[.string x.name,.int .i64 x.emf,.int .i64 x.z1.r,.int .i64 x.z1.x,.int .i64 x.z0.r,.int .i64 x.z0.x] 83))):=aJ ((Ext.new _ _).mono aa);obtain⟨-,WJ⟩:=an1 w 83 #[.string x.name,.int .i64 x.emf,.int .i64 x.z1.r,.int .i64 x.z1.x,.int .i64 x.z0.r,.int .i64 x.z0.x];have WB:=aJ WJ;clear WJ;unfold Q7;by_cases h0:ne=0
 rotate_left
 .have q0:((ne:Int) !=0)=true:=by simp;exact h0
  have T:Hid (en=ne):=aJ (by rw[<-HE.o,if_neg h0]);have HN:=aJ h0;clear h O h0;go_enter Tryz.func77,Tryz.ntmps77;exact AdA
 subst h0;have WL:=rE (vJ O);have T:Hid (en=if jB x=true then 0 else 2):=aJ AdM;clear O HE;cases J:btw x.emf 1 1000000
 .have F:=aJ J;clear J;have U:Hid (en=2):=aJ (by rw[T.o];unfold jB;rw[F.o];rfl);clear h;go_enter Tryz.func77,Tryz.ntmps77;(go_wp2_with fail);refine(iM HB.o x.name).mono ?_;rintro e w1 ⟨rfl,rfl⟩;rw[WG.o];(go_wp2_with fail);refine(cK _ _ _ _).mono ?_;rintro e w1 ⟨rfl,rfl⟩;rw[F.o];go_wp2;go_ret;exact⟨aL U.symm,WW.o,fun e=>absurd (U.symm.trans e) aj⟩
 cases R:okZ x.z1
 .have F:=aJ J;have N:=aJ R;clear J R;have U:Hid (en=2):=aJ (by rw[T.o];unfold jB;rw[F.o,N.o];rfl);clear h;go_enter Tryz.func77,Tryz.ntmps77;(go_wp2_with fail);refine(iM HB.o x.name).mono ?_;rintro e w1 ⟨rfl,rfl⟩;rw[WG.o];(go_wp2_with fail);refine(cK _ _ _ _).mono ?_;rintro e w1 ⟨rfl,rfl⟩;rw[F.o];(go_wp2_with fail);refine(bK x.z1 _).mono ?_;rintro e w1 ⟨rfl,rfl⟩;rw[N.o];exact AdI
 cases WC:okZ x.z0
 .have F:=aJ J;have N:=aJ R;have WH:=aJ WC;clear J R WC;have U:Hid (en=2):=aJ (by rw[T.o];unfold jB;rw[F.o,N.o,WH.o];rfl);clear h;go_enter Tryz.func77,Tryz.ntmps77;(go_wp2_with fail);refine(iM HB.o x.name).mono ?_;rintro e w1 ⟨rfl,rfl⟩;rw[WG.o];(go_wp2_with fail);refine(cK _ _ _ _).mono ?_;rintro e w1 ⟨rfl,rfl⟩;rw[F.o];(go_wp2_with fail);refine(bK x.z1 _).mono ?_;rintro e w1 ⟨rfl,rfl⟩;rw[N.o];exact Adh
 have F:=aJ J;have N:=aJ R;have WH:=aJ WC;clear J R WC;have U:Hid (en=0):=aJ (by rw[T.o];unfold jB;rw[F.o,N.o,WH.o];rfl);have j:Ext w (((w.alloc (.cells #[.string x.name,.int .i64 x.emf,.int .i64 x.z1.r,.int .i64 x.z1.x,.int .i64 x.z0.r,.int .i64 x.z0.x] 83)).alloc (.cells #[.int .i64 x.z1.r,.int .i64 x.z1.x] 54)).alloc (.cells #[.int .i64 x.z0.r,.int .i64 x.z0.x] 54)):=(Ext.new _ _).trans (show Ext (w.alloc (.cells #[.string x.name,.int .i64 x.emf,.int .i64 x.z1.r,.int .i64 x.z1.x,.int .i64 x.z0.r,.int .i64 x.z0.x] 83)) (((w.alloc (.cells #[.string x.name,.int .i64 x.emf,.int .i64 x.z1.r,.int .i64 x.z1.x,.int .i64 x.z0.r,.int .i64 x.z0.x] 83)).alloc (.cells #[.int .i64 x.z1.r,.int .i64 x.z1.x] 54)).alloc (.cells #[.int .i64 x.z0.r,.int .i64 x.z0.x] 54)) from ((Ext.new _ _).alloc _));have W9:Hid (Below M w (((w.alloc (.cells #[.string x.name,.int .i64 x.emf,.int .i64 x.z1.r,.int .i64 x.z1.x,.int .i64 x.z0.r,.int .i64 x.z0.x] 83)).alloc (.cells #[.int .i64 x.z1.r,.int .i64 x.z1.x] 54)).alloc (.cells #[.int .i64 x.z0.r,.int .i64 x.z0.x] 54))):=aJ (j.mono aa);have Xd:=aJ (WB.ext (show Ext (w.alloc (.cells #[.string x.name,.int .i64 x.emf,.int .i64 x.z1.r,.int .i64 x.z1.x,.int .i64 x.z0.r,.int .i64 x.z0.x] 83)) (((w.alloc (.cells #[.string x.name,.int .i64 x.emf,.int .i64 x.z1.r,.int .i64 x.z1.x,.int .i64 x.z0.r,.int .i64 x.z0.x] 83)).alloc (.cells #[.int .i64 x.z1.r,.int .i64 x.z1.x] 54)).alloc (.cells #[.int .i64 x.z0.r,.int .i64 x.z0.x] 54)) from ((Ext.new _ _).alloc _)));obtain⟨_,hN,v0,v1,v2,v3,hb,⟨x0,r0⟩,⟨x1,r1⟩,⟨x2,r2⟩,r3⟩:=h;have Xc:Hid (∀g,v2.ownBlock=some g->g<w.heap.size):=aJ (fun g e=>(r2.lt g e).2);replace hN:=hN.ext j;replace hb:=hb.ext j;replace r0:=dU r0 j;replace r1:=dU r1 j;replace r2:=dU r2 j;replace r3:=dU r3 j;obtain⟨D,d1,d2,d3⟩:=hN;have Xi:=aJ hb;have R0:=aJ r0;have R1:=aJ r1;have R2:=aJ r2;have R3:=aJ r3;have D1:=aJ d1;have D2:=aJ d2;have D3:=aJ d3;have WY:=hb.lt;have Y1:=aK.blk hb;have Y2:=aK.blk Xd.o;clear hb r0 r1 r2 r3 d1 d2 d3;go_enter Tryz.func77,Tryz.ntmps77;(go_wp2_with fail);refine(iM HB.o x.name).mono ?_;rintro e w1 ⟨rfl,rfl⟩;rw[WG.o];(go_wp2_with fail);refine(cK _ _ _ _).mono ?_;rintro e w1 ⟨rfl,rfl⟩;rw[F.o];(go_wp2_with fail);refine(bK x.z1 _).mono ?_;rintro e w1 ⟨rfl,rfl⟩;rw[N.o];(go_wp2_with fail);refine(bK x.z0 _).mono ?_;rintro e w1 ⟨rfl,rfl⟩;rw[WH.o];(go_wp2_with fail);refine bz 6 [(true,0),(true,4),(true,5),(false,1),(true,2),(true,3)] ah ah ?_;refine aS [0,4,5] [(false,1),(true,2),(true,3)] _ ah ?_;simp only[bO,aV,List.cons_append,List.nil_append];(repeat (go_big_quiet_step (fail)));refine wpQuiet_nil ?_;refine aR 1 [(true,2),(true,3)] ah ?_;intro K I;simp only[aV];(go_wp2_with fail);refine I _ _ ⟨⟨_,(Ext.refl _).drew⟩,rfl⟩ ?_;clear I K;refine aS [2,3] [] _ ah ?_;simp only[bO,aV,List.cons_append,List.nil_append];(repeat (go_big_quiet_step (fail)));refine wpQuiet_nil ?_;simp only[bP,List.drop_succ_cons,List.drop_zero];clear Y1 Y2;(go_wp2_with (first|(at_mapUpdate;refine wpList_mapUpdate_own _ rfl _ _ _ 183 rfl 9 4 zR Tryz.underlying183 (plainElem Tryz.prog 4) M l.length D rfl D1.drew AdG _ _ (.string x.name.data.toList) rfl rfl (Oa WL) (.lit (.bool true)) [] (plainElem_bool Tryz.underlying4 true) ?_)));intro w2 WM H;have Wz:=dR H (Xi.drew) Ac1;have P:=dR H (Xd.drew) Ac1;have G2:Hid ((((w.alloc (.cells #[.string x.name,.int .i64 x.emf,.int .i64 x.z1.r,.int .i64 x.z1.x,.int .i64 x.z0.r,.int .i64 x.z0.x] 83)).alloc (.cells #[.int .i64 x.z1.r,.int .i64 x.z1.x] 54)).alloc (.cells #[.int .i64 x.z0.r,.int .i64 x.z0.x] 54)).grownBy w2 (some M)):=aJ ⟨H.os,H.tape,H.output,H.size,H.block⟩;have r2:w2.ownsRow (B+1) 83 6 v2 m2 x2:=R2.kept G2.o (.inr (fun e=>by have:=(R2.lt M e).1;omega));have RR:=aJ r2;have WK:=aJ WM;have WE:=Wz.lt;have WZ:=P.lt;have Y1:=fun(x:mW w2 [B,w.heap.size])=>x.blk Wz ag;have Y2:=fun(x:mW w2 [B,w.heap.size])=>x.blk P ag;have V:=aJ Wz;have W:=aJ P;clear Wz P r2 WM H;(go_wp2_with fail);refine mZ 9 7 (fun w'=>∃x:mW w2 [B,w.heap.size],w'=x.val) [(true,0),(true,1),(true,6),(false,2),(true,3),(true,4),(true,5)] [(false,8)] ah ah ⟨⟨w2.drew,fun _ _=>rfl⟩,rfl⟩ ?_;refine fI [0,1,6] [(false,2),(true,3),(true,4),(true,5)] _ ah ?_;simp only[bO,aV,List.cons_append,List.nil_append];(repeat (go_big_quiet_step (fail)));refine wpQuiet_nil ?_;refine lV 2 [(true,3),(true,4),(true,5)] ah ah ?_ ?_
 .intro K I;simp only[aV];(go_wp2_with fail);refine I _ _ ⟨⟨w2.drew,fun _ _=>rfl⟩,rfl⟩ ?_;clear I K;refine fI [3,4,5] [] _ ah ?_;simp only[bO,aV,List.cons_append,List.nil_append];(repeat (go_big_quiet_step (fail)));refine wpQuiet_nil ?_;refine oK ah ?_;intro K I;simp only[aV];(go_wp2_with fail);refine I _ _ ⟨⟨w2.drew.alloc (.cells #[.string x.name,.int .i64 x.emf,.int .i64 x.z1.r,.int .i64 x.z1.x,.int .i64 x.z0.r,.int .i64 x.z0.x] 83),fun b hb=>Below.heap_alloc _ _ b AbR⟩,rfl⟩ ?_;clear I K;refine aR 8 [] ah ?_;intro K I;simp only[aV];(go_wp2_with (at_builtin;refine dK GD rfl (.tmp 40) (.tmp 42) rfl (B+1) _ m2 _ rf (World.ownsRow.alloc (w:=w2.drew) RR.o _) w2.heap.size 1 1 [.string x.name,.int .i64 x.emf,.int .i64 x.z1.r,.int .i64 x.z1.x,.int .i64 x.z0.r,.int .i64 x.z0.x] rf (Blk.new w2.drew _ _) rfl AcB aa aa aa Ads ?_));intro g G w3 WO L Q Wo;have C:=dR L ((V.drew).alloc _) (iB RR.o (Nat.lt_succ_self _));have Wp:=dR L ((W.drew).alloc _) (fun e=>by have:=Xc.o _ e;omega);have k3:=C.cell;have f3:=C.frozen;have WQ:=C.lt;have Wv:=aJ C;have Ww:=aJ Wp;have G3:Hid ((w2.alloc (.cells #[.string x.name,.int .i64 x.emf,.int .i64 x.z1.r,.int .i64 x.z1.x,.int .i64 x.z0.r,.int .i64 x.z0.x] 83)).grownBy w3 v2.ownBlock):=aJ ⟨L.os,L.tape,L.output,L.size,L.block⟩;have WS:=aJ WO;clear C Wp L WO Q Wo;(go_wp2_with fail);refine I _ _ ⟨⟨w3,fun b hb=>by
   simp at hb;rcases hb with rfl|rfl
   .exact(Wv.o).trans V.symm
   .exact(Ww.o).trans W.symm⟩,rfl⟩ ?_
  exact Aaz
 .intro K I;simp only[aV];(go_wp2_with fail);refine I _ _ ⟨⟨w2.drew.alloc (.cells #[.string x.name,.int .i64 x.emf,.int .i64 x.z1.r,.int .i64 x.z1.x,.int .i64 x.z0.r,.int .i64 x.z0.x] 83),fun b hb=>Below.heap_alloc _ _ b AbR⟩,rfl⟩ ?_;clear I K;show bP _ _ _ _ [(false,2),(true,3),(true,4),(true,5),(false,8)] _ _;refine aR 2 [(true,3),(true,4),(true,5),(false,8)] ah ?_;intro K I;simp only[aV];(go_wp2_with fail);refine I _ _ ⟨⟨w2.drew.alloc (.cells #[.string x.name,.int .i64 x.emf,.int .i64 x.z1.r,.int .i64 x.z1.x,.int .i64 x.z0.r,.int .i64 x.z0.x] 83),fun b hb=>Below.heap_alloc _ _ b AbR⟩,rfl⟩ ?_;clear I K;refine aS [3,4,5] [(false,8)] _ ah ?_;simp only[bO,aV,List.cons_append,List.nil_append];(repeat (go_big_quiet_step (fail)));refine wpQuiet_nil ?_;refine aR 8 [] ah ?_;intro K I;simp only[aV];(go_wp2_with (at_builtin;refine dK GD rfl (.tmp 40) (.tmp 42) rfl (B+1) _ m2 _ rf (World.ownsRow.alloc (w:=w2.drew) RR.o _) w2.heap.size 1 1 [.string x.name,.int .i64 x.emf,.int .i64 x.z1.r,.int .i64 x.z1.x,.int .i64 x.z0.r,.int .i64 x.z0.x] rf (Blk.new w2.drew _ _) rfl AcB aa aa aa Ads ?_));intro g G w3 WO L Q Wo;have C:=dR L ((V.drew).alloc _) (iB RR.o (Nat.lt_succ_self _));have Wp:=dR L ((W.drew).alloc _) (fun e=>by have:=Xc.o _ e;omega);have k3:=C.cell;have f3:=C.frozen;have WQ:=C.lt;have Wv:=aJ C;have Ww:=aJ Wp;have G3:Hid ((w2.alloc (.cells #[.string x.name,.int .i64 x.emf,.int .i64 x.z1.r,.int .i64 x.z1.x,.int .i64 x.z0.r,.int .i64 x.z0.x] 83)).grownBy w3 v2.ownBlock):=aJ ⟨L.os,L.tape,L.output,L.size,L.block⟩;have WS:=aJ WO;clear C Wp L WO Q Wo;(go_wp2_with fail);refine I _ _ ⟨⟨w3,fun b hb=>by
   simp at hb;rcases hb with rfl|rfl
   .exact(Wv.o).trans V.symm
   .exact(Ww.o).trans W.symm⟩,rfl⟩ ?_
  exact Aaz
theorem IJ{w M B m0 m1 m2}{l:List ByteArray}{bs:List (gD×Hd)}(h:BSt w M B l m0 m1 m2 bs)(b A n c)(hL:Lks w A n b.links)(hm:m0<=1000):
    CE 118 #[.pointer (some ⟨B,0,none⟩),yF b A n c] w (.int .i64 (gN m0 b)):=by
  have Z:=hL.1;have HL:=aJ hL;clear hL;have H:=aJ Z;clear Z;obtain⟨_,_,v0,v1,v2,v3,hb,⟨x0,r0⟩,_⟩:=h;obtain⟨A0,c0,rfl,_,_,_⟩:=iT r0;have WY:=hb.lt;have Xi:=aJ hb;clear r0 hb;unfold yF;by_cases h1:n<1
  · have d1:decide ((n:Int)<1)=true:=ae;have T:Hid (gN m0 b=3):=aJ (qI (Or.inl AdJ));exact Adj
  have d1:decide ((n:Int)<1)=false:=ae;by_cases h2:2<n
  · have d2:decide ((2:Int)<(n:Int))=true:=ae;have T:Hid (gN m0 b=3):=aJ (qI (Or.inr (Or.inl AdJ)));exact Adj
  have d2:decide ((2:Int)<(n:Int))=false:=ae;by_cases h3:b.kind=3/\n≠2
  · obtain⟨hk,WP⟩:=h3;have d3:((b.kind:Int)==3)=true:=by simp[hk]
    have d4:((n:Int) !=2)=true:=ae;have T:Hid (gN m0 b=3):=aJ (qI (Or.inr (Or.inr ⟨hk,by have:=H.o;omega⟩)));clear WP hk;exact Adj
  have T:Hid (gN m0 b=dF (ik m0 b) n):=aJ (by
    have hh:=H.o;have e:=CL (nb:=m0) (x:=b) aa aa (fun hk=>by
      by_cases e:n=2
      · omega
      · exact absurd (And.intro hk e) h3)
    rw[hh] at e;exact e)
  have H3:=aJ h3;clear h3;have hd:(∃k3:Bool,((b.kind:Int)==3)=k3/\(k3=true->((n:Int) !=2)=false)):=⟨_,rfl,fun h=>by
    have hk:b.kind=3:=by simpa using h
    have:=H3.o;simp;omega⟩
  obtain⟨k3,d3,d4⟩:=hd;cases k3
  (all_goals (first|(replace d4:=d4 rfl)|clear d4));all_goals
    obtain⟨W,B3⟩:=an1 w 57 #[.string b.name,.int .i64 b.kind,.int .i64 b.obj,.int .i64 b.en,.int .i64 b.z.r,.int .i64 b.z.x,.slice A n c,.bool b.closed,.int .i64 b.ct,.int .i64 b.vt,.int .i64 b.sat,.int .i64 b.travel];have V:=aJ (Xi.ext W);have Wv:=aJ B3;have D:=aJ W;clear B3 W;go_enter Tryz.func118,Tryz.ntmps118;go_wp2_with fail
    go_loopw [29] (fun i wr=>∃k:Nat,k<=n/\i=.int .i64 (k:Int)/\(∀j,j<k->ik m0 b j=0)/\Ext (w.alloc (.cells #[.string b.name,.int .i64 b.kind,.int .i64 b.obj,.int .i64 b.en,.int .i64 b.z.r,.int .i64 b.z.x,.slice A n c,.bool b.closed,.int .i64 b.ct,.int .i64 b.vt,.int .i64 b.sat,.int .i64 b.travel] 57)) wr) (fun i _=>n-(intOf i).toNat)
    case atStart=>exact⟨0,aa,rfl,by intros;omega,Ext.refl _⟩
    case round=>
      obtain⟨k,hk,rfl,hz,J⟩:=hrel;have HZ:=aJ hz;have HX:=aJ J;have Wz:=V.ext J;have C:=Wv.ext J;have k2:=Wz.cell;have k3:=C.cell;have WG:B<wr.heap.size:=Wz.lt;have WN:w.heap.size<wr.heap.size:=C.lt;clear hz J Wz C;by_cases Wo:k<n
      · have hd:decide ((k:Int)<(n:Int))=true:=ae;obtain⟨lb,lo,hA,hb,hc⟩:=(HL.ext (D.trans HX.o)).2.at_ Wo;subst hA;have e0:wr.cell? ⟨lb,lo+k*2,none⟩=some (.int .i64 (b.links.getD k default).bus):=hc 0 _ rfl;have e1:wr.cell? ⟨lb,lo+k*2+1,none⟩=some (.int .i64 (b.links.getD k default).pos):=hc 1 _ rfl;clear hc;have F:Hid (ik m0 b k=if btw (b.links.getD k default).bus 0 ((m0:Int)-1)=true then
    (if (b.links.getD k default).pos≠1/\((b.links.getD k default).pos≠0\/b.kind=3) then 16
     else if 0<k/\(b.links.getD (k-1) default).bus=(b.links.getD k default).bus then 12 else 0)
  else 9):=aJ rfl
        generalize b.links.getD k default=lk at e0 e1 F;obtain⟨bus,pos⟩:=lk;dsimp only at e0 e1 F;have I:IntKind.i64.wrap ((m0:Int)-1)=(m0:Int)-1:=IntWalk.i64_in _ aa;by_cases WB:btw bus 0 ((m0:Int)-1)=true
        rotate_left
        · have P:btw bus 0 ((m0:Int)-1)=false:=by simpa using WB
          have Q:=aJ P;clear P;have HE:Hid (ik m0 b k=9):=aJ (by rw[F.o,if_neg WB]);clear WB;have HW:=aJ (fun w:World=>(cK bus 0 ((m0:Int)-1) w).mono (fun e w1 hh=>And.intro hh.1 hh.2.symm));rw[Q.o] at HW;exact Aap
        have HW:=aJ (fun w:World=>(cK bus 0 ((m0:Int)-1) w).mono (fun e w1 hh=>And.intro hh.1 hh.2.symm));rw[WB] at HW;have G:Hid (¬(pos≠1/\(pos≠0\/b.kind=3))->ik m0 b k=if 0<k/\(b.links.getD (k-1) default).bus=bus then 12 else 0):=aJ (fun h=>by
          rw[F.o,if_pos WB,if_neg h])
        have L:Hid ((pos≠1/\(pos≠0\/b.kind=3))->ik m0 b k=16):=aJ (fun h=>by
          rw[F.o,if_pos WB,if_pos h])
        clear F WB;by_cases hp:pos=1
        · subst hp;by_cases Y:k=0
          · subst Y;rw[Nat.zero_mul,Nat.add_zero] at e0 e1;have HE:Hid (ik m0 b 0=0):=aJ (by rw[G.o ag,if_neg aa]);exact Ac0
          · obtain rfl:k=1:=aa;obtain⟨O,N,hA,WF,hc⟩:=(HL.ext (D.trans HX.o)).2.at_ (show 0<n by omega);simp only[Option.some.injEq,Addr.mk.injEq,and_true] at hA;obtain⟨rfl,rfl⟩:=hA;have f0:wr.cell? ⟨lb,lo,none⟩=some (.int .i64 (b.links.getD 0 default).bus):=by
              exact AdB
            clear hc;rw[show lo+1*2=lo+2 from rfl] at e0 e1;by_cases Wp:(b.links.getD 0 default).bus=bus
            · have HE:Hid (ik m0 b 1=12):=aJ (by rw[G.o ag,if_pos ⟨aa,Wp⟩]);exact AcC
            · have HE:Hid (ik m0 b 1=0):=aJ (by rw[G.o ag,if_neg (fun h=>Wp h.2)]);exact AbU
        by_cases K:pos=0
        · subst K;by_cases Wt:b.kind=3
          · first
            |(exfalso;simp[Wt] at d3;done)
            |
              skip;have HE:Hid (ik m0 b k=16):=aJ (L.o ⟨aj,Or.inr Wt⟩);exact Aap
          · first
            |(exfalso;simp at d3;exact Wt d3)
            |
              skip;by_cases Y:k=0
              · subst Y;rw[Nat.zero_mul,Nat.add_zero] at e0 e1;have HE:Hid (ik m0 b 0=0):=aJ (by rw[G.o (by simp;exact Wt),if_neg aa]);exact Ac0
              · obtain rfl:k=1:=aa;obtain⟨O,N,hA,WF,hc⟩:=(HL.ext (D.trans HX.o)).2.at_ (show 0<n by omega);simp only[Option.some.injEq,Addr.mk.injEq,and_true] at hA;obtain⟨rfl,rfl⟩:=hA;have f0:wr.cell? ⟨lb,lo,none⟩=some (.int .i64 (b.links.getD 0 default).bus):=by
                  exact AdB
                clear hc;rw[show lo+1*2=lo+2 from rfl] at e0 e1;by_cases Wp:(b.links.getD 0 default).bus=bus
                · have HE:Hid (ik m0 b 1=12):=aJ (by rw[G.o (by simp;exact Wt),if_pos ⟨aa,Wp⟩]);exact AcC
                · have HE:Hid (ik m0 b 1=0):=aJ (by rw[G.o (by simp;exact Wt),if_neg (fun h=>Wp h.2)]);exact AbU
        · have q6:((pos:Int)==1)=false:=by simp;exact hp
          have S:((pos:Int) !=1)=true:=by simp;exact hp
          have R:((pos:Int)==0)=false:=by simp;exact K
          have U:((pos:Int) !=0)=true:=by simp;exact K
          have HE:Hid (ik m0 b k=16):=aJ (L.o ⟨hp,Or.inl K⟩);clear hp K;exact Aap
      · obtain rfl:k=n:=aa;go_wp2;go_ret;exact⟨aL (by rw[T.o];exact(bX HZ.o).symm),D.trans HX.o⟩
def Gv:Elem Tryz.prog 25 57 12 120:=Elem.of Tryz.underlying25 (z:=.agg #[.string ByteArray.empty,.int .i64 0,.int .i64 0,.int .i64 0,.int .i64 0,.int .i64 0,.slice none 0 0,.bool false,.int .i64 0,.int .i64 0,.int .i64 0,.int .i64 0]) ah rfl aa
def CX (l:List ByteArray) (m0 m1 m2:Nat) (bs:List (gD×Hd)) (b:gD):Int:=
 if dP l b.name=0 then (if iX m1 m2 b=0 then (if bS b=true then (if nD (bs.map Prod.fst) b=true then 12 else gN m0 b) else 2) else iX m1 m2 b) else dP l b.name
def SB(bs:List (gD×Hd)){k t}(j:k<bs.length)(l:t<12):(bs.flatMap fun x=>jC x.1 x.2)[k*12+t]? =(jC (bs[k]).1 (bs[k]).2)[t]? :=by
 induction bs generalizing k with
 |nil=>simp at j
 |cons x bs ih=>
  rw[List.flatMap_cons];have Z:(jC x.1 x.2).length=12:=rfl;cases k with
  |zero=>
   rw[List.getElem?_append_left (by rw[Z];omega)];simp
  |succ k=>
   rw[List.getElem?_append_right (by rw[Z];omega),Z,show(k+1)*12+t-12=k*12+t by omega];rw[ih (by simpa using j)];rfl
theorem Sc{w:World}{B n}{v:Value}{bs:List (gD×Hd)}(h:w.ownsRow B 57 12 v n (bs.flatMap fun x=>jC x.1 x.2))(hn:n=bs.length){k}(l:k<bs.length):
  ∃g,v.ownBlock=some g/\g<w.heap.size/\(∃c,v=.slice (some ⟨g,0,none⟩) n c)/\∀t u,t<12->(jC (bs[k]).1 (bs[k]).2)[t]? =some u->w.cell? ⟨g,k*12+t,none⟩=some u:=by
 subst hn;rcases h.2 with ⟨_,F⟩|⟨g,G,cur,rfl,hb,C,_⟩
 .omega
 .refine⟨g,rfl,(Array.getElem?_eq_some_iff.1 C).1,⟨G,rfl⟩,fun t u D j=> ?_⟩;have:=h.cells (g:=g) rfl (k*12+t) u ((SB bs l D).trans j);rwa[show(Addr.add ⟨g,0,none⟩ (k*12+t))=⟨g,k*12+t,none⟩ by unfold Addr.add;split<;>simp_all] at this
theorem Rp{bs:List (gD×Hd)}{b}(h:∀j (l:j<bs.length),lI b (bs[j]).1=false):nD (bs.map Prod.fst) b=false:=by
 unfold nD;have:(bs.map Prod.fst).any (lI b)=false:=by
  rw[List.any_eq_false];intro x J;obtain⟨y,R,rfl⟩:=List.mem_map.1 J;obtain⟨j,l,rfl⟩:=List.getElem_of_mem R;rw[h j l];decide
 rw[this,Bool.and_false]
theorem NG{bs:List (gD×Hd)}{b}(l:b.kind≠3){j}(B:j<bs.length)(h:lI b (bs[j]).1=true):nD (bs.map Prod.fst) b=true:=by
 unfold nD;have:(bs.map Prod.fst).any (lI b)=true:=by
  rw[List.any_eq_true];exact⟨(bs[j]).1,List.mem_map_of_mem (List.getElem_mem B),h⟩
 rw[this,Bool.and_true,decide_eq_true l]
theorem RO{w M B m0 m1 m2}{l:List ByteArray}{bs:List (gD×Hd)}(h:BSt w M B l m0 m1 m2 bs)(b hd)(hL:Lks w hd.A hd.n b.links)(Z:l.length<=1000)(hm:m0<=1000/\m1<=1000/\m2<=1000/\bs.length<=1000):
    Calls Tryz.prog 79 #[.pointer (some ⟨B,0,none⟩),yF b hd.A hd.n hd.c] w fun e w'=>e=.returned (.int .i64 (CX l m0 m1 m2 bs b))/\Below M w w'/\(CX l m0 m1 m2 bs b=0->BSt w' M B (l++[b.name]) m0 m1 m2 (bs++[(b,hd)])):=by
  obtain⟨Xk,Xn,WF,Xe⟩:=hm;have HL:=aJ hL;clear hL;have H:=aJ h;have HB:=aJ (h.ext (Ext.new w (.cells #[.string b.name,.int .i64 b.kind,.int .i64 b.obj,.int .i64 b.en,.int .i64 b.z.r,.int .i64 b.z.x,.slice hd.A hd.n hd.c,.bool b.closed,.int .i64 b.ct,.int .i64 b.vt,.int .i64 b.sat,.int .i64 b.travel] 57)));generalize hr:CX l m0 m1 m2 bs b=en;unfold CX at hr;have HE:=aJ hr;clear hr;generalize O:dP l b.name=ne at HE;have WG:=aJ O;have Y:=h.ord;obtain⟨_,_,v0,v1,v2,v3,hb,⟨x0,r0⟩,⟨x1,r1⟩,⟨x2,r2⟩,r3⟩:=h;obtain⟨A1,c1,rfl,_,_,_⟩:=iT r1;obtain⟨A2,c2,rfl,_,_,_⟩:=iT r2;have Xu:B<w.heap.size:=hb.lt;have WA:=hb.ext (Ext.new w (.cells #[.string b.name,.int .i64 b.kind,.int .i64 b.obj,.int .i64 b.en,.int .i64 b.z.r,.int .i64 b.z.x,.slice hd.A hd.n hd.c,.bool b.closed,.int .i64 b.ct,.int .i64 b.vt,.int .i64 b.sat,.int .i64 b.travel] 57));have kB:=WA.cell;have Xi:=aJ WA;have R3:=aJ r3;have WW:Hid (Below M w (w.alloc (.cells #[.string b.name,.int .i64 b.kind,.int .i64 b.obj,.int .i64 b.en,.int .i64 b.z.r,.int .i64 b.z.x,.slice hd.A hd.n hd.c,.bool b.closed,.int .i64 b.ct,.int .i64 b.vt,.int .i64 b.sat,.int .i64 b.travel] 57))):=aJ ((Ext.new _ _).mono aa);have WC:Hid (Ext w (w.alloc (.cells #[.string b.name,.int .i64 b.kind,.int .i64 b.obj,.int .i64 b.en,.int .i64 b.z.r,.int .i64 b.z.x,.slice hd.A hd.n hd.c,.bool b.closed,.int .i64 b.ct,.int .i64 b.vt,.int .i64 b.sat,.int .i64 b.travel] 57))):=aJ (Ext.new _ _);obtain⟨-,WJ⟩:=an1 w 57 #[.string b.name,.int .i64 b.kind,.int .i64 b.obj,.int .i64 b.en,.int .i64 b.z.r,.int .i64 b.z.x,.slice hd.A hd.n hd.c,.bool b.closed,.int .i64 b.ct,.int .i64 b.vt,.int .i64 b.sat,.int .i64 b.travel];have WB:=aJ WJ;clear WJ hb WA r0 r1 r2 r3;unfold yF;have NM:=aJ (iM HB.o b.name);rw[WG.o] at NM;by_cases h0:ne=0
  rotate_left
  · have q0:((ne:Int) !=0)=true:=by simp;exact h0
    have T:Hid (en=ne):=aJ (by rw[<-HE.o,if_neg h0]);have HN:=aJ h0;clear O h0;go_enter Tryz.func79,Tryz.ntmps79;(go_wp2_with fail);refine NM.mono ?_;rintro e w1 ⟨rfl,rfl⟩;go_wp2;go_ret;exact⟨aL T.symm,WW.o,fun e=>absurd (T.symm.trans e) HN.o⟩
  subst h0;have WL:=rE (vJ O);have T:Hid (en=(if iX m1 m2 b=0 then (if bS b=true then (if nD (bs.map Prod.fst) b=true then 12 else gN m0 b) else 2) else iX m1 m2 b)):=aJ AdM;clear O HE;by_cases h1:b.kind=1\/b.kind=2\/b.kind=3
  rotate_left
  · have q1:((b.kind:Int)==1)=false:=ae;have q2:((b.kind:Int)==2)=false:=ae;have q3:((b.kind:Int)==3)=false:=ae;have ho:iX m1 m2 b=10:=by unfold iX;rw[if_neg aa,if_neg aa,if_neg aa]
    have U:Hid (en=10):=aJ (by rw[T.o,ho];rfl);clear ho h1;go_enter Tryz.func79,Tryz.ntmps79;(go_wp2_with fail);refine NM.mono ?_;exact AdD
  have Xv:∃(cnt:Nat) (k1 k2 k3:Bool),cnt<=1000/\((b.kind:Int)==1)=k1/\((b.kind:Int)==2)=k2/\((b.kind:Int)==3)=k3/\((b.kind:Int) !=3)= !k3/\iX m1 m2 b=(if btw b.obj 0 ((cnt:Int)-1)=true then 0 else 9)/\(k3=decide (b.kind=3))/\
      ((k1=true/\k3=false/\cnt=m1)\/(k1=false/\k2=true/\k3=false/\cnt=m2)\/(k1=false/\k2=false/\k3=true/\cnt=1)):=by
    rcases h1 with h1|h1|h1
    · exact⟨m1,true,false,false,Xn,by simp[h1],by simp[h1],by simp[h1],by simp[h1],by unfold iX;rw[if_pos h1],by simp[h1],.inl ⟨rfl,rfl,rfl⟩⟩
    · exact⟨m2,false,true,false,WF,by simp[h1],by simp[h1],by simp[h1],by simp[h1],by unfold iX;rw[if_neg aa,if_pos h1],by simp[h1],.inr (.inl ⟨rfl,rfl,rfl,rfl⟩)⟩
    · exact⟨1,false,false,true,aa,by simp[h1],by simp[h1],by simp[h1],by simp[h1],by
        unfold iX;rw[if_neg aa,if_neg aa,if_pos h1];by_cases h0:b.obj=0
        · rw[if_pos h0,if_pos Adi]
        · rw[if_neg h0,if_neg Adi],by simp[h1],.inr (.inr ⟨rfl,rfl,rfl,rfl⟩)⟩
  obtain⟨cnt,k1,k2,k3,Xy,q1,q2,q3,q4,ho,Wt,WR⟩:=Xv;clear h1;have HO:=aJ ho;clear ho;have HW:=aJ (fun w:World=>cK b.obj 0 ((cnt:Int)-1) w);have Q:=aJ (fun w:World=>Ju b hd.A hd.n hd.c w);generalize Wx:btw b.obj 0 ((cnt:Int)-1)=bo at HO HW;have Xt:=aJ Wt;clear Wt Wx;generalize WT:bS b=rg at T Q;clear WT;rcases WR with ⟨rfl,rfl,rfl⟩|⟨rfl,rfl,rfl,rfl⟩|⟨rfl,rfl,rfl,rfl⟩
  all_goals
    cases bo
    · have U:Hid (en=9):=aJ (by rw[T.o,HO.o];rfl);go_enter Tryz.func79,Tryz.ntmps79;(go_wp2_with fail);refine NM.mono ?_;rintro e w1 ⟨rfl,rfl⟩;(go_wp2_with fail);refine(HW.o _).mono ?_;exact AdD
    cases rg
    · have U:Hid (en=2):=aJ (by rw[T.o,HO.o];rfl);go_enter Tryz.func79,Tryz.ntmps79;(go_wp2_with fail);refine NM.mono ?_;rintro e w1 ⟨rfl,rfl⟩;(go_wp2_with fail);refine(HW.o _).mono ?_;rintro e w1 ⟨rfl,rfl⟩;(go_wp2_with fail);refine(Q.o _).mono ?_;rintro e w2 ⟨rfl,J⟩;have HX:=aJ J;clear J;go_wp2;go_ret;exact⟨aL U.symm,WW.trans (HX.mono ae),fun e=>absurd (U.symm.trans e) aj⟩
    have U:Hid (en=if nD (bs.map Prod.fst) b=true then 12 else gN m0 b):=aJ (by rw[T.o,HO.o];rfl);go_enter Tryz.func79,Tryz.ntmps79;(go_wp2_with fail);refine NM.mono ?_;rintro e w1 ⟨rfl,rfl⟩;(go_wp2_with fail);refine(HW.o _).mono ?_;rintro e w1 ⟨rfl,rfl⟩;(go_wp2_with fail);refine(Q.o _).mono ?_;rintro e w2 ⟨rfl,J⟩;have HX:=aJ J;have Xz:=(Xi.ext J).cell;clear kB J T HO HW Q NM WG;obtain⟨A3,c3,Xr,_,_,_⟩:=iT R3.o;have Xq:=aJ Xr;rw[Xr] at Xz;clear Xr;(go_wp2_with fail);clear Xz;go_loopw [52] (fun i wr=>∃k:Nat,k<=bs.length/\i=.int .i64 (k:Int)/\(b.kind≠3->∀j (hj:j<bs.length),j<k->lI b (bs[j]).1=false)/\Ext (w.alloc (.cells #[.string b.name,.int .i64 b.kind,.int .i64 b.obj,.int .i64 b.en,.int .i64 b.z.r,.int .i64 b.z.x,.slice hd.A hd.n hd.c,.bool b.closed,.int .i64 b.ct,.int .i64 b.vt,.int .i64 b.sat,.int .i64 b.travel] 57)) wr) (fun i _=>bs.length-(intOf i).toNat)
    case atStart=>exact⟨0,aa,rfl,by intros;omega,HX.o⟩
    case round=>
      clear HX;obtain⟨k,hk,rfl,hz,J⟩:=hrel;have HZ:=aJ hz;have HX:=aJ J;have Xm:=WB.ext J;have kX:=Xm.cell;have WN:w.heap.size<wr.heap.size:=Xm.lt;clear hz J Xm;by_cases Wo:k<bs.length
      · have Xb:decide (k<bs.length)=true:=ae;obtain⟨g,WU,Wq,⟨cc,L⟩,hc⟩:=Sc (dU R3.o (WC.trans HX.o)) rfl Wo;rw[Xq.o] at L;injection L with Xw _ _;subst Xw;have e0:wr.cell? ⟨g,k*12,none⟩=some (.string (bs[k]).1.name):=hc 0 _ aa rfl;have e1:wr.cell? ⟨g,k*12+1,none⟩=some (.int .i64 (bs[k]).1.kind):=hc 1 _ aa rfl;have e2:wr.cell? ⟨g,k*12+2,none⟩=some (.int .i64 (bs[k]).1.obj):=hc 2 _ aa rfl;have e3:wr.cell? ⟨g,k*12+3,none⟩=some (.int .i64 (bs[k]).1.en):=hc 3 _ aa rfl;have e4:wr.cell? ⟨g,k*12+4,none⟩=some (.int .i64 (bs[k]).1.z.r):=hc 4 _ aa rfl;have e5:wr.cell? ⟨g,k*12+5,none⟩=some (.int .i64 (bs[k]).1.z.x):=hc 5 _ aa rfl;have e6:wr.cell? ⟨g,k*12+6,none⟩=some (.slice (bs[k]).2.A (bs[k]).2.n (bs[k]).2.c):=hc 6 _ aa rfl;have e7:wr.cell? ⟨g,k*12+7,none⟩=some (.bool (bs[k]).1.closed):=hc 7 _ aa rfl;have e8:wr.cell? ⟨g,k*12+8,none⟩=some (.int .i64 (bs[k]).1.ct):=hc 8 _ aa rfl;have e9:wr.cell? ⟨g,k*12+9,none⟩=some (.int .i64 (bs[k]).1.vt):=hc 9 _ aa rfl;have WI:wr.cell? ⟨g,k*12+10,none⟩=some (.int .i64 (bs[k]).1.sat):=hc 10 _ aa rfl;have WH:wr.cell? ⟨g,k*12+11,none⟩=some (.int .i64 (bs[k]).1.travel):=hc 11 _ aa rfl;have XA:=aJ (rfl:(bs[k]).1=(bs[k]).1);clear hc WU;generalize R:(bs[k]).1=y at e0 e1 e2 e3 e4 e5 e7 e8 e9 WI WH;generalize (bs[k]).2=XB at e6;have HY:=aJ R;clear R XA;by_cases g1:b.kind=y.kind
        rotate_left
        · have t1:((b.kind:Int)==y.kind)=false:=by simp;exact g1
          have HN:Hid (lI b (bs[k]).1=false):=aJ (by rw[HY.o];exact qF (.inl g1));clear g1
          first
          |
            have Wt:b.kind≠3:=by simpa using q3
            skip;(
             have Xh:=aJ Wt;clear Wt;go_wp2_with fail
             go_roundw
             case rel=>exact⟨k+1,aa,au,fun h j hj WV=>by
               by_cases e:j=k
               · subst e;exact HN.o
               · exact HZ.o h j hj aa,HX.alloc _⟩
             case measure=>simp[intOf];omega)
          |(have Wt:b.kind=3:=AdK;have Xh:=aJ Wt;clear Wt;go_wp2_with fail;go_roundw;(case rel=>exact⟨k+1,aa,au,fun h=>absurd Xh.o h,HX.alloc _⟩);(case measure=>simp[intOf];omega))
        have t1:((b.kind:Int)==y.kind)=true:=by simp;exact g1
        by_cases g2:b.obj=y.obj
        rotate_left
        · have t2:((b.obj:Int)==y.obj)=false:=by simp;exact g2
          have HN:Hid (lI b (bs[k]).1=false):=aJ (by rw[HY.o];exact qF (.inr (.inl g2)));clear g1 g2
          first
          |
            have Wt:b.kind≠3:=by simpa using q3
            skip;(
             have Xh:=aJ Wt;clear Wt;go_wp2_with fail
             go_roundw
             case rel=>exact⟨k+1,aa,au,fun h j hj WV=>by
               by_cases e:j=k
               · subst e;exact HN.o
               · exact HZ.o h j hj aa,HX.alloc _⟩
             case measure=>simp[intOf];omega)
          |(have Wt:b.kind=3:=AdK;have Xh:=aJ Wt;clear Wt;go_wp2_with fail;go_roundw;(case rel=>exact⟨k+1,aa,au,fun h=>absurd Xh.o h,HX.alloc _⟩);(case measure=>simp[intOf];omega))
        have t2:((b.obj:Int)==y.obj)=true:=by simp;exact g2
        by_cases g3:b.en=y.en
        rotate_left
        · have t3:((b.en:Int)==y.en)=false:=by simp;exact g3
          have HN:Hid (lI b (bs[k]).1=false):=aJ (by rw[HY.o];exact qF (.inr (.inr g3)));clear g1 g2 g3
          first
          |
            have Wt:b.kind≠3:=by simpa using q3
            skip;(
             have Xh:=aJ Wt;clear Wt;go_wp2_with fail
             go_roundw
             case rel=>exact⟨k+1,aa,au,fun h j hj WV=>by
               by_cases e:j=k
               · subst e;exact HN.o
               · exact HZ.o h j hj aa,HX.alloc _⟩
             case measure=>simp[intOf];omega)
          |(have Wt:b.kind=3:=AdK;have Xh:=aJ Wt;clear Wt;go_wp2_with fail;go_roundw;(case rel=>exact⟨k+1,aa,au,fun h=>absurd Xh.o h,HX.alloc _⟩);(case measure=>simp[intOf];omega))
        have t3:((b.en:Int)==y.en)=true:=by simp;exact g3
        have HN:Hid (lI b (bs[k]).1=true):=aJ (by rw[HY.o];exact CR g1 g2 g3);clear g1 g2 g3
        first
        |(have Wt:b.kind≠3:=AdK;have HC:Hid (en=12):=aJ (by rw[U.o,if_pos (NG Wt Wo HN.o)]);clear Wt;go_wp2_with fail;go_ret;exact⟨aL HC.symm,WW.trans ((HX.alloc _).mono ae),fun e=>absurd (HC.symm.trans e) aj⟩)
        |(have Wt:b.kind=3:=AdK;have Xh:=aJ Wt;clear Wt;go_wp2_with fail;go_roundw;(case rel=>exact⟨k+1,aa,au,fun h=>absurd Xh.o h,HX.alloc _⟩);(case measure=>simp[intOf];omega))
      · obtain rfl:bs.length=k:=aa;have HC:Hid (en=gN m0 b):=aJ (by
          rw[U.o,if_neg];by_cases Wt:b.kind=3
          · unfold nD;rw[decide_eq_false (fun h=>h Wt)];simp
          · rw[Rp (fun j hj=>HZ.o Wt j hj hj)];decide)
        clear Wo U;(go_wp2_with fail);refine(IJ (HB.ext HX.o) b hd.A hd.n hd.c (HL.ext (WC.trans HX.o)) Xk).mono ?_;rintro e w4 ⟨rfl,J⟩;rw[<-HC.o];have Xg:=WC.trans (HX.trans J);have WX:=aJ (HX.trans J);clear J;by_cases Xp:en=0
        rotate_left
        · have q0:((en:Int) !=0)=true:=by simp;exact Xp
          have HN:=aJ Xp;clear Xp;have Xa:=aJ Xg;clear Xg;(go_wp2_with fail);go_ret;exact⟨rfl,Xa.mono aa,fun e=>absurd e HN.o⟩
        · subst Xp;clear kX;obtain⟨_,hN,Xj,Xl,XC,Xo,Wy,⟨y0,r0⟩,⟨y1,r1⟩,⟨y2,r2⟩,r3⟩:=H.o;have Xc:Hid (∀g,Xo.ownBlock=some g->g<w.heap.size):=aJ (fun g e=>(r3.lt g e).2);replace hN:=hN.ext Xg;replace Wy:=Wy.ext Xg;replace r0:=dU r0 Xg;replace r1:=dU r1 Xg;replace r2:=dU r2 Xg;replace r3:=dU r3 Xg;obtain⟨D,d1,d2,d3⟩:=hN;have N:=WB.ext WX.o;have W9:Hid (Below M w w4):=aJ (Xg.mono aa);have Xd:=aJ N;have Xx:=aJ Wy;have R0:=aJ r0;have R1:=aJ r1;have R2:=aJ r2;have Xf:=aJ r3;have D1:=aJ d1;have D2:=aJ d2;have D3:=aJ d3;have WY:=Wy.lt;have Y1:=aK.blk Wy;have Y2:=aK.blk N;clear Wy N r0 r1 r2 r3 d1 d2 d3 Xg;(go_wp2_with fail);refine bz 6 [(true,0),(true,4),(true,5),(false,1),(true,2),(true,3)] ah ah ?_;refine aS [0,4,5] [(false,1),(true,2),(true,3)] _ ah ?_;simp only[bO,aV,List.cons_append,List.nil_append];(repeat (go_big_quiet_step (fail)));refine wpQuiet_nil ?_;refine aR 1 [(true,2),(true,3)] ah ?_;intro K I;simp only[aV];(go_wp2_with fail);refine I _ _ ⟨⟨_,(Ext.refl _).drew⟩,rfl⟩ ?_;clear I K;refine aS [2,3] [] _ ah ?_;simp only[bO,aV,List.cons_append,List.nil_append];(repeat (go_big_quiet_step (fail)));refine wpQuiet_nil ?_;simp only[bP,List.drop_succ_cons,List.drop_zero];clear Y1 Y2;(go_wp2_with (first|(at_mapUpdate;refine wpList_mapUpdate_own _ rfl _ _ _ 183 rfl 9 4 zR Tryz.underlying183 (plainElem Tryz.prog 4) M l.length D rfl D1.drew AdG _ _ (.string b.name.data.toList) rfl rfl (Oa WL) (.lit (.bool true)) [] (plainElem_bool Tryz.underlying4 true) ?_)));intro w2 WM Wq;have Wz:=dR Wq (Xx.drew) Ac1;have P:=dR Wq (Xd.drew) Ac1;have G2:Hid (w4.grownBy w2 (some M)):=aJ ⟨Wq.os,Wq.tape,Wq.output,Wq.size,Wq.block⟩;have r2:w2.ownsRow (B+1) 57 12 Xo bs.length (bs.flatMap fun x=>jC x.1 x.2):=Xf.kept G2.o (.inr (fun e=>by have:=(Xf.lt M e).1;omega));have RR:=aJ r2;have WK:=aJ WM;have WE:=Wz.lt;have WZ:=P.lt;have Y1:=fun(x:mW w2 [B,w.heap.size])=>x.blk Wz ag;have Y2:=fun(x:mW w2 [B,w.heap.size])=>x.blk P ag;have V:=aJ Wz;have W:=aJ P;clear Wz P r2 WM Wq;(go_wp2_with fail);refine mZ 9 7 (fun w'=>∃x:mW w2 [B,w.heap.size],w'=x.val) [(true,0),(true,1),(true,6),(false,2),(true,3),(true,4),(true,5)] [(false,8)] ah ah ⟨⟨w2.drew,fun _ _=>rfl⟩,rfl⟩ ?_;refine fI [0,1,6] [(false,2),(true,3),(true,4),(true,5)] _ ah ?_;simp only[bO,aV,List.cons_append,List.nil_append];(repeat (go_big_quiet_step (fail)));refine wpQuiet_nil ?_;refine lV 2 [(true,3),(true,4),(true,5)] ah ah ?_ ?_
          · intro K I;simp only[aV];(go_wp2_with fail);refine I _ _ ⟨⟨w2.drew,fun _ _=>rfl⟩,rfl⟩ ?_;clear I K;refine fI [3,4,5] [] _ ah ?_;simp only[bO,aV,List.cons_append,List.nil_append];(repeat (go_big_quiet_step (fail)));refine wpQuiet_nil ?_;refine oK ah ?_;intro K I;simp only[aV];(go_wp2_with fail);refine I _ _ ⟨⟨w2.drew.alloc (.cells #[.string b.name,.int .i64 b.kind,.int .i64 b.obj,.int .i64 b.en,.int .i64 b.z.r,.int .i64 b.z.x,.slice hd.A hd.n hd.c,.bool b.closed,.int .i64 b.ct,.int .i64 b.vt,.int .i64 b.sat,.int .i64 b.travel] 57),fun b hb=>Below.heap_alloc _ _ b AbR⟩,rfl⟩ ?_;clear I K;refine aR 8 [] ah ?_;intro K I;simp only[aV];(go_wp2_with (at_builtin;refine dK Gv rfl (.tmp 98) (.tmp 100) rfl (B+1) _ bs.length _ rf (World.ownsRow.alloc (w:=w2.drew) RR.o _) w2.heap.size 1 1 [.string b.name,.int .i64 b.kind,.int .i64 b.obj,.int .i64 b.en,.int .i64 b.z.r,.int .i64 b.z.x,.slice hd.A hd.n hd.c,.bool b.closed,.int .i64 b.ct,.int .i64 b.vt,.int .i64 b.sat,.int .i64 b.travel] rf (Blk.new w2.drew _ _) rfl AcB aa aa aa Ads ?_));intro g G w3 WO L WP Wo;have C:=dR L ((V.drew).alloc _) (iB RR.o (Nat.lt_succ_self _));have Wp:=dR L ((W.drew).alloc _) (fun e=>by have:=Xc.o _ e;omega);have k3:=C.cell;have f3:=C.frozen;have WQ:=C.lt;have Wv:=aJ C;have Ww:=aJ Wp;have G3:Hid ((w2.alloc (.cells #[.string b.name,.int .i64 b.kind,.int .i64 b.obj,.int .i64 b.en,.int .i64 b.z.r,.int .i64 b.z.x,.slice hd.A hd.n hd.c,.bool b.closed,.int .i64 b.ct,.int .i64 b.vt,.int .i64 b.sat,.int .i64 b.travel] 57)).grownBy w3 Xo.ownBlock):=aJ ⟨L.os,L.tape,L.output,L.size,L.block⟩;have WS:=aJ WO;clear C Wp L WO WP Wo;(go_wp2_with fail);refine I _ _ ⟨⟨w3,fun b hb=>by
              simp at hb;rcases hb with rfl|rfl
              · exact(Wv.o).trans V.symm
              · exact(Ww.o).trans W.symm⟩,rfl⟩ ?_
            exact Aav
          · intro K I;simp only[aV];(go_wp2_with fail);refine I _ _ ⟨⟨w2.drew.alloc (.cells #[.string b.name,.int .i64 b.kind,.int .i64 b.obj,.int .i64 b.en,.int .i64 b.z.r,.int .i64 b.z.x,.slice hd.A hd.n hd.c,.bool b.closed,.int .i64 b.ct,.int .i64 b.vt,.int .i64 b.sat,.int .i64 b.travel] 57),fun b hb=>Below.heap_alloc _ _ b AbR⟩,rfl⟩ ?_;clear I K;show bP _ _ _ _ [(false,2),(true,3),(true,4),(true,5),(false,8)] _ _;refine aR 2 [(true,3),(true,4),(true,5),(false,8)] ah ?_;intro K I;simp only[aV];(go_wp2_with fail);refine I _ _ ⟨⟨w2.drew.alloc (.cells #[.string b.name,.int .i64 b.kind,.int .i64 b.obj,.int .i64 b.en,.int .i64 b.z.r,.int .i64 b.z.x,.slice hd.A hd.n hd.c,.bool b.closed,.int .i64 b.ct,.int .i64 b.vt,.int .i64 b.sat,.int .i64 b.travel] 57),fun b hb=>Below.heap_alloc _ _ b AbR⟩,rfl⟩ ?_;clear I K;refine aS [3,4,5] [(false,8)] _ ah ?_;simp only[bO,aV,List.cons_append,List.nil_append];(repeat (go_big_quiet_step (fail)));refine wpQuiet_nil ?_;refine aR 8 [] ah ?_;intro K I;simp only[aV];(go_wp2_with (at_builtin;refine dK Gv rfl (.tmp 98) (.tmp 100) rfl (B+1) _ bs.length _ rf (World.ownsRow.alloc (w:=w2.drew) RR.o _) w2.heap.size 1 1 [.string b.name,.int .i64 b.kind,.int .i64 b.obj,.int .i64 b.en,.int .i64 b.z.r,.int .i64 b.z.x,.slice hd.A hd.n hd.c,.bool b.closed,.int .i64 b.ct,.int .i64 b.vt,.int .i64 b.sat,.int .i64 b.travel] rf (Blk.new w2.drew _ _) rfl AcB aa aa aa Ads ?_));intro g G w3 WO L WP Wo;have C:=dR L ((V.drew).alloc _) (iB RR.o (Nat.lt_succ_self _));have Wp:=dR L ((W.drew).alloc _) (fun e=>by have:=Xc.o _ e;omega);have k3:=C.cell;have f3:=C.frozen;have WQ:=C.lt;have Wv:=aJ C;have Ww:=aJ Wp;have G3:Hid ((w2.alloc (.cells #[.string b.name,.int .i64 b.kind,.int .i64 b.obj,.int .i64 b.en,.int .i64 b.z.r,.int .i64 b.z.x,.slice hd.A hd.n hd.c,.bool b.closed,.int .i64 b.ct,.int .i64 b.vt,.int .i64 b.sat,.int .i64 b.travel] 57)).grownBy w3 Xo.ownBlock):=aJ ⟨L.os,L.tape,L.output,L.size,L.block⟩;have WS:=aJ WO;clear C Wp L WO WP Wo;(go_wp2_with fail);refine I _ _ ⟨⟨w3,fun b hb=>by
              simp at hb;rcases hb with rfl|rfl
              · exact(Wv.o).trans V.symm
              · exact(Ww.o).trans W.symm⟩,rfl⟩ ?_
            exact Aav
def lN (s:StD) (L:Nat->Hd) (k:Nat):List (gD×Hd):=(List.range k).map fun i=>(s.bays.getD i default,L i)
theorem yn(s L k):lN s L (k+1)=lN s L k++[(s.bays.getD k default,L k)]:=by
 unfold lN;rw[List.range_succ,List.map_append];rfl
theorem IU(s L k):(lN s L k).length=k:=by unfold lN;simp
def BH{s L}:∀{k:Nat},k<=s.bays.length->(lN s L k).map Prod.fst=s.bays.take k
 |0,_=>by simp[lN]
 |k+1,h=>by
  rw[yn,List.map_append,BH aa,jT aa];rfl
def J8{w0 w M B A0 n0 c0 A1 n1 c1 A2 n2 c2 A3 n3 c3 L s}(hs:lY w0 A0 n0 c0 A1 n1 c1 A2 n2 c2 A3 n3 c3 L s)(F:Below M w0 w)(hM:w0.heap.size<=M)(g0:n0<=4)(g1:n1<=6)(g2:n2<=4)(g3:n3<=16)(U:BSt w M B (nms s 0 0 0 0) 0 0 0 []):
  Calls Tryz.prog 72 #[.slice A0 n0 c0,.func (Fn.func 73) #[.pointer (some ⟨B,0,none⟩)] #[]] w fun e w'=>e=.returned (.int .i64 (dF (uI s) n0))/\Below M w w'/\(dF (uI s) n0=0->BSt w' M B (nms s n0 0 0 0) n0 0 0 []):=by
 have N:s.buses.length=n0:=hs.buses.len;have S:=hs.l1;have Ww:=hs.l2;have Y:=hs.l3;have WL:=hs.mx;have HS:=aJ hs;have HB:=aJ U;have H:=aJ F;have R:=aJ N;have G:=aJ S;have Wu:=aJ Ww;have Z:=aJ Y;obtain⟨m0,m1,m2,m3⟩:=WL;have Wp:M<w.heap.size:=U.nm.lt;clear hs U F N S Ww Y;go_enter Tryz.func72,Tryz.ntmps72;go_wp2_with fail
 go_loopw [10] (fun i wr=>∃k:Nat,k<=n0/\i=.int .i64 (k:Int)/\(∀j,j<k->uI s j=0)/\BSt wr M B (nms s k 0 0 0) k 0 0 []/\Below M w wr) (fun i _=>n0-(intOf i).toNat)
 case atStart=>exact⟨0,aa,rfl,by intros;omega,HB.o,Below.refl _ _⟩
 case round=>
  clear HB;obtain⟨k,hk,rfl,hz,U,J⟩:=hrel;have HZ:=aJ hz;have HB:=aJ U;have HX:=aJ J;have T:M<wr.heap.size:=U.nm.lt;have K:B<wr.heap.size:=by obtain⟨_,_,_,_,_,_,hb,_⟩:=U;exact hb.lt
  have l:=aJ (HS.ext (w':=wr) ((H.trans J).mono hM));clear hz U J;by_cases Wo:k<n0
  .have hd:decide (k<n0)=true:=ae;obtain⟨ad,hA,hb,e0⟩:=l.buses.getD Wo;have HN:Hid (nms s (k+1) 0 0 0=nms s k 0 0 0++[s.buses.getD k default]):=aJ (by
    rw[Pj,Pj];exact jT Adm)
   have Q:Hid (uI s k=dP (nms s k 0 0 0) (s.buses.getD k default)):=aJ rfl;generalize s.buses.getD k default=x at e0 Q HN;subst hA;(go_wp2_with fail);refine(Q0 HB.o x (by rw[yM Adm (Nat.zero_le _) (Nat.zero_le _) (Nat.zero_le _)];omega) aa).mono ?_;rintro e w2 ⟨rfl,P,Wx⟩;rw[<-Q.o];rw[<-Q.o,<-HN.o] at Wx;have W:=aJ (HX.trans P);have V:=aJ Wx;clear P Wx;generalize D:uI s k=I at Q V;have C:=aJ D;clear D Q;by_cases O:I=0
   rotate_left
   .have q0:((I:Int) !=0)=true:=by simp;exact O
    have HE:=aJ O;clear O;have HF:Hid (I=dF (uI s) n0):=aJ (cO HZ.o C.o HE.o Wo);exact AbY
   .subst O;have Wz:=V.o rfl;have WM:=aJ Wz;clear Wz V;go_wp2_with fail
    exact AaI
  .obtain rfl:n0=k:=aa;exact AcF
def I7{w0 w M B A0 n0 c0 A1 n1 c1 A2 n2 c2 A3 n3 c3 L s}(hs:lY w0 A0 n0 c0 A1 n1 c1 A2 n2 c2 A3 n3 c3 L s)(F:Below M w0 w)(hM:w0.heap.size<=M)(g0:n0<=4)(g1:n1<=6)(g2:n2<=4)(g3:n3<=16)(U:BSt w M B (nms s n0 0 0 0) n0 0 0 []):
  Calls Tryz.prog 74 #[.slice A1 n1 c1,.func (Fn.func 75) #[.pointer (some ⟨B,0,none⟩)] #[]] w fun e w'=>e=.returned (.int .i64 (dF (lL s) n1))/\Below M w w'/\(dF (lL s) n1=0->BSt w' M B (nms s n0 n1 0 0) n0 n1 0 []):=by
 have N:s.buses.length=n0:=hs.buses.len;have S:=hs.l1;have Ww:=hs.l2;have Y:=hs.l3;have WL:=hs.mx;have HS:=aJ hs;have HB:=aJ U;have H:=aJ F;have R:=aJ N;have G:=aJ S;have Wu:=aJ Ww;have Z:=aJ Y;obtain⟨m0,m1,m2,m3⟩:=WL;have Wp:M<w.heap.size:=U.nm.lt;clear hs U F N S Ww Y;go_enter Tryz.func74,Tryz.ntmps74;go_wp2_with fail
 go_loopw [10] (fun i wr=>∃k:Nat,k<=n1/\i=.int .i64 (k:Int)/\(∀j,j<k->lL s j=0)/\BSt wr M B (nms s n0 k 0 0) n0 k 0 []/\Below M w wr) (fun i _=>n1-(intOf i).toNat)
 case atStart=>exact⟨0,aa,rfl,by intros;omega,HB.o,Below.refl _ _⟩
 case round=>
  clear HB;obtain⟨k,hk,rfl,hz,U,J⟩:=hrel;have HZ:=aJ hz;have HB:=aJ U;have HX:=aJ J;have T:M<wr.heap.size:=U.nm.lt;have K:B<wr.heap.size:=by obtain⟨_,_,_,_,_,_,hb,_⟩:=U;exact hb.lt
  have l:=aJ (HS.ext (w':=wr) ((H.trans J).mono hM));clear hz U J;by_cases Wo:k<n1
  .have hd:decide (k<n1)=true:=ae;obtain⟨lb,lo,hA,hb,hc⟩:=l.lines.at_ Wo;have e0:wr.cell? ⟨lb,lo+k*5,none⟩=some (.string (s.lines.getD k default).name):=hc 0 _ rfl;have e1:wr.cell? ⟨lb,lo+k*5+1,none⟩=some (.int .i64 (s.lines.getD k default).z1.r):=hc 1 _ rfl;have e2:wr.cell? ⟨lb,lo+k*5+2,none⟩=some (.int .i64 (s.lines.getD k default).z1.x):=hc 2 _ rfl;have e3:wr.cell? ⟨lb,lo+k*5+3,none⟩=some (.int .i64 (s.lines.getD k default).z0.r):=hc 3 _ rfl;have e4:wr.cell? ⟨lb,lo+k*5+4,none⟩=some (.int .i64 (s.lines.getD k default).z0.x):=hc 4 _ rfl;clear hc;have HN:Hid (nms s n0 (k+1) 0 0=nms s n0 k 0 0++[(s.lines.getD k default).name]):=aJ (TC Ady);have Q:Hid (lL s k=if dP (nms s n0 k 0 0) (s.lines.getD k default).name=0 then (if (okZ (s.lines.getD k default).z1&&okZ (s.lines.getD k default).z0)=true then 0 else 2) else dP (nms s n0 k 0 0) (s.lines.getD k default).name):=aJ (by rw[<-R.o];rfl);generalize s.lines.getD k default=x at e0 e1 e2 e3 e4 Q HN;subst hA;(go_wp2_with fail);refine(Pv (HB.ext (Ext.new _ _)) x (by rw[yM Adm Ady (Nat.zero_le _) (Nat.zero_le _)];omega) aa).mono ?_;rintro e w2 ⟨rfl,P,Wx⟩;rw[<-Q.o];rw[<-Q.o,<-HN.o] at Wx;have W:=aJ ((HX.trans ((Ext.new wr _).mono aa)).trans P);have V:=aJ Wx;clear P Wx;generalize D:lL s k=I at Q V;have C:=aJ D;clear D Q;by_cases O:I=0
   rotate_left
   .have q0:((I:Int) !=0)=true:=by simp;exact O
    have HE:=aJ O;clear O;have HF:Hid (I=dF (lL s) n1):=aJ (cO HZ.o C.o HE.o Wo);exact AbY
   .subst O;have Wz:=V.o rfl;have WM:=aJ Wz;clear Wz V;go_wp2_with fail
    exact AaI
  .obtain rfl:n1=k:=aa;exact AcF
def JQ{w0 w M B A0 n0 c0 A1 n1 c1 A2 n2 c2 A3 n3 c3 L s}(hs:lY w0 A0 n0 c0 A1 n1 c1 A2 n2 c2 A3 n3 c3 L s)(F:Below M w0 w)(hM:w0.heap.size<=M)(g0:n0<=4)(g1:n1<=6)(g2:n2<=4)(g3:n3<=16)(U:BSt w M B (nms s n0 n1 0 0) n0 n1 0 []):
  Calls Tryz.prog 76 #[.slice A2 n2 c2,.func (Fn.func 77) #[.pointer (some ⟨B,0,none⟩)] #[]] w fun e w'=>e=.returned (.int .i64 (dF (sH s) n2))/\Below M w w'/\(dF (sH s) n2=0->BSt w' M B (nms s n0 n1 n2 0) n0 n1 n2 []):=by
 have N:s.buses.length=n0:=hs.buses.len;have S:=hs.l1;have Ww:=hs.l2;have Y:=hs.l3;have WL:=hs.mx;have HS:=aJ hs;have HB:=aJ U;have H:=aJ F;have R:=aJ N;have G:=aJ S;have Wu:=aJ Ww;have Z:=aJ Y;obtain⟨m0,m1,m2,m3⟩:=WL;have Wp:M<w.heap.size:=U.nm.lt;clear hs U F N S Ww Y;go_enter Tryz.func76,Tryz.ntmps76;go_wp2_with fail
 go_loopw [10] (fun i wr=>∃k:Nat,k<=n2/\i=.int .i64 (k:Int)/\(∀j,j<k->sH s j=0)/\BSt wr M B (nms s n0 n1 k 0) n0 n1 k []/\Below M w wr) (fun i _=>n2-(intOf i).toNat)
 case atStart=>exact⟨0,aa,rfl,by intros;omega,HB.o,Below.refl _ _⟩
 case round=>
  clear HB;obtain⟨k,hk,rfl,hz,U,J⟩:=hrel;have HZ:=aJ hz;have HB:=aJ U;have HX:=aJ J;have T:M<wr.heap.size:=U.nm.lt;have K:B<wr.heap.size:=by obtain⟨_,_,_,_,_,_,hb,_⟩:=U;exact hb.lt
  have l:=aJ (HS.ext (w':=wr) ((H.trans J).mono hM));clear hz U J;by_cases Wo:k<n2
  .have hd:decide (k<n2)=true:=ae;obtain⟨lb,lo,hA,hb,hc⟩:=l.srcs.at_ Wo;have e0:wr.cell? ⟨lb,lo+k*6,none⟩=some (.string (s.srcs.getD k default).name):=hc 0 _ rfl;have e1:wr.cell? ⟨lb,lo+k*6+1,none⟩=some (.int .i64 (s.srcs.getD k default).emf):=hc 1 _ rfl;have e2:wr.cell? ⟨lb,lo+k*6+2,none⟩=some (.int .i64 (s.srcs.getD k default).z1.r):=hc 2 _ rfl;have e3:wr.cell? ⟨lb,lo+k*6+3,none⟩=some (.int .i64 (s.srcs.getD k default).z1.x):=hc 3 _ rfl;have e4:wr.cell? ⟨lb,lo+k*6+4,none⟩=some (.int .i64 (s.srcs.getD k default).z0.r):=hc 4 _ rfl;have e5:wr.cell? ⟨lb,lo+k*6+5,none⟩=some (.int .i64 (s.srcs.getD k default).z0.x):=hc 5 _ rfl;clear hc;have HN:Hid (nms s n0 n1 (k+1) 0=nms s n0 n1 k 0++[(s.srcs.getD k default).name]):=aJ (TH (by have:=Wu.o;omega));have Q:Hid (sH s k=if dP (nms s n0 n1 k 0) (s.srcs.getD k default).name=0 then (if jB (s.srcs.getD k default)=true then 0 else 2) else dP (nms s n0 n1 k 0) (s.srcs.getD k default).name):=aJ (by rw[<-R.o,<-G.o];rfl);generalize s.srcs.getD k default=x at e0 e1 e2 e3 e4 e5 Q HN;subst hA;(go_wp2_with fail);refine(Jr (HB.ext (Ext.new _ _)) x (by rw[yM Adm Ady (by have:=Wu.o;omega) (Nat.zero_le _)];omega) aa).mono ?_;rintro e w2 ⟨rfl,P,Wx⟩;rw[<-Q.o];rw[<-Q.o,<-HN.o] at Wx;have W:=aJ ((HX.trans ((Ext.new wr _).mono aa)).trans P);have V:=aJ Wx;clear P Wx;generalize D:sH s k=I at Q V;have C:=aJ D;clear D Q;by_cases O:I=0
   rotate_left
   .have q0:((I:Int) !=0)=true:=by simp;exact O
    have HE:=aJ O;clear O;have HF:Hid (I=dF (sH s) n2):=aJ (cO HZ.o C.o HE.o Wo);exact AbY
   .subst O;have Wz:=V.o rfl;have WM:=aJ Wz;clear Wz V;go_wp2_with fail
    exact AaI
  .obtain rfl:n2=k:=aa;exact AcF
theorem Ip{w0 w M B A0 n0 c0 A1 n1 c1 A2 n2 c2 A3 n3 c3 L s}(hs:lY w0 A0 n0 c0 A1 n1 c1 A2 n2 c2 A3 n3 c3 L s)(F:Below M w0 w)(hM:w0.heap.size<=M)(g0:n0<=4)(g1:n1<=6)(g2:n2<=4)(g3:n3<=16)(hB:BSt w M B (nms s n0 n1 n2 0) n0 n1 n2 (lN s L 0)):
  Calls Tryz.prog 78 #[.slice A3 n3 c3,.func (Fn.func 79) #[.pointer (some ⟨B,0,none⟩)] #[]] w fun e w'=>e=.returned (.int .i64 (dF (uE s) n3))/\Below M w w'/\(dF (uE s) n3=0->BSt w' M B (nms s n0 n1 n2 n3) n0 n1 n2 (lN s L n3)):=by
 have N:s.buses.length=n0:=hs.buses.len;have S:=hs.l1;have Ww:=hs.l2;have Y:=hs.l3;have WL:=hs.mx;have HS:=aJ hs;have HB:=aJ hB;have H:=aJ F;have R:=aJ N;have G:=aJ S;have Wu:=aJ Ww;have Z:=aJ Y;obtain⟨m0,m1,m2,m3⟩:=WL;have Wp:M<w.heap.size:=hB.nm.lt;clear hs hB F N S Ww Y;go_enter Tryz.func78,Tryz.ntmps78;go_wp2_with fail
 go_loopw [10] (fun i wr=>∃k:Nat,k<=n3/\i=.int .i64 (k:Int)/\(∀j,j<k->uE s j=0)/\BSt wr M B (nms s n0 n1 n2 k) n0 n1 n2 (lN s L k)/\Below M w wr) (fun i _=>n3-(intOf i).toNat)
 case atStart=>exact⟨0,aa,rfl,by intros;omega,HB.o,Below.refl _ _⟩
 case round=>
  clear HB;obtain⟨k,hk,rfl,hz,hB,J⟩:=hrel;have HZ:=aJ hz;have HB:=aJ hB;have HX:=aJ J;have T:M<wr.heap.size:=hB.nm.lt;have K:B<wr.heap.size:=by obtain⟨_,_,_,_,_,_,hb,_⟩:=hB;exact hb.lt
  have l:=aJ (HS.ext (w':=wr) ((H.trans J).mono hM));clear hz hB J;by_cases Wo:k<n3
  .have hd:decide (k<n3)=true:=ae;obtain⟨lb,lo,hA,hb,e0,e1,e2,e3,e4,e5,e6,e7,e8,e9,WI,WH⟩:=l.bays.bay Wo;have WN:=aJ (l.links k Wo);have HN:Hid (nms s n0 n1 n2 (k+1)=nms s n0 n1 n2 k++[(s.bays.getD k default).name]):=aJ (Tt Ac4);have U:Hid (uE s k=CX (nms s n0 n1 n2 k) n0 n1 n2 (lN s L k) (s.bays.getD k default)):=aJ (by
    have h3:=Z.o;unfold CX;rw[BH aa,<-R.o,<-G.o,<-Wu.o];rfl)
   have Q:Hid (lN s L (k+1)=lN s L k++[(s.bays.getD k default,L k)]):=aJ (yn s L k);generalize s.bays.getD k default=x at e0 e1 e2 e3 e4 e5 e6 e7 e8 e9 WI WH U HN WN Q;generalize L k=hh at e0 e1 e2 e3 e4 e5 e6 e7 e8 e9 WI WH WN Q;subst hA;(go_wp2_with fail);refine(RO (HB.ext (Ext.new _ _)) x hh (WN.ext (Ext.new _ _)) (by rw[yM Adm Ady (by have:=Wu.o;omega) Ac4];omega) ⟨aa,aa,aa,by rw[IU];omega⟩).mono ?_;rintro e w2 ⟨rfl,P,Wx⟩;rw[<-U.o];rw[<-U.o,<-HN.o,<-Q.o] at Wx;have W:=aJ ((HX.trans ((Ext.new wr _).mono aa)).trans P);have V:=aJ Wx;clear P Wx;generalize D:uE s k=I at U V;have C:=aJ D;clear D U;by_cases O:I=0
   rotate_left
   .have q0:((I:Int) !=0)=true:=by simp;exact O
    have HE:=aJ O;clear O;have HF:Hid (I=dF (uE s) n3):=aJ (cO HZ.o C.o HE.o Wo);exact AbY
   .subst O;have Wz:=V.o rfl;have WM:=aJ Wz;clear Wz V;go_wp2_with fail
    exact AaI
  .obtain rfl:n3=k:=aa;exact AcF
def Uz(w):Calls Tryz.prog 71 #[] w fun e w'=>∃M,w.heap.size=M/\e=.returned (.pointer (some ⟨M+1,0,none⟩))/\BSt w' M (M+1) [] 0 0 0 []/\Ext w w':=
 (BL w).mono fun e w' ⟨j,l,B⟩=>⟨_,rfl,j,l,B⟩
theorem yo{A0 n0 c0 A1 n1 c1 A2 n2 c2 A3 n3 c3 L s}(w)(hs:lY w A0 n0 c0 A1 n1 c1 A2 n2 c2 A3 n3 c3 L s):
  CE 40 #[stV s.name A0 n0 c0 A1 n1 c1 A2 n2 c2 A3 n3 c3] w (.int .i64 (chk s)):=by
 have K:∀(fn:Fn) (first G:Array Value) (w:World),(Instr.makeFunc fn first G).run Tryz.prog w=.ok (.func fn first G) w:=fun _ _ _ _=>rfl;have C:∀w:World,Calls Tryz.prog 70 #[.string s.name] w fun e w'=>e=.returned (.bool (fT s.name))/\w=w':=fun w=>(G9 s.name w).mono (fun e w' hh=>⟨hh.1,hh.2.symm⟩);have NM:=aJ C;clear C;have N:s.buses.length=n0:=hs.buses.len;have S:=hs.l1;have Z:=hs.l2;have Y:=hs.l3;have HS:=aJ (hs.ext (Ext.new w (.cells #[.string s.name,.slice A0 n0 c0,.slice A1 n1 c1,.slice A2 n2 c2,.slice A3 n3 c3] 27)));clear hs;unfold stV;have D:Hid (Ext w (w.alloc (.cells #[.string s.name,.slice A0 n0 c0,.slice A1 n1 c1,.slice A2 n2 c2,.slice A3 n3 c3] 27))):=aJ (Ext.new _ _);cases hn:fT s.name
 .have T:Hid (chk s=7):=aJ (Tw hn);rw[hn] at NM;clear N S Z Y;exact Aaw
 rw[hn] at NM;cases hc:rM s
 .have T:Hid (chk s=3):=aJ (Tu hn hc);have WS:¬(1<=n0/\n0<=4/\n1<=6/\n2<=4/\n3<=16):=by
   intro h;have:rM s=true:=by
    unfold rM;rw[N,S,Z,Y];simp;omega
   rw[hc] at this;cases this
  clear N S Z Y hc;have HC:=aJ WS;clear WS;by_cases O:n0=0
  .have d0:((n0:Int)==0)=true:=ae;clear O;exact Aaw
  have d0:((n0:Int)==0)=false:=ae;by_cases t1:4<n0
  .have d1:decide ((4:Int)<(n0:Int))=true:=ae;clear t1;exact Aaw
  have d1:decide ((4:Int)<(n0:Int))=false:=ae;by_cases t2:6<n1
  .have d2:decide ((6:Int)<(n1:Int))=true:=ae;clear t2;exact Aaw
  have d2:decide ((6:Int)<(n1:Int))=false:=ae;by_cases t3:4<n2
  .have d3:decide ((4:Int)<(n2:Int))=true:=ae;clear t3;exact Aaw
  have d3:decide ((4:Int)<(n2:Int))=false:=ae;by_cases t4:16<n3
  .have d4:decide ((16:Int)<(n3:Int))=true:=ae;clear t4;exact Aaw
  exact Adc
 have T:=aJ (N7 hn hc);have WR:1<=n0/\n0<=4/\n1<=6/\n2<=4/\n3<=16:=by
  unfold rM at hc;rw[N,S,Z,Y] at hc;simp at hc;omega
 obtain⟨g0,B,g1,g2,g3⟩:=WR;clear hc;rw[N,S,Z,Y] at T;clear N S Z Y;have d0:((n0:Int)==0)=false:=ae;have d1:decide ((4:Int)<(n0:Int))=false:=ae;have d2:decide ((6:Int)<(n1:Int))=false:=ae;have d3:decide ((4:Int)<(n2:Int))=false:=ae;have d4:decide ((16:Int)<(n3:Int))=false:=ae;obtain⟨-,Ws⟩:=ah1 w 27 #[.string s.name,.slice A0 n0 c0,.slice A1 n1 c1,.slice A2 n2 c2,.slice A3 n3 c3];go_enter Tryz.func40,Tryz.ntmps40;(go_wp2_with fail);refine(NM.o _).mono ?_;rintro e w1 ⟨rfl,rfl⟩;(go_wp2_with fail);refine(Uz _).mono ?_;rintro e w1 ⟨M,hM,rfl,R,J⟩;have HM:=aJ hM;have P:Hid (Below M (w.alloc (.cells #[.string s.name,.slice A0 n0 c0,.slice A1 n1 c1,.slice A2 n2 c2,.slice A3 n3 c3] 27)) w1):=aJ (hM ▸ J);have Q:=aJ R;have Wp:w.heap.size<M:=by rw[<-hM];simp
 have k1:=(Ws.ext J).cell;clear hM J R d0 d1 d2 d3 d4;(go_wp2_with fail);refine(J8 HS.o P.o AcL B g1 g2 g3 Q.o).mono ?_;rintro e w2 ⟨rfl,J,R⟩;generalize hE:dF (uI s) n0=en at R;have F:=aJ hE;clear hE;have j:=aJ (P.trans J);have l:=aJ R;clear J R P k1;have P:=j;clear j;have k1:=(show Blk w2 w.heap.size 27 #[.string s.name,.slice A0 n0 c0,.slice A1 n1 c1,.slice A2 n2 c2,.slice A3 n3 c3] from Ws.below P.o Wp).cell;by_cases W:en=0
 rotate_left
 .have q0:((en:Int)==0)=false:=by simp;exact W
  have U:Hid (chk s=en):=aJ (by
   rw[T.o];rw[if_neg (by rw[F.o];exact W),F.o])
  exact Ab4
 subst W;have V:=l.o rfl;clear Q l;have Q:=aJ V;clear V;(go_wp2_with fail);refine(I7 HS.o P.o AcL B g1 g2 g3 Q.o).mono ?_;rintro e w2 ⟨rfl,J,R⟩;generalize hE:dF (lL s) n1=en at R;have H:=aJ hE;clear hE;have j:=aJ (P.trans J);have l:=aJ R;clear J R P k1;have P:=j;clear j;have k1:=(show Blk w2 w.heap.size 27 #[.string s.name,.slice A0 n0 c0,.slice A1 n1 c1,.slice A2 n2 c2,.slice A3 n3 c3] from Ws.below P.o Wp).cell;by_cases W:en=0
 rotate_left
 .have q0:((en:Int)==0)=false:=by simp;exact W
  have U:Hid (chk s=en):=aJ (by
   rw[T.o];rw[if_pos F.o];rw[if_neg (by rw[H.o];exact W),H.o])
  exact Ab4
 subst W;have V:=l.o rfl;clear Q l;have Q:=aJ V;clear V;(go_wp2_with fail);refine(JQ HS.o P.o AcL B g1 g2 g3 Q.o).mono ?_;rintro e w2 ⟨rfl,J,R⟩;generalize hE:dF (sH s) n2=en at R;have I:=aJ hE;clear hE;have j:=aJ (P.trans J);have l:=aJ R;clear J R P k1;have P:=j;clear j;have k1:=(show Blk w2 w.heap.size 27 #[.string s.name,.slice A0 n0 c0,.slice A1 n1 c1,.slice A2 n2 c2,.slice A3 n3 c3] from Ws.below P.o Wp).cell;by_cases W:en=0
 rotate_left
 .have q0:((en:Int)==0)=false:=by simp;exact W
  have U:Hid (chk s=en):=aJ (by
   rw[T.o];rw[if_pos F.o];rw[if_pos H.o];rw[if_neg (by rw[I.o];exact W),I.o])
  exact Ab4
 subst W;have V:=l.o rfl;clear Q l;have Q:=aJ V;clear V;(go_wp2_with fail);refine(Ip HS.o P.o AcL B g1 g2 g3 Q.o).mono ?_;rintro e w2 ⟨rfl,J,R⟩;generalize hE:dF (uE s) n3=en at R;have F3:=aJ hE;clear hE;have j:=aJ (P.trans J);have l:=aJ R;clear J R P k1;have P:=j;clear j;have k1:=(show Blk w2 w.heap.size 27 #[.string s.name,.slice A0 n0 c0,.slice A1 n1 c1,.slice A2 n2 c2,.slice A3 n3 c3] from Ws.below P.o Wp).cell;go_wp2;go_ret;exact⟨aL (by rw[T.o,if_pos F.o,if_pos H.o,if_pos I.o,F3.o]),D.trans (P.mono (by rw[<-HM.o];exact Nat.le_refl _))⟩
def oH (f:dQ):Value:=.agg #[.int .i64 f.kind,.bool f.line,.int .i64 f.obj,.int .i64 f.num,.int .i64 f.den,.int .i64 f.r]
section
variable {nb nl:Nat} {f:dQ}
theorem NU(h:f.kind=0/\f.line=false/\f.obj=0/\f.num=0/\f.den=0/\f.r=0):eD nb nl f=0:=by
 have:f=⟨0,false,0,0,0,0⟩:=by obtain⟨a,b,c,d,e,g⟩:=f;simp at h⊢;exact h
 unfold eD;rw[if_pos this]
theorem lu(j:¬(f.kind=0/\f.line=false/\f.obj=0/\f.num=0/\f.den=0/\f.r=0))(h:¬(1<=f.kind/\f.kind<=10)):eD nb nl f=10:=by
 unfold eD;rw[if_neg (fun e=>j (by rw[e];simp)),if_neg (by rw[eP];exact h)]
theorem yR(j:1<=f.kind/\f.kind<=10):eD nb nl f=(if btw f.obj 0 ((if f.line=true then (nl:Int) else (nb:Int))-1)=true then
   if f.line=true/\(f.den<2\/16<f.den\/f.num<1\/f.den-1<f.num) then 2
   else if f.line=false/\(f.num≠0\/f.den≠0) then 2
   else if btw f.r 0 1000=true then 0 else 2
  else 9):=by
 have l:f≠⟨0,false,0,0,0,0⟩:=fun e=>by rw[e] at j;simp at j
 unfold eD;rw[if_neg l,if_pos (by rw[eP];exact j)]
def sO(j:1<=f.kind/\f.kind<=10)(cnt:Nat)(hc:(if f.line=true then (nl:Int) else (nb:Int))=(cnt:Int))(h:f.obj<0\/(cnt:Int)<=f.obj):eD nb nl f=9:=by
 rw[yR j,hc,if_neg Adi]
def rX(j:1<=f.kind/\f.kind<=10)(Z:f.line=true)(l:¬(f.obj<0\/(nl:Int)<=f.obj))(h:f.den<2\/16<f.den\/f.num<1\/f.den-1<f.num):eD nb nl f=2:=by
 rw[yR j,if_pos (by rw[if_pos Z,eP];omega),if_pos ⟨Z,h⟩]
def EO(j:1<=f.kind/\f.kind<=10)(Z:f.line=false)(l:¬(f.obj<0\/(nb:Int)<=f.obj))(h:f.num≠0\/f.den≠0):eD nb nl f=2:=by
 rw[yR j,if_pos (by rw[if_neg (by rw[Z];decide),eP];omega),if_neg (fun e=>by rw[Z] at e;cases e.1),if_pos ⟨Z,h⟩]
def Ew(j:1<=f.kind/\f.kind<=10)(cnt:Nat)(hc:(if f.line=true then (nl:Int) else (nb:Int))=(cnt:Int))(C:¬(f.obj<0\/(cnt:Int)<=f.obj))(l:f.line=true->¬(f.den<2\/16<f.den\/f.num<1\/f.den-1<f.num))(B:f.line=false->¬(f.num≠0\/f.den≠0)):
  eD nb nl f=if f.r<0\/1000<f.r then 2 else 0:=by
 rw[yR j,hc,if_pos Adi,if_neg (fun e=>l e.1 e.2),if_neg (fun e=>B e.1 e.2)];by_cases h:f.r<0\/1000<f.r
 .rw[if_pos h,if_neg Adi]
 .rw[if_neg h,if_pos Adi]
end
theorem Ak(nm){A0 n0 c0 A1 n1 c1 A2 n2 c2 A3 n3 c3}(f w):
  CE 41 #[stV nm A0 n0 c0 A1 n1 c1 A2 n2 c2 A3 n3 c3,oH f] w (.int .i64 (eD n0 n1 f)):=by
 unfold stV oH;by_cases z1:f.kind=0
 .have q1:((f.kind:Int)==0)=true:=by simp[z1]
  have l:decide (f.kind<1)=true:=ae;have P:=aJ z1;clear z1;cases T:f.line
  rotate_left
  .have D:¬(f.kind=0/\f.line=false/\f.obj=0/\f.num=0/\f.den=0/\f.r=0):=fun e=>by rw[T] at e;cases e.2.1
   clear T;exact AcE
  have Z2:=aJ T;clear T;by_cases G:f.obj=0
  rotate_left
  .have q3:((f.obj:Int)==0)=false:=by simp;exact G
   have D:¬(f.kind=0/\f.line=false/\f.obj=0/\f.num=0/\f.den=0/\f.r=0):=fun e=>G aa;clear G;exact AcE
  have q3:((f.obj:Int)==0)=true:=by simp[G]
  have Z3:=aJ G;clear G;by_cases R:f.num=0
  rotate_left
  .have q4:((f.num:Int)==0)=false:=by simp;exact R
   have D:¬(f.kind=0/\f.line=false/\f.obj=0/\f.num=0/\f.den=0/\f.r=0):=fun e=>R aa;clear R;exact AcE
  have q4:((f.num:Int)==0)=true:=by simp[R]
  have B:=aJ R;clear R;by_cases Y:f.den=0
  rotate_left
  .have q5:((f.den:Int)==0)=false:=by simp;exact Y
   have D:¬(f.kind=0/\f.line=false/\f.obj=0/\f.num=0/\f.den=0/\f.r=0):=fun e=>Y aa;clear Y;exact AcE
  have q5:((f.den:Int)==0)=true:=by simp[Y]
  have I:=aJ Y;clear Y;by_cases O:f.r=0
  rotate_left
  .have q6:((f.r:Int)==0)=false:=by simp;exact O
   have D:¬(f.kind=0/\f.line=false/\f.obj=0/\f.num=0/\f.den=0/\f.r=0):=fun e=>O aa;clear O;exact AcE
  have q6:((f.r:Int)==0)=true:=by simp[O]
  have C:=aJ O;clear O;have U:Hid (eD n0 n1 f=0):=aJ (NU ⟨P.o,Z2.o,Z3.o,B.o,I.o,C.o⟩);exact Aai
 have q1:((f.kind:Int)==0)=false:=by simp;exact z1
 have D:¬(f.kind=0/\f.line=false/\f.obj=0/\f.num=0/\f.den=0/\f.r=0):=fun e=>z1 e.1;by_cases M:f.kind<1
 .have d1:decide (f.kind<1)=true:=ae;have U:Hid (eD n0 n1 f=10):=aJ (lu D aa);exact Aai
 have d1:decide (f.kind<1)=false:=ae;by_cases a2:10<f.kind
 .have d2:decide (10<f.kind)=true:=ae;have U:Hid (eD n0 n1 f=10):=aJ (lu D aa);exact Aai
 have d2:decide (10<f.kind)=false:=ae;have hk:1<=f.kind/\f.kind<=10:=⟨aa,aa⟩;have j:=aJ hk;clear hk D;cases Z:f.line
 rotate_left
 .have H:Hid (f.line=true):=aJ Z;have N:Hid ((if f.line=true then (n1:Int) else (n0:Int))=(n1:Nat)):=aJ (by rw[Z];rfl);clear Z;by_cases b1:f.obj<0
  .have d3:decide (f.obj<0)=true:=ae;have U:Hid (eD n0 n1 f=9):=aJ (sO j.o n1 N.o (.inl b1));exact Aai
  have d3:decide (f.obj<0)=false:=ae;by_cases b2:(n1:Int)<=f.obj
  .have d4:decide ((n1:Int)<=f.obj)=true:=ae;have U:Hid (eD n0 n1 f=9):=aJ (sO j.o n1 N.o (.inr b2));exact Aai
  have d4:decide ((n1:Int)<=f.obj)=false:=ae;have S:¬(f.obj<0\/(n1:Int)<=f.obj):=aa;have J:=aJ S;clear S;by_cases L:f.den<2
  .have W:decide (f.den<2)=true:=ae;have U:Hid (eD n0 n1 f=2):=aJ (rX j.o H.o J.o (.inl L));exact Aai
  have W:decide (f.den<2)=false:=ae;by_cases K:16<f.den
  .have d6:decide (16<f.den)=true:=ae;have U:Hid (eD n0 n1 f=2):=aJ (rX j.o H.o J.o (.inr (.inl K)));exact Aai
  have d6:decide (16<f.den)=false:=ae;by_cases e3:f.num<1
  .have d7:decide (f.num<1)=true:=ae;have U:Hid (eD n0 n1 f=2):=aJ (rX j.o H.o J.o (.inr (.inr (.inl e3))));exact Aai
  have d7:decide (f.num<1)=false:=ae;by_cases e4:f.den-1<f.num
  .have d8:decide (f.den-1<f.num)=true:=ae;have d9:decide (f.den<=f.num)=true:=ae;have U:Hid (eD n0 n1 f=2):=aJ (rX j.o H.o J.o (.inr (.inr (.inr e4))));exact Aai
  have d8:decide (f.den-1<f.num)=false:=ae;have d9:decide (f.den<=f.num)=false:=ae;have Q:=aJ (Ew j.o n1 N.o J.o (fun _=>aa) (fun e=>by rw[H.o] at e;cases e));exact AbT
 .have H:Hid (f.line=false):=aJ Z;have N:Hid ((if f.line=true then (n1:Int) else (n0:Int))=(n0:Nat)):=aJ (by rw[Z];rfl);clear Z;by_cases b1:f.obj<0
  .have d3:decide (f.obj<0)=true:=ae;have U:Hid (eD n0 n1 f=9):=aJ (sO j.o n0 N.o (.inl b1));exact Aai
  have d3:decide (f.obj<0)=false:=ae;by_cases b2:(n0:Int)<=f.obj
  .have d4:decide ((n0:Int)<=f.obj)=true:=ae;have U:Hid (eD n0 n1 f=9):=aJ (sO j.o n0 N.o (.inr b2));exact Aai
  have d4:decide ((n0:Int)<=f.obj)=false:=ae;have S:¬(f.obj<0\/(n0:Int)<=f.obj):=aa;have J:=aJ S;clear S;by_cases L:f.num=0
  rotate_left
  .have W:((f.num:Int) !=0)=true:=by simp;exact L
   have HE:=aJ L;clear L;have U:Hid (eD n0 n1 f=2):=aJ (EO j.o H.o J.o (.inl HE.o));exact Aai
  have W:((f.num:Int) !=0)=false:=by simp[L]
  have E1:=aJ L;clear L;by_cases K:f.den=0
  rotate_left
  .have d6:((f.den:Int) !=0)=true:=by simp;exact K
   have HE:=aJ K;clear K;have U:Hid (eD n0 n1 f=2):=aJ (EO j.o H.o J.o (.inr HE.o));exact Aai
  have d6:((f.den:Int) !=0)=false:=by simp[K]
  have E2:=aJ K;clear K;have Q:=aJ (Ew j.o n0 N.o J.o (fun e=>by rw[H.o] at e;cases e) (fun _=>by have:=E1.o;have:=E2.o;omega));exact AbT
theorem xX{A0 n0 c0 A1 n1 c1 A2 n2 c2 A3 n3 c3 L s}(w)(hs:lY w A0 n0 c0 A1 n1 c1 A2 n2 c2 A3 n3 c3 L s)(f):
  CE 10 #[stV s.name A0 n0 c0 A1 n1 c1 A2 n2 c2 A3 n3 c3,oH f] w (.int .i64 (wM s f)):=by
 have N:s.buses.length=n0:=hs.buses.len;have S:=hs.l1;have D:Hid (Ext w ((w.alloc (.cells #[.string s.name,.slice A0 n0 c0,.slice A1 n1 c1,.slice A2 n2 c2,.slice A3 n3 c3] 27)).alloc (.cells #[.int .i64 f.kind,.bool f.line,.int .i64 f.obj,.int .i64 f.num,.int .i64 f.den,.int .i64 f.r] 33))):=aJ ((Ext.new _ _).trans (Ext.new _ _));have C:=aJ (hs.ext D.o);clear hs;obtain⟨-,l,V⟩:=ah2 w 27 #[.string s.name,.slice A0 n0 c0,.slice A1 n1 c1,.slice A2 n2 c2,.slice A3 n3 c3] 33 #[.int .i64 f.kind,.bool f.line,.int .i64 f.obj,.int .i64 f.num,.int .i64 f.den,.int .i64 f.r];have T:Hid (wM s f=if chk s=0 then eD n0 n1 f else chk s):=aJ (by rw[<-N,<-S];rfl);clear N S;unfold stV oH;go_enter Tryz.func10,Tryz.ntmps10;(go_wp2_with fail);refine(yo _ C.o).mono ?_;rintro e w1 ⟨rfl,J⟩;generalize chk s=en at T;have G:=(l.ext J).cell;have F:=(V.ext J).cell;have B:=aJ J;clear J;by_cases j:en=0
 .subst j;have U:Hid (wM s f=eD n0 n1 f):=aJ (by rw[T.o,if_pos rfl]);(go_wp2_with fail);refine(Ak s.name f _).mono ?_;rintro e w2 ⟨rfl,J⟩;go_wp2;go_ret;exact⟨aL U.symm,(D.trans B.o).trans J⟩
 .have q0:((en:Int) !=0)=true:=by simp;exact j
  have U:Hid (wM s f=en):=aJ (by rw[T.o,if_neg j]);clear j;go_wp2;go_ret;exact⟨aL U.symm,D.trans B.o⟩
theorem Gq{A0 n0 c0 A1 n1 c1 A2 n2 c2 A3 n3 c3 L s}(w)(hs:lY w A0 n0 c0 A1 n1 c1 A2 n2 c2 A3 n3 c3 L s)(f):
  CE 16 #[stV s.name A0 n0 c0 A1 n1 c1 A2 n2 c2 A3 n3 c3,oH f] w (.int .i64 (wM s f)):=by
 have N:s.buses.length=n0:=hs.buses.len;have S:=hs.l1;have D:Hid (Ext w ((w.alloc (.cells #[.string s.name,.slice A0 n0 c0,.slice A1 n1 c1,.slice A2 n2 c2,.slice A3 n3 c3] 27)).alloc (.cells #[.int .i64 f.kind,.bool f.line,.int .i64 f.obj,.int .i64 f.num,.int .i64 f.den,.int .i64 f.r] 33))):=aJ ((Ext.new _ _).trans (Ext.new _ _));have HS:=aJ (hs.ext D.o);clear hs;obtain⟨-,P,V⟩:=ah2 w 27 #[.string s.name,.slice A0 n0 c0,.slice A1 n1 c1,.slice A2 n2 c2,.slice A3 n3 c3] 33 #[.int .i64 f.kind,.bool f.line,.int .i64 f.obj,.int .i64 f.num,.int .i64 f.den,.int .i64 f.r];have T:Hid (wM s f=if chk s=0 then eD n0 n1 f else chk s):=aJ (by rw[<-N,<-S];rfl);have K:=aJ (xY _ HS.o);clear N S;unfold stV oH;generalize chk s=en at T K;by_cases h0:en=0
 rotate_left
 .have q0:((en:Int) !=0)=true:=by simp;exact h0
  have U:Hid (wM s f=en):=aJ (by rw[T.o,if_neg h0]);clear h0;go_enter Tryz.func16,Tryz.ntmps16;(go_wp2_with fail);refine K.mono ?_;rintro e w1 ⟨rfl,J⟩;have k1:=(P.ext J).cell;have k2:=(V.ext J).cell;have W:=aJ J;clear J;go_wp2;go_ret;exact⟨aL U.symm,D.trans W.o⟩
 subst h0;have H:Hid (wM s f=eD n0 n1 f):=aJ (by rw[T.o,if_pos rfl]);clear T;by_cases z1:f.kind=0
 .have q1:((f.kind:Int)==0)=true:=by simp[z1]
  have l:decide (f.kind<1)=true:=ae;have Z1:=aJ z1;clear z1;cases z2:f.line
  rotate_left
  .rw[z2] at P V K D;have hz:¬(f.kind=0/\f.line=false/\f.obj=0/\f.num=0/\f.den=0/\f.r=0):=fun e=>by rw[z2] at e;cases e.2.1
   clear z2;exact AcD
  rw[z2] at P V K D;have Z2:=aJ z2;clear z2;by_cases G:f.obj=0
  rotate_left
  .have q3:((f.obj:Int)==0)=false:=by simp;exact G
   have hz:¬(f.kind=0/\f.line=false/\f.obj=0/\f.num=0/\f.den=0/\f.r=0):=fun e=>G aa;clear G;exact AcD
  have q3:((f.obj:Int)==0)=true:=by simp[G]
  have Z3:=aJ G;clear G;by_cases R:f.num=0
  rotate_left
  .have q4:((f.num:Int)==0)=false:=by simp;exact R
   have hz:¬(f.kind=0/\f.line=false/\f.obj=0/\f.num=0/\f.den=0/\f.r=0):=fun e=>R aa;clear R;exact AcD
  have q4:((f.num:Int)==0)=true:=by simp[R]
  have B:=aJ R;clear R;by_cases Y:f.den=0
  rotate_left
  .have q5:((f.den:Int)==0)=false:=by simp;exact Y
   have hz:¬(f.kind=0/\f.line=false/\f.obj=0/\f.num=0/\f.den=0/\f.r=0):=fun e=>Y aa;clear Y;exact AcD
  have q5:((f.den:Int)==0)=true:=by simp[Y]
  have I:=aJ Y;clear Y;by_cases O:f.r=0
  rotate_left
  .have q6:((f.r:Int)==0)=false:=by simp;exact O
   have hz:¬(f.kind=0/\f.line=false/\f.obj=0/\f.num=0/\f.den=0/\f.r=0):=fun e=>O aa;clear O;exact AcD
  have q6:((f.r:Int)==0)=true:=by simp[O]
  have C:=aJ O;clear O;have U:Hid (eD n0 n1 f=0):=aJ (NU ⟨Z1.o,Z2.o,Z3.o,B.o,I.o,C.o⟩);exact Aad
 have q1:((f.kind:Int)==0)=false:=by simp;exact z1
 have hz:¬(f.kind=0/\f.line=false/\f.obj=0/\f.num=0/\f.den=0/\f.r=0):=fun e=>z1 e.1;by_cases M:f.kind<1
 .have d1:decide (f.kind<1)=true:=ae;have U:Hid (eD n0 n1 f=10):=aJ (lu hz aa);exact Aad
 have d1:decide (f.kind<1)=false:=ae;by_cases a2:10<f.kind
 .have d2:decide (10<f.kind)=true:=ae;have U:Hid (eD n0 n1 f=10):=aJ (lu hz aa);exact Aad
 have d2:decide (10<f.kind)=false:=ae;have hk:1<=f.kind/\f.kind<=10:=⟨aa,aa⟩;have j:=aJ hk;clear hk hz;cases Z:f.line
 rotate_left
 .rw[Z] at P V K D;have HL:Hid (f.line=true):=aJ Z;have HC:Hid ((if f.line=true then (n1:Int) else (n0:Int))=(n1:Nat)):=aJ (by rw[Z];rfl);clear Z;by_cases b1:f.obj<0
  .have d3:decide (f.obj<0)=true:=ae;have U:Hid (eD n0 n1 f=9):=aJ (sO j.o n1 HC.o (.inl b1));exact Aad
  have d3:decide (f.obj<0)=false:=ae;by_cases b2:(n1:Int)<=f.obj
  .have d4:decide ((n1:Int)<=f.obj)=true:=ae;have U:Hid (eD n0 n1 f=9):=aJ (sO j.o n1 HC.o (.inr b2));exact Aad
  have d4:decide ((n1:Int)<=f.obj)=false:=ae;have ho:¬(f.obj<0\/(n1:Int)<=f.obj):=aa;have HO:=aJ ho;clear ho;by_cases e1:f.den<2
  .have d5:decide (f.den<2)=true:=ae;have U:Hid (eD n0 n1 f=2):=aJ (rX j.o HL.o HO.o (.inl e1));exact Aad
  have d5:decide (f.den<2)=false:=ae;by_cases e2:16<f.den
  .have d6:decide (16<f.den)=true:=ae;have U:Hid (eD n0 n1 f=2):=aJ (rX j.o HL.o HO.o (.inr (.inl e2)));exact Aad
  have d6:decide (16<f.den)=false:=ae;by_cases e3:f.num<1
  .have d7:decide (f.num<1)=true:=ae;have U:Hid (eD n0 n1 f=2):=aJ (rX j.o HL.o HO.o (.inr (.inr (.inl e3))));exact Aad
  have d7:decide (f.num<1)=false:=ae;by_cases e4:f.den-1<f.num
  .have d8:decide (f.den-1<f.num)=true:=ae;have d9:decide (f.den<=f.num)=true:=ae;have U:Hid (eD n0 n1 f=2):=aJ (rX j.o HL.o HO.o (.inr (.inr (.inr e4))));exact Aad
  have d8:decide (f.den-1<f.num)=false:=ae;have d9:decide (f.den<=f.num)=false:=ae;have Q:=aJ (Ew j.o n1 HC.o HO.o (fun _=>aa) (fun e=>by rw[HL.o] at e;cases e));exact AbS
 .rw[Z] at P V K D;have HL:Hid (f.line=false):=aJ Z;have HC:Hid ((if f.line=true then (n1:Int) else (n0:Int))=(n0:Nat)):=aJ (by rw[Z];rfl);clear Z;by_cases b1:f.obj<0
  .have d3:decide (f.obj<0)=true:=ae;have U:Hid (eD n0 n1 f=9):=aJ (sO j.o n0 HC.o (.inl b1));exact Aad
  have d3:decide (f.obj<0)=false:=ae;by_cases b2:(n0:Int)<=f.obj
  .have d4:decide ((n0:Int)<=f.obj)=true:=ae;have U:Hid (eD n0 n1 f=9):=aJ (sO j.o n0 HC.o (.inr b2));exact Aad
  have d4:decide ((n0:Int)<=f.obj)=false:=ae;have ho:¬(f.obj<0\/(n0:Int)<=f.obj):=aa;have HO:=aJ ho;clear ho;by_cases e1:f.num=0
  rotate_left
  .have d5:((f.num:Int) !=0)=true:=by simp;exact e1
   have HE:=aJ e1;clear e1;have U:Hid (eD n0 n1 f=2):=aJ (EO j.o HL.o HO.o (.inl HE.o));exact Aad
  have d5:((f.num:Int) !=0)=false:=by simp[e1]
  have E1:=aJ e1;clear e1;by_cases e2:f.den=0
  rotate_left
  .have d6:((f.den:Int) !=0)=true:=by simp;exact e2
   have HE:=aJ e2;clear e2;have U:Hid (eD n0 n1 f=2):=aJ (EO j.o HL.o HO.o (.inr HE.o));exact Aad
  have d6:((f.den:Int) !=0)=false:=by simp[e2]
  have E2:=aJ e2;clear e2;have Q:=aJ (Ew j.o n0 HC.o HO.o (fun e=>by rw[HL.o] at e;cases e) (fun _=>by have:=E1.o;have:=E2.o;omega));exact AbS
def Tp{w0 w2 w' g t cs}(B)(J:Ext w0 w2)(j:w0.heap.size<=g)(hb:Blk w2 g t cs)(hn:kz cs=true)(Y:w'=puts w2 g 0 B):
  Ext w0 w'/\Blk w' g t (fD cs 0 B)/\(∀v q n,GV w2 v q n->GV w' v q n):=by
 have l:Mod (fun k=>k=g) w2 w':=by rw[Y];exact Mod.only (fK _ _ _ _) rfl
 have D:Far (fun k=>k=g) w2:=fun k F _=>by
  obtain rfl:k=g:=F;exact⟨_,_,hb,hn⟩
 have G:Ext w0 w':=by rw[Y];exact gz (j:Own w0 g) 0 B J
 have C:Blk w' g t (fD cs 0 B):=by rw[Y];exact bY 0 B hb
 exact⟨G,C,fun v q n h=>h.mod l D⟩
def qZ:(Tryz.prog.info? 102).map (·.size)=some (18:Nat):=ah
def uZ(a b c:En):∀v∈a.cells++(b.cells++c.cells),v.oneCell'=true:=by
 intro v hv;rw[List.mem_append,List.mem_append] at hv;rcases hv with h|h|h
 .exact dZ a v h
 .exact dZ b v h
 .exact dZ c v h
def pk3 (a b c:En) (k:Nat):En:=if k=0 then a else if k=1 then b else c
def vX(a b c):aN 3 (pk3 a b c)=a.cells++(b.cells++c.cells):=by
 rw[iL,iL,iL];show(([]++a.cells)++b.cells)++c.cells=_;rw[List.nil_append,List.append_assoc]
def VO(a b c:En):(a.cells++(b.cells++c.cells)).length=18:=rfl
def O3(l B:List Value)(j:l.length=18)(C:B.length=18):fD l.toArray 0 B=B.toArray:=by
 rw[jE,List.take_zero,List.nil_append,j,List.take_of_length_le aa,List.drop_of_length_le aa,List.append_nil]
def Ot(a b c):(Tryz.prog.info? 102).map (·.size)=some (aN 3 (pk3 a b c)).toArray.size:=by
 rw[List.size_toArray,vX,VO];exact qZ
def PT{w g}{l:List Value}{a b c:En}(h:Blk w g 102 (fD l.toArray 0 (a.cells++(b.cells++c.cells))))(Z:l.length=18):Blk w g 102 (aN 3 (pk3 a b c)).toArray:=by
 rw[O3 _ _ Z (VO a b c)] at h;rw[vX];exact h
end Go.Proofs.YtbfnfkppkmpieaaGreat
