import Derived.Test.YtbfnfkppkmpieaaGreatQea
set_option linter.unusedVariables false
set_option linter.unusedSimpArgs false
set_option maxHeartbeats 25600000
set_option maxRecDepth 200000
set_option linter.defProp false
namespace Go.Proofs.YtbfnfkppkmpieaaGreat
open Go.RowKit
open Go.Proofs.Tryz
open Option renaming some->γ,none->δ
open Bool renaming true->ε,false->ζ
open Inhabited renaming default->η
def RM.Ub{w:World}{j:Addr}{n c k x:Nat}{l}(h:RM w (γ j) n c l)(J:l[k]? =γ x):w.cell? (j.add k)=γ (.int .u32 (x:Int))/\w.cell? ⟨j.block,j.off+k,δ⟩=γ (.int .u32 (x:Int)):=by
 have B:k<l.length:=(ν.1 J).1;have Z:=h.len;obtain⟨b,o,e,_,hc⟩:=h.rd.plain aa;cases e
 have:=hc k _ (oK J);exact⟨by rw[add_plain];exact this,this⟩
def FE{x s:Nat}(h:x*2^s<4294967296):IntKind.u32.wrap ((x:Int)*2^s)=((x*2^s:Nat):Int):=by
 have e:((x:Int)*2^s)=((x*2^s:Nat):Int):=by push_cast;rfl
 rw[e];exact IntWalk.u32_in _ aa
def Ij{U a b s la n}(G:val U=a*2^s)(ha:a<4294967296^la)(hb:4294967296^(n+1)<=b)(l:n+1<=la)(Z:la-n-1<=U.length):val (U.drop (la-n-1))<b*2^s:=by
 have F:=gJ U (la-n-1) Z;have j:a*2^s<4294967296^la*2^s:=aa6 ha (NK aa);have B:4294967296^la=4294967296^(la-n-1)*4294967296^(n+1):=by rw[<-aaD];congr 1;omega
 have D:4294967296^(la-n-1)*(4294967296^(n+1)*2^s)<=4294967296^(la-n-1)*(b*2^s):=ib _ (q9 _ hb);rw[B,χ] at j;have C:4294967296^(la-n-1)*val (U.drop (la-n-1))<4294967296^(la-n-1)*(b*2^s):=aa;exact ab0 C
def FM(A B la n c d a b w)(hA:RM w A la c (cu a))(hB:RM w B (n+2) d (cu b))(WG:b<=a)(XR:la<=10000):
  Calls prog 180 #[.slice A la c,.slice B (n+2) d] w fun e w'=>∃q r,e=.returned (.tuple #[q,r])/\SlM (cu (a/b)) q w'/\SlM (cu (a%b)) r w'/\Ext w w':=by
 have WS:decide (mV a b<0)=ζ:=by rw[kL];exact υ aa
 have Xq:=aJ hA.len;have WN:=hB.len;have Yp:n+2<=la:=by
  exact AdE
 obtain⟨ad,x,rfl,_,J,H,_⟩:=hB.at_ (k:=n+1) aa;have C:0<x:=by
  have:=bL b x (last_at WN J);omega
 have HX:=aJ J;clear J;have T:=aJ WN;clear WN;have t1:(((n+2:Nat):Int)==1)=ζ:=ae;have t2:((n:Int)+2==1)=ζ:=ae;go_enter ad9,adI;(go_wp2_with fail);refine(il A (γ ad) la (n+2) c d _ _ _ hA hB (bL _) (bL _)).mono ?_;rintro e w1 ⟨rfl,M⟩;rw[aL,aL];obtain⟨O,XK⟩:=(hB.ext M).Ub HX.o;go_wp2;go_loop [8] (fun i=>∃s:Nat,s<=31/\i=.int .i64 s/\x*2^s<4294967296) (fun i=>32-(intOf i).toNat)
 case atStart=>exact⟨0,aa,rfl,by simpa using H⟩
 case round=>
  obtain⟨s,hs,rfl,WE⟩:=hrel;obtain⟨y,R⟩:∃y,y=x*2^s:=⟨_,rfl⟩;have e1:IntKind.u32.wrap ((x:Int)*2^s)=(y:Int):=by rw[FE WE,R]
  have e2:=Vv (y:=y) (by rw[R];exact WE);have HY:=aJ R;clear R;by_cases Yx:y<2147483648
  .rw[Ξ Yx] at e2;go_wp2;go_round
   case rel=>
    have h1:=HY.o;have h2:1*2^s<=x*2^s:=q9 _ C;have h3:2^s<2^31:=aa;have h4:=(Nat.pow_lt_pow_iff_right aa).1 h3;exact⟨s+1,aa,au,by rw[y8,<-χ];omega⟩
   case measure=>simp[intOf]<;>omega
  .rw[υ Yx] at e2;have hN:FO b n s x:=⟨T.o,HX.o,by have:=HY.o;omega,WE,aa⟩;have HN:=aJ hN;clear hN;go_wp2;clear e1 e2 O XK;have q1:(0:Int)<=(n:Int)+2:=aa;refine bz 10 [(ε,0),(ε,1),(ε,3),(ε,4),(ε,6),(ε,7),(ζ,2),(ζ,5),(ε,8),(ε,9)] ah ah ?_;refine aT [0,1,3,4,6,7] [(ζ,2),(ζ,5),(ε,8),(ε,9)] _ ah ?_;simp only[bP,aU,μ,ξ];(repeat (go_big_quiet_step (fail)));refine σ ?_;refine aR 2 [(ζ,5),(ε,8),(ε,9)] ah ?_;intro K I;simp only[aU];(go_wp2_with fail);refine(Ai A la c s (cu a) _ (hA.ext M.drew) aa aa).mono ?_;rintro e w2 ⟨rfl,U,hU,F,WU,P⟩;rw[aL] at WU;have P:=P.ji;have Ym:w1.drew.heap.size=w1.heap.size:=rfl;rw[Ym] at hU;rw[Ym];go_wp2;refine I _ _ ⟨⟨w2,P⟩,rfl⟩ ?_;clear I K Ym;refine aR 5 [(ε,8),(ε,9)] ah ?_;intro K I;simp only[aU];(go_wp2_with fail);refine(Ai (γ ad) (n+2) d s (cu b) _ (hB.ext (M.trans P)) aa aa).mono ?_;rintro e w3 ⟨rfl,Q,hQ,N,Xl,WF⟩;rw[aL] at Xl;go_wp2;refine I _ _ ⟨⟨w3,P.trans WF⟩,rfl⟩ ?_;clear I K;obtain⟨hV,v1,v0,W9,Xa,Yl⟩:=HN.digits N hQ.2 Xl;have Xo:n+2<=n+2+1:=aa;refine aT [8,9] [] _ ah ?_;simp only[bP,aU,μ,ξ];(repeat (go_big_quiet_step (fail)));refine σ ?_;simp only[bQ,ρ,φ];have WQ:=jk ((la:Int)-((n:Int)+2)+1) (la-n-1) aa aa;go_wp2;clear WQ;obtain⟨V,Xj⟩:∃V,V=val (Q.take (n+2)):=⟨_,rfl⟩;have WV:V=b*2^s:=by rw[Xj,hV]
   have WM:0<V:=by
    exact Adk
   have Xw:V<4294967296^(n+2):=by rw[WV];exact HN.lt
   have Xu:gu (w3.alloc (.cells (mg (List.replicate (la-n-1) 0)).toArray 208)) w1.heap.size U:=hU.far (WF.alloc _);have X4:gu (w3.alloc (.cells (mg (List.replicate (la-n-1) 0)).toArray 208)) w2.heap.size Q:=hQ.far (Ext.new _ _);have G:mr U [] (a*2^s) V (la-n-1):=by
    exact Ac4
   have WR:=aJ Xj;have XD:=aJ WV;clear Xj WV hV WU Xl;have WW:=P.size;have Xh:=WF.size;have Yz:=hU.1.lt;have YA:=hQ.1.lt;have l:=aJ F;have WH:=aJ N;have S:=aJ W9;have Xb:=aJ Xa;have WY:=aJ G;clear G F N W9 Xa;have XH:=aJ Xu;have X7:=aJ X4;clear Xu X4 hU hQ;have WL:Ext w w3:=(M.trans P).trans WF;go_loopw [12] (fun iv wr=>∃(k:Nat) (U qs:List Nat),k<=la-n-1/\iv=.int .i64 ((k:Int)-1)/\U.length=la+1/\k+qs.length=la-n-1/\mr U qs (a*2^s) V k/\gu wr w1.heap.size U/\gu wr w2.heap.size Q/\gu wr w3.heap.size (List.replicate k 0++qs)/\Ext w wr) (fun iv _=>(intOf iv+1).toNat)
   case atStart=>exact⟨la-n-1,U,[],κ _,by congr 1;omega,l.o,ag,WY.o,XH.o,X7.o,⟨by simpa using Blk.new w3 _ _,by simpa using Dig.replicate _⟩,WL.alloc _⟩
   case round=>
    clear XH X7 WY l;obtain⟨k,U,qs,hk,rfl,F,XV,Xy,hU,hQ,hq,D⟩:=hrel;have l:=aJ F;clear F;have X5:=aJ XV;clear XV;have WP:=aJ Xy;clear Xy;by_cases h0:k=0
    .subst h0;have W:=WP.done;have XE:=aJ W;clear W;have Yf:RM wr (γ ⟨w3.heap.size,0,δ⟩) (la-n-1) (la-n-1) qs:=by
      exact Adw
     have Yk:RM wr (γ ⟨w1.heap.size,0,δ⟩) (n+2) (la+1) (U.take (n+2)):=(hU.rm (n:=la+1) l.o aa).take aa aa aa;go_wp2;have q2:(0:Int)<=(n:Int)+2:=aa;have q3:(n:Int)+2<=(la:Int)+1:=aa;refine bz 9 [(ε,0),(ε,2),(ε,3),(ε,4),(ε,5),(ε,6),(ζ,1),(ζ,7),(ε,8)] ah ah ?_;refine aT [0,2,3,4,5,6] [(ζ,1),(ζ,7),(ε,8)] _ ah ?_;simp only[bP,aU,μ,ξ];(repeat (go_big_quiet_step (fail)));refine σ ?_;refine aR 1 [(ζ,7),(ε,8)] ah ?_;intro K I;simp only[aU];(go_wp2_with fail);refine(iB _ _ _ qs _ (Yf.ext (Ext.refl wr).drew) aa).mono ?_;rintro e wa ⟨va,rfl,Xf,Xn⟩;have Xn:=Xn.ji;go_wp2;refine I _ _ ⟨⟨wa,Xn⟩,rfl⟩ ?_;clear I K;refine aR 7 [(ε,8)] ah ?_;intro K I;simp only[aU];(go_wp2_with fail);refine(MJ _ (n+2) _ s (U.take (n+2)) _ (Yk.ext Xn) aa aa).mono ?_;rintro e wb ⟨vb,rfl,Xi,XU⟩;have WZ:=Xn.trans XU;go_wp2;refine I _ _ ⟨⟨wb,WZ⟩,rfl⟩ ?_;clear I K;refine aT [8] [] _ ah ?_;simp only[bP,aU,μ,ξ];(repeat (go_big_quiet_step (fail)));refine σ ?_;simp only[bQ,ρ,φ];have XQ:val qs=a/b:=by rw[XE.o.1,XD.o,AY]
     have X6:val (U.take (n+2))/2^s=a%b:=by
      exact AcE
     rw[XQ] at Xf;rw[X6] at Xi;have Yi:=aJ (Xf.ext XU);have Yn:=aJ Xi;clear Xf Xi XQ X6;go_wp2
     go_ret2
     exact⟨_,_,rfl,Yi.o,Yn.o,D.trans WZ⟩
    .obtain⟨j,rfl⟩:∃j,k=j+1:=⟨k-1,aa⟩;obtain⟨u2,u1,u0,Z,Xt,Xv,ht⟩:=Ma (j:=j) hU.2 (hQ.2.take (n+2)) Ab2 (by rw[A8,WH.o];omega) S.o Xb.o Yl (by rw[<-WR.o];exact WP.o.2);rw[<-WR.o] at ht;have HT:=aJ ht;clear ht;rw[show((j+1:Nat):Int)-1=(j:Int) by omega];obtain⟨x2,XC,_,X9,_⟩:=hU.at_ (k:=j+n+2) Ab2;obtain⟨x1,XA,_,Yb,_⟩:=hU.at_ (k:=j+n+1) Ab2;obtain⟨x0,XI,_,XN,_⟩:=hU.at_ (k:=j+n) Ab2;obtain rfl:x2=u2:=by rw[Z] at XC;injection XC with h;exact h.symm
     obtain rfl:x1=u1:=by rw[Xt] at XA;injection XA with h;exact h.symm
     obtain rfl:x0=u0:=by rw[Xv] at XI;injection XI with h;exact h.symm
     obtain⟨y1,Yv,_,Ya,_⟩:=hQ.at_ (k:=n+1) (by rw[WH.o];omega);obtain⟨y0,Yo,_,XM,_⟩:=hQ.at_ (k:=n) (by rw[WH.o];omega);obtain rfl:y1=v1:=by have:=S.o;rw[BB aa,Yv] at this;injection this
     obtain rfl:y0=v0:=by have:=Xb.o;rw[BB aa,Yo] at this;injection this
     clear XC XA XI Yv Yo Z Xt Xv;go_wp2;have Y2:=aK.cell X9;have Y1:=aK.cell Yb;have Y0:=aK.cell XN;have Z1:=aK.cell Ya;have Z0:=aK.cell XM;have b1:IntKind.i64.wrap ((j:Int)+((n:Int)+2))=(j:Int)+((n:Int)+2):=aa3 _ aa;have b2:IntKind.i64.wrap ((j:Int)+((n:Int)+2)-1)=(j:Int)+((n:Int)+1):=by rw[aa3 _ aa];omega
     have b3:IntKind.i64.wrap ((j:Int)+((n:Int)+2)-2)=(j:Int)+(n:Int):=by rw[aa3 _ aa];omega
     have b4:IntKind.i64.wrap ((n:Int)+2-1)=(n:Int)+1:=by rw[aa3 _ aa];omega
     have b5:IntKind.i64.wrap ((n:Int)+2-2)=(n:Int):=by rw[aa3 _ aa];omega
     have c1:((j:Int)+((n:Int)+2)).toNat=j+n+2:=aa;have c2:((j:Int)+((n:Int)+1)).toNat=j+n+1:=aa;have c3:((j:Int)+(n:Int)).toNat=j+n:=aa;have c4:((n:Int)+1).toNat=n+1:=aa;have d1:(0:Int)<=(j:Int)+((n:Int)+2):=aa;have d2:(0:Int)<=(j:Int)+((n:Int)+1):=aa;have d3:(0:Int)<=(j:Int)+(n:Int):=aa;have d4:(j:Int)+((n:Int)+2)<(la:Int)+1:=aa;have d5:(j:Int)+((n:Int)+1)<(la:Int)+1:=aa;have d6:(j:Int)+(n:Int)<(la:Int)+1:=aa;have d7:(0:Int)<=(n:Int)+1:=aa;have d8:(n:Int)+1<(n:Int)+2:=aa;have d9:(n:Int)<(n:Int)+2:=aa;refine bz 41 [(ε,0),(ε,1),(ε,2),(ε,3),(ε,4),(ε,5),(ε,6),(ε,7),(ε,8),(ε,9),(ε,10),(ε,11),(ε,12),(ε,13),(ε,14),(ε,15),(ε,16),(ε,17),(ε,18),(ε,19),(ε,20),(ε,21),(ε,22),(ε,23),(ε,24),(ε,25),(ε,26),(ε,27),(ε,28),(ε,29),(ε,30),(ε,31),(ε,32),(ε,33),(ε,34),(ε,35),(ε,36),(ε,37),(ε,38),(ε,39),(ζ,40)] ah ah ?_;refine aT [0,1,2,3,4,5,6,7,8,9,10,11,12,13,14,15,16,17,18,19,20,21,22,23,24,25,26,27,28,29,30,31,32,33,34,35,36,37,38,39] [(ζ,40)] _ ah ?_;simp only[bP,aU,μ,ξ];(repeat (go_big_quiet_step (fail)));refine σ ?_;clear b1 b2 b3 b4 b5 c1 c2 c3 c4 d1 d2 d3 d4 d5 d6 d7 d8 d9 Y2 Y1 Y0 Z1 Z0 X9 Yb XN Ya XM;refine aR 40 [] ah ?_;intro K I;simp only[aU];(go_wp2_with fail);refine(Jo (val (U.drop j)) V (4294967296^n) x2 x1 x0 y1 y0 _ HT.o).mono ?_;rintro e wg ⟨⟨g,rfl,Ye,XZ,XT⟩,Yt⟩;obtain⟨qd,WX⟩:∃qd,qd=val (U.drop j)/V:=⟨_,rfl⟩;rw[<-WX] at XZ XT;have XO:Ext wr wg:=Yt ▸ (Ext.refl wr).drew;clear Yt;have Xz:=aJ WX;clear WX;go_wp2;refine I _ _ ⟨⟨wg,XO⟩,rfl⟩ ?_;clear I K;simp only[bQ,ρ,φ];have X8:=hU.far XO;have Yg:=hQ.far XO;have Yr:=hq.far XO;have Xp:RM wg (γ ⟨w2.heap.size,0,δ⟩) (n+2) (n+3) (Q.take (n+2)):=(Yg.rm (n:=n+3) WH.o aa).take aa aa aa;have Yu:=X8.sub (j:=j) (m:=la+1-j) (c:=la+1-j) Ab2 (κ _) aa;clear hU hQ hq;have hcut:val ((U.drop j).take (n+2+1))=val (U.drop j):=by
      refine Fp (X8.2.drop j) (by rw[abM,l.o];omega) ?_;have h1:=HT.fits;have h2:4294967296*V<=4294967296*4294967296^(n+2):=ib _ (aan Xw);rw[y8,pz (4294967296^(n+2))];omega
     have Yd:=aJ hcut;clear hcut;have Yh:(0:Int)<=(j:Int):=aa;have WK:(j:Int)<=(la:Int)+1:=aa;have YB:((la:Int)+1-(j:Int)).toNat=la+1-j:=aa;(go_wp2_with fail);refine(MZ _ _ (n+2) (la+1-j) _ _ g (U.drop j) (Q.take (n+2)) _ Yu Xp aa aa aa).mono ?_;rintro e wl ⟨rfl,XG⟩;rw[Yd.o,<-WR.o];have F:=X8.far XG;have Yw:=Xp.ext XG;have N:=Yg.far XG;have Xg:=Yr.far XG;clear X8 Xp Yu Yg Yr;have Yc:=(D.trans XO).trans XG;have Xo:V*qd<=val (U.drop j):=by rw[Xz.o];exact Nat.mul_div_le _ _
     have Xr:val (U.drop j)<V*(qd+1):=by rw[Xz.o];exact adP _ WM
     have XB:qd<4294967296:=by rw[Xz.o];exact HT.UZ
     have XY:∀g',g'=qd->decide (val (U.drop j)<V*g')=ζ:=fun g' e=>by rw[e];exact υ aa
     have Xd:∀g',g'=qd+1->decide (val (U.drop j)<V*g')=ε:=fun g' e=>by rw[e];exact Ξ Xr
     have Xm:=aJ Xr;clear Xr;have WJ:=aJ Xo;clear Xo;rcases(show g=qd\/g=qd+1 by omega) with Xe|Xe
     all_goals
      first
       |rw[XY g Xe]
       |rw[Xd g Xe]
      first
       |(have Yq:=Xe.symm;subst Yq)
       |subst Xe
      clear XY Xd;(go_wp2_with fail);refine(MP (γ ⟨w2.heap.size,0,δ⟩) w1.heap.size j (n+2) (la+1-j) _ _ _ U (Q.take (n+2)) _ F Yw aa aa Ab2 (κ _) aa aa (by rw[Yd.o,<-WR.o];exact WJ.o)).mono ?_;rintro e w5 ⟨rfl,U',XW,WI,Xc,L,WT⟩;rw[<-WR.o] at L;have Xk:gu w5 w3.heap.size (List.replicate (j+1) 0++qs):=⟨WT.blk Xg.1 aa,Xg.2⟩;have X3:gu w5 w2.heap.size Q:=⟨WT.blk N.1 aa,N.2⟩;obtain⟨z,_,_,Y,WO⟩:=Xk.at_ (k:=j) ae;have XX:=WP.step Ab2 WI Xc L Xz.o WM;have XJ:=aJ XX;have XF:=aJ XW;have XL:=aJ X3;have Yj:=aJ Xk;have Xx:=aJ WI;clear XX XW X3 Xk WI Xc L F Yw N Xg;have Yy:=Yc.size;have XP:Ext w w5:=WT.ext Yc (by have:=M.size;omega);go_wp2;go_roundw
      case rel=>
       exact AaM
      case measure=>simp[intOf]<;>omega
def yo(A B n m c d a b w)(l:RM w A n c (cu a))(j:RM w B m d (cu b))(hb:0<b)(hn:n<=10000):
  Calls prog 180 #[.slice A n c,.slice B m d] w fun e w'=>∃q r,e=.returned (.tuple #[q,r])/\SlM (cu (a/b)) q w'/\SlM (cu (a%b)) r w'/\Ext w w':=by
 rcases Ha a b with h|h
 .exact IY A B n m c d a b w l j h
 .match m,j with
  |0,j=>
   have C:=j.empty;rw[nu] at C;omega
  |1,j=>exact Iy A B n c d a b w l j h aa
  |k+2,j=>exact FM A B n k c d a b w l j h hn
def IG (U l v:List Nat) (j i g G B:Nat):Prop:=
 l.length=U.length/\l.take j=U.take j/\(∀t,j+i<=t->l[t]? =U[t]?)/\val l+4294967296^j*(g*val (v.take i))=val U+4294967296^(j+i)*(G+B)
def afK(U v j g):IG U U v j 0 g 0 0:=⟨rfl,rfl,fun _ _=>rfl,by simp[val]⟩
def Qb{x j pl:Nat}(J:x<4294967296)(hb:j<=1)(hp:pl<4294967296):x+4294967296*nP ((x:Int)-j-pl)=pR ((x:Int)-j-pl)+j+pl:=by
 have:=EK J hp hb;omega
def IG.step{U C v j i g G l x y p}(h:IG U C v j i g G l)(J:U[j+i]? =γ x)(R:v[i]? =γ y)(H:x<4294967296)(hb:l<=1)(hp:p=g*y+G):
  IG U (C.set (j+i) (pR ((x:Int)-l-(p%4294967296:Nat)))) v j (i+1) g (p/4294967296) (nP ((x:Int)-l-(p%4294967296:Nat))):=by
 obtain⟨K,I,F,M⟩:=h;refine⟨by rw[abd];exact K,?_,fun t L=> ?_,?_⟩
 .rw[abu aa];exact I
 .rw[aao aa];exact F t aa
 .have B:C[j+i]? =γ x:=by rw[F _ (κ _)];exact J
  have P:=Qb H hb (q8 p (show 0<4294967296 by omega));generalize pR ((x:Int)-l-(p%4294967296:Nat))=dg at*
  generalize nP ((x:Int)-l-(p%4294967296:Nat))=D at*
  have N:=pU (y:=dg) B;rw[bG R,show j+(i+1)=(j+i)+1 from rfl,y8,χ];have Q:4294967296^j*(g*(val (v.take i)+4294967296^i*y))=4294967296^j*(g*val (v.take i))+4294967296^(j+i)*(g*y):=by
   rw[Δ,Δ,aaD];congr 1;rw[abh g,χ]
  have O:4294967296^(j+i)*dg+4294967296^(j+i)*(g*y)+4294967296^(j+i)*(G+l)=4294967296^(j+i)*x+4294967296^(j+i)*(4294967296*(p/4294967296+D)):=by
   rw[<-Δ,<-Δ,<-Δ];congr 1;omega
  omega
def QD{U X:List Nat}{m}(B:val (U.drop m)=0)(L:Dig X)(Z:X.length=U.length)(h:∀t,m<=t->X[t]? =U[t]?):val X<4294967296^m:=by
 rcases Ha U.length m with l|l
 .have:=lY L;exact π this (Ab aa aa)
 .have e:X.drop m=U.drop m:=by
   apply aar;intro i;rw[RS,RS];exact h _ aa
  have j:=gJ X m aa;rw[e,B] at j;have C:=kR L m;omega
def drop_zero{U:List Nat}{j m}(C:j+m<=U.length)(h:val (U.drop j)<4294967296^m):val (U.drop (j+m))=0:=by
 have B:=gJ (U.drop j) m (by rw[abM];omega);rw[List.drop_drop] at B;rcases Be (val (U.drop (j+m))) with l|l
 .exact l
 .have:4294967296^m*1<=4294967296^m*val (U.drop (j+m)):=ib _ l;omega
def R9{U H v j m g G D u}(h:IG U H v j m g G D)(hv:v.length=m)(J:U[j+m]? =γ u)(B:u<4294967296)(hc:G<4294967296)(hb:D<=1):
  val (H.set (j+m) (pR ((u:Int)-D-G)))+4294967296^j*(g*val v)=val U+4294967296^(j+m+1)*nP ((u:Int)-D-G):=by
 obtain⟨M,L,K,I⟩:=h;have F:H[j+m]? =γ u:=by rw[K _ (κ _)];exact J
 have P:=EK B hc hb;generalize pR ((u:Int)-D-G)=dg at*
 generalize nP ((u:Int)-D-G)=C at*
 have N:=pU (y:=dg) F;rw[ω (l:=v) aa] at I;have e:4294967296^(j+m+1)*C=4294967296^(j+m)*(4294967296*C):=by rw[y8,χ]
 have O:4294967296^(j+m)*u+4294967296^(j+m)*(4294967296*C)=4294967296^(j+m)*(G+D)+4294967296^(j+m)*dg:=by
  rw[<-Δ,<-Δ];congr 1
 omega
def Pw{U X j m V q l}(h:val X+4294967296^j*(q*V)=val U+4294967296^m*l)(L:val X<4294967296^m)(hq:4294967296^j*(q*V)<=val U):l=0:=by
 rcases Be l with B|B
 .exact B
 .have:4294967296^m*1<=4294967296^m*l:=ib _ B;omega
def Te{U X j m V q l}(h:val X+4294967296^j*(q*V)=val U+4294967296^m*l)(hb:l<=1)(hq:val U<4294967296^j*(q*V)):l=1:=by
 rcases Be l with B|B
 .subst B;omega
 .omega
def Px{U j V q}(l:j<=U.length)(hq:V*q<=val (U.drop j)):4294967296^j*(q*V)<=val U:=by
 have C:=gJ U j l;have B:4294967296^j*(q*V)<=4294967296^j*val (U.drop j):=ib _ (by rw[pz];exact hq);omega
def seg_lt{U j V q}(hd:Dig U)(l:j<=U.length)(hq:val (U.drop j)<V*q):val U<4294967296^j*(q*V):=by
 have D:=gJ U j l;have C:=kR hd j;have B:4294967296^j*(val (U.drop j)+1)<=4294967296^j*(q*V):=ib _ (by rw[pz q];exact hq);rw[Δ,aav] at B;omega
def Gi (U l v:List Nat) (j i G:Nat):Prop:=
 l.length=U.length/\l.take j=U.take j/\(∀t,j+i<=t->l[t]? =U[t]?)/\val l+4294967296^(j+i)*G=val U+4294967296^j*val (v.take i)
def afM(U v j):Gi U U v j 0 0:=⟨rfl,rfl,fun _ _=>rfl,by simp[val]⟩
def Gi.step{U B v j i G x y s}(h:Gi U B v j i G)(J:U[j+i]? =γ x)(R:v[i]? =γ y)(hs:s=x+y+G):Gi U (B.set (j+i) (s%4294967296)) v j (i+1) (s/4294967296):=by
 obtain⟨F,D,C,I⟩:=h;refine⟨by rw[abd];exact F,?_,fun t H=> ?_,?_⟩
 .rw[abu aa];exact D
 .rw[aao aa];exact C t aa
 .have l:B[j+i]? =γ x:=by rw[C _ (κ _)];exact J
  have K:=pU (y:=s%4294967296) l;rw[bG R,show j+(i+1)=(j+i)+1 from rfl,y8,χ,Δ,<-χ (4294967296^j),<-aaD];have e:4294967296^(j+i)*(s%4294967296)+4294967296^(j+i)*(4294967296*(s/4294967296))=4294967296^(j+i)*x+4294967296^(j+i)*y+4294967296^(j+i)*G:=by
   rw[<-Δ,<-Δ,<-Δ];congr 1;omega
  omega
def Tu{U X Y v j m c d V q}(L:val X+4294967296^j*((q+1)*V)=val U+4294967296^(j+m+1))(h:Gi X Y v j m c)(hv:v.length=m)(hV:val v=V)(hd:X[j+m]? =γ d)(F:val (Y.set (j+m) ((d+c)%4294967296))<4294967296^(j+m+1))(hq:4294967296^j*(q*V)<=val U)(B:d<4294967296)(hc:c<=1):
  val (Y.set (j+m) ((d+c)%4294967296))+4294967296^j*(q*V)=val U:=by
 obtain⟨K,J,I,G⟩:=h;have D:Y[j+m]? =γ d:=by rw[I _ (κ _)];exact hd
 have H:=pU (y:=(d+c)%4294967296) D;rw[ω (l:=v) aa,hV] at G;have N:4294967296^j*((q+1)*V)=4294967296^j*(q*V)+4294967296^j*V:=by rw[Zb,aaE,Δ]
 generalize val (Y.set (j+m) ((d+c)%4294967296))=R at*
 have C:(d+c)%4294967296=d+c\/(d+c)%4294967296+4294967296=d+c:=aa;rcases C with C|C
 .exfalso;rw[C,Δ] at H;omega
 .have M:4294967296^(j+m)*((d+c)%4294967296)+4294967296^(j+m+1)=4294967296^(j+m)*d+4294967296^(j+m)*c:=by
   rw[y8,<-Δ,<-Δ];congr 1
  omega
theorem UT{x c b:Nat}(J:x<4294967296)(hc:c<4294967296)(hb:b<=1):∃z:Nat,IntKind.u64.wrap (IntKind.u64.wrap ((x:Int)-c)-b)=(z:Int)/\z<18446744073709551616/\(z:Int)%4294967296=(pR ((x:Int)-b-c):Int)/\(nP ((x:Int)-b-c)=0->z<9223372036854775808)/\(nP ((x:Int)-b-c)=1->9223372036854775808<=z):=by
 rw[jw,jw];refine⟨((((x:Int)-c)%18446744073709551616-b)%18446744073709551616).toNat,aa,aa,?_,?_,?_⟩
 .unfold pR;omega
 .unfold nP;split<;>omega
 .unfold nP;split<;>omega
def ES(B gU j n c d v1 U v w)(hU:gu w gU U)(hB:RM w B (n+2) d v)(WG:∀ad,B=γ ad->ad.block≠gU)(hn:n<=1000000)(hj:j<=1000000)(Xl:j+n+3<=U.length)(hc:n+3<=c)(WS:c<=9223372036854775807)(W9:v[n+1]? =γ v1)(Yd:2147483648<=v1)(WE:val (U.drop (j+1))<val v):
  Calls prog 221 #[.slice (γ ⟨gU,j,δ⟩) (n+3:Nat) c,.slice B (n+2:Nat) d] w fun e w'=>e=.returned (.int .u32 ((val (U.drop j)/val v:Nat):Int))/\∃U',gu w' gU U'/\U'.length=U.length/\U'.take j=U.take j/\
   val U'+4294967296^j*(val v*(val (U.drop j)/val v))=val U/\Only gU w w':=by
 have XL:=hB.len;have X4:=hB.dg;have Xa:v[n]? =γ v[n]:=ο aa;generalize v[n]=v0 at Xa;obtain⟨u2,u1,u0,Z,Xt,Xv,t⟩:=Ma hU.2 X4 Xl XL W9 Xa Yd WE;obtain⟨bV,oV,rfl,_,X3⟩:=hB.rd.plain aa;have YJ:=WG _ rfl;clear WG;have Ya:=X3 (n+1) _ (oK W9);have XM:=X3 n _ (oK Xa);obtain⟨x2,XC,_,X9,_⟩:=hU.at_ (k:=j+n+2) aa;obtain⟨x1,XA,_,Yb,_⟩:=hU.at_ (k:=j+n+1) aa;obtain⟨x0,XI,_,XN,_⟩:=hU.at_ (k:=j+n) aa;obtain rfl:x2=u2:=by rw[Z] at XC;injection XC with h;exact h.symm
 obtain rfl:x1=u1:=by rw[Xt] at XA;injection XA with h;exact h.symm
 obtain rfl:x0=u0:=by rw[Xv] at XI;injection XI with h;exact h.symm
 have XG:=aJ X3;have S:=aJ W9;have Xb:=aJ Xa;have YW:=aJ Z;have YU:=aJ Xt;have YV:=aJ Xv;have XV:=aJ XL;have Yr:=t.m2;have YG:=t.m1;have Yx:=t.m0;have YD:=t.l1;have X8:=t.l0;have Xx:=aJ (iJ.first t);obtain⟨hd,Xn⟩:∃hd,hd=x2*4294967296+x1:=⟨_,rfl⟩;rw[<-Xn] at Xx;have XR:hd<18446744073709551616:=aa;have e0:bits .or .u64 ((x2:Int)*4294967296) (x1:Int)=(hd:Int):=by rw[or_hi Yr YG,Xn];omega
 have Yn:=aJ Xn;clear Xn;have YT:1<=v1:=aa;have Yo:(0:Int)<=(hd:Int)/(v1:Int):=acw aa aa;have Yc:(hd:Int)/(v1:Int)<=18446744073709551615:=by
  have:=acx hd v1;rw[<-abp];omega
 clear XC XA XI X3 W9 Xa Z Xt Xv XL;have T:=aJ t;clear t;have a2:j+(n+2)=j+n+2:=aa;have a1:j+(n+1)=j+n+1:=aa;have k1:(n:Int)+2-1=(n:Int)+1:=aa;have k3:((n:Int)+1).toNat=n+1:=aa;have k4:((n:Int)+2).toNat=n+2:=aa;go_enter func221,ntmps221;(go_wp2_with fail);have d1:(0:Int)<=(n:Int)+2:=aa;have d2:(n:Int)+2<(n:Int)+3:=aa;have d3:(n:Int)+1<(n:Int)+3:=aa;go_quiet (fail);(go_wp2_with fail);go_quiet (fail)
 go_upto_block 0 with fail
 go_cut [8,9] (fun gv rv wx=>∃g:Nat,gv=.int .u64 (g:Int)/\g<4294967296/\val (U.drop j)/val v<=g/\g<=val (U.drop j)/val v+1/\Ext w wx)
 case first=>
  (go_wp2_with fail);clear e0;go_loopw [8,9] (fun qv rv wr=>∃g rest:Nat,qv=.int .u64 (g:Int)/\rv=.int .u64 (rest:Int)/\rest<4294967296/\iJ (val (U.drop j)) (val v) x2 x1 v1 g rest/\Ext w wr) (fun qv _ _=>(intOf qv).toNat)
  case atStart=>exact⟨hd/v1,hd%v1,rfl,rfl,abn (q8 _ aa) YD,Xx.o,((Ext.refl w).drewN _).drewN _⟩
  case round=>
   obtain⟨g,rest,rfl,rfl,hr,hG,D⟩:=hrel;have Yp:=iJ.le T.o hG;have HG:=aJ hG;clear hG;have XM:wr.cell? ⟨bV,oV+n,δ⟩=γ (.int .u32 (v0:Int)):=D.cell_ XM;have XN:wr.cell? ⟨gU,j+n,δ⟩=γ (.int .u32 (x0:Int)):=D.cell_ XN;have k5:(n:Int)+2-2=(n:Int):=aa;have d4:(n:Int)<(n:Int)+2:=aa;have d5:(n:Int)<(n:Int)+3:=aa;by_cases hb:4294967296<=g
   .have WL:(4294967296:Int)<=(g:Int):=aa;have Xj:=aJ (afF T.o HG.o hb);by_cases M:4294967296<=rest+v1
    .have Xc:(4294967296:Int)<=(rest:Int)+(v1:Int):=aa;obtain⟨s1,s2,s3⟩:=afg T.o Xj.o M;have S1:=aJ s1;have S2:=aJ s2;have S3:=aJ s3;clear s1 s2 s3;(go_wp2_with fail);go_quiet (fail);go_wp2_with fail
     go_meet
     case rel=>exact⟨g-1,au,S1.o,S2.o,S3.o,D.drewN _⟩
    .have Xc:decide ((4294967296:Int)<=(rest:Int)+(v1:Int))=ζ:=by rw[Z4];omega
     have Yi:decide (4294967296<=rest+v1)=ζ:=υ M;have WI:=aJ M;clear M;(go_wp2_with fail);go_quiet (fail);go_wp2_with fail
     go_roundw
     case rel=>exact⟨g-1,rest+v1,au,au,by have:=WI.o;omega,Xj.o,D.drewN _⟩
     case measure=>simp[intOf]<;>omega
   .obtain⟨tp,l⟩:∃tp,tp=g*v0:=⟨_,rfl⟩;obtain⟨z,hz⟩:∃z,z=x0+4294967296*rest:=⟨_,rfl⟩;have XQ:tp<=18446744065119617025:=by rw[l];exact uo aa X8
    have e1:IntKind.u64.wrap ((g:Int)*(v0:Int))=(tp:Int):=by rw[aaN _ Abx,l];simp
    have e2:bits .or .u64 ((rest:Int)*4294967296) (x0:Int)=(z:Int):=by rw[or_hi hr Yx,hz]
    have Yq:z<18446744073709551616:=aa;have WL:decide ((4294967296:Int)<=(g:Int))=ζ:=by rw[Z4];omega
    have WQ:decide (4294967296<=g)=ζ:=υ hb;have HB:=aJ hb;by_cases hc:z<tp
    .obtain⟨N,XE⟩:=afx (u0:=x0) (v0:=v0) T.o HG.o (by rw[<-l,<-hz];exact hc);have Xj:=aJ XE;clear XE;clear l hz hb;have Xd:(z:Int)<(tp:Int):=aa;clear hc;by_cases M:4294967296<=rest+v1
     .have Xc:(4294967296:Int)<=(rest:Int)+(v1:Int):=aa;obtain⟨s1,s2,s3⟩:=afg T.o Xj.o M;have S1:=aJ s1;have S2:=aJ s2;have S3:=aJ s3;clear s1 s2 s3;have WI:=aJ M;clear M;(go_wp2_with fail);go_quiet (fail);go_wp2_with fail
      go_meet
      case rel=>exact⟨g-1,au,S1.o,S2.o,S3.o,D.drewN _⟩
     .have Xc:decide ((4294967296:Int)<=(rest:Int)+(v1:Int))=ζ:=by rw[Z4];omega
      have Yi:decide (4294967296<=rest+v1)=ζ:=υ M;have WI:=aJ M;clear M;(go_wp2_with fail);go_quiet (fail);go_wp2_with fail
      go_roundw
      case rel=>exact⟨g-1,rest+v1,au,au,by have:=WI.o;omega,Xj.o,D.drewN _⟩
      case measure=>simp[intOf]<;>omega
    .obtain⟨s2,s3⟩:=iJ.pass (u0:=x0) (v0:=v0) T.o HG.o aa (by rw[<-l,<-hz];omega);have S2:=aJ s2;have S3:=aJ s3;clear s2 s3 l hz hb;have Xd:(tp:Int)<=(z:Int):=aa;clear hc;(go_wp2_with fail);go_quiet (fail);go_wp2_with fail
     go_meet
     case rel=>exact⟨g,rfl,by have:=HB.o;omega,S2.o,S3.o,D.drewN _⟩
 case rest=>
  obtain⟨g,rfl,Ye,XZ,XT,D⟩:=hcut;obtain⟨qd,WX⟩:∃qd,qd=val (U.drop j)/val v:=⟨_,rfl⟩;rw[<-WX] at XZ XT;have YE:gu wc gU U:=hU.far D;have YH:=T.RY;have Xo:val v*qd<=val (U.drop j):=by rw[WX];exact Nat.mul_div_le _ _
  have Xr:val (U.drop j)<val v*(qd+1):=by rw[WX];exact adP _ YH
  have XB:qd<4294967296:=by rw[WX];exact T.UZ
  have Xw:=lY X4;rw[XV.o] at Xw;have WU:val (U.drop (j+(n+3)))=0:=by
   refine drop_zero aa ?_;have h1:=T.fits;have h2:4294967296*val v<=4294967296*4294967296^(n+2):=ib _ (aan Xw);rw[show n+3=(n+2)+1 from rfl,y8,pz (4294967296^(n+2))];omega
  have WY:=aJ WU;have Xz:=aJ WX;have WJ:=aJ Xo;have Xm:=aJ Xr;have Xh:=aJ Xl;have YP:=aJ YE;clear WU WX Xo Xr Xl YE Xw YH WE e0 Yo Yc XR Yn Xx Ya XM X9 Yb XN;have Yf:∀(i y:Nat),v[i]? =γ y->∀wr,Only gU wc wr->wr.cell? ⟨bV,oV+i,δ⟩=γ (.int .u32 (y:Int)):=fun i y R wr ho=>ho.cell_ (D.cell_ (XG.o i _ (oK R))) YJ;have Yy:=aJ Yf;clear Yf;go_wp2_with fail
  go_loopw [10,11,75] (fun cv bv iv wr=>∃(i G bo:Nat) (U':List Nat),i<=n+2/\iv=.int .i64 i/\cv=.int .u64 (G:Int)/\bv=.int .u64 (bo:Int)/\G<4294967296/\bo<=1/\IG U U' v j i g G bo/\gu wr gU U'/\Only gU wc wr) (fun _ _ iv _=>n+2-(intOf iv).toNat)
  case atStart=>exact⟨0,0,0,U,aa,rfl,rfl,rfl,aa,aa,afK _ _ _ _,YP.o,Only.refl _ _⟩
  case round=>
   obtain⟨i,G,bo,U',hi,rfl,rfl,rfl,WW,WK,hM,F,WT⟩:=hrel;have HM:=aJ hM;clear hM;by_cases WE:i<n+2
   .obtain⟨x,J,H,K,Yg⟩:=F.at_ (k:=j+i) (by have:=HM.o.1;have:=Xh.o;omega);obtain⟨y,R⟩:∃y,v[i]? =γ y:=⟨_,ο (by rw[XV.o];exact WE)⟩;have I:=X4.at_ R;have WR:=Yy.o i y R wr WT;have XH:U[j+i]? =γ x:=by rw[<-HM.o.2.2.1 _ (κ _)];exact J
    obtain⟨tp,l⟩:∃tp,tp=g*y:=⟨_,rfl⟩;have XQ:tp<=18446744065119617025:=by rw[l];exact uo Ye I
    have e1:IntKind.u64.wrap ((g:Int)*(y:Int))=(tp:Int):=by rw[aaN _ (by rw[show((g:Int)*(y:Int))=((g*y:Nat):Int) by simp,<-l];omega),l];simp
    obtain⟨p,hp⟩:∃p,p=tp+G:=⟨_,rfl⟩;have e2:(tp:Int)+(G:Int)=(p:Int):=aa;have Xi:p<18446744073709551616:=aa;have e3:(p:Int)%4294967296=((p%4294967296:Nat):Int):=aa;have Xf:p%4294967296<4294967296:=q8 _ aa;have e4:(p:Int)/4294967296=((p/4294967296:Nat):Int):=aa;have YQ:p/4294967296<4294967296:=aa;have HS:=aJ (HM.step XH R H WK (p:=p) (by rw[hp,l]));generalize p%4294967296=pl at*
    generalize p/4294967296=ph at*
    have Q:=aJ F;clear F J R XH l hp;go_wp2_with fail
    go_roundw
    case rel=>
     refine⟨i+1,ph,nP ((x:Int)-bo-pl),_,aa,au,rfl,by rw[Jd H Xf WK],YQ,uf _,HS.o,Q.set (KC H Xf WK) (uA _),WT.trans (Only.set _ _ _ _)⟩
    case measure=>simp[intOf]<;>omega
   .obtain rfl:i=n+2:=aa;obtain⟨x,J,H,K,Yg⟩:=F.at_ (k:=j+n+2) (by have:=HM.o.1;have:=Xh.o;omega);have XH:U[j+(n+2)]? =γ x:=by rw[<-HM.o.2.2.1 _ (κ _)];exact J
    have XO:=R9 HM.o XV.o XH H WW WK;obtain⟨z,ez,Yq,WN,WF,XP⟩:=UT H WW WK;have XY:=uA ((x:Int)-bo-G);have XU:=uf ((x:Int)-bo-G);generalize pR ((x:Int)-bo-G)=dg at*
    generalize nP ((x:Int)-bo-G)=XD at*
    have L:gu (wr.setCell ⟨gU,j+n+2,δ⟩ (.int .u32 ((z:Int)%4294967296))) gU (U'.set (j+(n+2)) dg):=F.set (k:=j+n+2) WN XY;have Yk:(U'.set (j+(n+2)) dg).length=U.length:=by rw[abd];exact HM.o.1
    have YA:(U'.set (j+(n+2)) dg).take j=U.take j:=by rw[abu aa];exact HM.o.2.1
    have Yl:∀t,j+(n+3)<=t->(U'.set (j+(n+2)) dg)[t]? =U[t]? :=fun t ht=>by rw[aao aa];exact HM.o.2.2.1 _ aa
    have YC:(U'.set (j+(n+2)) dg)[j+(n+2)]? =γ dg:=by rw[abF (by rw[HM.o.1];have:=Xh.o;omega)]
    have WO:=QD WY.o L.2 Yk Yl;have HX:=aJ L;have XX:=aJ Yk;have YF:=aJ YA;have Xp:=aJ Yl;have YY:=aJ YC;have X6:=aJ XO;have Yt:=aJ WO;have WZ:=aJ WN;generalize U'.set (j+(n+2)) dg=X at*
    have XW:=WT.trans (Only.set wr gU (j+n+2) (.int .u32 ((z:Int)%4294967296)));clear L Yk YA Yl YC XO WO WN J XH F;rcases(show g=qd\/g=qd+1 by omega) with Xe|Xe
    .have WV:XD=0:=Pw (m:=j+(n+2)+1) (q:=g) (V:=val v) X6.o Yt.o (by rw[Xe];exact Px (by have:=Xh.o;omega) WJ.o);have YR:=WF WV;have XF:=aJ WV;have Yh:=aJ Xe;have YM:(z:Int)/9223372036854775808=0:=aa;have YL:z/9223372036854775808=0:=aa;clear WF XP WV Xe;(go_wp2_with fail);go_ret;refine⟨aM (by rw[<-Xz.o,Yh.o]),X,HX.o,XX.o,YF.o,?_,(aff D).trans XW⟩;have h1:=X6.o;rw[XF.o,Yh.o,Nat.mul_zero,Bn,pz qd] at h1;rw[<-Xz.o];exact h1
    .have WH:XD=1:=Te (U:=U) (X:=X) (j:=j) (m:=j+(n+2)+1) (q:=g) (V:=val v) X6.o XU (by rw[Xe];exact seg_lt hU.2 (by have:=Xh.o;omega) Xm.o);have YR:=XP WH;have C:=aJ WH;have Yh:=aJ Xe;have YM:(z:Int)/9223372036854775808=1:=aa;have YL:z/9223372036854775808=1:=aa;clear WF XP WH Xe;(go_wp2_with fail);have W:=aJ XW;clear XW;generalize YX:wr.setCell ⟨gU,j+n+2,δ⟩ (.int .u32 ((z:Int)%4294967296))=w2 at*
     clear YX;go_loopw [10,128] (fun cv iv wr=>∃(i G:Nat) (Y:List Nat),i<=n+2/\iv=.int .i64 i/\cv=.int .u64 (G:Int)/\G<=1/\Gi X Y v j i G/\gu wr gU Y/\Only gU wc wr) (fun _ iv _=>n+2-(intOf iv).toNat)
     case atStart=>exact⟨0,0,X,aa,rfl,rfl,aa,afM _ _ _,HX.o,W.o⟩
     case round=>
      rename_i YB _ _ _ _ _
      obtain⟨i,P,Y,Xu,rfl,rfl,Yw,XK,F,WT⟩:=hrel;have O:=aJ XK;clear XK;by_cases WP:i<n+2
      .obtain⟨x',WM,YO,X7,YS⟩:=F.at_ (k:=j+i) (by have:=O.o.1;have:=XX.o;have:=Xh.o;omega);obtain⟨y,R⟩:∃y,v[i]? =γ y:=⟨_,ο (by rw[XV.o];exact WP)⟩;have I:=X4.at_ R;have WR:=Yy.o i y R _ WT;have XH:X[j+i]? =γ x':=by rw[<-O.o.2.2.1 _ (κ _)];exact WM
       have HS:=aJ (O.step XH R (s:=x'+y+P) rfl);have Q:=aJ F;have f1:(i:Int)<(n:Int)+2:=aa;have f2:(i:Int)<(n:Int)+3:=aa;clear F WM R XH;(go_wp2_with fail);go_quiet (fail);go_wp2_with fail
       go_roundw
       case rel=>
        refine⟨i+1,(x'+y+P)/4294967296,_,aa,au,au,aa,HS.o,gu.set (Q.drewN _) aa (q8 _ aa),(WT.trans (aff ((Ext.refl _).drewN _))).trans (Only.set _ _ _ _)⟩
       case measure=>simp[intOf]<;>omega
      .obtain rfl:i=n+2:=aa;obtain⟨dd,Xk,Ym,X5,Yu⟩:=F.at_ (k:=j+n+2) (by have:=O.o.1;have:=XX.o;have:=Xh.o;omega);have Yz:X[j+(n+2)]? =γ dd:=by rw[<-O.o.2.2.1 _ (κ _)];exact Xk
       have Xy:∀z:Int,z=((dd+P)%4294967296:Nat)->gu (wr.setCell ⟨gU,j+n+2,δ⟩ (.int .u32 z)) gU (Y.set (j+(n+2)) ((dd+P)%4294967296)):=fun z hz=>F.set (k:=j+n+2) hz (q8 _ aa);have WI:=aJ Xy;have XO:=X6.o;rw[C.o,aav,Yh.o] at XO;have Yj:(Y.set (j+(n+2)) ((dd+P)%4294967296)).length=U.length:=by rw[abd,O.o.1];exact XX.o
       have Yv:(Y.set (j+(n+2)) ((dd+P)%4294967296)).take j=U.take j:=by rw[abu aa,O.o.2.1];exact YF.o
       have YI:∀t,j+(n+3)<=t->(Y.set (j+(n+2)) ((dd+P)%4294967296))[t]? =U[t]? :=fun t ht=>by rw[aao aa,O.o.2.2.1 _ aa];exact Xp.o t ht
       have XJ:=Tu (q:=qd) (V:=val v) XO O.o XV.o rfl Yz (QD WY.o (Xy _ rfl).2 Yj YI) (Px (by have:=Xh.o;omega) WJ.o) Ym Yw;have Xq:=aJ XJ;have YK:=aJ Yj;have YN:=aJ Yv;clear Xy XO Yj Yv YI XJ Yz Xk F;have Xg:1<=g:=by rw[Yh.o];omega
       (go_wp2_with fail);go_ret;refine⟨aM (by rw[<-Xz.o];have:=Yh.o;omega),_,WI.o _ aa,YK.o,YN.o,?_,((aff D).trans WT).trans (Only.set _ _ _ _)⟩;rw[<-Xz.o,pz (val v)];exact Xq.o
theorem Tn{x}(F:0<x)(J:x<4294967296):∃s:Nat,s<32/\32-(Lib.bitLen x:Int)=(s:Int)/\2147483648<=x*2^s/\x*2^s<4294967296:=by
 obtain⟨D,l,C⟩:=Lib.bitLenAux_bounds 64 x aa aa;have B:=Lib.bitLen_le x 32 aa J;unfold Lib.bitLen at B⊢;generalize Lib.bitLenAux 64 x=L at*
 obtain⟨t,rfl⟩:∃t,L=t+1:=⟨L-1,aa⟩;refine⟨31-t,aa,aa,?_,?_⟩
 .have j:2^t*2^(31-t)<=x*2^(31-t):=q9 _ (by simpa using l);rw[<-aaD,show t+(31-t)=31 by omega] at j;exact j
 .have j:x*2^(31-t)<2^(t+1)*2^(31-t):=aa6 C (NK aa);rw[<-aaD,show t+1+(31-t)=32 by omega] at j;exact j
def MM(A B n m c d a b w)(l:RM w A n c (cu a))(H:RM w B m d (cu b))(j:a<b)(hn:n<=1000000):
  Calls prog 204 #[.slice A n c,.slice B m d] w fun e w'=>∃q r,e=.returned (.tuple #[q,r])/\SlM (cu (a/b)) q w'/\SlM (cu (a%b)) r w'/\Ext w w':=by
 have D:decide (mV a b<0)=ε:=by rw[kL];exact Ξ j
 go_enter aea,adK;(go_wp2_with fail);refine(iH A B n m c d _ _ _ l H (bL _) (bL _)).mono ?_;rintro e w1 ⟨rfl,M⟩;rw[aL,aL];(go_wp2_with (at_builtin;refine jb jO rfl (.const (.slice δ 0 0)) (.tmp 16) rfl w1.heap.size _ 0 [] rf (I5 _ _ _ _) _ n _ (mg (cu a)) rf (l.ext M).rd Au aa aa aa ?_));intro I w2 C F;have P:=fw F (Ext.refl _) (by simp[Value.ownBlock]);have G:=aJ C;clear C;go_wp2
 go_ret2
 refine⟨_,_,rfl,⟨δ,0,0,rfl,?_⟩,?_,M.trans P⟩
 .rw[abo j,iw];exact afe
 .rw[aaU j];exact afm (by simpa using G.o) (pE _)
def IK(A B la n c d a b w)(hA:RM w A la c (cu a))(hB:RM w B (n+2) d (cu b))(WG:b<=a)(XR:la<=10000):
  Calls prog 204 #[.slice A la c,.slice B (n+2) d] w fun e w'=>∃q r,e=.returned (.tuple #[q,r])/\SlM (cu (a/b)) q w'/\SlM (cu (a%b)) r w'/\Ext w w':=by
 have WS:decide (mV a b<0)=ζ:=by rw[kL];exact υ aa
 have Xq:=aJ hA.len;have WN:=hB.len;have Yp:n+2<=la:=by
  exact AdE
 obtain⟨ad,x,rfl,_,J,H,_⟩:=hB.at_ (k:=n+1) aa;have C:0<x:=by
  have:=bL b x (last_at WN J);omega
 have HX:=aJ J;clear J;have T:=aJ WN;clear WN;have t1:(((n+2:Nat):Int)==1)=ζ:=ae;have t2:((n:Int)+2==1)=ζ:=ae;go_enter aea,adK;(go_wp2_with fail);refine(iH A (γ ad) la (n+2) c d _ _ _ hA hB (bL _) (bL _)).mono ?_;rintro e w1 ⟨rfl,M⟩;rw[aL,aL];obtain⟨O,XK⟩:=(hB.ext M).Ub HX.o;(go_wp2_with fail);obtain⟨s,hs,WJ,R,Z⟩:=Tn C H;refine(bits_LeadingZeros32 (x:Int) _ aa aa).mono ?_;rintro e wz ⟨rfl,WE⟩;rw[WE];clear WE;rw[aah,WJ];clear WJ;have hN:FO b n s x:=⟨T.o,HX.o,R,Z,hs⟩;have HN:=aJ hN;clear hN;clear O XK;(go_wp2_with fail);refine(uO A la c s (cu a) _ (hA.ext M) aa aa).mono ?_;rintro e w2 ⟨rfl,U,hU,F,WU,P⟩;rw[aL] at WU;(go_wp2_with fail);refine(uO (γ ad) (n+2) d s (cu b) _ (hB.ext (M.trans P)) aa aa).mono ?_;rintro e w3 ⟨rfl,Q,hQ,N,Xl,WF⟩;rw[aL] at Xl;obtain⟨hV,v1,v0,W9,Xa,Yl⟩:=HN.digits N hQ.2 Xl;have Xo:n+2<=n+2+1:=aa;have q1:(0:Int)<=(n:Int)+2:=aa;have WQ:=jk ((la:Int)-((n:Int)+2)+1) (la-n-1) aa aa;(go_wp2_with fail);clear WQ;obtain⟨V,Xj⟩:∃V,V=val (Q.take (n+2)):=⟨_,rfl⟩;have WV:V=b*2^s:=by rw[Xj,hV]
 have WM:0<V:=by
  exact Adk
 have Xw:V<4294967296^(n+2):=by rw[WV];exact HN.lt
 have Xu:gu (w3.alloc (.cells (mg (List.replicate (la-n-1) 0)).toArray 208)) w1.heap.size U:=hU.far (WF.alloc _);have X4:gu (w3.alloc (.cells (mg (List.replicate (la-n-1) 0)).toArray 208)) w2.heap.size Q:=hQ.far (Ext.new _ _);have G:mr U [] (a*2^s) V (la-n-1):=by
  exact Ac4
 have WR:=aJ Xj;have XD:=aJ WV;clear Xj WV hV WU Xl;have WW:=P.size;have Xh:=WF.size;have Yz:=hU.1.lt;have YA:=hQ.1.lt;have l:=aJ F;have WH:=aJ N;have S:=aJ W9;have Xb:=aJ Xa;have WY:=aJ G;clear G F N W9 Xa;have XH:=aJ Xu;have X7:=aJ X4;clear Xu X4 hU hQ;have WL:Ext w w3:=(M.trans P).trans WF;go_loopw [11] (fun iv wr=>∃(k:Nat) (U qs:List Nat),k<=la-n-1/\iv=.int .i64 ((k:Int)-1)/\U.length=la+1/\k+qs.length=la-n-1/\mr U qs (a*2^s) V k/\gu wr w1.heap.size U/\gu wr w2.heap.size Q/\gu wr w3.heap.size (List.replicate k 0++qs)/\Ext w wr) (fun iv _=>(intOf iv+1).toNat)
 case atStart=>exact⟨la-n-1,U,[],κ _,by congr 1;omega,l.o,ag,WY.o,XH.o,X7.o,⟨by simpa using Blk.new w3 _ _,by simpa using Dig.replicate _⟩,WL.alloc _⟩
 case round=>
  clear XH X7 WY l;obtain⟨k,U,qs,hk,rfl,F,XV,Xy,hU,hQ,hq,D⟩:=hrel;have l:=aJ F;clear F;have X5:=aJ XV;clear XV;have WP:=aJ Xy;clear Xy;by_cases h0:k=0
  .subst h0;have W:=WP.done;have XE:=aJ W;clear W;have Yf:RM wr (γ ⟨w3.heap.size,0,δ⟩) (la-n-1) (la-n-1) qs:=by
    exact Adw
   have Yk:RM wr (γ ⟨w1.heap.size,0,δ⟩) (n+2) (n+2) (U.take (n+2)):=(hU.rm (n:=la+1) l.o aa).take aa aa aa;go_wp2;have q2:(0:Int)<=(n:Int)+2:=aa;have q3:(n:Int)+2<=(la:Int)+1:=aa;refine bz 9 [(ε,0),(ε,2),(ε,3),(ε,4),(ε,5),(ε,6),(ζ,1),(ζ,7),(ε,8)] ah ah ?_;refine aT [0,2,3,4,5,6] [(ζ,1),(ζ,7),(ε,8)] _ ah ?_;simp only[bP,aU,μ,ξ];(repeat (go_big_quiet_step (fail)));refine σ ?_;refine aR 1 [(ζ,7),(ε,8)] ah ?_;intro K I;simp only[aU];(go_wp2_with fail);refine(jL _ _ _ qs _ (Yf.ext (Ext.refl wr).drew)).mono ?_;rintro e wa ⟨va,rfl,Xf,Xn⟩;have Xn:=Xn.ji;go_wp2;refine I _ _ ⟨⟨wa,Xn⟩,rfl⟩ ?_;clear I K;refine aR 7 [(ε,8)] ah ?_;intro K I;simp only[aU];(go_wp2_with fail);refine(BS _ (n+2) _ s (U.take (n+2)) _ (Yk.ext Xn) aa aa).mono ?_;rintro e wb ⟨vb,rfl,Xi,XU⟩;have WZ:=Xn.trans XU;go_wp2;refine I _ _ ⟨⟨wb,WZ⟩,rfl⟩ ?_;clear I K;refine aT [8] [] _ ah ?_;simp only[bP,aU,μ,ξ];(repeat (go_big_quiet_step (fail)));refine σ ?_;simp only[bQ,ρ,φ];have XQ:val qs=a/b:=by rw[XE.o.1,XD.o,AY]
   have X6:val (U.take (n+2))/2^s=a%b:=by
    exact AcE
   rw[XQ] at Xf;rw[X6] at Xi;have Yi:=aJ (Xf.ext XU);have Yn:=aJ Xi;clear Xf Xi XQ X6;go_wp2
   go_ret2
   exact⟨_,_,rfl,Yi.o,Yn.o,D.trans WZ⟩
  .obtain⟨j,rfl⟩:∃j,k=j+1:=⟨k-1,aa⟩;rw[show((j+1:Nat):Int)-1=(j:Int) by omega];have Xp:RM wr (γ ⟨w2.heap.size,0,δ⟩) (n+2) (n+2) (Q.take (n+2)):=(hQ.rm (n:=n+3) WH.o aa).take aa aa aa;have q2:(0:Int)<=(j:Int):=aa;have q3:(j:Int)<=(j:Int)+((n:Int)+2)+1:=aa;have q4:(j:Int)+((n:Int)+2)+1<=(la:Int)+1:=aa;have q5:((j:Int)+((n:Int)+2)+1-(j:Int)).toNat=n+3:=aa;(go_wp2_with fail);rw[show j+(n+2)+1-j=n+3 by omega];refine(ES (γ ⟨w2.heap.size,0,δ⟩) w1.heap.size j n _ _ v1 U (Q.take (n+2)) _ hU Xp (fun ad e=>by cases e;simp;omega) aa aa Ab2 aa aa S.o Yl (by rw[<-WR.o];exact WP.o.2)).mono ?_;rintro e w5 ⟨rfl,U',XW,WI,Xc,L,WT⟩;rw[<-WR.o] at L;rw[<-WR.o];have XB:val (U.drop j)/V<4294967296:=by
    rw[aaV WM];obtain⟨xj,Xd⟩:∃xj,U[j]? =γ xj:=⟨_,ο Ab2⟩;exact LB hU.2 Xd WP.o.2
   obtain⟨qd,WX⟩:∃qd,qd=val (U.drop j)/V:=⟨_,rfl⟩;rw[<-WX] at L XB;rw[<-WX];have Xk:gu w5 w3.heap.size (List.replicate (j+1) 0++qs):=⟨WT.blk hq.1 aa,hq.2⟩;have X3:gu w5 w2.heap.size Q:=⟨WT.blk hQ.1 aa,hQ.2⟩;obtain⟨z,_,_,Y,WO⟩:=Xk.at_ (k:=j) ae;have XX:=WP.step Ab2 WI Xc L WX WM;have XJ:=aJ XX;have XF:=aJ XW;have XL:=aJ X3;have Yj:=aJ Xk;have Xx:=aJ WI;clear XX XW X3 Xk WI Xc L hU Xp hQ hq WX;have Yy:=D.size;have XP:Ext w w5:=WT.ext D (by have:=M.size;omega);have q6:(j:Int)<((la-n-1:Nat):Int):=aa;go_wp2;go_roundw
   case rel=>
    exact AaM
   case measure=>simp[intOf]<;>omega
def Jj(A B n c d a b w)(hA:RM w A n c (cu a))(hB:RM w B 1 d (cu b))(WG:b<=a)(hn:n<=1000000):
  Calls prog 204 #[.slice A n c,.slice B 1 d] w fun e w'=>∃q r,e=.returned (.tuple #[q,r])/\SlM (cu (a/b)) q w'/\SlM (cu (a%b)) r w'/\Ext w w':=by
 have WS:decide (mV a b<0)=ζ:=by rw[kL];exact υ aa
 obtain⟨ad,x,rfl,_,J,H,K⟩:=hB.at_ (k:=0) aa;have Z:=hB.len;have T:cu b=[x]:=by
  match hd:cu b,Z,J with
  |[y],_,h=>simp at h;rw[h]
 have hb:b=x:=by rw[<-aL b,T];simp[val]
 subst hb;have W:0<b:=by
  exact AbA
 have Xq:=aJ hA.len;have HC:=aJ K;clear K J Z T;go_enter aea,adK;(go_wp2_with fail);refine(iH A (γ ad) n 1 c d _ _ _ hA hB (bL _) (bL _)).mono ?_;rintro e w1 ⟨rfl,M⟩;rw[aL,aL];(go_wp2_with (at_builtin;refine jb jO rfl (.const (.slice δ 0 0)) (.tmp 22) rfl w1.heap.size _ 0 [] rf (I5 _ _ _ _) _ n _ (mg (cu a)) rf (hA.ext M).rd Au aa aa aa ?_));intro v2 w2 ho hg;have P:=fw hg (Ext.refl _) (by simp[Value.ownBlock]);have L:=M.trans P;rcases agh ho (pE _) with ⟨_,h1,h2⟩|⟨g,G,r,rfl,XX,F,D,l⟩
 .exfalso;rw[nu] at h2;omega
 .clear ho hg;have O:w2.cell? ad=γ (.int .u32 (b:Int)):=L.cell_ HC.o;(go_wp2_with fail);refine(Hl g n G b (cu a) r _ F Xq.o hn W H).mono ?_;rintro e w3 ⟨rfl,q,hq,R,j,WT⟩;rw[aL] at j;rw[aL];have WF:Ext w w3:=WT.ext L (lh M.size XX);have U:a%b<4294967296:=abn (q8 _ W) H;generalize hr:a%b=S at*
  have WZ:=aJ hr;clear hr;have Q:=aJ j;clear j;have C:=hq.rm R D l;have WH:=aJ R;clear R;(go_wp2_with fail);refine(jL _ n G q _ C).mono ?_;rintro e w4 ⟨v4,rfl,V,N⟩;rw[Q.o] at V;(go_wp2_with fail);refine(jL _ 1 1 [S] _ (RM.blk (Blk.new _ _ _) (Dig.one U) rfl aa)).mono ?_;rintro e w5 ⟨v5,rfl,WN,Y⟩;have I:=V.ext ((Ext.new w4 _).trans Y);go_wp2
  go_ret2
  refine⟨_,_,rfl,I,by rw[WZ.o];simpa[val] using WN,(WF.trans N).trans ((Ext.new w4 _).trans Y)⟩
def Cq(A B n m c d a b w)(l:RM w A n c (cu a))(j:RM w B m d (cu b))(hb:0<b)(hn:n<=10000):
  Calls prog 204 #[.slice A n c,.slice B m d] w fun e w'=>∃q r,e=.returned (.tuple #[q,r])/\SlM (cu (a/b)) q w'/\SlM (cu (a%b)) r w'/\Ext w w':=by
 rcases Ha a b with h|h
 .exact MM A B n m c d a b w l j h aa
 .match m,j with
  |0,j=>
   have C:=j.empty;rw[nu] at C;omega
  |1,j=>exact Jj A B n c d a b w l j h aa
  |k+2,j=>exact IK A B n k c d a b w l j h hn
def Qz{x y q r}(R:y≠0)(h:q*y+r=x)(j:0<=r)(B:r<(y.natAbs:Int)):x/y=q/\x%y=r:=by
 rcases Int.lt_or_lt_of_ne R with hn|hp
 .have l:(-y)*(-q)+r=x:=by rw[Int.neg_mul_neg,ac6];exact h
  have:=(adA (a:=x) (b:= -y) (q:= -q) (r:=r) aa).2 ⟨aa,j,aa⟩;rw[Int.ediv_neg,Int.emod_neg] at this;exact⟨aa,this.2⟩
 .exact(adA hp).2 ⟨by rw[ac6] at h;omega,j,aa⟩
theorem F9(z):zOf (decide (z<0)) z.natAbs=z:=by
 unfold zOf;by_cases h:z<0
 .simp[h];omega
 .simp[h];omega
def GD(a b m n):zOf a m*zOf b n=zOf (a !=b) (m*n):=by
 cases a<;>cases b<;>simp[zOf,Int.neg_mul,Int.mul_neg]
theorem rZ{x y}(R:y≠0)(h:x<0->x.natAbs%y.natAbs=0):x/y=zOf (decide (x<0) !=decide (y<0)) (x.natAbs/y.natAbs)/\x%y=((x.natAbs%y.natAbs:Nat):Int):=by
 have hp:0<y.natAbs:=aa;have l:=abA x.natAbs y.natAbs;have B:=q8 x.natAbs hp;refine Qz R ?_ aa aa;have e:zOf (decide (x<0) !=decide (y<0)) (x.natAbs/y.natAbs)*y=zOf (decide (x<0)) (x.natAbs/y.natAbs*y.natAbs):=by
  have j:=GD (decide (x<0) !=decide (y<0)) (decide (y<0)) (x.natAbs/y.natAbs) y.natAbs;rw[F9] at j;rw[j];congr 1;cases decide (x<0)<;>cases decide (y<0)<;>rfl
 rw[e];rw[pz] at l;generalize x.natAbs/y.natAbs*y.natAbs=t at*
 unfold zOf;by_cases J:x<0
 .have:=h J;simp[J];omega
 .simp[J];omega
theorem ym{x y}(R:y≠0)(J:x<0)(h:0<x.natAbs%y.natAbs):x/y=zOf (decide (x<0) !=decide (y<0)) (x.natAbs/y.natAbs+1)/\x%y=((y.natAbs-x.natAbs%y.natAbs:Nat):Int):=by
 have hp:0<y.natAbs:=aa;have l:=abA x.natAbs y.natAbs;have B:=q8 x.natAbs hp;refine Qz R ?_ aa aa;have e:zOf (decide (x<0) !=decide (y<0)) (x.natAbs/y.natAbs+1)*y=zOf (decide (x<0)) ((x.natAbs/y.natAbs+1)*y.natAbs):=by
  have j:=GD (decide (x<0) !=decide (y<0)) (decide (y<0)) (x.natAbs/y.natAbs+1) y.natAbs;rw[F9] at j;rw[j];congr 1;cases decide (x<0)<;>cases decide (y<0)<;>rfl
 rw[e,Zb,aaE];rw[pz] at l;generalize x.natAbs/y.natAbs*y.natAbs=t at*
 unfold zOf;simp[J];omega
def CQ{x y:Int}(R:y≠0)(J:x<0)(h:0<x.natAbs%y.natAbs):x.natAbs/y.natAbs+1<=x.natAbs:=by
 have hp:0<y.natAbs:=aa;have l:=abA x.natAbs y.natAbs;have j:=q8 x.natAbs hp;have B:1*(x.natAbs/y.natAbs)<=y.natAbs*(x.natAbs/y.natAbs):=q9 _ hp;omega
def Qj (q r e:Int) (v:Value) (w:World):Prop:=∃a b,v=.tuple #[a,b,.int .i64 e]/\RI w a q/\RI w b r

section
variable {w w1:World} {x y r s:Obj} {cs:Array Value} {t:TypeId}
def xH(J:Ext ((((w.alloc x).alloc y).alloc r).alloc s) w1):Ext w w1:=((((Ext.new w _).alloc _).alloc _).alloc _).trans J
def vP(J:Ext ((((w.alloc (.cells cs t)).alloc y).alloc r).alloc s) w1):Blk w1 w.heap.size t cs:=((((Blk.new w t cs).alloc _).alloc _).alloc _).ext J
def tQ(J:Ext ((((w.alloc x).alloc (.cells cs t)).alloc r).alloc s) w1):Blk w1 (w.heap.size+1) t cs:=(((aeS t cs ag).alloc _).alloc _).ext J
def Gj(J:Ext ((((w.alloc x).alloc y).alloc (.cells cs t)).alloc s) w1):Blk w1 (w.heap.size+2) t cs:=((aeS t cs ag).alloc _).ext J
def GH(J:Ext ((((w.alloc x).alloc y).alloc r).alloc (.cells cs t)) w1):Blk w1 (w.heap.size+3) t cs:=(aeS t cs ag).ext J
end
def xu{x y:Int}(H:x.natAbs<lim):x.natAbs/y.natAbs<lim:=Γ (acx _ _) H
def Mm{x y:Int}(H:x.natAbs<lim):x.natAbs%y.natAbs<lim:=Γ (Nat.mod_le _ _) H
def uk{s k z}(h:z=zOf s k)(j:k<lim):pQ (zOf s k)=(z,0):=by rw[lK (by rw[uu];exact j),h]
def kW{k n}(h:(cu k).length=n):0<n↔0<k:=by
 rcases Be k with j|j
 .subst j;rw[iw] at h;simp at h;omega
 .have:cu k≠[]:=fun e=>by rw[nu] at e;omega
  have:=acD.2 this;omega
def Ng(v u x y w)(L:RI w v x)(l:RI w u y)(H:x.natAbs<lim)(O:y.natAbs<lim)(WQ:y≠0):
  CV 195 #[v,u] w fun v w'=>Qj (x/y) (x%y) 0 v w':=by
 have S:=aJ (aeY L H);have WL:=aJ (aeY l O);obtain⟨A,n,c,rfl,J⟩:=L;obtain⟨B,m,d,rfl,R⟩:=l;have hn:=J.kE H;have hm:=R.kE O;have XE:0<m:=(kW R.len).2 aa;have t1:((m:Int)==0)=ζ:=ae;have t2:(m==0)=ζ:=ae;generalize Xb:decide (x<0)=sx at*
 generalize WX:decide (y<0)=sy at*
 have WU:=aJ Xb;have WW:=aJ WX;clear Xb WX;go_enter func195,ntmps195;(go_wp2_with fail);refine(gL _ A n c _ _ (J.ext ((((Ext.new w _).alloc _).alloc _).alloc _))).mono ?_;rintro e w1 ⟨rfl,M⟩;rw[S.o];have c0:=(vP M).cell;have c1:=(tQ M).cell;(go_wp2_with fail);refine(gL _ B m d _ _ (R.ext (xH M))).mono ?_;rintro e w2 ⟨rfl,P⟩;rw[WL.o];clear c0 c1;have P:=M.trans P;have c0:=(vP P).cell;have c1:=(tQ P).cell;(go_wp2_with fail);refine(Cq A B n m c d x.natAbs y.natAbs _ (J.ext (xH P)) (R.ext (xH P)) aa aa).mono ?_;rintro e w3 ⟨q,r,rfl,⟨Aq,nq,cq,rfl,hQ⟩,⟨Ar,nr,cr,rfl,hR⟩,WF⟩;clear c0 c1;have WF:=P.trans WF;have c0:=(vP WF).cell;have c1:=(tQ WF).cell;have WV:=kW hR.len;by_cases K:sx=ε/\0<nr
 .obtain⟨rfl,Xe⟩:=K;have C:x<0:=abj WU.o;have WR:=WV.1 Xe;have Xf:=ym (x:=x) (y:=y) WQ C WR;rw[WU.o,WW.o] at Xf;have Xa:=aJ Xf;clear Xf;have WJ:=aJ (CQ WQ C WR);have Ym:nq<=400:=by have:=hQ.len;have:=jC (xu (y:=y) H);omega
  have WK:=q8 x.natAbs (show 0<y.natAbs by omega);have W9:nr<=m:=by
   exact Acb
  have Xh:(0:Int)<(nr:Int):=aa;have WY:=aJ WK;clear WK C WR WV;(go_wp2_with fail);refine(Ac Aq _ nq 1 cq 1 _ [1] _ (hQ.ext (Ext.new w3 _)) (RM.blk (Blk.new _ _ _) (Dig.one aa) rfl aa) aa aa).mono ?_;rintro e w4 ⟨v4,rfl,⟨Aq,nq,cq,rfl,hQ⟩,N⟩;rw[aL,show val [1]=1 from rfl] at hQ;have WT:=(Ext.new w3 _).trans N;have WM:=hR.ext WT;have N:=WF.trans WT;clear c0 c1 hR;have c1:=(tQ N).cell;(go_wp2_with fail);refine(uU B Ar m nr d cr _ _ _ (R.ext (xH N)) WM aa W9 (by rw[aL,aL];exact aan WY.o)).mono ?_;rintro e w5 ⟨v5,rfl,⟨Ar,nr,cr,rfl,hR⟩,WI⟩;rw[aL,aL] at hR;have hQ:=hQ.ext WI;have WI:=N.trans WI;clear c1;have c0:=(vP WI).cell;have c1:=(tQ WI).cell;clear N WT;obtain⟨zq,T⟩:∃z,z=x/y:=⟨_,rfl⟩;obtain⟨zr,WE⟩:∃z,z=x%y:=⟨_,rfl⟩;(go_wp2_with fail);refine(iC _ Aq nq cq _ _ hQ).mono ?_;rintro e w4 ⟨v4,rfl,j,N⟩;have F:=aJ T;have Z:=aJ WE;clear T WE;have WZ:=F.trans Xa.o.1;simp only[acR] at WZ;rw[aL,uk WZ (Γ WJ.o H)] at j;have WS:=aJ WZ;clear WZ;obtain⟨u4,rfl,A4,n4,c4,rfl,Y⟩:=j;have WM:=hR.ext N;have N:=WI.trans N;clear c0 c1;have b4:=Gj N;have WH:=b4.cell;have f4:=b4.frozen;obtain⟨k1,V,k3⟩:=jq (xH N) aa b4 (decide (zq<0)) A4 n4 c4;have WN:=k3 _ _ _ _ WM;have D:=k3 _ _ _ _ Y;have b5:=((GH N).far (p:=⟨w.heap.size+2,0,δ⟩) ag (.bool (decide (zq<0)))).far (p:=⟨w.heap.size+2,1,δ⟩) ag (.slice A4 n4 c4);clear k3;have K1:=aJ k1;have U:=aJ V;have W:=aJ D;have Xx:=aJ WN;have WG:=aJ b5;clear k1 V D WN b5 Y WM hQ hR;(go_wp2_with fail);refine(iC ζ Ar _ cr _ _ Xx.o).mono ?_;rintro e w6 ⟨v6,rfl,j,Q⟩;rw[aL,uk (show zr=zOf ζ _ from Z.o.trans Xa.o.2) (Γ (Nat.sub_le _ _) O)] at j;exact Aai
 .have Xf:=rZ (x:=x) (y:=y) WQ (fun h=>by
   have h1:sx=ε:=by rw[<-WU.o];exact Ξ h
   have:¬0<nr:=fun h2=>K ⟨h1,h2⟩;rw[WV] at this;omega)
  rw[WU.o,WW.o] at Xf;have Xa:=aJ Xf;clear Xf;have Xk:sx=ζ\/(sx=ε/\nr=0):=by
   cases sx
   .exact .inl rfl
   .simp at K;exact .inr ⟨rfl,aa⟩
  clear K WV;rcases Xk with rfl|⟨rfl,rfl⟩
  all_goals
   obtain⟨zq,T⟩:∃z,z=x/y:=⟨_,rfl⟩;obtain⟨zr,WE⟩:∃z,z=x%y:=⟨_,rfl⟩;(go_wp2_with fail);refine(iC _ Aq nq cq _ _ hQ).mono ?_;rintro e w4 ⟨v4,rfl,j,N⟩;have F:=aJ T;have Z:=aJ WE;clear T WE;have WZ:=F.trans Xa.o.1;simp only[Bool.false_bne,acR] at WZ;rw[aL,uk WZ (xu H)] at j;have WS:=aJ WZ;clear WZ;obtain⟨u4,rfl,A4,n4,c4,rfl,Y⟩:=j;have WM:=hR.ext N;have N:=WF.trans N;clear c0 c1;have b4:=Gj N;have WH:=b4.cell;have f4:=b4.frozen;obtain⟨k1,V,k3⟩:=jq (xH N) aa b4 (decide (zq<0)) A4 n4 c4;have WN:=k3 _ _ _ _ WM;have D:=k3 _ _ _ _ Y;have b5:=((GH N).far (p:=⟨w.heap.size+2,0,δ⟩) ag (.bool (decide (zq<0)))).far (p:=⟨w.heap.size+2,1,δ⟩) ag (.slice A4 n4 c4);clear k3;have K1:=aJ k1;have U:=aJ V;have W:=aJ D;have Xx:=aJ WN;have WG:=aJ b5;clear k1 V D WN b5 Y WM hQ hR;(go_wp2_with fail);refine(iC ζ Ar _ cr _ _ Xx.o).mono ?_;rintro e w6 ⟨v6,rfl,j,Q⟩;rw[aL,uk (show zr=zOf ζ _ from Z.o.trans Xa.o.2) (Mm H)] at j;exact Aai
def Jy(v u x y w)(L:RI w v x)(l:RI w u y)(H:x.natAbs<lim)(O:y.natAbs<lim)(WQ:y≠0):
  CV 182 #[v,u] w fun v w'=>Qj (x/y) (x%y) 0 v w':=by
 have S:=aJ (aeY L H);have WL:=aJ (aeY l O);obtain⟨A,n,c,rfl,J⟩:=L;obtain⟨B,m,d,rfl,R⟩:=l;have hn:=J.kE H;have hm:=R.kE O;have XE:0<m:=(kW R.len).2 aa;have t1:((m:Int)==0)=ζ:=ae;have t2:(m==0)=ζ:=ae;generalize Xb:decide (x<0)=sx at*
 generalize WX:decide (y<0)=sy at*
 have WU:=aJ Xb;have WW:=aJ WX;clear Xb WX;go_enter func182,ntmps182;(go_wp2_with fail);refine(fK _ A n c _ _ (J.ext ((((Ext.new w _).alloc _).alloc _).alloc _))).mono ?_;rintro e w1 ⟨rfl,M⟩;rw[S.o];have c0:=(vP M).cell;have c1:=(tQ M).cell;(go_wp2_with fail);refine(fK _ B m d _ _ (R.ext (xH M))).mono ?_;rintro e w2 ⟨rfl,P⟩;rw[WL.o];clear c0 c1;have P:=M.trans P;have c0:=(vP P).cell;have c1:=(tQ P).cell;(go_wp2_with fail);refine(yo A B n m c d x.natAbs y.natAbs _ (J.ext (xH P)) (R.ext (xH P)) aa aa).mono ?_;rintro e w3 ⟨q,r,rfl,⟨Aq,nq,cq,rfl,hQ⟩,⟨Ar,nr,cr,rfl,hR⟩,WF⟩;clear c0 c1;have WF:=P.trans WF;have c0:=(vP WF).cell;have c1:=(tQ WF).cell;have Ym:nq<=400:=by have:=hQ.len;have:=jC (xu (y:=y) H);omega
 have WV:nr<=400:=by have:=hR.len;have:=jC (Mm (y:=y) H);omega
 cases sx
 .have Xf:=rZ (x:=x) (y:=y) WQ (fun h=>absurd h (of_decide_eq_false WU.o));rw[WU.o,WW.o] at Xf;have Xa:=aJ Xf;clear Xf;have WH:Hid (∀z:Int,z=x/y->z.natAbs<lim):=aJ (fun z hz=>by rw[hz,Xa.o.1,uu];exact xu H);obtain⟨zq,T⟩:∃z,z=x/y:=⟨_,rfl⟩;obtain⟨zr,WE⟩:∃z,z=x%y:=⟨_,rfl⟩;have F:=aJ T;have Z:=aJ WE;clear T WE;have WZ:=F.trans Xa.o.1;simp only[Bool.false_bne] at WZ;exact Aag
 ·(go_wp2_with fail);refine(iB Ar nr cr _ _ hR aa).mono ?_;rintro e Xl ⟨v3,rfl,⟨At,nt,ct,rfl,hT⟩,Xg⟩;rw[aL] at hT;have Xd:=kW hT.len;have hQ:=hQ.ext Xg;have hR:=hR.ext Xg;have WF:=WF.trans Xg;clear c0 c1;have c0:=(vP WF).cell;have c1:=(tQ WF).cell;by_cases Xc:0<nt
  .have C:x<0:=abj WU.o;have WR:=Xd.1 Xc;have Xf:=ym (x:=x) (y:=y) WQ C WR;rw[WU.o,WW.o] at Xf;have Xa:=aJ Xf;clear Xf;have WJ:=aJ (CQ WQ C WR);have WH:Hid (∀z:Int,z=x/y->z.natAbs<lim):=aJ (fun z hz=>by rw[hz,Xa.o.1,uu];exact Γ WJ.o H);have WK:=q8 x.natAbs (show 0<y.natAbs by omega);have W9:nr<=m:=by
    exact Acb
   have Xh:(0:Int)<(nt:Int):=aa;have WY:=aJ WK;clear WK C WR Xd;(go_wp2_with fail);refine(Dt Aq _ nq 1 cq 1 _ [1] _ (hQ.ext (Ext.new Xl _)) (RM.blk (Blk.new _ _ _) (Dig.one aa) rfl aa) aa aa).mono ?_;rintro e w4 ⟨v4,rfl,⟨lq,⟨Aq,Xi,cq,rfl,hQ⟩,X5,X4⟩,N⟩;rw[aL,show val [1]=1 from rfl] at X5;have Xn:Xi<=402:=by have:=hQ.len;omega
   have Xm:=aJ X5;clear X5;have WT:=(Ext.new Xl _).trans N;have WM:=hR.ext WT;have N:=WF.trans WT;clear c0 c1 hR;have c1:=(tQ N).cell;(go_wp2_with fail);refine(vL B Ar m nr d cr _ _ _ (R.ext (xH N)) WM aa W9 (by rw[aL,aL];exact aan WY.o)).mono ?_;rintro e w5 ⟨v5,rfl,⟨Ar,Xk,cr,rfl,hR⟩,WI⟩;rw[aL,aL] at hR;have Xo:Xk<=400:=by have:=hR.len;have:=jC (Γ (Nat.sub_le y.natAbs (x.natAbs%y.natAbs)) O);omega
   have hQ:=hQ.ext WI;have WF:=N.trans WI;clear c1 N WT;have c0:=(vP WF).cell;have c1:=(tQ WF).cell;obtain⟨zq,T⟩:∃z,z=x/y:=⟨_,rfl⟩;obtain⟨zr,WE⟩:∃z,z=x%y:=⟨_,rfl⟩;have F:=aJ T;have Z:=aJ WE;clear T WE;have WZ:=F.trans Xa.o.1;simp only[acR] at WZ;have Q:zr=zOf ζ _:=Z.trans Xa.o.2;(go_wp2_with fail);refine(iA _ Aq Xi cq _ _ hQ aa).mono ?_;rintro e w4 ⟨v4,rfl,Y,N⟩;rw[Xm.o] at Y;rw[<-WZ] at Y;have WG:=aJ Q;clear Q WZ;have U:zq.natAbs<lim:=WH.o zq F.o;have WM:=hR.ext N;have N:=WF.trans N;clear c0 c1 hQ hR;(go_wp2_with fail);refine(kQ _ zq _ Y).mono ?_;rintro e w5 ⟨v5,rfl,j,WI⟩;rw[lK U] at j;obtain⟨u5,rfl,A5,n5,c5,rfl,D⟩:=j;have WN:=WM.ext WI;have WI:=N.trans WI;clear Y WM;(go_wp2_with fail);have Y9:=aK.blk (Blk.new w5 40 #[.bool (decide (zq<0)),.slice A5 n5 c5]);have WS:=WI.trans (Ext.new w5 (.cells #[.bool (decide (zq<0)),.slice A5 n5 c5] 40));have Xe:=WN.ext (Ext.new w5 (.cells #[.bool (decide (zq<0)),.slice A5 n5 c5] 40));have WO:=D.ext (Ext.new w5 (.cells #[.bool (decide (zq<0)),.slice A5 n5 c5] 40));generalize w5.alloc (.cells #[.bool (decide (zq<0)),.slice A5 n5 c5] 40)=w6 at*
   refine bz 3 [(ε,0),(ε,1),(ζ,2)] ah ah ?_;refine aT [0,1] [(ζ,2)] _ ah ?_;simp only[bP,aU,μ,ξ];(repeat (go_big_quiet_step (fail)));refine σ ?_;refine aR 2 [] ah ?_;intro K I;simp only[aU];(go_wp2_with fail);refine(iA ζ Ar Xk cr _ _ (Xe.ext (Ext.refl w6).drew) aa).mono ?_;rintro e w7 ⟨v7,rfl,⟨A7,n7,c7,rfl,V⟩,W⟩;have W:=W.ji;go_wp2;refine I _ _ ⟨⟨w7,W⟩,rfl⟩ ?_;clear I K;simp only[bQ,ρ,φ];have G:=WS.trans W;have b4:=Gj G;have b5:=GH G;have c4:=b4.cell;have f4:=b4.frozen;have Xj:=b5.cell;have f5:=b5.frozen;obtain⟨n1,n2,n3⟩:=jq (xH G) aa b4 (decide (zq<0)) A5 n5 c5;have WP:=(b5.far (p:=⟨w.heap.size+2,0,δ⟩) ag (.bool (decide (zq<0)))).far (p:=⟨w.heap.size+2,1,δ⟩) ag (.slice A5 n5 c5);rw[aL,<-WG.o] at V;rw[aL,<-WG.o];obtain⟨o1,o2,o3⟩:=jq n1 aa WP (decide (zr<0)) A7 n7 c7;have o4:=(n2.far (p:=⟨w.heap.size+3,0,δ⟩) ag (.bool (decide (zr<0)))).far (p:=⟨w.heap.size+3,1,δ⟩) ag (.slice A7 n7 c7);have r4:=o3 _ _ _ _ (n3 _ _ _ _ (WO.ext W));have r5:=o3 _ _ _ _ (n3 _ _ _ _ V);have O1:=aJ o1;have O2:=aJ o2;have O4:=aJ o4;have R4:=aJ r4;have R5:=aJ r5;clear n1 n2 n3 WP o1 o2 o3 o4 r4 r5;go_wp2;rw[<-F.o,<-Z.o];exact xz rfl rfl rfl O4.o rfl O2.o ⟨_,rfl,⟨_,_,rfl,⟨_,_,_,rfl,R4.o⟩,⟨_,_,_,rfl,R5.o⟩⟩,O1.o⟩
  .have hz:=Xd;have Xf:=rZ (x:=x) (y:=y) WQ (fun h=>by have:=mt Xd.2 Xc;omega);rw[WU.o,WW.o] at Xf;have Xa:=aJ Xf;clear Xf;have WH:Hid (∀z:Int,z=x/y->z.natAbs<lim):=aJ (fun z hz=>by rw[hz,Xa.o.1,uu];exact xu H);obtain rfl:nt=0:=aa;clear Xd Xc;obtain⟨zq,T⟩:∃z,z=x/y:=⟨_,rfl⟩;obtain⟨zr,WE⟩:∃z,z=x%y:=⟨_,rfl⟩;have F:=aJ T;have Z:=aJ WE;clear T WE;have WZ:=F.trans Xa.o.1;simp only[acR] at WZ;exact Aag
def Gp(a b:Nat)(w)(ha:a<18446744073709551616)(hb:b<18446744073709551616):
  CE 201 #[.int .u64 (a:Int),.int .u64 (b:Int)] w (.int .u64 ((Nat.gcd a b:Nat):Int)):=by
 go_enter func201,ntmps201;go_wp2_with fail
 go_loopw [0,1] (fun K bv wr=>∃p q:Nat,K=.int .u64 (p:Int)/\bv=.int .u64 (q:Int)/\p<18446744073709551616/\q<18446744073709551616/\Nat.gcd p q=Nat.gcd a b/\Ext w wr) (fun _ bv _=>(intOf bv).toNat)
 case atStart=>exact⟨a,b,rfl,rfl,ha,hb,rfl,Ext.refl _⟩
 case round=>
  obtain⟨p,q,rfl,rfl,hp,hq,C,D⟩:=hrel;have G:=aJ C;clear C;by_cases J:q=0
  .subst J;go_wp2;go_ret;exact⟨aM (by rw[<-G.o,acK]),D⟩
  .have l:0<q:=aa;have O:=q8 p l;have H:(p:Int)%(q:Int)=((p%q:Nat):Int):=ag;have B:=aJ (show Nat.gcd q (p%q)=Nat.gcd a b by rw[<-G.o,aaJ p q,aeC q p,aaJ]);have N:((q:Int) !=0)=ε:=ae;have L:(q !=0)=ε:=ae;have M:(q:Int)≠0:=aa;have I:=aJ H;clear H;generalize F:p%q=j at*
   clear F;(go_wp2_with fail);go_quiet (fail);go_wp2_with fail
   go_roundw
   case rel=>exact⟨q,j,rfl,by rw[I.o],hq,aa,B.o,D.drewN _⟩
   case measure=>simp only[intOf];rw[I.o];omega
def uL{k n}(h:(cu k).length=n)(hn:n<=2):k<18446744073709551616:=dS (k:=2) aa
def Ki(g):val [g%4294967296,g/4294967296]=g:=by simp only[val];omega
def U8(v u x y w)(L:RI w v x)(l:RI w u y)(H:x.natAbs<lim)(O:y.natAbs<lim):
  CV 177 #[v,u] w fun v w'=>nM ((Nat.gcd x.natAbs y.natAbs:Nat),0) v w':=by
 have S:=aJ (aeY L H);have WL:=aJ (aeY l O);obtain⟨A,n,c,rfl,J⟩:=L;obtain⟨B,m,d,rfl,R⟩:=l;go_enter func177,ntmps177;(go_wp2_with fail);refine(gL _ A n c _ _ (J.ext (((Ext.new w _).alloc _).alloc _))).mono ?_;rintro e w1 ⟨rfl,M⟩;rw[S.o];have c0:=(iG M).cell;have c1:=(iQ M).cell;(go_wp2_with fail);refine(gL _ B m d _ _ (R.ext (fG M))).mono ?_;rintro e w2 ⟨rfl,P⟩;rw[WL.o];clear c0 c1;have P:=M.trans P;have c0:=(iG P).cell;have c1:=(iQ P).cell;(go_wp2_with fail);go_quiet (fail);(go_wp2_with fail);clear c0 c1;go_loopg [6,7] y.natAbs (fun gk av bv wr=>∃A n c B m d p,av=.slice A n c/\bv=.slice B m d/\RM wr A n c (cu p)/\RM wr B m d (cu gk)/\p<lim/\gk<lim/\Nat.gcd p gk=Nat.gcd x.natAbs y.natAbs/\Ext w2 wr)
 case atStart=>exact⟨A,n,c,B,m,d,x.natAbs,rfl,rfl,J.ext ((fG P).drewN _),R.ext ((fG P).drewN _),H,O,rfl,(Ext.refl _).drewN _⟩
 case round=>
  clear J R;obtain⟨A',n',c',B',C,d',p,rfl,rfl,hA,hB,hp,hq,hg,D⟩:=hrel;have WO:=hA.len;have WN:=hB.len;have WM:n'<=400:=by have:=jC hp;omega
  have WE:C<=400:=by have:=jC hq;omega
  have Xr:=kW WN;have HG:=aJ hg;have Xq:=aJ WO;have T:=aJ WN;clear hg WO WN;by_cases h0:0<C
  .have Xb:=Xr.1 h0;have WG:(0:Int)<(C:Int):=aa;by_cases K:n'<=2/\C<=2
   .obtain⟨Xe,Xa⟩:=K;have WQ:(n':Int)<=2:=aa;have WR:(C:Int)<=2:=aa;have WP:=uL Xq.o Xe;have WI:=uL T.o Xa;(go_wp2_with fail);refine(GN A' n' c' _ _ hA Xe).mono ?_;rintro e w4 ⟨rfl,rfl⟩;rw[aL];(go_wp2_with fail);refine(GN B' C d' _ _ hB Xa).mono ?_;rintro e w5 ⟨rfl,rfl⟩;rw[aL];(go_wp2_with fail);refine(Gp p gk _ WP WI).mono ?_;rintro e w6 ⟨rfl,Q⟩;rw[HG.o];have Q:=(P.trans D).trans Q;obtain⟨G,hG⟩:∃G,G=Nat.gcd x.natAbs y.natAbs:=⟨_,rfl⟩;have WH:G<lim:=by rw[hG,<-HG.o];exact Γ (Nat.gcd_le_right _ Xb) hq
    have WT:G<18446744073709551616:=by rw[hG,<-HG.o];exact Γ (Nat.gcd_le_right _ Xb) WI
    rw[<-hG];have WS:=aJ hG;clear hG;have e1:(G:Int)%4294967296=((G%4294967296:Nat):Int):=aa;have e2:(G:Int)/4294967296=((G/4294967296:Nat):Int):=aa;have WJ:Dig [G%4294967296,G/4294967296]:=by
     intro z hz;simp at hz;omega
    have XB:=Ki G;have WV:G/4294967296<4294967296:=aa;generalize G%4294967296=g0 at*
    generalize G/4294967296=g1 at*
    have HV:=aJ XB;clear XB;(go_wp2_with fail);refine(iC ζ _ 2 2 [g0,g1] _ (RM.blk (Blk.new _ _ _) WJ rfl aa)).mono ?_;rintro e w7 ⟨v7,rfl,j,W⟩;obtain⟨Z,hZ⟩:∃Z:Int,Z=(G:Int):=⟨_,rfl⟩;rw[HV.o,uk (z:=Z) (hZ.trans (by simp[zOf])) WH] at j;have HZ:=aJ hZ;clear hZ;obtain⟨u7,rfl,A2,n2,c2,rfl,hI⟩:=j;have WF:=(Q.trans (Ext.new w6 _)).trans W;exact Aca
   .have I:decide ((n':Int)<=2)=ζ\/(n'<=2/\decide ((C:Int)<=2)=ζ):=by
     by_cases h:n'<=2
     .exact .inr ⟨h,by rw[Z4];omega⟩
     .exact .inl (by rw[Z4];omega)
    have WU:=aJ K;clear K;have WS:=aJ (show Nat.gcd gk (p%gk)=Nat.gcd x.natAbs y.natAbs by rw[<-HG.o,aaJ p gk,aeC gk p,aaJ]);have WK:=q8 p Xb;rcases I with I|⟨Xe,I⟩
    all_goals
     try have WQ:(n':Int)<=2:=aa
     (go_wp2_with fail);refine(Cq A' B' n' C c' d' p gk _ hA hB Xb aa).mono ?_;rintro e w4 ⟨q,r,rfl,⟨Aq,nq,cq,rfl,hQ⟩,⟨Ar,nr,cr,rfl,hR⟩,N⟩;have F:=hB.ext N;go_wp2_with fail
     go_roundg (p%gk)
     case measure=>exact WK
     case rel=>exact⟨B',C,d',Ar,nr,cr,gk,rfl,rfl,F,hR,hq,abn WK hq,WS.o,D.trans N⟩
  .obtain rfl:C=0:=aa;obtain rfl:gk=0:=by
    exact AcY
   have Y:p=Nat.gcd x.natAbs y.natAbs:=by rw[<-HG.o,acK]
   obtain⟨G,hG⟩:∃G,G=p:=⟨_,rfl⟩;subst hG;have WS:=aJ Y;clear Y;have WH:=hp;(go_wp2_with fail);refine(uh A' n' c' _ _ hA aa).mono ?_;rintro e w4 ⟨v4,rfl,⟨A4,n4,c4,rfl,hC⟩,N⟩;(go_wp2_with fail);refine(iC ζ A4 n4 c4 _ _ hC).mono ?_;rintro e w7 ⟨v7,rfl,j,W⟩;obtain⟨Z,hZ⟩:∃Z:Int,Z=(G:Int):=⟨_,rfl⟩;rw[aL,uk (z:=Z) (hZ.trans (by simp[zOf])) WH] at j;have HZ:=aJ hZ;clear hZ;obtain⟨u7,rfl,A2,n2,c2,rfl,hI⟩:=j;have WF:=((P.trans D).trans N).trans W;exact Aca
def RB(v u x y w)(L:RI w v x)(l:RI w u y)(H:x.natAbs<lim)(O:y.natAbs<lim):
  CV 146 #[v,u] w fun v w'=>nM ((Nat.gcd x.natAbs y.natAbs:Nat),0) v w':=by
 have S:=aJ (aeY L H);have WL:=aJ (aeY l O);obtain⟨A,n,c,rfl,J⟩:=L;obtain⟨B,m,d,rfl,R⟩:=l;have hn:=J.kE H;have hm:=R.kE O;go_enter func146,ntmps146;(go_wp2_with fail);refine(fK _ A n c _ _ (J.ext (((Ext.new w _).alloc _).alloc _))).mono ?_;rintro e w1 ⟨rfl,M⟩;rw[S.o];have c0:=(iG M).cell;have c1:=(iQ M).cell;(go_wp2_with fail);refine(fK _ B m d _ _ (R.ext (fG M))).mono ?_;rintro e w2 ⟨rfl,P⟩;rw[WL.o];clear c0 c1;have P:=M.trans P;have Y0:=aK.blk (iG P);have Y1:=aK.blk (iQ P);(go_wp2_with fail);refine bz 7 [(ε,0),(ε,1),(ε,3),(ε,4),(ζ,2),(ζ,5),(ε,6)] ah ah ?_;refine aT [0,1,3,4] [(ζ,2),(ζ,5),(ε,6)] _ ah ?_;simp only[bP,aU,μ,ξ];(repeat (go_big_quiet_step (fail)));refine σ ?_;refine aR 2 [(ζ,5),(ε,6)] ah ?_;intro K I;simp only[aU];(go_wp2_with fail);refine(iB A n c _ _ ((J.ext (fG P)).ext (Ext.refl _).drew) aa).mono ?_;rintro e w3 ⟨v3,rfl,⟨A3,n3,c3,rfl,hA⟩,F⟩;have F:=Ext.ji F;go_wp2;refine I _ _ ⟨⟨w3,F⟩,rfl⟩ ?_;clear I K;rw[aL] at hA;refine aR 5 [(ε,6)] ah ?_;intro K I;simp only[aU];(go_wp2_with fail);refine(iB B m d _ _ ((R.ext (fG P)).ext F) aa).mono ?_;rintro e w4 ⟨v4,rfl,⟨A4,n4,c4,rfl,hB⟩,G⟩;have G:=F.trans G;go_wp2;refine I _ _ ⟨⟨w4,G⟩,rfl⟩ ?_;clear I K;rw[aL] at hB;have hA:=hA.ext (by assumption:Ext w3 w4);refine aT [6] [] _ ah ?_;simp only[bP,aU,μ,ξ];(repeat (go_big_quiet_step (fail)));refine σ ?_;simp only[bQ,ρ,φ];(go_wp2_with fail);clear Y0 Y1 J R;have N:=P.trans G;clear P F G M;go_loopg [6,7] y.natAbs (fun gk av bv wr=>∃A n c B m d p,av=.slice A n c/\bv=.slice B m d/\RM wr A n c (cu p)/\RM wr B m d (cu gk)/\p<lim/\gk<lim/\Nat.gcd p gk=Nat.gcd x.natAbs y.natAbs/\Ext w4 wr)
 case atStart=>exact⟨_,_,_,_,_,_,x.natAbs,rfl,rfl,hA,hB,H,O,rfl,Ext.refl _⟩
 case round=>
  clear hA hB;obtain⟨A',n',c',B',C,d',p,rfl,rfl,hA,hB,hp,hq,hg,D⟩:=hrel;have WO:=hA.len;have WN:=hB.len;have WM:n'<=400:=by have:=jC hp;omega
  have WE:C<=400:=by have:=jC hq;omega
  have Xr:=kW WN;have HG:=aJ hg;clear hg WO WN;by_cases h0:0<C
  .have Xb:=Xr.1 h0;have WG:(0:Int)<(C:Int):=aa;have WS:=aJ (show Nat.gcd gk (p%gk)=Nat.gcd x.natAbs y.natAbs by rw[<-HG.o,aaJ p gk,aeC gk p,aaJ]);have WK:=q8 p Xb;(go_wp2_with fail);refine(yo A' B' n' C c' d' p gk _ hA hB Xb aa).mono ?_;rintro e w5 ⟨q,r,rfl,⟨Aq,nq,cq,rfl,hQ⟩,⟨Ar,nr,cr,rfl,hR⟩,WI⟩;have T:=hB.ext WI;have WV:nr<=400:=by have:=hR.len;have:=jC (abn WK hq);omega
   (go_wp2_with fail);refine(iB Ar nr cr _ _ hR aa).mono ?_;rintro e w6 ⟨v6,rfl,⟨A6,n6,c6,rfl,hT⟩,Q⟩;rw[aL] at hT;have j:=T.ext Q;go_wp2_with fail
   go_roundg (p%gk)
   case measure=>exact WK
   case rel=>exact⟨_,_,_,_,_,_,gk,rfl,rfl,j,hT,hq,abn WK hq,WS.o,D.trans (WI.trans Q)⟩
  .obtain rfl:C=0:=aa;obtain rfl:gk=0:=by
    exact AcY
   have Y:p=Nat.gcd x.natAbs y.natAbs:=by rw[<-HG.o,acK]
   have WS:=aJ Y;clear Y;(go_wp2_with fail);refine(iA ζ A' n' c' _ _ hA aa).mono ?_;rintro e w8 ⟨v8,rfl,W,Xh⟩;obtain⟨Z,hZ⟩:∃Z:Int,Z=(p:Int):=⟨_,rfl⟩;rw[aL,zz,<-hZ] at W;have HZ:=aJ hZ;clear hZ;obtain⟨A2,n2,c2,rfl,hI⟩:=W;have Xc:=N.trans (D.trans Xh);have b4:=lV Xc;have c4:=b4.cell;have f4:=b4.frozen;obtain⟨k1,V,k3⟩:=jq (fG Xc) aa b4 (decide (Z<0)) A2 n2 c2;exact AaD
def PW{cs:Array Value}{i v}(h:cs[i]? =γ v):cs.setIfInBounds i v=cs:=by
 apply Array.ext';simp only[Array.toList_setIfInBounds];have l:cs.toList[i]? =γ v:=by simpa using h
 obtain⟨j,e⟩:=ν.1 l;rw[<-e];exact List.set_getElem_self j
def Ext.stay{w0 w g i t cs v}(J:Ext w0 w)(hb:Blk w g t cs)(h:cs[i]? =γ v):Ext w0 (w.setCell ⟨g,i,δ⟩ v):=by
 refine⟨J.os,J.tape,J.output,by have:=J.size;simpa[World.setCell] using this,fun k l=> ?_⟩;by_cases j:k=g
 .subst j;have B:=hb.nL i v;rw[PW h] at B;have C:=J.block k l;rw[<-C];exact(show(w.setCell ⟨k,i,δ⟩ v).heap[k]? =γ (.cells cs t (0,0)) from B).trans (show w.heap[k]? =γ (.cells cs t (0,0)) from hb).symm
 .rw[ab3 w ⟨g,i,δ⟩ v k j];exact J.block k l
def RI.opn{w v z}(h:RI w v z):∃s A n c,v=iv s A n c/\RI w (iv s A n c) z:=by
 obtain⟨A,n,c,rfl,I⟩:=h;exact⟨_,A,n,c,rfl,A,n,c,rfl,I⟩
def qQ{w w' g C A0 n0 c0}(J:Ext w w')(B:w.heap.size<=g)(hb:Blk w' g 40 #[.bool C,.slice A0 n0 c0])(b A n c):
  Ext w ((w'.setCell ⟨g,0,δ⟩ (.bool b)).setCell ⟨g,1,δ⟩ (.slice A n c))/\Blk ((w'.setCell ⟨g,0,δ⟩ (.bool b)).setCell ⟨g,1,δ⟩ (.slice A n c)) g 40 #[.bool b,.slice A n c]/\∀v z,RI w' v z->RI ((w'.setCell ⟨g,0,δ⟩ (.bool b)).setCell ⟨g,1,δ⟩ (.slice A n c)) v z:=by
 obtain⟨j,V,D⟩:=jq J B hb b A n c;exact⟨j,V,fun v z ⟨A',n',c',F,l⟩=>⟨A',n',c',F,D _ _ _ _ l⟩⟩
abbrev gv (s1:Bool) (A1:Option Addr) (n1 c1:Nat) (s2:Bool) (A2:Option Addr) (n2 c2:Nat) (s3:Bool) (A3:Option Addr) (n3 c3:Nat):Value:=
 .agg #[.bool s1,.slice A1 n1 c1,.bool s2,.slice A2 n2 c2,.bool s3,.slice A3 n3 c3]
def RG (w:World) (v:Value) (a b d:Int):Prop:=
 ∃s1 A1 n1 c1 s2 A2 n2 c2 s3 A3 n3 c3,v=gv s1 A1 n1 c1 s2 A2 n2 c2 s3 A3 n3 c3/\RI w (iv s1 A1 n1 c1) a/\RI w (iv s2 A2 n2 c2) b/\RI w (iv s3 A3 n3 c3) d
def RG.ext{w w' v a b d}(h:RG w v a b d)(x:Ext w w'):RG w' v a b d:=by
 obtain⟨s1,A1,n1,c1,s2,A2,n2,c2,s3,A3,n3,c3,e,l,j,B⟩:=h;exact⟨s1,A1,n1,c1,s2,A2,n2,c2,s3,A3,n3,c3,e,l.ext x,j.ext x,B.ext x⟩
def Calm (w:World) (g:Nat):Prop:=Blk w g 197 #[.int .i64 0]
def Calm.ext{w w' g}(h:Calm w g)(x:Ext w w'):Calm w' g:=Blk.ext h x
def uB(g v z w)(hc:Calm w g)(L:RI w v z):
  CV 176 #[.pointer (γ ⟨g,0,δ⟩),v,.int .i64 0] w fun v w'=>RI w' v z:=by
 obtain⟨s,A,n,c,rfl,L⟩:=L.opn;have C:=Blk.cell hc;have l:=Blk.frozen hc;have j:Ext w (w.setCell ⟨g,0,δ⟩ (.int .i64 0)):=(Ext.refl w).stay hc rfl;have O:=hc.ext j;have D:=Blk.cell O;have B:g<w.heap.size:=Blk.lt hc;have J:=L.ext j;go_enter func176,ntmps176;(go_wp2_with fail);exact fC rfl rfl rfl (aeS _ _ Abh) ⟨_,rfl,J.ext ((Ext.new _ _).alloc _),j.trans ((Ext.new _ _).alloc _)⟩
def xm(v z w)(L:RI w v z):
  CE 144 #[v] w (.bool (decide (z=1))):=by
 obtain⟨A,n,c,rfl,J⟩:=L;have T:=J.len;generalize hs:decide (z<0)=s at*
 have c0:=(Blk.new w 40 #[.bool s,.slice A n c]).cell;cases s
 .by_cases O:n=1
  .subst O;obtain⟨I,x,rfl,hb,l,H,K⟩:=J.at_ (k:=0) aa;have C:z=(x:Int):=by
    have hd:cu z.natAbs=[x]:=by
     cases hq:cu z.natAbs with
     |nil=>rw[hq] at T;simp at T
     |cons a m=>
      rw[hq] at T l;simp at T l;rw[T,l]
    have hv:=aL z.natAbs;rw[hd] at hv;simp[val] at hv;have:=of_decide_eq_false hs;omega
   have j:=(Ext.new w (.cells #[.bool ζ,.slice (γ I) 1 c] 40)).cell_ K;have D:(w.alloc (.cells #[.bool ζ,.slice (γ I) 1 c] 40)).cell? I=γ (.int .u32 (x:Int)):=by
    have e:I.add 0=I:=by simp[Addr.add]
    rw[e] at j;exact j
   have B:=aJ C;clear C hs T;by_cases M:x=1
   .subst M;go_enter adS,adD;go_wp2;go_ret;exact⟨aS (by rw[B.o];rfl),Ext.new _ _⟩
   .have P:((x:Int)==1)=ζ:=ae;have N:¬(x:Int)=1:=aa;go_enter adS,adD;go_wp2;go_ret;exact⟨aS (by rw[B.o];simp;omega),Ext.new _ _⟩
  .have F:z≠1:=by
    intro e;subst e;have:cu (1:Int).natAbs=[1]:=by
     have e:(1:Int).natAbs=val [1]:=rfl;rw[e];exact FQ (Dig.one aj) (by intro x h;simp at h;omega)
    rw[this] at T;simp at T;omega
   have P:((n:Int)==1)=ζ:=ae;have N:¬(n:Int)=1:=aa;exact Aa9
 .have F:z≠1:=by have:=abj hs;omega
  exact Aa9
def lX(v z w)(L:RI w v z)(C:z.natAbs<lim):
  CV 169 #[v] w fun v w'=>RI w' v z:=by
 obtain⟨A,n,c,rfl,J⟩:=L;have hn:=J.kE C;have O:Hid (∀w' A' n' c',RM w' A' n' c' (cu z.natAbs)->RI w' (iv (decide (z<0)) A' n' c') z):=aJ (fun w' A' n' c' h=>⟨A',n',c',rfl,h⟩);generalize decide (z<0)=s at*
 have D:=(Ext.new w (.cells #[.bool s,.slice A n c] 40)).alloc (.cells #[.bool ζ,.slice δ 0 0] 40);have M:=aK.blk ((Blk.new w 40 #[.bool s,.slice A n c]).alloc (.cells #[.bool ζ,.slice δ 0 0] 40));go_enter func169,ntmps169;(go_wp2_with fail);refine bz 6 [(ε,0),(ε,1),(ε,2),(ε,3),(ζ,4),(ε,5)] ah ah ?_;refine aT [0,1,2,3] [(ζ,4),(ε,5)] _ ah ?_;simp only[bP,aU,μ,ξ];(repeat (go_big_quiet_step (fail)));refine σ ?_;refine aR 4 [(ε,5)] ah ?_;intro K I;simp only[aU];(go_wp2_with fail);refine(uh A n c _ _ ((J.ext D).ext (Ext.refl _).drew) aa).mono ?_;rintro e B ⟨v1,rfl,⟨A1,n1,c1,rfl,N⟩,F⟩;have F:=Ext.ji F;go_wp2;refine I _ _ ⟨⟨B,F⟩,rfl⟩ ?_;clear I K;refine aT [5] [] _ ah ?_;simp only[bP,aU,μ,ξ];(repeat (go_big_quiet_step (fail)));refine σ ?_;clear M;simp only[bQ,ρ,φ];have b4:=yE F;have c4:=b4.cell;have P:=b4.frozen;obtain⟨j,V,l⟩:=jq (oo F) aa b4 s A1 n1 c1;have G:=aJ j;have U:=aJ V;have H:=aJ (l _ _ _ _ N);clear j V l;go_wp2;exact fC rfl rfl rfl U.o ⟨_,rfl,O.o _ _ _ _ H.o,G.o⟩
def wR(g a b x y z w)(hc:Calm w g)(L:RI w a x)(l:RI w b y)(H:x.natAbs<lim)(O:y.natAbs<lim)(K:z=x+y)(C:z.natAbs<lim):
  CV 167 #[.pointer (γ ⟨g,0,δ⟩),a,b] w fun v w'=>RI w' v z:=by
 obtain⟨s,A,n,c,rfl,L⟩:=L.opn;obtain⟨t,B,m,d,rfl,l⟩:=l.opn;have Q:Hid (pQ (x+y)=(z,0)):=aJ (by rw[<-K];exact lK C);clear K;have D:=((Ext.new w (.cells #[.bool s,.slice A n c] 40)).alloc (.cells #[.bool t,.slice B m d] 40)).alloc (.cells #[.bool ζ,.slice δ 0 0] 40);go_enter func167,ntmps167;(go_wp2_with fail);refine(Vk _ _ x y _ (L.ext D) (l.ext D) H O).mono ?_;exact AaA
def LX(g a b x y z w)(hc:Calm w g)(L:RI w a x)(l:RI w b y)(H:x.natAbs<lim)(O:y.natAbs<lim)(K:z=x-y)(C:z.natAbs<lim):
  CV 175 #[.pointer (γ ⟨g,0,δ⟩),a,b] w fun v w'=>RI w' v z:=by
 obtain⟨s,A,n,c,rfl,L⟩:=L.opn;obtain⟨t,B,m,d,rfl,l⟩:=l.opn;have Q:Hid (pQ (x-y)=(z,0)):=aJ (by rw[<-K];exact lK C);clear K;have D:=((Ext.new w (.cells #[.bool s,.slice A n c] 40)).alloc (.cells #[.bool t,.slice B m d] 40)).alloc (.cells #[.bool ζ,.slice δ 0 0] 40);go_enter func175,ntmps175;(go_wp2_with fail);refine(Uz _ _ x y _ (L.ext D) (l.ext D) H O).mono ?_;exact AaA
def L6(g a x z w)(hc:Calm w g)(L:RI w a x)(H:x.natAbs<lim)(C:z= -x):
  CV 170 #[.pointer (γ ⟨g,0,δ⟩),a] w fun v w'=>RI w' v z:=by
 obtain⟨s,A,n,c,rfl,L⟩:=L.opn;have K:=aJ C;clear C;have D:=(Ext.new w (.cells #[.bool s,.slice A n c] 40)).alloc (.cells #[.bool ζ,.slice δ 0 0] 40);go_enter func170,ntmps170;(go_wp2_with fail);refine(UM _ x z _ (L.ext D) H K.o).mono ?_;rintro e w1 ⟨v1,rfl,⟨u1,rfl,J⟩,M⟩;(go_wp2_with fail);refine(uB g u1 z _ ((hc.ext D).ext M) J).mono ?_;rintro e w2 ⟨N,rfl,G,P⟩;obtain⟨s2,A2,n2,c2,rfl,G⟩:=G.opn;have j:=M.trans P;have b4:=yE j;have c4:=b4.cell;have O:=b4.frozen;obtain⟨l,V,B⟩:=qQ (oo j) aa b4 s2 A2 n2 c2;have F:=aJ l;have U:=aJ V;have I:=aJ (B _ _ G);clear l V B;go_wp2;exact fC rfl rfl rfl U.o ⟨_,rfl,I.o,F.o⟩
def iI(g a b x y z w)(hc:Calm w g)(L:RI w a x)(l:RI w b y)(H:x.natAbs<lim)(O:y.natAbs<lim)(hz:z=x*y)(C:z.natAbs<lim):
  CV 168 #[.pointer (γ ⟨g,0,δ⟩),a,b] w fun v w'=>RI w' v z:=by
 obtain⟨s,A,n,c,rfl,L⟩:=L.opn;obtain⟨t,B,m,d,rfl,l⟩:=l.opn;have Q:Hid (pQ (x*y)=(z,0)):=aJ (by rw[<-hz];exact lK C);have HZ:=aJ hz;clear hz;have D:=((Ext.new w (.cells #[.bool s,.slice A n c] 40)).alloc (.cells #[.bool t,.slice B m d] 40)).alloc (.cells #[.bool ζ,.slice δ 0 0] 40);go_enter func168,ntmps168;(go_wp2_with fail);refine(xm _ x _ (L.ext D)).mono ?_;rintro e w1 ⟨rfl,M⟩;have c0:=(iG M).cell;have c1:=(iQ M).cell;by_cases T:x=1
 .have K:decide (x=1)=ε:=by simpa using T
  have I:y=z:=by rw[HZ.o,T];omega
  have F:=aJ I;have H1:=aJ T;clear I T;rw[K];clear K;(go_wp2_with fail);refine(lX _ y _ (l.ext (fG M)) O).mono ?_;rintro e w2 ⟨v2,rfl,G,P⟩;rw[F.o] at G;exact Aaz
 .have K:decide (x=1)=ζ:=by simpa using T
  have H1:=aJ T;clear T;rw[K];clear K;(go_wp2_with fail);refine(xm _ y _ (l.ext (fG M))).mono ?_;rintro e w3 ⟨rfl,WF⟩;have M:=M.trans WF;clear c0 c1;have c0:=(iG M).cell;have c1:=(iQ M).cell;by_cases W:y=1
  .have K:decide (y=1)=ε:=by simpa using W
   have I:x=z:=by rw[HZ.o,W];omega
   have F:=aJ I;clear I W;rw[K];clear K;(go_wp2_with fail);refine(lX _ x _ (L.ext (fG M)) H).mono ?_;rintro e w2 ⟨v2,rfl,G,P⟩;rw[F.o] at G;exact Aaz
  .have K:decide (y=1)=ζ:=by simpa using W
   have H2:=aJ W;clear W;rw[K];clear K;(go_wp2_with fail);refine(Ux _ _ x y _ (L.ext (fG M)) (l.ext (fG M)) H O).mono ?_;rintro e w4 ⟨v4,rfl,j,N⟩;rw[Q.o] at j;obtain⟨u4,rfl,hI⟩:=j;have M:=M.trans N;(go_wp2_with fail);refine(uB g u4 z _ (hc.ext (fG M)) hI).mono ?_;rintro e w2 ⟨v2,rfl,G,P⟩;exact Aaz
def Own (w:World) (g:Nat):Prop:=w.heap.size<=g
def aeT{w w' g}(h:Ext w w')(j:w'.heap.size<=g):Own w g:=lh h.size j
abbrev pv (s1:Bool) (A1:Option Addr) (n1 c1:Nat) (s2:Bool) (A2:Option Addr) (n2 c2:Nat) (s3:Bool) (A3:Option Addr) (n3 c3:Nat) (s4:Bool) (A4:Option Addr) (n4 c4:Nat) (s5:Bool) (A5:Option Addr) (n5 c5:Nat) (s6:Bool) (A6:Option Addr) (n6 c6:Nat):Value:=
 .agg #[.bool s1,.slice A1 n1 c1,.bool s2,.slice A2 n2 c2,.bool s3,.slice A3 n3 c3,.bool s4,.slice A4 n4 c4,.bool s5,.slice A5 n5 c5,.bool s6,.slice A6 n6 c6]
def RP (w:World) (v:Value) (a b d x y z:Int):Prop:=
 ∃s1 A1 n1 c1 s2 A2 n2 c2 s3 A3 n3 c3 s4 A4 n4 c4 s5 A5 n5 c5 s6 A6 n6 c6,v=pv s1 A1 n1 c1 s2 A2 n2 c2 s3 A3 n3 c3 s4 A4 n4 c4 s5 A5 n5 c5 s6 A6 n6 c6/\RI w (iv s1 A1 n1 c1) a/\RI w (iv s2 A2 n2 c2) b/\RI w (iv s3 A3 n3 c3) d/\RI w (iv s4 A4 n4 c4) x/\RI w (iv s5 A5 n5 c5) y/\RI w (iv s6 A6 n6 c6) z
def RP.ext{w w' v a b d x y z}(h:RP w v a b d x y z)(e:Ext w w'):RP w' v a b d x y z:=by
 obtain⟨s1,A1,n1,c1,s2,A2,n2,c2,s3,A3,n3,c3,s4,A4,n4,c4,s5,A5,n5,c5,s6,A6,n6,c6,j,C,l,F,B,D,G⟩:=h;exact⟨s1,A1,n1,c1,s2,A2,n2,c2,s3,A3,n3,c3,s4,A4,n4,c4,s5,A5,n5,c5,s6,A6,n6,c6,j,C.ext e,l.ext e,F.ext e,B.ext e,D.ext e,G.ext e⟩
def RG.mk{w s1 s2 s3 A1 A2 A3 n1 c1 n2 c2 n3 c3 a b d}(l:RI w (iv s1 A1 n1 c1) a)(j:RI w (iv s2 A2 n2 c2) b)(B:RI w (iv s3 A3 n3 c3) d):RG w (gv s1 A1 n1 c1 s2 A2 n2 c2 s3 A3 n3 c3) a b d:=
 ⟨_,_,_,_,_,_,_,_,_,_,_,_,rfl,l,j,B⟩
def RP.mk{w s1 s2 s3 s4 s5 s6 A1 A2 A3 A4 A5 A6 n1 c1 n2 c2 n3 c3 n4 c4 n5 c5 n6 c6 a b d x y z}(B:RI w (iv s1 A1 n1 c1) a)(j:RI w (iv s2 A2 n2 c2) b)(D:RI w (iv s3 A3 n3 c3) d)(l:RI w (iv s4 A4 n4 c4) x)(C:RI w (iv s5 A5 n5 c5) y)(F:RI w (iv s6 A6 n6 c6) z):
  RP w (pv s1 A1 n1 c1 s2 A2 n2 c2 s3 A3 n3 c3 s4 A4 n4 c4 s5 A5 n5 c5 s6 A6 n6 c6) a b d x y z:=
 ⟨_,_,_,_,_,_,_,_,_,_,_,_,_,_,_,_,_,_,_,_,_,_,_,_,rfl,B,j,D,l,C,F⟩
inductive Fc where
 |any
 |ri (z:Int)
 |rg (a b d:Int)
 |rp (a b d x y z:Int)
 |reti (p:Int×Int)
 |retd (q r e:Int)
 |retg (a b d e:Int)
 |retp (a b d x y z e:Int)
 |box (t:TypeId) (cs:Array Value)
 |sl (t:TypeId) (n:Nat) (cs:Array Value)
 |eq (u:Value)
def Fc.holds:Fc->Nat->Nat->Value->World->Prop
 | .any,_,_,_,_=>True
 | .ri z,_,_,v,w=>RI w v z
 | .rg a b d,_,_,v,w=>RG w v a b d
 | .rp a b d x y z,_,_,v,w=>RP w v a b d x y z
 | .reti p,_,_,v,w=>nM p v w
 | .retd q r e,_,_,v,w=>Qj q r e v w
 | .retg a b d e,_,_,v,w=>∃u,v=.tuple #[u,.int .i64 e]/\RG w u a b d
 | .retp a b d x y z e,_,_,v,w=>∃u,v=.tuple #[u,.int .i64 e]/\RP w u a b d x y z
 | .box t cs,lo,hi,v,w=>v=.pointer (γ ⟨lo,0,δ⟩)/\lo<hi/\Blk w lo t cs
 | .sl t n cs,lo,hi,v,w=>v=.slice (γ ⟨lo,0,δ⟩) n n/\lo<hi/\Blk w lo t cs
 | .eq u,_,_,v,_=>v=u
def agf(f:Fc){lo hi v w w'}(h:f.holds lo hi v w)(x:Ext w w'):f.holds lo hi v w':=by
 cases f with
 |any=>trivial
 |ri z=>exact RI.ext h x
 |rg a b d=>exact RG.ext h x
 |rp a b d p q r=>exact RP.ext h x
 |reti p=>exact nM.ext h x
 |retd q r e=>obtain⟨a,b,l,j,B⟩:=h;exact⟨a,b,l,RI.ext j x,RI.ext B x⟩
 |retg a b d e=>obtain⟨u,l,j⟩:=h;exact⟨u,l,j.ext x⟩
 |retp a b d p q r e=>obtain⟨u,l,j⟩:=h;exact⟨u,l,j.ext x⟩
 |box t cs=>exact⟨h.1,h.2.1,h.2.2.ext x⟩
 |sl t n cs=>exact⟨h.1,h.2.1,h.2.2.ext x⟩
 |eq u=>exact h
def Ua:List (Nat×Fc)->Nat->Fc
 |[],_=> .any
 |p::r,i=>bif Nat.beq p.1 i then p.2 else Ua r i
def PM:List (Nat×Fc)->Nat->Bool
 |[],_=>ζ
 |p::r,i=>Nat.beq p.1 i||PM r i
def Fcs (l:List (Nat×Fc)):Nat->Nat->Nat->Value->World->Prop:=fun i lo hi v w=>(Ua l i).holds lo hi v w
def Qh(l):∀i lo hi v w w',Fcs l i lo hi v w->Ext w w'->Fcs l i lo hi v w':=fun _ _ _ _ _ _ h x=>agf _ h x
def puts (w:World) (g:Nat):Nat->List Value->World
 |_,[]=>w
 |i,v::r=>puts (w.setCell ⟨g,i,δ⟩ v) g (i+1) r
def fF (cs:Array Value):Nat->List Value->Array Value
 |_,[]=>cs
 |i,v::r=>fF (cs.setIfInBounds i v) (i+1) r
def kM (cs:Array Value):Bool:=cs.toList.all fun v=>match v with| .int _ _=>ζ|_=>ε
def sM{cs}(h:kM cs=ε):∀(j:Nat) (k:IntKind) (x:Int),cs[j]?≠γ (.int k x):=by
 intro j k x e;have l:(Value.int k x)∈cs.toList:=by
  have:cs.toList[j]? =γ (.int k x):=by simpa using e
  exact y7 this
 have:=nH.1 h _ l;simp at this
def fM(w g):∀(i:Nat) (B:List Value),Only g w (puts w g i B)
 |_,[]=>Only.refl _ _
 |i,v::r=>(Only.set w g i v).trans (fM _ g (i+1) r)
def gz{w0 g}(j:Own w0 g):∀(i:Nat) (B:List Value) {w:World},Ext w0 w->Ext w0 (puts w g i B)
 |_,[],_,h=>h
 |i,v::r,w,h=>gz j (i+1) r (show Ext w0 (w.setCell ⟨g,i,δ⟩ v) from h.setCell (by exact j) _)
def bY{g t}:∀(i:Nat) (B:List Value) {w:World} {cs:Array Value},Blk w g t cs->Blk (puts w g i B) g t (fF cs i B)
 |_,[],_,_,h=>h
 |i,v::r,_,_,h=>bY (i+1) r (h.nL i v)
def Pi{w w' w'' g t cs cs'}(i B)(J:Ext w w')(F:Own w g)(hb:Blk w' g t cs)(hn:kM cs=ε)(e:w''=puts w' g i B)(ec:fF cs i B=cs'):
  Ext w w''/\Blk w'' g t cs'/\(∀g2 t cs,g2≠g->Blk w' g2 t cs->Blk w'' g2 t cs)/\(∀v s l,RX w' v s l->RX w'' v s l)/\∀v z,RI w' v z->RI w'' v z:=by
 subst e;subst ec;have L:∀v s l,RX w' v s l->RX (puts w' g i B) v s l:=fun v s l ⟨A',n',c',D,C⟩=>⟨A',n',c',D,C.only (fM _ _ _ _) hb (sM hn)⟩;exact⟨gz F _ _ J,bY _ _ hb,fun g2 t cs j h=>(fM w' g i B).blk h j,L,fun v z h=>L _ _ _ h⟩
def Cf{w g s1 s2 s3 A1 A2 A3 n1 c1 n2 c2 n3 c3}(hb:Blk w g 42 #[.bool s1,.slice A1 n1 c1,.bool s2,.slice A2 n2 c2,.bool s3,.slice A3 n3 c3]):(loadVar 42 ⟨g,0,δ⟩).run prog w=.ok (gv s1 A1 n1 c1 s2 A2 n2 c2 s3 A3 n3 c3) w:=by
 have hc:=hb.cell;simp[go_sem,hc,gv]
def yH{w g s1 s2 s3 s4 s5 s6 A1 A2 A3 A4 A5 A6 n1 c1 n2 c2 n3 c3 n4 c4 n5 c5 n6 c6}(hb:Blk w g 44 #[.bool s1,.slice A1 n1 c1,.bool s2,.slice A2 n2 c2,.bool s3,.slice A3 n3 c3,.bool s4,.slice A4 n4 c4,.bool s5,.slice A5 n5 c5,.bool s6,.slice A6 n6 c6]):(loadVar 44 ⟨g,0,δ⟩).run prog w=.ok (pv s1 A1 n1 c1 s2 A2 n2 c2 s3 A3 n3 c3 s4 A4 n4 c4 s5 A5 n5 c5 s6 A6 n6 c6) w:=by
 have hc:=hb.cell;simp[go_sem,hc,pv]
section
variable {fn:Func} {R:Ending->World->Prop} {a:Act} {w:World} {t u g:Nat} {s1 s2 s3 s4 s5 s6:Bool} {A1 A2 A3 A4 A5 A6:Option Addr} {n1 c1 n2 c2 n3 c3 n4 c4 n5 c5 n6 c6:Nat}
def cO(l:fn.results= #[.cell t 42])(hd:a.defers=[])(hp:a.tmps[t]?.getD undef=.pointer (γ ⟨g,0,δ⟩))(hb:Blk w g 42 #[.bool s1,.slice A1 n1 c1,.bool s2,.slice A2 n2 c2,.bool s3,.slice A3 n3 c3])(j:R (.returned (gv s1 A1 n1 c1 s2 A2 n2 c2 s3 A3 n3 c3)) w):bodyPost prog fn R .ret a w:=aag (by simp[results,l,hp,asAddr,Cf hb]) hd j
def mF(l:fn.results= #[.cell t 42,.tmp u])(hd:a.defers=[])(hp:a.tmps[t]?.getD undef=.pointer (γ ⟨g,0,δ⟩))(hb:Blk w g 42 #[.bool s1,.slice A1 n1 c1,.bool s2,.slice A2 n2 c2,.bool s3,.slice A3 n3 c3])(j:R (.returned (.tuple #[gv s1 A1 n1 c1 s2 A2 n2 c2 s3 A3 n3 c3,a.tmps.getD u undef])) w):bodyPost prog fn R .ret a w:=aag (v:=.tuple #[gv s1 A1 n1 c1 s2 A2 n2 c2 s3 A3 n3 c3,a.tmps.getD u undef]) (by simp[results,l,hp,asAddr,Cf hb]) hd j
def JN(l:fn.results= #[.cell t 44])(hd:a.defers=[])(hp:a.tmps[t]?.getD undef=.pointer (γ ⟨g,0,δ⟩))(hb:Blk w g 44 #[.bool s1,.slice A1 n1 c1,.bool s2,.slice A2 n2 c2,.bool s3,.slice A3 n3 c3,.bool s4,.slice A4 n4 c4,.bool s5,.slice A5 n5 c5,.bool s6,.slice A6 n6 c6])(j:R (.returned (pv s1 A1 n1 c1 s2 A2 n2 c2 s3 A3 n3 c3 s4 A4 n4 c4 s5 A5 n5 c5 s6 A6 n6 c6)) w):bodyPost prog fn R .ret a w:=aag (by simp[results,l,hp,asAddr,yH hb]) hd j
def rW(l:fn.results= #[.cell t 44,.tmp u])(hd:a.defers=[])(hp:a.tmps[t]?.getD undef=.pointer (γ ⟨g,0,δ⟩))(hb:Blk w g 44 #[.bool s1,.slice A1 n1 c1,.bool s2,.slice A2 n2 c2,.bool s3,.slice A3 n3 c3,.bool s4,.slice A4 n4 c4,.bool s5,.slice A5 n5 c5,.bool s6,.slice A6 n6 c6])(j:R (.returned (.tuple #[pv s1 A1 n1 c1 s2 A2 n2 c2 s3 A3 n3 c3 s4 A4 n4 c4 s5 A5 n5 c5 s6 A6 n6 c6,a.tmps.getD u undef])) w):bodyPost prog fn R .ret a w:=aag (v:=.tuple #[pv s1 A1 n1 c1 s2 A2 n2 c2 s3 A3 n3 c3 s4 A4 n4 c4 s5 A5 n5 c5 s6 A6 n6 c6,a.tmps.getD u undef]) (by simp[results,l,hp,asAddr,yH hb]) hd j
end
def jW{lo hi C M:Nat}(l:lo<hi)(j:C<M)(h:hi<=C\/M<=lo):lo≠C:=aa
section
variable {w:World} {s1 s2 s3 s4 s5 s6:Bool} {A1 A2 A3 A4 A5 A6:Option Addr} {n1 c1 n2 c2 n3 c3 n4 c4 n5 c5 n6 c6:Nat} {a b d x y z e:Int}
def RG.inj(h:RG w (gv s1 A1 n1 c1 s2 A2 n2 c2 s3 A3 n3 c3) a b d):RI w (iv s1 A1 n1 c1) a/\RI w (iv s2 A2 n2 c2) b/\RI w (iv s3 A3 n3 c3) d:=by
 obtain⟨H,L,m1,J,D,B2,m2,F,G,K,I,d3,j,B,l,C⟩:=h;simp[gv] at j;obtain⟨rfl,⟨rfl,rfl,rfl⟩,rfl,⟨rfl,rfl,rfl⟩,rfl,rfl,rfl,rfl⟩:=j;exact⟨B,l,C⟩
def RG.at1(h:RG w (gv s1 A1 n1 c1 s2 A2 n2 c2 s3 A3 n3 c3) a b d):RI w (iv s1 A1 n1 c1) a:=h.inj.1
def RG.at2(h:RG w (gv s1 A1 n1 c1 s2 A2 n2 c2 s3 A3 n3 c3) a b d):RI w (iv s2 A2 n2 c2) b:=h.inj.2.1
def RG.at3(h:RG w (gv s1 A1 n1 c1 s2 A2 n2 c2 s3 A3 n3 c3) a b d):RI w (iv s3 A3 n3 c3) d:=h.inj.2.2
def RP.inj(h:RP w (pv s1 A1 n1 c1 s2 A2 n2 c2 s3 A3 n3 c3 s4 A4 n4 c4 s5 A5 n5 c5 s6 A6 n6 c6) a b d x y z):RI w (iv s1 A1 n1 c1) a/\RI w (iv s2 A2 n2 c2) b/\RI w (iv s3 A3 n3 c3) d/\RI w (iv s4 A4 n4 c4) x/\RI w (iv s5 A5 n5 c5) y/\RI w (iv s6 A6 n6 c6) z:=by
 obtain⟨R,V,m1,P,I,B2,m2,J,K,S,M,d3,N,B4,Z,W,t5,Y,U,T,O,j,L,Q,l,D,B,G,C,F,H⟩:=h;simp[pv] at l;obtain⟨rfl,⟨rfl,rfl,rfl⟩,rfl,⟨rfl,rfl,rfl⟩,rfl,⟨rfl,rfl,rfl⟩,rfl,⟨rfl,rfl,rfl⟩,rfl,⟨rfl,rfl,rfl⟩,rfl,rfl,rfl,rfl⟩:=l;exact⟨D,B,G,C,F,H⟩
def RP.at1(h:RP w (pv s1 A1 n1 c1 s2 A2 n2 c2 s3 A3 n3 c3 s4 A4 n4 c4 s5 A5 n5 c5 s6 A6 n6 c6) a b d x y z):RI w (iv s1 A1 n1 c1) a:=h.inj.1
def RP.at2(h:RP w (pv s1 A1 n1 c1 s2 A2 n2 c2 s3 A3 n3 c3 s4 A4 n4 c4 s5 A5 n5 c5 s6 A6 n6 c6) a b d x y z):RI w (iv s2 A2 n2 c2) b:=h.inj.2.1
def RP.at3(h:RP w (pv s1 A1 n1 c1 s2 A2 n2 c2 s3 A3 n3 c3 s4 A4 n4 c4 s5 A5 n5 c5 s6 A6 n6 c6) a b d x y z):RI w (iv s3 A3 n3 c3) d:=h.inj.2.2.1
def RP.at4(h:RP w (pv s1 A1 n1 c1 s2 A2 n2 c2 s3 A3 n3 c3 s4 A4 n4 c4 s5 A5 n5 c5 s6 A6 n6 c6) a b d x y z):RI w (iv s4 A4 n4 c4) x:=h.inj.2.2.2.1
def RP.at5(h:RP w (pv s1 A1 n1 c1 s2 A2 n2 c2 s3 A3 n3 c3 s4 A4 n4 c4 s5 A5 n5 c5 s6 A6 n6 c6) a b d x y z):RI w (iv s5 A5 n5 c5) y:=h.inj.2.2.2.2.1
def RP.at6(h:RP w (pv s1 A1 n1 c1 s2 A2 n2 c2 s3 A3 n3 c3 s4 A4 n4 c4 s5 A5 n5 c5 s6 A6 n6 c6) a b d x y z):RI w (iv s6 A6 n6 c6) z:=h.inj.2.2.2.2.2
def afb(h:∃u,Value.tuple #[pv s1 A1 n1 c1 s2 A2 n2 c2 s3 A3 n3 c3 s4 A4 n4 c4 s5 A5 n5 c5 s6 A6 n6 c6,.int .i64 e]=.tuple #[u,.int .i64 e]/\RP w u a b d x y z):RP w (pv s1 A1 n1 c1 s2 A2 n2 c2 s3 A3 n3 c3 s4 A4 n4 c4 s5 A5 n5 c5 s6 A6 n6 c6) a b d x y z:=by
 obtain⟨u,j,l⟩:=h;simp at j;exact j ▸ l
def agr(h:∃u,Value.tuple #[pv s1 A1 n1 c1 s2 A2 n2 c2 s3 A3 n3 c3 s4 A4 n4 c4 s5 A5 n5 c5 s6 A6 n6 c6,.int .i64 e]=.tuple #[u,.int .i64 e]/\RP w u a b d x y z):RI w (iv s1 A1 n1 c1) a:=(afb h).at1
def agn(h:∃u,Value.tuple #[pv s1 A1 n1 c1 s2 A2 n2 c2 s3 A3 n3 c3 s4 A4 n4 c4 s5 A5 n5 c5 s6 A6 n6 c6,.int .i64 e]=.tuple #[u,.int .i64 e]/\RP w u a b d x y z):RI w (iv s2 A2 n2 c2) b:=(afb h).at2
def agm(h:∃u,Value.tuple #[pv s1 A1 n1 c1 s2 A2 n2 c2 s3 A3 n3 c3 s4 A4 n4 c4 s5 A5 n5 c5 s6 A6 n6 c6,.int .i64 e]=.tuple #[u,.int .i64 e]/\RP w u a b d x y z):RI w (iv s3 A3 n3 c3) d:=(afb h).at3
def agq(h:∃u,Value.tuple #[pv s1 A1 n1 c1 s2 A2 n2 c2 s3 A3 n3 c3 s4 A4 n4 c4 s5 A5 n5 c5 s6 A6 n6 c6,.int .i64 e]=.tuple #[u,.int .i64 e]/\RP w u a b d x y z):RI w (iv s4 A4 n4 c4) x:=(afb h).at4
def ags(h:∃u,Value.tuple #[pv s1 A1 n1 c1 s2 A2 n2 c2 s3 A3 n3 c3 s4 A4 n4 c4 s5 A5 n5 c5 s6 A6 n6 c6,.int .i64 e]=.tuple #[u,.int .i64 e]/\RP w u a b d x y z):RI w (iv s5 A5 n5 c5) y:=(afb h).at5
def agp(h:∃u,Value.tuple #[pv s1 A1 n1 c1 s2 A2 n2 c2 s3 A3 n3 c3 s4 A4 n4 c4 s5 A5 n5 c5 s6 A6 n6 c6,.int .i64 e]=.tuple #[u,.int .i64 e]/\RP w u a b d x y z):RI w (iv s6 A6 n6 c6) z:=(afb h).at6
end
def iP{z}(j: -9223372036854775808<=z)(l:z<=9223372036854775807):z.natAbs<lim:=QO (k:=2) aa aj
theorem Wi:(0:Int).natAbs<lim:=by
 have:0<lim:=by unfold lim;exact NK aj
 simpa using this
abbrev Bk:Type:=Nat×TypeId×Array Value
abbrev Nm:Type:=Value×Bool×List Nat
abbrev nz (v:Value) (z:Int):Nm:=(v,decide (z<0),cu z.natAbs)
def apart (g:Nat):List Bk->Prop
 |[]=>True
 |p::r=>p.1≠g/\apart g r
def tX:List Bk->Prop
 |[]=>True
 |p::r=>apart p.1 r/\tX r
structure St (w W:World) (bs:List Bk) (fs:List Nm):Prop where
 ext:Ext w W
 blks:∀p∈bs,Blk W p.1 p.2.1 p.2.2
 nd:tX bs
 nums:∀q∈fs,RX W q.1 q.2.1 q.2.2
def Cc{g}:∀{bs:List Bk},(∀p∈bs,p.1≠g)->apart g bs
 |[],_=>trivial
 |p::r,h=>⟨h p ag,Cc (fun q hq=>h q (by simp[hq]))⟩
def yg{g}:∀{bs:List Bk},apart g bs->∀p∈bs,p.1≠g
 |[],_,p,hp=>by cases hp
 |q::r,h,p,hp=>by
  rcases pq.1 hp with e|e
  .subst e;exact h.1
  .exact yg h.2 p e
section
variable {w W W':World} {bs:List Bk} {fs:List Nm}
def aeX(w):St w w [] []:=⟨Ext.refl w,ag,trivial,ag⟩
def St.mv(h:St w W bs fs)(x:Ext W W'):St w W' bs fs:=⟨h.ext.trans x,fun p hp=>(h.blks p hp).ext x,h.nd,fun q hq=>(h.nums q hq).ext x⟩
def St.blk(h:St w W bs fs)(i:Nat){g:Nat}{t cs}(e:bs[i]? =γ (g,t,cs)):Blk W g t cs:=h.blks _ (y7 e)
def St.num(h:St w W bs fs)(i:Nat){v s l}(e:fs[i]? =γ (v,s,l)):RX W v s l:=h.nums _ (y7 e)
def St.aF{w W : World}{bs : List Bk}{fs : List Nm}(h : St w W bs fs)(i : Nat){v : Value}{s : Bool}{l : List Nat}(e : fs[i]? = γ (v, s, l) := by rfl): RX W v s l := h.num i e
def St.aH{w W : World}{bs : List Bk}{fs : List Nm}(h : St w W bs fs)(i : Nat){g : Nat}{t : TypeId}{cs : Array Value}(e : bs[i]? = γ (g, t, cs) := by rfl): Blk W g t cs := h.blk i e
def St.aD{w W W' : World}{bs : List Bk}{fs : List Nm}(h : St w W bs fs)(i : Nat)(x : Ext W W'){v : Value}{z : Int}(e : fs[i]? = γ (nz v z) := by rfl): RI W' v z := RI.ext (h.num i e) x
def St.lt(h:St w W bs fs):∀p∈bs,p.1<W.heap.size:=fun p hp=>(h.blks p hp).lt
def St.addN(h:St w W bs fs){v s l}(x:RX W v s l):St w W bs ((v,s,l)::fs):=
 ⟨h.ext,h.blks,h.nd,adB.2 ⟨x,h.nums⟩⟩
def St.less{b}(h:St w W (b::bs) fs):St w W bs fs:=⟨h.ext,fun p hp=>h.blks p (nG _ hp),h.nd.2,h.nums⟩
def St.one{f}(h:St w W bs (f::fs)):St w W bs [f]:=⟨h.ext,h.blks,h.nd,fun q hq=>by
 have e:=List.mem_singleton.1 hq;subst e;exact h.nums q ag⟩
def St.sel(h:St w W bs fs)(is:List Nat){j}(e:is.filterMap (fun i=>fs[i]?)=j):St w W bs j:=⟨h.ext,h.blks,h.nd,fun q hq=>by
 rw[<-e] at hq;obtain⟨i,_,hi⟩:=List.mem_filterMap.1 hq;exact h.nums q (y7 hi)⟩
def St.aV(h:St w W bs fs){v z}(x:RI W v z):St w W bs (nz v z::fs):=h.addN x
def St.xq(h:St w W bs fs){g t cs}(hb:Blk W g t cs)(ha:apart g bs):St w W ((g,t,cs)::bs) fs:=
 ⟨h.ext,adB.2 ⟨hb,h.blks⟩,⟨ha,h.nd⟩,h.nums⟩
def St.al(h:St w W bs fs)(t cs){g}(j:W.heap.size=g):St w (W.alloc (.cells cs t)) ((g,t,cs)::bs) fs:=
 St.xq (h.mv (Ext.new _ _)) (aeS _ _ j) (Cc fun p hp=>by have:=h.lt p hp;omega)
def zP:∀{bs:List Bk} {i j:Nat} {p q:Bk},tX bs->i≠j->bs[i]? =γ p->bs[j]? =γ q->p.1≠q.1
 |[],i,j,p,q,_,_,hi,_=>by simp at hi
 |b::r,0,0,p,q,_,h,_,_=>absurd rfl h
 |b::r,0,j+1,p,q,h,_,hi,hj=>by
  simp at hi hj;subst hi;exact(yg h.1 q (y7 hj)).symm
 |b::r,i+1,0,p,q,h,_,hi,hj=>by
  simp at hi hj;subst hj;exact yg h.1 p (y7 hi)
 |b::r,i+1,j+1,p,q,h,hne,hi,hj=>zP (bs:=r) (i:=i) (j:=j) h.2 aa (by simpa using hi) (by simpa using hj)
def CO{g}:∀{bs:List Bk} {i:Nat} {p:Bk} {cs:Array Value},bs[i]? =γ p->apart g bs->apart g (bs.set i (p.1,p.2.1,cs))
 |[],i,p,cs,h,_=>by simp at h
 |b::r,0,p,cs,h,ha=>by simp at h;subst h;exact ha
 |b::r,i+1,p,cs,h,ha=>⟨ha.1,CO Acj ha.2⟩
def I7:∀{bs:List Bk} {i:Nat} {p:Bk} {cs:Array Value},bs[i]? =γ p->tX bs->tX (bs.set i (p.1,p.2.1,cs))
 |[],i,p,cs,h,_=>by simp at h
 |b::r,0,p,cs,h,ha=>by simp at h;subst h;exact ha
 |b::r,i+1,p,cs,h,ha=>⟨CO Acj ha.1,I7 Acj ha.2⟩
def St.put(h:St w W bs fs)(i k:Nat){g:Nat}{t cs cs' bs'}(B)(e:bs[i]? =γ (g,t,cs))(J:Own w g)(hn:kM cs=ε)(l:W'=puts W g k B)(ec:fF cs k B=cs')(D:bs.set i (g,t,cs')=bs'):St w W' bs' fs:=by
 have hb:=h.blk i e;obtain⟨H,F,K,G,_⟩:=Pi k B h.ext J hb hn l ec;refine⟨H,fun p hp=> ?_,D ▸ I7 (p:=(g,t,cs)) e h.nd,fun q hq=>G _ _ _ (h.nums q hq)⟩;obtain⟨j,C⟩:=abQ hp;rw[<-D] at C;have T:i<bs.length:=(ν.1 e).1;by_cases L:i=j
 .subst L;rw[abF T] at C;injection C with C;subst C;exact F
 .rw[aao L] at C;exact K _ _ _ (fun I=>zP h.nd (fun h=>L h.symm) C e I) (h.blks p (y7 C))
end
def fE (zs:List Int):Nat:=zs.foldl (fun g z=>Nat.gcd g z.natAbs) 0
theorem NY{zs:List Int}{k}{z:Int}(h:zs[k]? =γ z):fE (zs.take (k+1))=Nat.gcd (fE (zs.take k)) z.natAbs:=by
 unfold fE;rw[acX,h,acY];rfl
def Hg:∀(zs:List Int),zs.foldl (fun g z=>Nat.gcd g z.natAbs) 1=1
 |[]=>rfl
 |z::zs=>by rw[List.foldl_cons,Nat.gcd_one_left];exact Hg zs
theorem Ow{zs k}(h:fE (zs.take k)=1):fE zs=1:=by
 have e:zs=zs.take k++zs.drop k:=(acr k zs).symm;rw[e];unfold fE at h⊢;rw[acY,h];exact Hg _
theorem Lj:0<lim:=by unfold lim;exact NK aj
def KU:∀(zs:List Int) (g:Nat),g<lim->(∀z∈zs,z.natAbs<lim)->zs.foldl (fun g z=>Nat.gcd g z.natAbs) g<lim
 |[],g,hg,_=>hg
 |z::zs,g,hg,h=>by
  rw[List.foldl_cons];refine KU zs _ ?_ (fun x J=>h x (nG _ J));rcases Be g with j|j
  .subst j;rw[Nat.gcd_zero_left];exact h z ag
  .exact Γ (Nat.gcd_le_left _ j) hg
def Mh{zs}(h:∀z∈zs,z.natAbs<lim):fE zs<lim:=KU zs 0 Lj h
def AP(g gs L zs cs w)(hc:Calm w g)(hb:Blk w gs 40 cs)(hL:zs.length=L)(K:L<=100)(R:∀j z,zs[j]? =γ z->z.natAbs<lim/\∃s A n c,cs[j*2]? =γ (.bool s)/\cs[j*2+1]? =γ (.slice A n c)/\RI w (iv s A n c) z):
  CV 145 #[.pointer (γ ⟨g,0,δ⟩),.slice (γ ⟨gs,0,δ⟩) L L] w fun v w'=>RI w' v (fE zs:Nat):=by
 have HL:=aJ hL;have HZ:=aJ R;clear hL R;have hS:=((aeX w).xq hc trivial).al 40 #[.bool ζ,.slice δ 0 0] (g:=w.heap.size) rfl;replace hS:=hS.al 40 #[.bool ζ,.slice δ 0 0] (g:=w.heap.size+1) ag;have o4:Own w w.heap.size:=κ _;have o5:Own w (w.heap.size+1):=acj _;have Q:=(hS.aH 0).cell;have V:=(hS.aH 0).frozen;go_enter func145,ntmps145;(go_wp2_with fail);clear Q V;generalize ((w.alloc (.cells #[.bool ζ,.slice δ 0 0] 40)).alloc (.cells #[.bool ζ,.slice δ 0 0] 40))=w1 at hS⊢;generalize w.heap.size+1=g5 at hS o5⊢;generalize w.heap.size=g4 at hS o4⊢;go_loopw [11] (fun i wr=>∃k:Nat,k<=L/\i=.int .i64 (k:Int)/\∃s A n c,St w wr [(g5,40,#[.bool s,.slice A n c]),(g4,40,#[.bool ζ,.slice δ 0 0]),(g,197,#[.int .i64 0])] [nz (iv s A n c) (fE (zs.take k):Nat)]) (fun i _=>L-(intOf i).toNat)
 case atStart=>
  exact⟨0,aa,rfl,ζ,δ,0,0,hS.aV (RI.zero _)⟩
 case round=>
  clear hS;obtain⟨k,hk,rfl,s5,A5,n5,c5,hS⟩:=hrel;by_cases Xl:k<L
  .have hq:=ο (l:=zs) (i:=k) (by rw[HL.o];exact Xl);obtain⟨z,R⟩:∃z,zs[k]? =γ z:=⟨_,hq⟩;clear hq;obtain⟨C,s6,A6,n6,c6,S,O,WO⟩:=HZ.o k z R;have B:=(hb.ext hS.ext).cell;have WP:=(B (k*2)).trans S;have Xx:=(B (k*2+1)).trans O;clear B S O;have HG:=aJ (NY R);have gl:(fE (zs.take k):Int).natAbs<lim:=Mh (fun x J=>by
    obtain⟨j,hj⟩:=abQ (adv J);exact(HZ.o j x hj).1)
   have XY:Hid (fE (zs.take k)=1->fE zs=1):=aJ Ow;clear R;replace hS:=hS.aV (WO.ext hS.ext);generalize fE (zs.take k)=G at*
   have e1:((k:Int)*2).toNat=k*2:=aa;have o7:Own w wr.heap.size:=aeT hS.ext (κ _);have hT:=hS.al 40 #[.bool ζ,.slice δ 0 0] (g:=wr.heap.size) rfl;have Q:=(hT.aH 0).cell;have V:=(hT.aH 0).frozen;clear hT;replace hS:=hS.al 40 #[.bool s6,.slice A6 n6 c6] (g:=wr.heap.size) rfl;have k3:=(hS.aH 1).cell;(go_wp2_with fail);clear Q V k3 WP Xx;generalize wr.alloc (.cells #[.bool s6,.slice A6 n6 c6] 40)=w2 at hS⊢;generalize wr.heap.size=g7 at hS o7⊢;refine(xm _ _ _ (hS.aF 1)).mono ?_;rintro e w3 ⟨rfl,F⟩;replace hS:=hS.mv F;clear F;by_cases U:(G:Int)=1
   .have T:decide ((G:Int)=1)=ε:=by simpa using U
    rw[T];have I:fE zs=1:=XY.o aa;have D:Hid ((G:Int)=(fE zs:Nat)):=aJ (by rw[I];exact U);clear T U I;have Q:=(hS.aH 1).cell;have V:=(hS.aH 2).cell;have k3:=(hS.aH 2).frozen;replace hS:=hS.put (W':=((w3.setCell ⟨g4,0,δ⟩ (.bool s5)).setCell ⟨g4,1,δ⟩ (.slice A5 n5 c5))) 2 0 [.bool s5,.slice A5 n5 c5] (cs':= #[.bool s5,.slice A5 n5 c5]) rfl o4 rfl rfl rfl rfl;go_wp2;rw[<-D.o];exact fC rfl rfl rfl (hS.aH 2) ⟨_,rfl,hS.aF 1,hS.ext⟩
   .have T:decide ((G:Int)=1)=ζ:=by simpa using U
    rw[T];clear T U;have Q:=(hS.aH 1).cell;have V:=(hS.aH 0).cell;(go_wp2_with fail);clear Q V;refine(U8 _ _ _ _ _ (hS.aF 1) (hS.aF 0) gl C).mono ?_;rintro e w4 ⟨v_,rfl,⟨M,rfl,H⟩,F⟩;replace hS:=hS.mv F;clear F;have P:RI w4 M ((Nat.gcd (G:Int).natAbs z.natAbs:Nat)):=H;have Xj:Hid (Nat.gcd (G:Int).natAbs z.natAbs=fE (zs.take (k+1))):=aJ HG.symm;rw[Xj.o] at P;clear H;(go_wp2_with fail);refine(uB g M _ _ (hS.aH 3) P).mono ?_;rintro e w5 ⟨v_,rfl,H,F⟩;replace hS:=hS.mv F;clear F P;obtain⟨Z,N,Y,W,rfl,P⟩:=RI.opn H;replace hS:=hS.aV P;clear H P;have Q:=(hS.aH 1).cell;have V:=(hS.aH 1).frozen;replace hS:=hS.put (W':=((w5.setCell ⟨g5,0,δ⟩ (.bool Z)).setCell ⟨g5,1,δ⟩ (.slice N Y W))) 1 0 [.bool Z,.slice N Y W] (cs':= #[.bool Z,.slice N Y W]) rfl o5 rfl rfl rfl rfl;go_wp2;go_roundw
    case rel=>
     refine⟨k+1,aa,au,Z,N,Y,W,?_⟩;exact St.one (St.less hS)
    case measure=>simp[intOf]<;>omega
  .obtain rfl:k=L:=aa;have D:Hid (fE (zs.take k)=fE zs):=aJ (by rw[ω (by rw[HL.o];exact κ _)]);rw[D.o] at hS;have Q:=(hS.aH 0).cell;have V:=(hS.aH 1).cell;have k3:=(hS.aH 1).frozen;replace hS:=hS.put (W':=((wr.setCell ⟨g4,0,δ⟩ (.bool s5)).setCell ⟨g4,1,δ⟩ (.slice A5 n5 c5))) 1 0 [.bool s5,.slice A5 n5 c5] (cs':= #[.bool s5,.slice A5 n5 c5]) rfl o4 rfl rfl rfl rfl;go_wp2;exact fC rfl rfl rfl (hS.aH 1) ⟨_,rfl,hS.aF 0,hS.ext⟩
def zW(g B)(x y z:Int)(w){s1 s2 A1 A2 n1 c1 n2 c2}(hc:Calm w g)(hb:Blk w B 40 #[.bool s1,.slice A1 n1 c1,.bool s2,.slice A2 n2 c2])(D:RI w (iv s1 A1 n1 c1) x)(C:RI w (iv s2 A2 n2 c2) y)(F:x.natAbs<lim)(G:y.natAbs<lim)(E:Hid (z=(fE [x,y]:Nat))):
  CV 145 #[.pointer (γ ⟨g,0,δ⟩),.slice (γ ⟨B,0,δ⟩) 2 2] w fun v w'=>RI w' v z:=by
 rw[E.o];refine AP g B 2 [x,y] _ w hc hb rfl aa (fun j u l=> ?_)
 match j,l with
 |0,l=>injection l with l;subst l;exact⟨F,_,_,_,_,rfl,rfl,D⟩
 |1,l=>injection l with l;subst l;exact⟨G,_,_,_,_,rfl,rfl,C⟩
def sS(g B)(x y t z:Int)(w){s1 s2 s3 A1 A2 A3 n1 c1 n2 c2 n3 c3}(hc:Calm w g)(hb:Blk w B 40 #[.bool s1,.slice A1 n1 c1,.bool s2,.slice A2 n2 c2,.bool s3,.slice A3 n3 c3])(D:RI w (iv s1 A1 n1 c1) x)(C:RI w (iv s2 A2 n2 c2) y)(G:RI w (iv s3 A3 n3 c3) t)(H:x.natAbs<lim)(I:y.natAbs<lim)(F:t.natAbs<lim)(E:Hid (z=(fE [x,y,t]:Nat))):
  CV 145 #[.pointer (γ ⟨g,0,δ⟩),.slice (γ ⟨B,0,δ⟩) 3 3] w fun v w'=>RI w' v z:=by
 rw[E.o];refine AP g B 3 [x,y,t] _ w hc hb rfl aa (fun j u l=> ?_)
 match j,l with
 |0,l=>injection l with l;subst l;exact⟨H,_,_,_,_,rfl,rfl,D⟩
 |1,l=>injection l with l;subst l;exact⟨I,_,_,_,_,rfl,rfl,C⟩
 |2,l=>injection l with l;subst l;exact⟨F,_,_,_,_,rfl,rfl,G⟩
def OM(g B)(x y t u z:Int)(w){s1 s2 s3 s4 A1 A2 A3 A4 n1 c1 n2 c2 n3 c3 n4 c4}(hc:Calm w g)(hb:Blk w B 40 #[.bool s1,.slice A1 n1 c1,.bool s2,.slice A2 n2 c2,.bool s3,.slice A3 n3 c3,.bool s4,.slice A4 n4 c4])(F:RI w (iv s1 A1 n1 c1) x)(C:RI w (iv s2 A2 n2 c2) y)(I:RI w (iv s3 A3 n3 c3) t)(D:RI w (iv s4 A4 n4 c4) u)(J:x.natAbs<lim)(K:y.natAbs<lim)(G:t.natAbs<lim)(H:u.natAbs<lim)(E:Hid (z=(fE [x,y,t,u]:Nat))):
  CV 145 #[.pointer (γ ⟨g,0,δ⟩),.slice (γ ⟨B,0,δ⟩) 4 4] w fun v w'=>RI w' v z:=by
 rw[E.o];refine AP g B 4 [x,y,t,u] _ w hc hb rfl aa (fun j q l=> ?_)
 match j,l with
 |0,l=>injection l with l;subst l;exact⟨J,_,_,_,_,rfl,rfl,F⟩
 |1,l=>injection l with l;subst l;exact⟨K,_,_,_,_,rfl,rfl,C⟩
 |2,l=>injection l with l;subst l;exact⟨G,_,_,_,_,rfl,rfl,I⟩
 |3,l=>injection l with l;subst l;exact⟨H,_,_,_,_,rfl,rfl,D⟩
def Ei{P:Program}{ops:Array Oper}{w0:World}{E:Nat->Bool}{Φ:Nat->Nat->Nat->Value->World->Prop}{Qt:Book->Act->Prop}{o:Oper}{l:List Oper}{k:Nat}{F:Book}{a:Act}{G:Value->World->Prop}{f:FuncId}{args:Array Value}{Q:Bool->Option Addr->Nat->Nat->Nat->Nat->Prop}(x:∀W,Kn ops w0 Φ k F W->Calls P f args W (fun e w'=>∃v,e=.returned v/\G v w'/\Ext W w'))(h:∀s A n c lo hi,Q s A n c lo hi)(t:(∀W,Kn ops w0 Φ k F W->Calls P f args W (fun e w'=>∃v,e=.returned v/\G v w'/\Ext W w'))->(∀s A n c lo hi,Q s A n c lo hi)->wpT P ops w0 E Φ Qt (o::l) k F a:=by
   intro x h;refine dJ (by rfl) (by rfl) (by rfl) ?_ ?_
   .intro W I;have y:=x W I;clear x h I;go_simp;exact⟨rfl,y.mono fun e w' ⟨v,O,hv,J⟩=>⟨v,O,J,hv⟩⟩
   .intro v lo hi B;obtain⟨W,j⟩:=B;obtain⟨s,A,n,c,rfl,-⟩:=RI.opn j.get;clear j W x;(try simp only[Act.put,nk,Ej,Ex]);exact h s A n c lo hi):wpT P ops w0 E Φ Qt (o::l) k F a:=t x h
def Eg{P:Program}{ops:Array Oper}{w0:World}{E:Nat->Bool}{Φ:Nat->Nat->Nat->Value->World->Prop}{Qt:Book->Act->Prop}{o:Oper}{l:List Oper}{k:Nat}{F:Book}{a:Act}{G:Value->World->Prop}{f:FuncId}{args:Array Value}{Q:Bool->Option Addr->Nat->Nat->Bool->Option Addr->Nat->Nat->Bool->Option Addr->Nat->Nat->Nat->Nat->Prop}(x:∀W,Kn ops w0 Φ k F W->Calls P f args W (fun e w'=>∃v,e=.returned v/\G v w'/\Ext W w'))(h:∀sa j na C M B nb L D H nd K lo hi,Q sa j na C M B nb L D H nd K lo hi)(t:(∀W,Kn ops w0 Φ k F W->Calls P f args W (fun e w'=>∃v,e=.returned v/\G v w'/\Ext W w'))->(∀sa j na C M B nb L D H nd K lo hi,Q sa j na C M B nb L D H nd K lo hi)->wpT P ops w0 E Φ Qt (o::l) k F a:=by
   intro x h;refine dJ (by rfl) (by rfl) (by rfl) ?_ ?_
   .intro W I;have y:=x W I;clear x h I;go_simp;exact⟨rfl,y.mono fun e w' ⟨v,O,hv,J⟩=>⟨v,O,J,hv⟩⟩
   .intro v lo hi R;obtain⟨W,N⟩:=R;obtain⟨sa,j,na,C,M,B,nb,L,D,H,nd,K,rfl,-,-,-⟩:=N.get;clear N W x;(try simp only[Act.put,nk,Ej,Ex]);exact h sa j na C M B nb L D H nd K lo hi):wpT P ops w0 E Φ Qt (o::l) k F a:=t x h
section
variable {w W w0:World} {bs:List Bk} {fs:List Nm} {Φ:Nat->Nat->Nat->Value->World->Prop} {F:Book} {p:Prop}
def St.aI(h:St w W bs fs)(I:dV w0 Φ F W)(i:Nat){v:Value}{lo hi:Nat}{z:Int}(l:F i=γ (v,lo,hi):=by rfl)(j:Φ i lo hi v W=RI W v z:=by rfl):St w W bs (nz v z::fs):=h.aV (j ▸ I.at_ i l)
section
variable {s1 s2 s3 s4 s5 s6:Bool} {A1 A2 A3 A4 A5 A6:Option Addr} {n1 n2 n3 n4 n5 n6 c1 c2 c3 c4 c5 c6:Nat}
def St.aG(h:St w W bs fs)(I:dV w0 Φ F W)(i:Nat){lo hi:Nat}{a b d:Int}(l:F i=γ (gv s1 A1 n1 c1 s2 A2 n2 c2 s3 A3 n3 c3,lo,hi):=by rfl)(j:Φ i lo hi (gv s1 A1 n1 c1 s2 A2 n2 c2 s3 A3 n3 c3) W=RG W (gv s1 A1 n1 c1 s2 A2 n2 c2 s3 A3 n3 c3) a b d:=by rfl):St w W bs (nz (iv s3 A3 n3 c3) d::nz (iv s2 A2 n2 c2) b::nz (iv s1 A1 n1 c1) a::fs):=
 have x:RG W _ a b d:=j ▸ I.at_ i l
 ((h.aV x.at1).aV x.at2).aV x.at3
def St.aP(h:St w W bs fs)(I:dV w0 Φ F W)(i:Nat){lo hi:Nat}{a b d x y z e:Int}(l:F i=γ (.tuple #[pv s1 A1 n1 c1 s2 A2 n2 c2 s3 A3 n3 c3 s4 A4 n4 c4 s5 A5 n5 c5 s6 A6 n6 c6,.int .i64 e],lo,hi):=by rfl)(j:Φ i lo hi (.tuple #[pv s1 A1 n1 c1 s2 A2 n2 c2 s3 A3 n3 c3 s4 A4 n4 c4 s5 A5 n5 c5 s6 A6 n6 c6,.int .i64 e]) W=∃u,Value.tuple #[pv s1 A1 n1 c1 s2 A2 n2 c2 s3 A3 n3 c3 s4 A4 n4 c4 s5 A5 n5 c5 s6 A6 n6 c6,.int .i64 e]=.tuple #[u,.int .i64 e]/\RP W u a b d x y z:=by rfl):St w W bs (nz (iv s6 A6 n6 c6) z::nz (iv s5 A5 n5 c5) y::nz (iv s4 A4 n4 c4) x::nz (iv s3 A3 n3 c3) d::nz (iv s2 A2 n2 c2) b::nz (iv s1 A1 n1 c1) a::fs):=
 have r:=afb (j ▸ I.at_ i l)
 (((((h.aV r.at1).aV r.at2).aV r.at3).aV r.at4).aV r.at5).aV r.at6
end
def St.aB(h:St w W bs fs)(I:dV w0 Φ F W)(i g:Nat){hi:Nat}{v:Value}{T:TypeId}{cs:Array Value}{r q:Prop}(ha:apart g bs)(l:F i=γ (v,g,hi):=by rfl)(j:Φ i g hi v W=(r/\q/\Blk W g T cs):=by rfl):St w W ((g,T,cs)::bs) fs:=h.xq (j ▸ I.at_ i l).2.2 ha
def St.pt(h:St w W bs fs)(i k:Nat)(B:List Value){g:Nat}{T:TypeId}{cs cs':Array Value}{W':World}{bs':List Bk}(j:Own w g)(e:bs[i]? =γ (g,T,cs):=by rfl)(hn:kM cs=ε:=by kernel_rfl)(l:puts W g k B=W':=by simp only[puts];first|done|rfl)(ec:fF cs k B=cs':=by simp only[fF,nk,Ej,Ex];first|done|rfl)(C:bs.set i (g,T,cs')=bs':=by simp only[Ej,Ex];first|done|rfl):St w W' bs' fs:=h.put i k B e j hn l.symm ec C
def gW{Q:World->Prop}(x:St w W bs fs)(h:∀W,St w W bs fs->Q W)(t:(∃W',W=W'/\St w W' bs fs)->(∀W,St w W bs fs->Q W)->p:=by
  intro x h;obtain⟨W',e,y⟩:=x;rw[e];exact h W' y):p:=t ⟨_,rfl,x⟩ h
def gA1{Q:World->Nat->Prop}(x:St w W bs fs)(j:TypeId)(c1:Array Value)(h:∀W',∀g1,Own w g1->St w W' ((g1,j,c1)::bs) fs->Q W' g1)(t:(∃W' g1,(W.alloc (.cells c1 j))=W'/\W.heap.size=g1/\Own w g1/\St w W' ((g1,j,c1)::bs) fs)->(∀W',∀g1,Own w g1->St w W' ((g1,j,c1)::bs) fs->Q W' g1)->p:=by
  intro x h;obtain⟨W',g1,e,l,o1,y⟩:=x;rw[e];(try rw[l]);exact h W' g1 o1 y):p:=
 t ⟨_,_,rfl,rfl,aeT x.ext ag,(St.al x j c1 ag)⟩ h
def gA2{Q:World->Nat->Nat->Prop}(x:St w W bs fs)(j:TypeId)(c1:Array Value)(l:TypeId)(c2:Array Value)(h:∀W',∀g1,Own w g1->∀g2,Own w g2->St w W' ((g2,l,c2)::(g1,j,c1)::bs) fs->Q W' g1 g2)(t:(∃W' g1 g2,((W.alloc (.cells c1 j)).alloc (.cells c2 l))=W'/\W.heap.size=g1/\Own w g1/\W.heap.size+1=g2/\Own w g2/\St w W' ((g2,l,c2)::(g1,j,c1)::bs) fs)->(∀W',∀g1,Own w g1->∀g2,Own w g2->St w W' ((g2,l,c2)::(g1,j,c1)::bs) fs->Q W' g1 g2)->p:=by
  intro x h;obtain⟨W',g1,g2,e,B,o1,D,C,y⟩:=x;rw[e];(try rw[D]);(try rw[B]);exact h W' g1 o1 g2 C y):p:=
 t ⟨_,_,_,rfl,rfl,aeT x.ext ag,rfl,aeT x.ext ag,(St.al (St.al x j c1 ag) l c2 ag)⟩ h
def gA3{Q:World->Nat->Nat->Nat->Prop}(x:St w W bs fs)(j:TypeId)(c1:Array Value)(l:TypeId)(c2:Array Value)(B:TypeId)(c3:Array Value)(h:∀W',∀g1,Own w g1->∀g2,Own w g2->∀g3,Own w g3->St w W' ((g3,B,c3)::(g2,l,c2)::(g1,j,c1)::bs) fs->Q W' g1 g2 g3)(t:(∃W' g1 g2 g3,(((W.alloc (.cells c1 j)).alloc (.cells c2 l)).alloc (.cells c3 B))=W'/\W.heap.size=g1/\Own w g1/\W.heap.size+1=g2/\Own w g2/\W.heap.size+2=g3/\Own w g3/\St w W' ((g3,B,c3)::(g2,l,c2)::(g1,j,c1)::bs) fs)->(∀W',∀g1,Own w g1->∀g2,Own w g2->∀g3,Own w g3->St w W' ((g3,B,c3)::(g2,l,c2)::(g1,j,c1)::bs) fs->Q W' g1 g2 g3)->p:=by
  intro x h;obtain⟨W',g1,g2,g3,e,G,o1,D,C,H,F,y⟩:=x;rw[e];(try rw[H]);(try rw[D]);(try rw[G]);exact h W' g1 o1 g2 C g3 F y):p:=
 t ⟨_,_,_,_,rfl,rfl,aeT x.ext ag,rfl,aeT x.ext ag,rfl,aeT x.ext ag,(St.al (St.al (St.al x j c1 ag) l c2 ag) B c3 ag)⟩ h
def gA4{Q:World->Nat->Nat->Nat->Nat->Prop}(x:St w W bs fs)(j:TypeId)(c1:Array Value)(l:TypeId)(c2:Array Value)(B:TypeId)(c3:Array Value)(C:TypeId)(c4:Array Value)(h:∀W',∀g1,Own w g1->∀g2,Own w g2->∀g3,Own w g3->∀g4,Own w g4->St w W' ((g4,C,c4)::(g3,B,c3)::(g2,l,c2)::(g1,j,c1)::bs) fs->Q W' g1 g2 g3 g4)(t:(∃W' g1 g2 g3 g4,((((W.alloc (.cells c1 j)).alloc (.cells c2 l)).alloc (.cells c3 B)).alloc (.cells c4 C))=W'/\W.heap.size=g1/\Own w g1/\W.heap.size+1=g2/\Own w g2/\W.heap.size+2=g3/\Own w g3/\W.heap.size+3=g4/\Own w g4/\St w W' ((g4,C,c4)::(g3,B,c3)::(g2,l,c2)::(g1,j,c1)::bs) fs)->(∀W',∀g1,Own w g1->∀g2,Own w g2->∀g3,Own w g3->∀g4,Own w g4->St w W' ((g4,C,c4)::(g3,B,c3)::(g2,l,c2)::(g1,j,c1)::bs) fs->Q W' g1 g2 g3 g4)->p:=by
  intro x h;obtain⟨W',g1,g2,g3,g4,e,I,o1,F,D,J,G,K,H,y⟩:=x;rw[e];(try rw[K]);(try rw[J]);(try rw[F]);(try rw[I]);exact h W' g1 o1 g2 D g3 G g4 H y):p:=
 t ⟨_,_,_,_,_,rfl,rfl,aeT x.ext ag,rfl,aeT x.ext ag,rfl,aeT x.ext ag,rfl,aeT x.ext ag,(St.al (St.al (St.al (St.al x j c1 ag) l c2 ag) B c3 ag) C c4 ag)⟩ h
def gA5{Q:World->Nat->Nat->Nat->Nat->Nat->Prop}(x:St w W bs fs)(j:TypeId)(c1:Array Value)(l:TypeId)(c2:Array Value)(B:TypeId)(c3:Array Value)(C:TypeId)(c4:Array Value)(D:TypeId)(c5:Array Value)(h:∀W',∀g1,Own w g1->∀g2,Own w g2->∀g3,Own w g3->∀g4,Own w g4->∀g5,Own w g5->St w W' ((g5,D,c5)::(g4,C,c4)::(g3,B,c3)::(g2,l,c2)::(g1,j,c1)::bs) fs->Q W' g1 g2 g3 g4 g5)(t:(∃W' g1 g2 g3 g4 g5,(((((W.alloc (.cells c1 j)).alloc (.cells c2 l)).alloc (.cells c3 B)).alloc (.cells c4 C)).alloc (.cells c5 D))=W'/\W.heap.size=g1/\Own w g1/\W.heap.size+1=g2/\Own w g2/\W.heap.size+2=g3/\Own w g3/\W.heap.size+3=g4/\Own w g4/\W.heap.size+4=g5/\Own w g5/\St w W' ((g5,D,c5)::(g4,C,c4)::(g3,B,c3)::(g2,l,c2)::(g1,j,c1)::bs) fs)->(∀W',∀g1,Own w g1->∀g2,Own w g2->∀g3,Own w g3->∀g4,Own w g4->∀g5,Own w g5->St w W' ((g5,D,c5)::(g4,C,c4)::(g3,B,c3)::(g2,l,c2)::(g1,j,c1)::bs) fs->Q W' g1 g2 g3 g4 g5)->p:=by
  intro x h;obtain⟨W',g1,g2,g3,g4,g5,e,L,o1,I,H,M,J,N,K,F,G,y⟩:=x;rw[e];(try rw[F]);(try rw[N]);(try rw[M]);(try rw[I]);(try rw[L]);exact h W' g1 o1 g2 H g3 J g4 K g5 G y):p:=
 t ⟨_,_,_,_,_,_,rfl,rfl,aeT x.ext ag,rfl,aeT x.ext ag,rfl,aeT x.ext ag,rfl,aeT x.ext ag,rfl,aeT x.ext ag,(St.al (St.al (St.al (St.al (St.al x j c1 ag) l c2 ag) B c3 ag) C c4 ag) D c5 ag)⟩ h
end
def an1(w:World)(j:TypeId)(c1:Array Value):Ext w (w.alloc (.cells c1 j))/\Blk (w.alloc (.cells c1 j)) w.heap.size j c1:=⟨(Ext.trans (Ext.refl w) (Ext.new _ _)),(aeS _ _ ag)⟩
def ah1(w:World)(j:TypeId)(c1:Array Value):Hid (Ext w (w.alloc (.cells c1 j)))/\Hid (Blk (w.alloc (.cells c1 j)) w.heap.size j c1):=⟨aJ (Ext.trans (Ext.refl w) (Ext.new _ _)),aJ (aeS _ _ ag)⟩
def an2(w:World)(j:TypeId)(c1:Array Value)(l:TypeId)(c2:Array Value):Ext w ((w.alloc (.cells c1 j)).alloc (.cells c2 l))/\Blk ((w.alloc (.cells c1 j)).alloc (.cells c2 l)) w.heap.size j c1/\Blk ((w.alloc (.cells c1 j)).alloc (.cells c2 l)) (w.heap.size+1) l c2:=⟨(Ext.trans (Ext.trans (Ext.refl w) (Ext.new _ _)) (Ext.new _ _)),(Blk.alloc (aeS _ _ ag) _),(aeS _ _ ag)⟩
def ah2(w:World)(j:TypeId)(c1:Array Value)(l:TypeId)(c2:Array Value):Hid (Ext w ((w.alloc (.cells c1 j)).alloc (.cells c2 l)))/\Hid (Blk ((w.alloc (.cells c1 j)).alloc (.cells c2 l)) w.heap.size j c1)/\Hid (Blk ((w.alloc (.cells c1 j)).alloc (.cells c2 l)) (w.heap.size+1) l c2):=⟨aJ (Ext.trans (Ext.trans (Ext.refl w) (Ext.new _ _)) (Ext.new _ _)),aJ (Blk.alloc (aeS _ _ ag) _),aJ (aeS _ _ ag)⟩
def an3(w:World)(j:TypeId)(c1:Array Value)(l:TypeId)(c2:Array Value)(B:TypeId)(c3:Array Value):Ext w (((w.alloc (.cells c1 j)).alloc (.cells c2 l)).alloc (.cells c3 B))/\Blk (((w.alloc (.cells c1 j)).alloc (.cells c2 l)).alloc (.cells c3 B)) w.heap.size j c1/\Blk (((w.alloc (.cells c1 j)).alloc (.cells c2 l)).alloc (.cells c3 B)) (w.heap.size+1) l c2/\Blk (((w.alloc (.cells c1 j)).alloc (.cells c2 l)).alloc (.cells c3 B)) (w.heap.size+2) B c3:=⟨(Ext.trans (Ext.trans (Ext.trans (Ext.refl w) (Ext.new _ _)) (Ext.new _ _)) (Ext.new _ _)),(Blk.alloc (Blk.alloc (aeS _ _ ag) _) _),(Blk.alloc (aeS _ _ ag) _),(aeS _ _ ag)⟩
def ah3(w:World)(j:TypeId)(c1:Array Value)(l:TypeId)(c2:Array Value)(B:TypeId)(c3:Array Value):Hid (Ext w (((w.alloc (.cells c1 j)).alloc (.cells c2 l)).alloc (.cells c3 B)))/\Hid (Blk (((w.alloc (.cells c1 j)).alloc (.cells c2 l)).alloc (.cells c3 B)) w.heap.size j c1)/\Hid (Blk (((w.alloc (.cells c1 j)).alloc (.cells c2 l)).alloc (.cells c3 B)) (w.heap.size+1) l c2)/\Hid (Blk (((w.alloc (.cells c1 j)).alloc (.cells c2 l)).alloc (.cells c3 B)) (w.heap.size+2) B c3):=⟨aJ (Ext.trans (Ext.trans (Ext.trans (Ext.refl w) (Ext.new _ _)) (Ext.new _ _)) (Ext.new _ _)),aJ (Blk.alloc (Blk.alloc (aeS _ _ ag) _) _),aJ (Blk.alloc (aeS _ _ ag) _),aJ (aeS _ _ ag)⟩
def an4(w:World)(j:TypeId)(c1:Array Value)(l:TypeId)(c2:Array Value)(B:TypeId)(c3:Array Value)(C:TypeId)(c4:Array Value):Ext w ((((w.alloc (.cells c1 j)).alloc (.cells c2 l)).alloc (.cells c3 B)).alloc (.cells c4 C))/\Blk ((((w.alloc (.cells c1 j)).alloc (.cells c2 l)).alloc (.cells c3 B)).alloc (.cells c4 C)) w.heap.size j c1/\Blk ((((w.alloc (.cells c1 j)).alloc (.cells c2 l)).alloc (.cells c3 B)).alloc (.cells c4 C)) (w.heap.size+1) l c2/\Blk ((((w.alloc (.cells c1 j)).alloc (.cells c2 l)).alloc (.cells c3 B)).alloc (.cells c4 C)) (w.heap.size+2) B c3/\Blk ((((w.alloc (.cells c1 j)).alloc (.cells c2 l)).alloc (.cells c3 B)).alloc (.cells c4 C)) (w.heap.size+3) C c4:=⟨(Ext.trans (Ext.trans (Ext.trans (Ext.trans (Ext.refl w) (Ext.new _ _)) (Ext.new _ _)) (Ext.new _ _)) (Ext.new _ _)),(Blk.alloc (Blk.alloc (Blk.alloc (aeS _ _ ag) _) _) _),(Blk.alloc (Blk.alloc (aeS _ _ ag) _) _),(Blk.alloc (aeS _ _ ag) _),(aeS _ _ ag)⟩
def ah4(w:World)(j:TypeId)(c1:Array Value)(l:TypeId)(c2:Array Value)(B:TypeId)(c3:Array Value)(C:TypeId)(c4:Array Value):Hid (Ext w ((((w.alloc (.cells c1 j)).alloc (.cells c2 l)).alloc (.cells c3 B)).alloc (.cells c4 C)))/\Hid (Blk ((((w.alloc (.cells c1 j)).alloc (.cells c2 l)).alloc (.cells c3 B)).alloc (.cells c4 C)) w.heap.size j c1)/\Hid (Blk ((((w.alloc (.cells c1 j)).alloc (.cells c2 l)).alloc (.cells c3 B)).alloc (.cells c4 C)) (w.heap.size+1) l c2)/\Hid (Blk ((((w.alloc (.cells c1 j)).alloc (.cells c2 l)).alloc (.cells c3 B)).alloc (.cells c4 C)) (w.heap.size+2) B c3)/\Hid (Blk ((((w.alloc (.cells c1 j)).alloc (.cells c2 l)).alloc (.cells c3 B)).alloc (.cells c4 C)) (w.heap.size+3) C c4):=⟨aJ (Ext.trans (Ext.trans (Ext.trans (Ext.trans (Ext.refl w) (Ext.new _ _)) (Ext.new _ _)) (Ext.new _ _)) (Ext.new _ _)),aJ (Blk.alloc (Blk.alloc (Blk.alloc (aeS _ _ ag) _) _) _),aJ (Blk.alloc (Blk.alloc (aeS _ _ ag) _) _),aJ (Blk.alloc (aeS _ _ ag) _),aJ (aeS _ _ ag)⟩
section
variable {w W:World} {Φ:Nat->Nat->Nat->Value->World->Prop} {F:Book}
def dV.lw(h:dV w Φ F W)(i:Nat){v:Value}{g hi:Nat}(j:F i=γ (v,g,hi):=by rfl):w.heap.size<=g:=h.low i _ j
def dV.hB(h:dV w Φ F W)(i:Nat){v:Value}{g hi:Nat}{T:TypeId}{cs:Array Value}{r q:Prop}(l:F i=γ (v,g,hi):=by rfl)(j:Φ i g hi v W=(r/\q/\Blk W g T cs):=by rfl):Hid (Blk W g T cs):=aJ (j ▸ h.at_ i l).2.2
def dV.nn(h:dV w Φ F W)(i j:Nat){v u:Value}{g g' hi M:Nat}(l:g<hi)(B:g'<M)(D:F i=γ (v,g,hi):=by rfl)(C:F j=γ (u,g',M):=by rfl)(hn:i≠j:=by decide):g≠g':=jW l B (h.disj i j _ _ hn D C)
end
def apF{bs:List Bk}{L g:Nat}(h:∀p∈bs,p.1<L)(l:L<=g):apart g bs:=Cc fun p hp=>ac8 (π (h p hp) l)
def tF{P:Program}{K:Nat}{Q:Exit->Act->World->Prop}{a:Act}{w:World}{l:List Oper}(n:Nat)(m:List (Nat×Fc)){q:Prop}(h:q)(t:q->wpT P l.toArray w (PM m) (Fcs m) (fun F a'=>∀w',dV w (Fcs m) F w'->wpList P l.toArray Q (l.drop n) a' w') (l.take n) 0 Book.none a:=by
   intro h;simp only[aaq,abm,ρ,φ];exact h)(j:P.follows .mixedOrders=ε:=by kernel_rfl)(B:Region.lexTailB .any l.toArray n=ε:=by kernel_rfl):(Code.region K l.toArray ε).wp P Q a w:=bK n (PM m) (Fcs m) (Qh _) j B (t h)
def LW(v z w)(L:RI w v z)(h:z=1):
  CE 144 #[v] w (.bool ε):=by
 have:=xm v z w L;rwa[show decide (z=1)=ε by simpa using h] at this
def UV(v z w)(L:RI w v z)(h:z≠1):
  CE 144 #[v] w (.bool ζ):=by
 have:=xm v z w L;rwa[show decide (z=1)=ζ by simpa using h] at this
def MR(v u x y q r w)(L:RI w v x)(l:RI w u y)(H:x.natAbs<lim)(O:y.natAbs<lim)(j:y≠0)(hq:q=x/y)(B:r=x%y):
  CV 195 #[v,u] w fun v w'=>Qj q r 0 v w':=by
 subst hq B;exact Ng v u x y w L l H O j
def xM(T v1 Y m2 w)(hc:Calm w T)(J:RI w v1 Y)(W:Y.natAbs<lim)(l2: -9223372036854775808<=m2)(u2:m2<=9223372036854775807)(l)(D:Hid (l=Y*(m2)))(F:l.natAbs<lim):
  CV 165 #[.pointer (γ ⟨T,0,δ⟩),v1,.int .i64 m2] w fun v w'=>RI w' v l:=by
 have hS:=aeX w;obtain⟨M,G,N,C,rfl,K⟩:=J.opn;replace hS:=hS.aV K;clear J K;replace hS:=hS.xq hc trivial;clear hc;go_enter func165,ntmps165;(go_wp2_with fail);refine gA2 hS 40 #[.bool M,.slice G N C] 40 #[.bool ζ,.slice δ 0 0] ?_;clear hS;intro w1 g4 o4 g6 o6 hS;have Y4:=aK.blk (hS.aH 1);have B:=hS.ext;refine tF 5 [(3,.ri ((m2))),(4,.ri (l))] ?_;refine Qs ?_;refine Ei (fun R I=>Bh (m2) _ l2 u2) ?_;intro WG O P Z Q L;refine Ei (fun R I=>iI T _ _ Y (m2) l _ (Blk.ext (hS.aH 2) I.1) (hS.aD 0 I.1) (I.f 3 ((iv WG O P Z),Q,L)) W (iP l2 u2) D.o F) ?_;intro V H U S Xk XT;refine bD ?_;intro w2 I;have j:=hS.lt;replace hS:=hS.mv I.ext;replace hS:=hS.aI I 3;replace hS:=hS.aI I 4;clear I j B Y4;have WF:=(hS.aH 0).cell;have WR:=(hS.aH 0).frozen;go_wp2;replace hS:=hS.pt 0 0 [.bool V,.slice H U S] o6;exact AaQ
def Oy(T v1 L v2 I w)(hc:Calm w T)(J:RI w v1 L)(W:L.natAbs<lim)(j:RI w v2 I)(WS:I.natAbs<lim)(H1:Hid (I=1)):
  CV 166 #[.pointer (γ ⟨T,0,δ⟩),v1,v2] w fun v w'=>RI w' v L:=by
 have hS:=aeX w;obtain⟨M,G,N,C,rfl,K⟩:=J.opn;replace hS:=hS.aV K;clear J K;obtain⟨V,Q,S,U,rfl,B⟩:=j.opn;replace hS:=hS.aV B;clear j B;replace hS:=hS.xq hc trivial;clear hc;have l:=(St.al (St.al (St.al hS 40 #[.bool M,.slice G N C] (g:=w.heap.size) ag) 40 #[.bool V,.slice Q S U] (g:=(w.heap.size+1)) ag) 40 #[.bool ζ,.slice δ 0 0] (g:=(w.heap.size+2)) ag);have R:=(l.aH 1).cell;go_enter func166,ntmps166;(go_wp2_with fail);clear R;clear l;refine gA3 hS 40 #[.bool M,.slice G N C] 40 #[.bool V,.slice Q S U] 40 #[.bool ζ,.slice δ 0 0] ?_;clear hS;intro w1 g4 o4 g5 o5 g6 o6 hS;refine(LW _ I _ (hS.aF 0) H1.o).mono ?_;rintro e w2 ⟨rfl,F⟩;replace hS:=hS.mv F;clear F;have P:=(hS.aH 2).cell;(go_wp2_with fail);clear P;refine(lX _ L _ (hS.aF 1) W).mono ?_;rintro e w3 ⟨v_,rfl,H,F⟩;replace hS:=hS.mv F;clear F;obtain⟨Y,O,Z,c13,rfl,D⟩:=RI.opn H;clear H;replace hS:=hS.aV D;clear D;have WY:=(hS.aH 0).cell;have W9:=(hS.aH 0).frozen;go_wp2;replace hS:=hS.pt 0 0 [.bool Y,.slice O Z c13] o6;exact AaQ
def Q5(T v1 x1 v2 x2 w)(hc:Calm w T)(J:RI w v1 x1)(W:x1.natAbs<lim)(Xe:RI w v2 x2)(WS:x2.natAbs<lim)(H1:Hid (x2≠1))(B)(WL:Hid (B=x1/x2))(WM:B.natAbs<lim)(WJ)(WK:Hid (WJ=x1%x2))(WU:Hid (x2≠0)):
  CV 166 #[.pointer (γ ⟨T,0,δ⟩),v1,v2] w fun v w'=>RI w' v B:=by
 have hS:=aeX w;obtain⟨M,G,N,C,rfl,K⟩:=J.opn;replace hS:=hS.aV K;clear J K;obtain⟨V,Q,S,U,rfl,WO⟩:=Xe.opn;replace hS:=hS.aV WO;clear Xe WO;replace hS:=hS.xq hc trivial;clear hc;have l:=(St.al (St.al (St.al hS 40 #[.bool M,.slice G N C] (g:=w.heap.size) ag) 40 #[.bool V,.slice Q S U] (g:=(w.heap.size+1)) ag) 40 #[.bool ζ,.slice δ 0 0] (g:=(w.heap.size+2)) ag);have WF:=(l.aH 1).cell;go_enter func166,ntmps166;(go_wp2_with fail);clear WF;clear l;refine gA3 hS 40 #[.bool M,.slice G N C] 40 #[.bool V,.slice Q S U] 40 #[.bool ζ,.slice δ 0 0] ?_;clear hS;intro w1 g4 o4 g5 o5 g6 o6 hS;refine(UV _ x2 _ (hS.aF 0) H1.o).mono ?_;rintro e w2 ⟨rfl,F⟩;replace hS:=hS.mv F;clear F;have WR:=(hS.aH 2).cell;have WY:=(hS.aH 1).cell;(go_wp2_with fail);clear WR WY;refine(MR _ _ x1 x2 B WJ _ (hS.aF 1) (hS.aF 0) W WS WU.o WL.o WK.o).mono ?_;rintro e w3 ⟨v_,rfl,H,F⟩;replace hS:=hS.mv F;clear F;obtain⟨_,_,rfl,j,D⟩:=H;obtain⟨WE,I,Y,P,rfl,O⟩:=RI.opn j;obtain⟨WH,R,WG,WI,rfl,L⟩:=RI.opn D;clear j D;replace hS:=hS.aV O;clear O;replace hS:=hS.aV L;clear L;have WP:=(St.al (St.al hS 40 #[.bool ζ,.slice δ 0 0] (g:=w3.heap.size) ag) 40 #[.bool ζ,.slice δ 0 0] (g:=(w3.heap.size+1)) ag);have W9:=(WP.aH 1).cell;have Xd:=(WP.aH 1).frozen;have Xc:=(St.al (St.al hS 40 #[.bool WE,.slice I Y P] (g:=w3.heap.size) ag) 40 #[.bool ζ,.slice δ 0 0] (g:=(w3.heap.size+1)) ag);have Xp:=(Xc.aH 0).cell;have Xr:=(Xc.aH 0).frozen;have Xh:=(St.al (St.al hS 40 #[.bool WE,.slice I Y P] (g:=w3.heap.size) ag) 40 #[.bool WH,.slice R WG WI] (g:=(w3.heap.size+1)) ag);have XU:=(Xh.aH 1).cell;(go_wp2_with fail);clear W9 Xd Xp Xr XU;clear WP Xc Xh;refine gA2 hS 40 #[.bool WE,.slice I Y P] 40 #[.bool WH,.slice R WG WI] ?_;clear hS;intro w4 g7 o7 g8 o8 hS;refine(uB T _ B _ (hS.aH 5) (hS.aF 1)).mono ?_;rintro e w5 ⟨v_,rfl,H,F⟩;replace hS:=hS.mv F;clear F;obtain⟨XL,Xg,XR,X7,rfl,Z⟩:=RI.opn H;clear H;replace hS:=hS.aV Z;clear Z;have XV:=(hS.aH 2).cell;have XE:=(hS.aH 2).frozen;go_wp2;replace hS:=hS.pt 2 0 [.bool XL,.slice Xg XR X7] o6;exact fC rfl rfl rfl (hS.aH 2) ⟨_,rfl,(hS.aF 0),hS.ext⟩
def jG{x y:Int}(H:x.natAbs<lim)(R:y∣x):(x/y).natAbs<lim:=by
 obtain⟨k,rfl⟩:=R;by_cases j:y=0
 .subst j;simpa using Lj
 .rw[abq _ j];rw[De] at H;exact Γ (abD _ aa) H
def fI(T a b x y z w)(hc:Calm w T)(L:RI w a x)(l:RI w b y)(H:x.natAbs<lim)(O:y.natAbs<lim)(R:y≠0)(hd:y∣x)(B:z=x/y):
  CV 166 #[.pointer (γ ⟨T,0,δ⟩),a,b] w fun v w'=>RI w' v z:=by
 by_cases j:y=1
 .have e:z=x:=by rw[B,j];omega
  rw[e];exact Oy T a x b y w hc L H l O (aJ j)
 .subst B;exact Q5 T a x b y w hc L H l O (aJ j) _ (aJ rfl) (jG H hd) _ (aJ rfl) (aJ R)
theorem zO{x}(h:x<0):sI x 0= -1:=by unfold sI;rw[ι h]
theorem wZ{x}(h:0<x):sI x 0=1:=by unfold sI;rw[θ aa,ι h]
def Fh(v x k w)(L:RI w v x)(H:x.natAbs<lim)(h:sI x 0=k):
  CE 143 #[v] w (.int .i64 k):=by
 have:=SN v x w L H;rwa[h] at this
def wQ(v x k w)(L:RI w v x)(H:x.natAbs<lim)(h:sI x 0=k):
  CE 99 #[v] w (.int .i64 k):=by
 have:=Og v x w L H;rwa[h] at this
def FW(T v1)(x1:Int)(v2)(x2:Int)(v3)(O:Int)(w)(hc:Calm w T)(J:RI w v1 x1)(W:x1.natAbs<lim)(Xe:RI w v2 x2)(WS:x2.natAbs<lim)(WV:RI w v3 O)(WT:O.natAbs<lim)(H1:Hid (O<0))(L:Int)(Xz:Hid (L=(fE [O,x1,x2]:Nat)))(WN:L.natAbs<lim)(WE:Int)(Xt:Hid (WE= -L))(Xn:WE.natAbs<lim)(Xi:Int)(Xv:Hid (Xi=x1/WE))(Yr:Xi.natAbs<lim)(XH:Hid (WE≠0))(WQ:Hid (WE∣x1))(WH:Int)(XA:Hid (WH=x2/WE))(XF:WH.natAbs<lim)(XC:Hid (WE≠0))(Xa:Hid (WE∣x2))(D:Int)(XI:Hid (D=O/WE))(YW:D.natAbs<lim)(XT:Hid (WE≠0))(WW:Hid (WE∣O)):
  CV 139 #[.pointer (γ ⟨T,0,δ⟩),v1,v2,v3] w fun v w'=>RG w' v Xi WH D:=by
 have hS:=aeX w;obtain⟨M,G,N,C,rfl,K⟩:=J.opn;replace hS:=hS.aV K;clear J K;obtain⟨V,Q,S,U,rfl,WO⟩:=Xe.opn;replace hS:=hS.aV WO;clear Xe WO;obtain⟨Y,WG,WI,Z,rfl,WZ⟩:=WV.opn;replace hS:=hS.aV WZ;clear WV WZ;replace hS:=hS.xq hc trivial;clear hc;have l:=(St.al (St.al (St.al (St.al hS 40 #[.bool M,.slice G N C] (g:=w.heap.size) ag) 40 #[.bool V,.slice Q S U] (g:=(w.heap.size+1)) ag) 40 #[.bool Y,.slice WG WI Z] (g:=(w.heap.size+2)) ag) 42 #[.bool ζ,.slice δ 0 0,.bool ζ,.slice δ 0 0,.bool ζ,.slice δ 0 0] (g:=(w.heap.size+3)) ag);have WF:=(l.aH 1).cell;have WR:=(l.aH 3).cell;have WY:=(l.aH 2).cell;go_enter func139,ntmps139;(go_wp2_with fail);clear WF WR WY;clear l;refine gA5 hS 40 #[.bool M,.slice G N C] 40 #[.bool V,.slice Q S U] 40 #[.bool Y,.slice WG WI Z] 42 #[.bool ζ,.slice δ 0 0,.bool ζ,.slice δ 0 0,.bool ζ,.slice δ 0 0] 40 #[.bool Y,.slice WG WI Z,.bool M,.slice G N C,.bool V,.slice Q S U] ?_;clear hS;intro w1 g5 o5 g6 o6 g7 o7 g8 o8 Xj YD hS;refine(sS T Xj O x1 x2 L _ (hS.aH 5) (hS.aH 0) (hS.aF 0) (hS.aF 2) (hS.aF 1) WT W WS Xz).mono ?_;rintro e w2 ⟨v_,rfl,H,F⟩;replace hS:=hS.mv F;clear F;obtain⟨WL,WJ,WK,WM,rfl,P⟩:=RI.opn H;clear H;replace hS:=hS.aV P;clear P;have WP:=(St.al hS 40 #[.bool ζ,.slice δ 0 0] (g:=w2.heap.size) ag);have W9:=(WP.aH 0).cell;have Xd:=(WP.aH 0).frozen;have Xc:=(St.al hS 40 #[.bool WL,.slice WJ WK WM] (g:=w2.heap.size) ag);have Xp:=(Xc.aH 3).cell;(go_wp2_with fail);clear W9 Xd Xp;clear WP Xc;refine gA1 hS 40 #[.bool WL,.slice WJ WK WM] ?_;clear hS;intro w3 g9 o9 hS;refine(Fh _ O (-1) _ (hS.aF 1) WT (zO H1.o)).mono ?_;rintro e w4 ⟨rfl,F⟩;replace hS:=hS.mv F;clear F;have Xr:=(hS.aH 0).cell;(go_wp2_with fail);clear Xr;refine(L6 T _ L WE _ (hS.aH 6) (hS.aF 0) WN Xt.o).mono ?_;rintro e w5 ⟨v_,rfl,H,F⟩;replace hS:=hS.mv F;clear F;obtain⟨Xm,Xb,Xf,Xl,rfl,WU⟩:=RI.opn H;clear H;replace hS:=hS.aV WU;clear WU;have XU:=(hS.aH 0).cell;have XV:=(hS.aH 0).frozen;have Xh:=hS.pt 0 0 [.bool Xm,.slice Xb Xf Xl] o9;have XE:=(Xh.aH 6).cell;(go_wp2_with fail);clear XU XV XE;clear Xh;replace hS:=hS.pt 0 0 [.bool Xm,.slice Xb Xf Xl] o9;refine gW hS ?_;clear hS;intro w6 hS;have Y9:=aK.blk (hS.aH 0);have Y7:=aK.blk (hS.aH 3);have Y6:=aK.blk (hS.aH 4);have Y5:=aK.blk (hS.aH 5);have B:=hS.ext;refine tF 13 [(3,.ri (Xi)),(7,.ri (WH)),(11,.ri (D))] ?_;refine Qs ?_;refine Ei (fun R I=>fI T _ _ x1 WE Xi _ (Blk.ext (hS.aH 6) I.1) (hS.aD 4 I.1) (hS.aD 0 I.1) W Xn XH.o WQ.o Xv.o) ?_;intro Xx Xk Xy Xw Yc Ya;refine Qs ?_;refine Ei (fun R I=>fI T _ _ x2 WE WH _ (Blk.ext (hS.aH 6) I.1) (hS.aD 3 I.1) (hS.aD 0 I.1) WS Xn XC.o Xa.o XA.o) ?_;intro XB Xq Xu XD Xo Xg;refine Qs ?_;refine Ei (fun R I=>fI T _ _ O WE D _ (Blk.ext (hS.aH 6) I.1) (hS.aD 2 I.1) (hS.aD 0 I.1) WT Xn XT.o WW.o XI.o) ?_;intro XP WX XR XO Yb Yd;refine Qs ?_;refine bD ?_;intro w7 I;have j:=hS.lt;replace hS:=hS.mv I.ext;replace hS:=hS.aI I 3;replace hS:=hS.aI I 7;replace hS:=hS.aI I 11;clear I j B Y9 Y7 Y6 Y5;have XJ:=(hS.aH 2).cell;have XK:=(hS.aH 2).frozen;exact AaV
def GJ(T v1)(x1:Int)(v2)(x2:Int)(v3)(O:Int)(w)(hc:Calm w T)(J:RI w v1 x1)(W:x1.natAbs<lim)(Xe:RI w v2 x2)(WS:x2.natAbs<lim)(WV:RI w v3 O)(WT:O.natAbs<lim)(H1:Hid (0<O))(L:Int)(Xz:Hid (L=(fE [O,x1,x2]:Nat)))(WN:L.natAbs<lim)(Xi:Int)(Xv:Hid (Xi=x1/L))(Yr:Xi.natAbs<lim)(XH:Hid (L≠0))(WQ:Hid (L∣x1))(WH:Int)(XA:Hid (WH=x2/L))(XF:WH.natAbs<lim)(XC:Hid (L≠0))(Xa:Hid (L∣x2))(D:Int)(XI:Hid (D=O/L))(YW:D.natAbs<lim)(XT:Hid (L≠0))(WW:Hid (L∣O)):
  CV 139 #[.pointer (γ ⟨T,0,δ⟩),v1,v2,v3] w fun v w'=>RG w' v Xi WH D:=by
 have hS:=aeX w;obtain⟨M,G,N,C,rfl,K⟩:=J.opn;replace hS:=hS.aV K;clear J K;obtain⟨V,Q,S,U,rfl,WO⟩:=Xe.opn;replace hS:=hS.aV WO;clear Xe WO;obtain⟨Y,WG,WI,Z,rfl,WZ⟩:=WV.opn;replace hS:=hS.aV WZ;clear WV WZ;replace hS:=hS.xq hc trivial;clear hc;have l:=(St.al (St.al (St.al (St.al hS 40 #[.bool M,.slice G N C] (g:=w.heap.size) ag) 40 #[.bool V,.slice Q S U] (g:=(w.heap.size+1)) ag) 40 #[.bool Y,.slice WG WI Z] (g:=(w.heap.size+2)) ag) 42 #[.bool ζ,.slice δ 0 0,.bool ζ,.slice δ 0 0,.bool ζ,.slice δ 0 0] (g:=(w.heap.size+3)) ag);have WF:=(l.aH 1).cell;have WR:=(l.aH 3).cell;have WY:=(l.aH 2).cell;go_enter func139,ntmps139;(go_wp2_with fail);clear WF WR WY;clear l;refine gA5 hS 40 #[.bool M,.slice G N C] 40 #[.bool V,.slice Q S U] 40 #[.bool Y,.slice WG WI Z] 42 #[.bool ζ,.slice δ 0 0,.bool ζ,.slice δ 0 0,.bool ζ,.slice δ 0 0] 40 #[.bool Y,.slice WG WI Z,.bool M,.slice G N C,.bool V,.slice Q S U] ?_;clear hS;intro w1 g5 o5 g6 o6 g7 o7 g8 o8 Xj YD hS;refine(sS T Xj O x1 x2 L _ (hS.aH 5) (hS.aH 0) (hS.aF 0) (hS.aF 2) (hS.aF 1) WT W WS Xz).mono ?_;rintro e w2 ⟨v_,rfl,H,F⟩;replace hS:=hS.mv F;clear F;obtain⟨WL,WJ,WK,WM,rfl,P⟩:=RI.opn H;clear H;replace hS:=hS.aV P;clear P;have WP:=(St.al hS 40 #[.bool ζ,.slice δ 0 0] (g:=w2.heap.size) ag);have W9:=(WP.aH 0).cell;have Xd:=(WP.aH 0).frozen;have Xc:=(St.al hS 40 #[.bool WL,.slice WJ WK WM] (g:=w2.heap.size) ag);have Xp:=(Xc.aH 3).cell;(go_wp2_with fail);clear W9 Xd Xp;clear WP Xc;refine gA1 hS 40 #[.bool WL,.slice WJ WK WM] ?_;clear hS;intro w3 g9 o9 hS;refine(Fh _ O (1) _ (hS.aF 1) WT (wZ H1.o)).mono ?_;rintro e w4 ⟨rfl,F⟩;replace hS:=hS.mv F;clear F;have Xr:=(hS.aH 6).cell;(go_wp2_with fail);clear Xr;have Y9:=aK.blk (hS.aH 0);have Y7:=aK.blk (hS.aH 3);have Y6:=aK.blk (hS.aH 4);have Y5:=aK.blk (hS.aH 5);have B:=hS.ext;refine tF 13 [(3,.ri (Xi)),(7,.ri (WH)),(11,.ri (D))] ?_;refine Qs ?_;refine Ei (fun R I=>fI T _ _ x1 L Xi _ (Blk.ext (hS.aH 6) I.1) (hS.aD 3 I.1) (hS.aD 0 I.1) W WN XH.o WQ.o Xv.o) ?_;intro Xx Xk Xy Xw Yc Ya;refine Qs ?_;refine Ei (fun R I=>fI T _ _ x2 L WH _ (Blk.ext (hS.aH 6) I.1) (hS.aD 2 I.1) (hS.aD 0 I.1) WS WN XC.o Xa.o XA.o) ?_;intro XB Xq Xu XD Xo Xg;refine Qs ?_;refine Ei (fun R I=>fI T _ _ O L D _ (Blk.ext (hS.aH 6) I.1) (hS.aD 1 I.1) (hS.aD 0 I.1) WT WN XT.o WW.o XI.o) ?_;intro XP WX XR XO Yb Yd;refine Qs ?_;refine bD ?_;intro w5 I;have j:=hS.lt;replace hS:=hS.mv I.ext;replace hS:=hS.aI I 3;replace hS:=hS.aI I 7;replace hS:=hS.aI I 11;clear I j B Y9 Y7 Y6 Y5;have XU:=(hS.aH 2).cell;have XV:=(hS.aH 2).frozen;exact AaV
theorem EC(a b d):fE [d,a,b]=g3 a b d:=by
 unfold fE g3;simp[aaJ]
def T9{a b d}(ha:a.natAbs<lim)(hb:b.natAbs<lim)(hd:d.natAbs<lim):g3 a b d<lim:=by
 rw[<-EC];refine Mh (fun z j=> ?_);simp at j;rcases j with rfl|rfl|rfl<;>assumption
theorem pG(T v1 I H l j O a b d w)(hc:Calm w T)(P:RI w v1 l)(L:RI w I j)(R:RI w H O)(F:l.natAbs<lim)(G:j.natAbs<lim)(C:O.natAbs<lim)(hd:O≠0)(E:(a,b,d)=nf l j O):
  CV 139 #[.pointer (γ ⟨T,0,δ⟩),v1,I,H] w fun v w'=>RG w' v a b d:=by
 obtain⟨K,J,d3⟩:=Jl l j O;have N:=Ep (a:=l) (b:=j) hd;have B:=T9 F G C;have S:(fE [O,l,j]:Int)=g3 l j O:=by rw[EC]
 unfold nf gZ sgZ at E;by_cases hn:O<0
 .rw[ι hn] at E;have U:(-1:Int)*(g3 l j O:Int)= -(g3 l j O:Int):=aa;rw[U] at E;injection E with M E;injection E with D Z;have n1: -(g3 l j O:Int)≠0:=aa;have q1: -(g3 l j O:Int)∣l:=ack.2 K;have q2: -(g3 l j O:Int)∣j:=ack.2 J;have Q: -(g3 l j O:Int)∣O:=ack.2 d3;exact FW T v1 l I j H O w hc P F L G R C (aJ hn) _ (aJ S.symm) (by simpa using B) _ (aJ rfl) (by simpa using B) a (aJ M) (by rw[M];exact jG F q1) (aJ n1) (aJ q1) b (aJ D) (by rw[D];exact jG G q2) (aJ n1) (aJ q2) d (aJ Z) (by rw[Z];exact jG C Q) (aJ n1) (aJ Q)
 .rw[θ hn,aeA] at E;injection E with M E;injection E with D Z;have n1:(g3 l j O:Int)≠0:=aa;exact GJ T v1 l I j H O w hc P F L G R C (aJ aa) _ (aJ S.symm) (by simpa using B) a (aJ M) (by rw[M];exact jG F K) (aJ n1) (aJ K) b (aJ D) (by rw[D];exact jG G J) (aJ n1) (aJ J) d (aJ Z) (by rw[Z];exact jG C d3) (aJ n1) (aJ d3)
def QV(T v1)(Xb Xa WZ:Int)(m2 v3)(YA YB L:Int)(m4 m5 w)(hc:Calm w T)(J:RG w v1 Xb Xa WZ)(X3:Xb.natAbs<lim)(XX:Xa.natAbs<lim)(U:WZ.natAbs<lim)(l2: -9223372036854775808<=m2)(u2:m2<=9223372036854775807)(WV:RG w v3 YA YB L)(ZF:YA.natAbs<lim)(ap:YB.natAbs<lim)(Yh:L.natAbs<lim)(l4: -9223372036854775808<=m4)(u4:m4<=9223372036854775807)(l5: -9223372036854775808<=m5)(u5:m5<=9223372036854775807)(K:Int)(bi:Hid (K=(fE [WZ,L]:Nat)))(Zd:K.natAbs<lim)(Xi:Int)(Xv:Hid (Xi=L/K))(Yr:Xi.natAbs<lim)(XH:Hid (K≠0))(WQ:Hid (K∣L))(C:Int)(Zw:Hid (C=Xi*(m2)))(Yj:C.natAbs<lim)(D:Int)(XI:Hid (D=WZ/K))(YW:D.natAbs<lim)(XT:Hid (K≠0))(WW:Hid (K∣WZ))(V:Int)(bw:Hid (V=D*(m4)))(Zh:V.natAbs<lim)(P:Int)(bg:Hid (P=Xb*C))(aw:P.natAbs<lim)(M:Int)(bn:Hid (M=YA*V))(ax:M.natAbs<lim)(S:Int)(Zr:Hid (S=P+M))(YL:S.natAbs<lim)(XB:Int)(cc:Hid (XB=Xa*C))(ZE:XB.natAbs<lim)(Xz:Int)(a3:Hid (Xz=YB*V))(Zy:Xz.natAbs<lim)(XA:Int)(bb:Hid (XA=XB+Xz))(Zi:XA.natAbs<lim)(XC:Int)(ca:Hid (XC=L/K))(a7:XC.natAbs<lim)(cb:Hid (K≠0))(ZK:Hid (K∣L))(Y:Int)(aG:Hid (Y=WZ*XC))(av:Y.natAbs<lim)(W:Int)(bq:Hid (W=Y*(m5)))(ZT:W.natAbs<lim)(a9:Hid (W≠0))(Xt Xu Xn:Int)(b0:Hid ((Xt,Xu,Xn)=nf S XA W))(ci:Xt.natAbs<lim)(cj:Xu.natAbs<lim)(cf:Xn.natAbs<lim):
  CV 128 #[.pointer (γ ⟨T,0,δ⟩),v1,.int .i64 m2,v3,.int .i64 m4,.int .i64 m5] w fun v w'=>RG w' v Xt Xu Xn:=by
 have hS:=aeX w;obtain⟨WM,WJ,WI,WL,WN,WO,WK,WH,WE,Q,O,WG,rfl,WT,WU,WS⟩:=J;replace hS:=hS.aV WT;clear WT;replace hS:=hS.aV WU;clear WU;replace hS:=hS.aV WS;clear WS;obtain⟨YC,YR,YU,YV,YF,YM,YN,YE,Yp,Yi,Yn,Yg,rfl,YG,YS,YT⟩:=WV;replace hS:=hS.aV YG;clear YG;replace hS:=hS.aV YS;clear YS;replace hS:=hS.aV YT;clear YT;replace hS:=hS.xq hc trivial;clear hc;have l:=(St.al (St.al (St.al hS 42 #[.bool WM,.slice WJ WI WL,.bool WN,.slice WO WK WH,.bool WE,.slice Q O WG] (g:=w.heap.size) ag) 42 #[.bool YC,.slice YR YU YV,.bool YF,.slice YM YN YE,.bool Yp,.slice Yi Yn Yg] (g:=(w.heap.size+1)) ag) 42 #[.bool ζ,.slice δ 0 0,.bool ζ,.slice δ 0 0,.bool ζ,.slice δ 0 0] (g:=(w.heap.size+2)) ag);have WF:=(l.aH 2).cell;have WR:=(l.aH 1).cell;go_enter func128,ntmps128;(go_wp2_with fail);clear WF WR;clear l;refine gA4 hS 42 #[.bool WM,.slice WJ WI WL,.bool WN,.slice WO WK WH,.bool WE,.slice Q O WG] 42 #[.bool YC,.slice YR YU YV,.bool YF,.slice YM YN YE,.bool Yp,.slice Yi Yn Yg] 42 #[.bool ζ,.slice δ 0 0,.bool ζ,.slice δ 0 0,.bool ζ,.slice δ 0 0] 40 #[.bool WE,.slice Q O WG,.bool Yp,.slice Yi Yn Yg] ?_;clear hS;intro w1 g7 o7 g9 o9 g12 Zg ba cl hS;refine(zW T ba WZ L K _ (hS.aH 4) (hS.aH 0) (hS.aF 3) (hS.aF 0) U Yh bi).mono ?_;rintro e w2 ⟨v_,rfl,H,F⟩;replace hS:=hS.mv F;clear F;obtain⟨cd,aq,bh,az,rfl,Yf⟩:=RI.opn H;clear H;replace hS:=hS.aV Yf;clear Yf;have WP:=(St.al hS 40 #[.bool ζ,.slice δ 0 0] (g:=w2.heap.size) ag);have WY:=(WP.aH 0).cell;have W9:=(WP.aH 0).frozen;(go_wp2_with fail);clear WY W9;clear WP;refine gA1 hS 40 #[.bool cd,.slice aq bh az] ?_;clear hS;intro w3 X9 ZL hS;have Zf:=aK.blk (hS.aH 0);have Y9:=aK.blk (hS.aH 3);have Y7:=aK.blk (hS.aH 4);have B:=hS.ext;refine tF 18 [(5,.ri (Xi)),(7,.ri (C)),(13,.ri (D)),(15,.ri (V)),(16,.box 40 #[.bool ζ,.slice δ 0 0]),(17,.box 40 #[.bool ζ,.slice δ 0 0])] ?_;refine Qs ?_;refine Ei (fun R I=>fI T _ _ L K Xi _ (Blk.ext (hS.aH 5) I.1) (hS.aD 1 I.1) (hS.aD 0 I.1) Yh Zd XH.o WQ.o Xv.o) ?_;intro Xx Xk Xy Xw Yc Ya;refine Qs ?_;refine Ei (fun R I=>xM T _ Xi (m2) _ (Blk.ext (hS.aH 5) I.1) (I.f 5 ((iv Xx Xk Xy Xw),Yc,Ya)) Yr l2 u2 C Zw Yj) ?_;intro Zl Yl Zj Zk YJ YI;refine Qs ?_;refine Ei (fun R I=>fI T _ _ WZ K D _ (Blk.ext (hS.aH 5) I.1) (hS.aD 4 I.1) (hS.aD 0 I.1) U Zd XT.o WW.o XI.o) ?_;intro XP WX XR XO Yb Yd;refine Qs ?_;refine Ei (fun R I=>xM T _ D (m4) _ (Blk.ext (hS.aH 5) I.1) (I.f 13 ((iv XP WX XR XO),Yb,Yd)) YW l4 u4 V bw Zh) ?_;intro bk ZG a4 a2 Xq Xl;refine Eb ?_;intro Xj XQ Z;refine Eb ?_;intro X5 YQ Yz;refine bD ?_;intro w4 I;have j:=hS.lt;replace hS:=hS.mv I.ext;replace hS:=hS.aI I 5;replace hS:=hS.aI I 7;replace hS:=hS.aI I 13;replace hS:=hS.aI I 15;have G:=I.lw 16;have YD:Own w Xj:=aeT B G;replace hS:=hS.aB I 16 Xj (apF j G);have N:=I.lw 17;have ZP:Own w X5:=aeT B N;replace hS:=hS.aB I 17 X5 ⟨I.nn 16 17 Z Yz,(apF j N)⟩;clear I j B Zf Y9 Y7;clear G Z XQ;clear N Yz YQ;have Xd:=(hS.aH 1).cell;have Xp:=(hS.aH 1).frozen;have Xc:=hS.pt 1 0 [.bool Zl,.slice Yl Zj Zk] YD;have Xr:=(Xc.aH 0).cell;have XU:=(Xc.aH 0).frozen;(go_wp2_with fail);clear Xd Xp Xr XU;clear Xc;replace hS:=(hS.pt 1 0 [.bool Zl,.slice Yl Zj Zk] YD).pt 0 0 [.bool bk,.slice ZG a4 a2] ZP;refine gW hS ?_;clear hS;intro w5 hS;have YX:=aK.blk (hS.aH 0);have Za:=aK.blk (hS.aH 1);have Y9:=aK.blk (hS.aH 5);have Y7:=aK.blk (hS.aH 6);have B:=hS.ext;refine tF 13 [(5,.ri (P)),(10,.ri (M)),(11,.ri (S)),(12,.box 40 #[.bool ζ,.slice δ 0 0])] ?_;refine Qs ?_;refine Ei (fun R I=>iI T _ _ Xb C P _ (Blk.ext (hS.aH 7) I.1) (hS.aD 10 I.1) (hS.aD 2 I.1) X3 Yj bg.o aw) ?_;intro be ad bA bm Yw Yx;refine Qs ?_;refine Ei (fun R I=>iI T _ _ YA V M _ (Blk.ext (hS.aH 7) I.1) (hS.aD 7 I.1) (hS.aD 0 I.1) ZF Zh bn.o ax) ?_;intro ZM Yy ZN ZO Z9 ZZ;refine Ei (fun R I=>wR T _ _ P M S _ (Blk.ext (hS.aH 7) I.1) (I.f 5 ((iv be ad bA bm),Yw,Yx)) (I.f 10 ((iv ZM Yy ZN ZO),Z9,ZZ)) aw ax Zr.o YL) ?_;intro Zq YK Zv Zt Ym Yk;refine Eb ?_;intro XN YP af;refine bD ?_;intro w6 I;have j:=hS.lt;replace hS:=hS.mv I.ext;replace hS:=hS.aI I 5;replace hS:=hS.aI I 10;replace hS:=hS.aI I 11;have X7:=I.lw 12;have a5:Own w XN:=aeT B X7;replace hS:=hS.aB I 12 XN (apF j X7);clear I j B YX Za Y9 Y7;clear X7 af YP;have XV:=(hS.aH 0).cell;have XE:=(hS.aH 0).frozen;(go_wp2_with fail);clear XV XE;replace hS:=hS.pt 0 0 [.bool Zq,.slice YK Zv Zt] a5;refine gW hS ?_;clear hS;intro w7 hS;have YX:=aK.blk (hS.aH 1);have Za:=aK.blk (hS.aH 2);have Y9:=aK.blk (hS.aH 6);have Y7:=aK.blk (hS.aH 7);have B:=hS.ext;refine tF 13 [(5,.ri (XB)),(10,.ri (Xz)),(11,.ri (XA)),(12,.box 40 #[.bool ζ,.slice δ 0 0])] ?_;refine Qs ?_;refine Ei (fun R I=>iI T _ _ Xa C XB _ (Blk.ext (hS.aH 8) I.1) (hS.aD 12 I.1) (hS.aD 5 I.1) XX Yj cc.o ZE) ?_;intro ay ZA bl bt ZR Zp;refine Qs ?_;refine Ei (fun R I=>iI T _ _ YB V Xz _ (Blk.ext (hS.aH 8) I.1) (hS.aD 9 I.1) (hS.aD 3 I.1) ap Zh a3.o Zy) ?_;intro bx ZX a0 XG XM XL;refine Ei (fun R I=>wR T _ _ XB Xz XA _ (Blk.ext (hS.aH 8) I.1) (I.f 5 ((iv ay ZA bl bt),ZR,Zp)) (I.f 10 ((iv bx ZX a0 XG),XM,XL)) ZE Zy bb.o Zi) ?_;intro a1 Zz bo XD ch cg;refine Eb ?_;intro Xg ai YO;refine bD ?_;intro w8 I;have j:=hS.lt;replace hS:=hS.mv I.ext;replace hS:=hS.aI I 5;replace hS:=hS.aI I 10;replace hS:=hS.aI I 11;have Yo:=I.lw 12;have bp:Own w Xg:=aeT B Yo;replace hS:=hS.aB I 12 Xg (apF j Yo);clear I j B YX Za Y9 Y7;clear Yo YO ai;have XJ:=(hS.aH 0).cell;have XK:=(hS.aH 0).frozen;(go_wp2_with fail);clear XJ XK;replace hS:=hS.pt 0 0 [.bool a1,.slice Zz bo XD] bp;refine gW hS ?_;clear hS;intro w9 hS;have Zf:=aK.blk (hS.aH 4);have Y9:=aK.blk (hS.aH 7);have Y7:=aK.blk (hS.aH 8);have B:=hS.ext;refine tF 13 [(8,.ri (XC)),(9,.ri (Y)),(11,.ri (W)),(12,.box 40 #[.bool ζ,.slice δ 0 0])] ?_;refine Qs ?_;refine Ei (fun R I=>fI T _ _ L K XC _ (Blk.ext (hS.aH 9) I.1) (hS.aD 11 I.1) (hS.aD 10 I.1) Yh Zd cb.o ZK.o ca.o) ?_;intro aP ZV a6 bj ZJ ZH;refine Ei (fun R I=>iI T _ _ WZ XC Y _ (Blk.ext (hS.aH 9) I.1) (hS.aD 14 I.1) (I.f 8 ((iv aP ZV a6 bj),ZJ,ZH)) U a7 aG.o av) ?_;intro a8 Z7 aE bV Z8 ac;refine Qs ?_;refine Ei (fun R I=>xM T _ Y (m5) _ (Blk.ext (hS.aH 9) I.1) (I.f 9 ((iv a8 Z7 aE bV),Z8,ac)) av l5 u5 W bq ZT) ?_;intro ZU YH ZW Zx ck ce;refine Eb ?_;intro Ze ZB Yu;refine bD ?_;intro XF I;have j:=hS.lt;replace hS:=hS.mv I.ext;replace hS:=hS.aI I 8;replace hS:=hS.aI I 9;replace hS:=hS.aI I 11;have X8:=I.lw 12;have ZQ:Own w Ze:=aeT B X8;replace hS:=hS.aB I 12 Ze (apF j X8);clear I j B Zf Y9 Y7;clear X8 Yu ZB;have X4:=(hS.aH 0).cell;have XW:=(hS.aH 0).frozen;have Xh:=hS.pt 0 0 [.bool ZU,.slice YH ZW Zx] ZQ;have XY:=(Xh.aH 10).cell;have Ye:=(Xh.aH 2).cell;have XZ:=(Xh.aH 1).cell;have X6:=(Xh.aH 0).cell;(go_wp2_with fail);clear X4 XW XY Ye XZ X6;clear Xh;replace hS:=hS.pt 0 0 [.bool ZU,.slice YH ZW Zx] ZQ;refine gW hS ?_;clear hS;intro Xf hS;refine(pG T _ _ _ S XA W Xt Xu Xn _ (hS.aH 10) (hS.aF 6) (hS.aF 3) (hS.aF 0) YL Zi ZT a9.o b0.o).mono ?_;rintro e Yq ⟨v_,rfl,H,F⟩;replace hS:=hS.mv F;clear F;obtain⟨ao,YZ,Zm,ZI,Zo,YY,ar,am,ZY,Zc,Zn,ZC,rfl,Xe,Xm,Xo⟩:=H;replace hS:=hS.aV Xe;clear Xe;replace hS:=hS.aV Xm;clear Xm;replace hS:=hS.aV Xo;clear Xo;have Yv:=(hS.aH 7).cell;have Yt:=(hS.aH 7).frozen;go_wp2;replace hS:=hS.pt 7 0 [.bool ao,.slice YZ Zm ZI,.bool Zo,.slice YY ar am,.bool ZY,.slice Zc Zn ZC] Zg;exact cO rfl rfl rfl (hS.aH 7) ⟨_,rfl,RG.mk (hS.aF 2) (hS.aF 1) (hS.aF 0),hS.ext⟩
theorem bE{z:Int}{n}(h:z.natAbs<2^n)(hn:n<=12800):z.natAbs<lim:=by
 refine π h ?_;have e:lim=2^(32*NT):=by unfold lim;rw[Nat.pow_mul]
 rw[e];exact Ab aa (by unfold NT;omega)
def xU{z a:Int}{n}(ha:a≠0)(h:z∣a)(hn:a.natAbs<2^n):z.natAbs<2^n:=
 Γ (Nat.le_of_dvd aa (ado.2 h)) hn
def fJ{a z q:Int}{n}(j:z≠0)(h:a=z*q)(hn:a.natAbs<2^n):q.natAbs<2^n:=by
 rw[h,De] at hn;exact Γ (abD _ aa) hn
def fD{a z q:Int}(j:z≠0)(h:a=z*q):q=a/z:=by rw[h,abq _ j]
def rX{a b}(hb:b≠0):∃z p q:Int,z=(fE [a,b]:Nat)/\z≠0/\a=z*p/\b=z*q:=by
 have e:fE [a,b]=Nat.gcd a.natAbs b.natAbs:=by simp[fE]
 have l:((fE [a,b]:Nat):Int)∣a:=by rw[e];exact aad.2 (D5 _ _)
 have j:((fE [a,b]:Nat):Int)∣b:=by rw[e];exact aad.2 (aal _ _)
 have B:0<fE [a,b]:=by rw[e];exact Nat.gcd_pos_of_pos_right _ aa
 obtain⟨p,hp⟩:=l;obtain⟨q,hq⟩:=j;exact⟨_,p,q,rfl,aa,hp,hq⟩
def r9{a b c}(ha:a≠0):∃z p q r:Int,z=(fE [a,b,c]:Nat)/\z≠0/\a=z*p/\b=z*q/\c=z*r:=by
 have e:fE [a,b,c]=Nat.gcd (Nat.gcd a.natAbs b.natAbs) c.natAbs:=by simp[fE]
 have B:((fE [a,b,c]:Nat):Int)∣a:=by rw[e];exact aad.2 (aae (D5 _ _) (D5 _ _))
 have j:((fE [a,b,c]:Nat):Int)∣b:=by rw[e];exact aad.2 (aae (D5 _ _) (aal _ _))
 have d3:((fE [a,b,c]:Nat):Int)∣c:=by rw[e];exact aad.2 (aal _ _)
 have C:0<fE [a,b,c]:=by rw[e];exact abw _ (abw _ aa)
 obtain⟨p,hp⟩:=B;obtain⟨q,hq⟩:=j;obtain⟨r,l⟩:=d3;exact⟨_,p,q,r,rfl,aa,hp,hq,l⟩
def jr{A B D a b d n}(j:D≠0)(E:(a,b,d)=nf A B D)(ha:A.natAbs<2^n)(hb:B.natAbs<2^n)(hd:D.natAbs<2^n):Sz n a b d:=by
 have h:=Le (a:=A) (b:=B) j;rw[<-E] at h;exact⟨Γ h.1 ha,Γ h.2.1 hb,Γ h.2.2 hd⟩
def Sz.qA{n a b d}(h:Sz n a b d)(hn:n<=12800):a.natAbs<lim/\b.natAbs<lim/\d.natAbs<lim:=⟨bE h.a hn,bE h.b hn,bE h.d hn⟩
def Co{m}(j: -9223372036854775808<=m)(l:m<=9223372036854775807):m.natAbs<2^64:=by
 have:(2:Nat)^64=18446744073709551616:=aj;omega
def Nk(T v1 v3 a b d j a' b' d' k m u v t n w)(hc:Calm w T)(L:RG w v1 a b d)(l:RG w v3 a' b' d')(sx:Sz n a b d)(sy:Sz n a' b' d')(hn:n+n+65<=12800)(hd:d≠0)(hd':d'≠0)(hm:m≠0)(B: -9223372036854775808<=j)(C:j<=9223372036854775807)(k1: -9223372036854775808<=k)(V:k<=9223372036854775807)(m1: -9223372036854775808<=m)(m2:m<=9223372036854775807)(E:(u,v,t)=nf (j*a*d'+k*a'*d) (j*b*d'+k*b'*d) (d*d'*m)):
  CV 128 #[.pointer (γ ⟨T,0,δ⟩),v1,.int .i64 j,v3,.int .i64 k,.int .i64 m] w fun x w'=>RG w' x u v t:=by
 obtain⟨g,r,p,hg,N,K,Z⟩:=rX (a:=d) (b:=d') hd';have bp:p.natAbs<2^n:=fJ N Z sy.d;have br:r.natAbs<2^n:=fJ N K sx.d;have bg:g.natAbs<2^n:=xU hd ⟨r,K⟩ sx.d;have W:=Co B C;have bk:=Co k1 V;have Y:=Co m1 m2;have F:=bI bp W;have J:=bI br bk;have M:=iX (bI sx.a F) (n:=n+n+64) aa;have Q:=iX (bI sy.a J) (n:=n+n+64) aa;have P:=iX (bI sx.b F) (n:=n+n+64) aa;have G:=iX (bI sy.b J) (n:=n+n+64) aa;have U:=jg M Q;have I:=jg P G;have R:=bI sx.d bp;have S:=bI R Y;have H:d*p*m≠0:=qa (qa hd (by intro h;rw[h] at Z;simp at Z;exact hd' Z)) hm;have E':(u,v,t)=nf (a*(p*j)+a'*(r*k)) (b*(p*j)+b'*(r*k)) (d*p*m):=by
  rw[E];refine oG (qa (qa hd hd') hm) H ?_ ?_
  .rw[Z];generalize hD:d=D at*;subst K;grind
  .rw[Z];generalize hD:d=D at*;subst K;grind
 have sz:=jr (n:=n+n+65) H E' U I (iX S aa);obtain⟨x1,x2,O⟩:=sx.qA aa;obtain⟨y1,y2,y3⟩:=sy.qA aa;obtain⟨s1,s2,s3⟩:=sz.qA hn;exact QV T v1 a b d j v3 a' b' d' k m w hc L x1 x2 O B C l y1 y2 y3 k1 V m1 m2 g (aJ hg) (bE bg aa)
  p (aJ (fD N Z)) (bE bp aa) (aJ N) (aJ ⟨p,Z⟩) _ (aJ rfl) (bE F aa)
  r (aJ (fD N K)) (bE br aa) (aJ N) (aJ ⟨r,K⟩) _ (aJ rfl) (bE J aa)
  _ (aJ rfl) (bE M aa) _ (aJ rfl) (bE Q aa) _ (aJ rfl) (bE U aa)
  _ (aJ rfl) (bE P aa) _ (aJ rfl) (bE G aa) _ (aJ rfl) (bE I aa)
  p (aJ (fD N Z)) (bE bp aa) (aJ N) (aJ ⟨p,Z⟩) _ (aJ rfl) (bE R aa) _ (aJ rfl) (bE S aa) (aJ H) u v t (aJ E') s1 s2 s3
def Ao(T v1)(Xb Xa WZ:Int)(v2)(XB XD XC:Int)(w)(hc:Calm w T)(J:RG w v1 Xb Xa WZ)(X3:Xb.natAbs<lim)(XX:Xa.natAbs<lim)(U:WZ.natAbs<lim)(Xe:RG w v2 XB XD XC)(YX:XB.natAbs<lim)(YU:XD.natAbs<lim)(YT:XC.natAbs<lim)(Y:Int)(YO:Hid (Y=(fE [XC,Xb,Xa]:Nat)))(Za:Y.natAbs<lim)(C:Int)(Zw:Hid (C=(fE [WZ,XB,XD]:Nat)))(Yj:C.natAbs<lim)(X8:Int)(cl:Hid (X8=Xb/Y))(ZZ:X8.natAbs<lim)(bl:Hid (Y≠0))(a0:Hid (Y∣Xb))(P:Int)(bt:Hid (P=Xa/Y))(ZJ:P.natAbs<lim)(cc:Hid (Y≠0))(ZG:Hid (Y∣Xa))(K:Int)(cN:Hid (K=XB/C))(ba:K.natAbs<lim)(cC:Hid (C≠0))(a2:Hid (C∣XB))(S:Int)(Zr:Hid (S=XD/C))(YL:S.natAbs<lim)(cJ:Hid (C≠0))(a5:Hid (C∣XD))(YF:Int)(cA:Hid (YF=X8*K))(bi:YF.natAbs<lim)(D:Int)(cF:Hid (D=P*S))(ZR:D.natAbs<lim)(YC:Int)(cD:Hid (YC=YF-D))(bj:YC.natAbs<lim)(YE:Int)(cL:Hid (YE=X8*S))(ZW:YE.natAbs<lim)(YH:Int)(cP:Hid (YH=P*K))(be:YH.natAbs<lim)(YG:Int)(bw:Hid (YG=YE+YH))(ZQ:YG.natAbs<lim)(XP:Int)(bo:Hid (XP=WZ/C))(cb:XP.natAbs<lim)(cy:Hid (C≠0))(aw:Hid (C∣WZ))(YB:Int)(cw:Hid (YB=XC/Y))(cj:YB.natAbs<lim)(bA:Hid (Y≠0))(a3:Hid (Y∣XC))(V:Int)(ch:Hid (V=XP*YB))(bg:V.natAbs<lim)(cr:Hid (V≠0))(Yu Yn Yx:Int)(b0:Hid ((Yu,Yn,Yx)=nf YC YG V))(c7:Yu.natAbs<lim)(db:Yn.natAbs<lim)(da:Yx.natAbs<lim):
  CV 142 #[.pointer (γ ⟨T,0,δ⟩),v1,v2] w fun v w'=>RG w' v Yu Yn Yx:=by
 have hS:=aeX w;obtain⟨WM,WJ,WI,WL,WN,WO,WK,WH,WE,Q,O,WG,rfl,WT,WU,WS⟩:=J;replace hS:=hS.aV WT;clear WT;replace hS:=hS.aV WU;clear WU;replace hS:=hS.aV WS;clear WS;obtain⟨Xz,Xy,Xv,Xw,Xl,Xn,Xk,Xo,Xx,XA,Xi,Xm,rfl,XH,XI,XG⟩:=Xe;replace hS:=hS.aV XH;clear XH;replace hS:=hS.aV XI;clear XI;replace hS:=hS.aV XG;clear XG;replace hS:=hS.xq hc trivial;clear hc;go_enter func142,ntmps142;(go_wp2_with fail);refine gA3 hS 42 #[.bool WM,.slice WJ WI WL,.bool WN,.slice WO WK WH,.bool WE,.slice Q O WG] 42 #[.bool Xz,.slice Xy Xv Xw,.bool Xl,.slice Xn Xk Xo,.bool Xx,.slice XA Xi Xm] 42 #[.bool ζ,.slice δ 0 0,.bool ζ,.slice δ 0 0,.bool ζ,.slice δ 0 0] ?_;clear hS;intro w1 g4 o4 g5 o5 g6 o6 hS;have Y5:=aK.blk (hS.aH 1);have Y4:=aK.blk (hS.aH 2);have B:=hS.ext;refine tF 20 [(7,.sl 40 3 #[.bool Xx,.slice XA Xi Xm,.bool WM,.slice WJ WI WL,.bool WN,.slice WO WK WH]),(8,.ri (Y)),(16,.sl 40 3 #[.bool WE,.slice Q O WG,.bool Xz,.slice Xy Xv Xw,.bool Xl,.slice Xn Xk Xo]),(17,.ri (C)),(18,.box 40 #[.bool ζ,.slice δ 0 0]),(19,.box 40 #[.bool ζ,.slice δ 0 0])] ?_;refine Qs ?_;refine Eb ?_;intro Zz Zf W;refine Ei (fun R I=>sS T Zz XC Xb Xa Y _ (Blk.ext (hS.aH 3) I.1) ((I.2 7 _ rf ah).2.2) (hS.aD 0 I.1) (hS.aD 5 I.1) (hS.aD 4 I.1) YT X3 XX YO) ?_;intro XL Xg XR X7 YM Zd;refine Qs ?_;refine Eb ?_;intro ZA a4 Yp;refine Ei (fun R I=>sS T ZA WZ XB XD C _ (Blk.ext (hS.aH 3) I.1) ((I.2 16 _ rf ah).2.2) (hS.aD 3 I.1) (hS.aD 2 I.1) (hS.aD 1 I.1) U YX YU Zw) ?_;intro Zl Yl Zj Zk YJ YI;refine Eb ?_;intro g7 WW L;refine Eb ?_;intro g8 Yd WV;refine bD ?_;intro w2 I;have j:=hS.lt;replace hS:=hS.mv I.ext;replace hS:=hS.aI I 8;replace hS:=hS.aI I 17;have Zc:=I.lw 7;have de:Own w Zz:=aeT B Zc;replace hS:=hS.aB I 7 Zz (apF j Zc);have YP:=I.lw 16;have df:Own w ZA:=aeT B YP;replace hS:=hS.aB I 16 ZA ⟨I.nn 7 16 W Yp,(apF j YP)⟩;have Xq:=I.lw 18;have o7:Own w g7:=aeT B Xq;replace hS:=hS.aB I 18 g7 ⟨I.nn 16 18 Yp L,⟨I.nn 7 18 W L,(apF j Xq)⟩⟩;have Yf:=I.lw 19;have o8:Own w g8:=aeT B Yf;replace hS:=hS.aB I 19 g8 ⟨I.nn 18 19 L WV,⟨I.nn 16 19 Yp WV,⟨I.nn 7 19 W WV,(apF j Yf)⟩⟩⟩;clear I j B Y5 Y4;clear Zc W Zf;clear YP Yp a4;clear Xq L WW;clear Yf WV Yd;have WF:=(hS.aH 1).cell;have WR:=(hS.aH 1).frozen;have l:=hS.pt 1 0 [.bool XL,.slice Xg XR X7] o7;have WY:=(l.aH 0).cell;have W9:=(l.aH 0).frozen;(go_wp2_with fail);clear WF WR WY W9;clear l;replace hS:=(hS.pt 1 0 [.bool XL,.slice Xg XR X7] o7).pt 0 0 [.bool Zl,.slice Yl Zj Zk] o8;refine gW hS ?_;clear hS;intro w3 hS;have Y7:=aK.blk (hS.aH 1);have Y4:=aK.blk (hS.aH 6);have B:=hS.ext;refine tF 12 [(4,.ri (X8)),(9,.ri (P)),(10,.box 40 #[.bool ζ,.slice δ 0 0]),(11,.box 40 #[.bool ζ,.slice δ 0 0])] ?_;refine Qs ?_;refine Ei (fun R I=>fI T _ _ Xb Y X8 _ (Blk.ext (hS.aH 7) I.1) (hS.aD 7 I.1) (hS.aD 1 I.1) X3 Za bl.o a0.o cl.o) ?_;intro ZN Zp Z8 ZV cT cX;refine Qs ?_;refine Ei (fun R I=>fI T _ _ Xa Y P _ (Blk.ext (hS.aH 7) I.1) (hS.aD 6 I.1) (hS.aD 1 I.1) XX Za cc.o ZG.o bt.o) ?_;intro cg az cd bn Z7 c6;refine Eb ?_;intro g9 ZT Yb;refine Eb ?_;intro g10 WX WQ;refine bD ?_;intro w4 I;have j:=hS.lt;replace hS:=hS.mv I.ext;replace hS:=hS.aI I 4;replace hS:=hS.aI I 9;have Zh:=I.lw 10;have o9:Own w g9:=aeT B Zh;replace hS:=hS.aB I 10 g9 (apF j Zh);have Yg:=I.lw 11;have XM:Own w g10:=aeT B Yg;replace hS:=hS.aB I 11 g10 ⟨I.nn 10 11 Yb WQ,(apF j Yg)⟩;clear I j B Y7 Y4;clear Zh Yb ZT;clear Yg WQ WX;have Xd:=(hS.aH 1).cell;have Xp:=(hS.aH 1).frozen;have WP:=hS.pt 1 0 [.bool ZN,.slice Zp Z8 ZV] o9;have Xr:=(WP.aH 0).cell;have XU:=(WP.aH 0).frozen;(go_wp2_with fail);clear Xd Xp Xr XU;clear WP;replace hS:=(hS.pt 1 0 [.bool ZN,.slice Zp Z8 ZV] o9).pt 0 0 [.bool cg,.slice az cd bn] XM;refine gW hS ?_;clear hS;intro w5 hS;have Y8:=aK.blk (hS.aH 2);have Y5:=aK.blk (hS.aH 7);have B:=hS.ext;refine tF 12 [(4,.ri (K)),(9,.ri (S)),(10,.box 40 #[.bool ζ,.slice δ 0 0]),(11,.box 40 #[.bool ζ,.slice δ 0 0])] ?_;refine Qs ?_;refine Ei (fun R I=>fI T _ _ XB C K _ (Blk.ext (hS.aH 9) I.1) (hS.aD 6 I.1) (hS.aD 2 I.1) YX Yj cC.o a2.o cN.o) ?_;intro bh Zo ZU M YY YZ;refine Qs ?_;refine Ei (fun R I=>fI T _ _ XD C S _ (Blk.ext (hS.aH 9) I.1) (hS.aD 5 I.1) (hS.aD 2 I.1) YU Yj cJ.o a5.o Zr.o) ?_;intro Zq YK Zv Zt Ym Yk;refine Eb ?_;intro Xt XT YV;refine Eb ?_;intro g12 YA Xu;refine bD ?_;intro w6 I;have j:=hS.lt;replace hS:=hS.mv I.ext;replace hS:=hS.aI I 4;replace hS:=hS.aI I 9;have Yc:=I.lw 10;have YR:Own w Xt:=aeT B Yc;replace hS:=hS.aB I 10 Xt (apF j Yc);have Ya:=I.lw 11;have Zg:Own w g12:=aeT B Ya;replace hS:=hS.aB I 11 g12 ⟨I.nn 10 11 YV Xu,(apF j Ya)⟩;clear I j B Y8 Y5;clear Yc YV XT;clear Ya Xu YA;have XV:=(hS.aH 1).cell;have XE:=(hS.aH 1).frozen;have Xc:=hS.pt 1 0 [.bool bh,.slice Zo ZU M] YR;have XJ:=(Xc.aH 0).cell;have XK:=(Xc.aH 0).frozen;(go_wp2_with fail);clear XV XE XJ XK;clear Xc;replace hS:=(hS.pt 1 0 [.bool bh,.slice Zo ZU M] YR).pt 0 0 [.bool Zq,.slice YK Zv Zt] Zg;refine gW hS ?_;clear hS;intro w7 hS;have Yh:=aK.blk (hS.aH 0);have Yi:=aK.blk (hS.aH 1);have Zi:=aK.blk (hS.aH 2);have Y9:=aK.blk (hS.aH 3);have B:=hS.ext;refine tF 11 [(4,.ri (YF)),(8,.ri (D)),(9,.ri (YC)),(10,.box 40 #[.bool ζ,.slice δ 0 0])] ?_;refine Qs ?_;refine Ei (fun R I=>iI T _ _ X8 K YF _ (Blk.ext (hS.aH 11) I.1) (hS.aD 3 I.1) (hS.aD 1 I.1) ZZ ba cA.o bi) ?_;intro cx ZK bk cn ax Z9;refine Qs ?_;refine Ei (fun R I=>iI T _ _ P S D _ (Blk.ext (hS.aH 11) I.1) (hS.aD 2 I.1) (hS.aD 0 I.1) ZJ YL cF.o ZR) ?_;intro cp ac cf bx Zm Zn;refine Ei (fun R I=>LX T _ _ YF D YC _ (Blk.ext (hS.aH 11) I.1) (I.f 4 ((iv cx ZK bk cn),ax,Z9)) (I.f 8 ((iv cp ac cf bx),Zm,Zn)) bi ZR cD.o bj) ?_;intro cv ZO cM cR cY c8;refine Eb ?_;intro X9 YN ap;refine bD ?_;intro w8 I;have j:=hS.lt;replace hS:=hS.mv I.ext;replace hS:=hS.aI I 4;replace hS:=hS.aI I 8;replace hS:=hS.aI I 9;have Ze:=I.lw 10;have ZL:Own w X9:=aeT B Ze;replace hS:=hS.aB I 10 X9 (apF j Ze);clear I j B Yh Yi Zi Y9;clear Ze ap YN;have X4:=(hS.aH 0).cell;have XW:=(hS.aH 0).frozen;(go_wp2_with fail);clear X4 XW;replace hS:=hS.pt 0 0 [.bool cv,.slice ZO cM cR] ZL;refine gW hS ?_;clear hS;intro w9 hS;have Yh:=aK.blk (hS.aH 1);have Yi:=aK.blk (hS.aH 2);have Zi:=aK.blk (hS.aH 3);have Y9:=aK.blk (hS.aH 4);have B:=hS.ext;refine tF 11 [(4,.ri (YE)),(8,.ri (YH)),(9,.ri (YG)),(10,.box 40 #[.bool ζ,.slice δ 0 0])] ?_;refine Qs ?_;refine Ei (fun R I=>iI T _ _ X8 S YE _ (Blk.ext (hS.aH 12) I.1) (hS.aD 6 I.1) (hS.aD 3 I.1) ZZ YL cL.o ZW) ?_;intro cI ZH ca ck XO XN;refine Qs ?_;refine Ei (fun R I=>iI T _ _ P K YH _ (Blk.ext (hS.aH 12) I.1) (hS.aD 5 I.1) (hS.aD 4 I.1) ZJ ba cP.o be) ?_;intro ci ao bq cB ZY ZX;refine Ei (fun R I=>wR T _ _ YE YH YG _ (Blk.ext (hS.aH 12) I.1) (I.f 4 ((iv cI ZH ca ck),XO,XN)) (I.f 8 ((iv ci ao bq cB),ZY,ZX)) ZW be bw.o ZQ) ?_;intro cQ aq cG cH cW dc;refine Eb ?_;intro Xj XQ Z;refine bD ?_;intro XF I;have j:=hS.lt;replace hS:=hS.mv I.ext;replace hS:=hS.aI I 4;replace hS:=hS.aI I 8;replace hS:=hS.aI I 9;have G:=I.lw 10;have YD:Own w Xj:=aeT B G;replace hS:=hS.aB I 10 Xj (apF j G);clear I j B Yh Yi Zi Y9;clear G Z XQ;have XY:=(hS.aH 0).cell;have Ye:=(hS.aH 0).frozen;(go_wp2_with fail);clear XY Ye;replace hS:=hS.pt 0 0 [.bool cQ,.slice aq cG cH] YD;refine gW hS ?_;clear hS;intro Xf hS;have Y8:=aK.blk (hS.aH 6);have Y7:=aK.blk (hS.aH 7);have Y5:=aK.blk (hS.aH 11);have Y4:=aK.blk (hS.aH 12);have B:=hS.ext;refine tF 13 [(5,.ri (XP)),(10,.ri (YB)),(11,.ri (V)),(12,.box 40 #[.bool ζ,.slice δ 0 0])] ?_;refine Qs ?_;refine Ei (fun R I=>fI T _ _ WZ C XP _ (Blk.ext (hS.aH 13) I.1) (hS.aD 15 I.1) (hS.aD 10 I.1) U Yj cy.o aw.o bo.o) ?_;intro bm av bp ce aG a7;refine Qs ?_;refine Ei (fun R I=>fI T _ _ XC Y YB _ (Blk.ext (hS.aH 13) I.1) (hS.aD 12 I.1) (hS.aD 11 I.1) YT Za bA.o a3.o cw.o) ?_;intro cS a6 bV cE ZI ZM;refine Ei (fun R I=>iI T _ _ XP YB V _ (Blk.ext (hS.aH 13) I.1) (I.f 5 ((iv bm av bp ce),aG,a7)) (I.f 10 ((iv cS a6 bV cE),ZI,ZM)) cb cj ch.o bg) ?_;intro a8 ZC a9 bb cV cU;refine Eb ?_;intro X5 YQ Yz;refine bD ?_;intro Yq I;have j:=hS.lt;replace hS:=hS.mv I.ext;replace hS:=hS.aI I 5;replace hS:=hS.aI I 10;replace hS:=hS.aI I 11;have N:=I.lw 12;have ZP:Own w X5:=aeT B N;replace hS:=hS.aB I 12 X5 (apF j N);clear I j B Y8 Y7 Y5 Y4;clear N Yz YQ;have XZ:=(hS.aH 0).cell;have X6:=(hS.aH 0).frozen;have Xh:=hS.pt 0 0 [.bool a8,.slice ZC a9 bb] ZP;have Yv:=(Xh.aH 14).cell;have Yt:=(Xh.aH 2).cell;have YW:=(Xh.aH 1).cell;have YS:=(Xh.aH 0).cell;(go_wp2_with fail);clear XZ X6 Yv Yt YW YS;clear Xh;replace hS:=hS.pt 0 0 [.bool a8,.slice ZC a9 bb] ZP;refine gW hS ?_;clear hS;intro Yr hS;refine(pG T _ _ _ YC YG V Yu Yn Yx _ (hS.aH 14) (hS.aF 6) (hS.aF 3) (hS.aF 0) bj ZQ bg cr.o b0.o).mono ?_;rintro e di ⟨v_,rfl,H,F⟩;replace hS:=hS.mv F;clear F;obtain⟨ai,Zy,am,aE,aP,ZB,a1,ar,ay,Zx,af,ad,rfl,Yw,Yy,Yo⟩:=H;replace hS:=hS.aV Yw;clear Yw;replace hS:=hS.aV Yy;clear Yy;replace hS:=hS.aV Yo;clear Yo;have ZF:=(hS.aH 11).cell;have ZE:=(hS.aH 11).frozen;go_wp2;replace hS:=hS.pt 11 0 [.bool ai,.slice Zy am aE,.bool aP,.slice ZB a1 ar,.bool ay,.slice Zx af ad] o6;exact cO rfl rfl rfl (hS.aH 11) ⟨_,rfl,RG.mk (hS.aF 2) (hS.aF 1) (hS.aF 0),hS.ext⟩
def yN(T v1 W a b d a' b' d' u v t n w)(hc:Calm w T)(L:RG w v1 a b d)(l:RG w W a' b' d')(sx:Sz n a b d)(sy:Sz n a' b' d')(hn:n+n+1<=12800)(hd:d≠0)(hd':d'≠0)(E:(u,v,t)=nf (a*a'-b*b') (a*b'+b*a') (d*d')):
  CV 142 #[.pointer (γ ⟨T,0,δ⟩),v1,W] w fun x w'=>RG w' x u v t:=by
 obtain⟨g,K,Y,b1,hg,N,D,M,R⟩:=r9 (a:=d') (b:=a) (c:=b) hd';obtain⟨h,V,P,Q,hh,j,Z,C,B⟩:=r9 (a:=d) (b:=a') (c:=b') hd;have J:=fJ N M sx.a;have U:=fJ N R sx.b;have I:=fJ N D sy.d;have G:=fJ j C sy.a;have F:=fJ j B sy.b;have H:=fJ j Z sx.d;have bg:g.natAbs<2^n:=xU hd' ⟨_,D⟩ sy.d;have bh:h.natAbs<2^n:=xU hd ⟨_,Z⟩ sx.d;have p1:=bI J G;have p2:=bI U F;have p3:=bI J F;have p4:=bI U G;have p5:=bI H I;have q1:=sK p1 p2;have q2:=jg p3 p4;have S:V*K≠0:=qa (by intro e;rw[e] at Z;simp at Z;exact hd Z) (by intro e;rw[e] at D;simp at D;exact hd' D);have E':(u,v,t)=nf (Y*P-b1*Q) (Y*Q+b1*P) (V*K):=by
  rw[E];refine oG (qa hd hd') S ?_ ?_
  .rw[M,R,Z,C,B,D];grind
  .rw[M,R,Z,C,B,D];grind
 have sz:=jr (n:=n+n+1) S E' q1 q2 (iX p5 aa);obtain⟨x1,x2,O⟩:=sx.qA aa;obtain⟨y1,y2,y3⟩:=sy.qA aa;obtain⟨s1,s2,s3⟩:=sz.qA hn;exact Ao T v1 a b d W a' b' d' w hc L x1 x2 O l y1 y2 y3 g (aJ hg) (bE bg aa) h (aJ hh) (bE bh aa)
  Y (aJ (fD N M)) (bE J aa) (aJ N) (aJ ⟨_,M⟩) b1 (aJ (fD N R)) (bE U aa) (aJ N) (aJ ⟨_,R⟩)
  P (aJ (fD j C)) (bE G aa) (aJ j) (aJ ⟨_,C⟩) Q (aJ (fD j B)) (bE F aa) (aJ j) (aJ ⟨_,B⟩)
  _ (aJ rfl) (bE p1 aa) _ (aJ rfl) (bE p2 aa) _ (aJ rfl) (bE q1 aa)
  _ (aJ rfl) (bE p3 aa) _ (aJ rfl) (bE p4 aa) _ (aJ rfl) (bE q2 aa)
  V (aJ (fD j Z)) (bE H aa) (aJ j) (aJ ⟨_,Z⟩) K (aJ (fD N D)) (bE I aa) (aJ N) (aJ ⟨_,D⟩)
  _ (aJ rfl) (bE p5 aa) (aJ S) u v t (aJ E') s1 s2 s3
def equotient_g(T:Nat)(v1:Value)(Xb Xa WZ:Int)(v2:Value)(XB XD XC:Int)(w:World)(hc:Calm w T)(J:RG w v1 Xb Xa WZ)(X3:Xb.natAbs<lim)(XX:Xa.natAbs<lim)(U:WZ.natAbs<lim)(Xe:RG w v2 XB XD XC)(YX:XB.natAbs<lim)(YU:XD.natAbs<lim)(YT:XC.natAbs<lim)(C:Int)(gE:Hid (C=(fE [Xb,Xa,XB,XD]:Nat)))(cg:C.natAbs<lim)(XR:Int)(fh:Hid (XR=(fE [WZ,XC]:Nat)))(ek:XR.natAbs<lim)(Zc:Int)(gj:Hid (Zc=Xb/C))(d9:Zc.natAbs<lim)(f6:Hid (C≠0))(cI:Hid (C∣Xb))(P:Int)(gf:Hid (P=Xa/C))(ei:P.natAbs<lim)(gt:Hid (C≠0))(dy:Hid (C∣Xa))(M:Int)(fX:Hid (M=XB/C))(er:M.natAbs<lim)(gg:Hid (C≠0))(d0:Hid (C∣XB))(YF:Int)(e9:Hid (YF=XD/C))(eh:YF.natAbs<lim)(gR:Hid (C≠0))(de:Hid (C∣XD))(D:Int)(gh:Hid (D=(fE [M,YF]:Nat)))(ZR:D.natAbs<lim)(XO:Int)(gB:Hid (XO=M/D))(ch:XO.natAbs<lim)(fn:Hid (D≠0))(cM:Hid (D∣M))(S:Int)(e5:Hid (S=YF/D))(cf:S.natAbs<lim)(fg:Hid (D≠0))(cT:Hid (D∣YF))(Y:Int)(e2:Hid (Y=Zc*XO))(d6:Y.natAbs<lim)(XP:Int)(e6:Hid (XP=P*S))(ea:XP.natAbs<lim)(ZW:Int)(fB:Hid (ZW=Y+XP))(es:ZW.natAbs<lim)(V:Int)(fL:Hid (V=P*XO))(ep:V.natAbs<lim)(ZY:Int)(f8:Hid (ZY=Zc*S))(eb:ZY.natAbs<lim)(ZX:Int)(fY:Hid (ZX=V-ZY))(ec:ZX.natAbs<lim)(ZU:Int)(gA:Hid (ZU=XO*XO))(ee:ZU.natAbs<lim)(ZV:Int)(f0:Hid (ZV=S*S))(ez:ZV.natAbs<lim)(Yo:Int)(dT:Hid (Yo=ZU+ZV))(a8:Yo.natAbs<lim)(dx:Hid (Yo≠0))(YE YG YK:Int)(df:Hid ((YE,YG,YK)=nf ZW ZX Yo))(eT:YE.natAbs<lim)(eV:YG.natAbs<lim)(e1:YK.natAbs<lim)(YC:Int)(dw:Hid (YC=XC/XR))(cY:YC.natAbs<lim)(ds:Hid (XR≠0))(bm:Hid (XR∣XC))(YB:Int)(cB:Hid (YB=WZ/XR))(cR:YB.natAbs<lim)(cV:Hid (XR≠0))(bg:Hid (XR∣WZ))(Yp:Int)(cG:Hid (Yp=D*YB))(ba:Yp.natAbs<lim)(dt:Hid (Yp≠0))(Yk Yn Yl:Int)(du:Hid ((Yk,Yn,Yl)=nf YC 0 Yp))(eK:Yk.natAbs<lim)(eJ:Yn.natAbs<lim)(eI:Yl.natAbs<lim)(YO YN YI:Int)(HP:Hid (∀(v K:Value) (W:World),Calm W T->RG W v YE YG YK->RG W K Yk Yn Yl->CV 142 #[.pointer (γ ⟨T,0,δ⟩),v,K] W fun x w'=>RG w' x YO YN YI))(eA:YO.natAbs<lim)(eC:YN.natAbs<lim)(eR:YI.natAbs<lim):
  CV 173 #[.pointer (γ ⟨T,0,δ⟩),v1,v2] w fun v w'=>RG w' v YO YN YI:=by
 have hS:=aeX w;obtain⟨WM,WJ,WI,WL,WN,WO,WK,WH,WE,Q,O,WG,rfl,WT,WU,WS⟩:=J;replace hS:=hS.aV WT;clear WT;replace hS:=hS.aV WU;clear WU;replace hS:=hS.aV WS;clear WS;obtain⟨Xz,Xy,Xv,Xw,Xl,Xn,Xk,Xo,Xx,XA,Xi,Xm,rfl,XH,XI,XG⟩:=Xe;replace hS:=hS.aV XH;clear XH;replace hS:=hS.aV XI;clear XI;replace hS:=hS.aV XG;clear XG;replace hS:=hS.xq hc trivial;clear hc;go_enter func173,ntmps173;(go_wp2_with fail);refine gA3 hS 42 #[.bool WM,.slice WJ WI WL,.bool WN,.slice WO WK WH,.bool WE,.slice Q O WG] 42 #[.bool Xz,.slice Xy Xv Xw,.bool Xl,.slice Xn Xk Xo,.bool Xx,.slice XA Xi Xm] 42 #[.bool ζ,.slice δ 0 0,.bool ζ,.slice δ 0 0,.bool ζ,.slice δ 0 0] ?_;clear hS;intro w1 g4 o4 g5 o5 g6 o6 hS;have Y5:=aK.blk (hS.aH 1);have Y4:=aK.blk (hS.aH 2);have B:=hS.ext;refine tF 20 [(9,.sl 40 4 #[.bool WM,.slice WJ WI WL,.bool WN,.slice WO WK WH,.bool Xz,.slice Xy Xv Xw,.bool Xl,.slice Xn Xk Xo]),(10,.ri (C)),(16,.sl 40 2 #[.bool WE,.slice Q O WG,.bool Xx,.slice XA Xi Xm]),(17,.ri (XR)),(18,.box 40 #[.bool ζ,.slice δ 0 0]),(19,.box 40 #[.bool ζ,.slice δ 0 0])] ?_;refine Qs ?_;refine Eb ?_;intro ck dn ZJ;refine Ei (fun R I=>OM T ck Xb Xa XB XD C _ (Blk.ext (hS.aH 3) I.1) ((I.2 9 _ rf ah).2.2) (hS.aD 5 I.1) (hS.aD 4 I.1) (hS.aD 2 I.1) (hS.aD 1 I.1) X3 XX YX YU gE) ?_;intro d5 bb ey eg hm hg;refine Qs ?_;refine Eb ?_;intro cj cS ZG;refine Ei (fun R I=>zW T cj WZ XC XR _ (Blk.ext (hS.aH 3) I.1) ((I.2 16 _ rf ah).2.2) (hS.aD 3 I.1) (hS.aD 0 I.1) U YT fh) ?_;intro fm c8 gH gs hh hr;refine Eb ?_;intro g7 WW L;refine Eb ?_;intro g8 Yd WV;refine bD ?_;intro w2 I;have j:=hS.lt;replace hS:=hS.mv I.ext;replace hS:=hS.aI I 10;replace hS:=hS.aI I 17;have am:=I.lw 9;have hC:Own w ck:=aeT B am;replace hS:=hS.aB I 9 ck (apF j am);have av:=I.lw 16;have hz:Own w cj:=aeT B av;replace hS:=hS.aB I 16 cj ⟨I.nn 9 16 ZJ ZG,(apF j av)⟩;have Xq:=I.lw 18;have o7:Own w g7:=aeT B Xq;replace hS:=hS.aB I 18 g7 ⟨I.nn 16 18 ZG L,⟨I.nn 9 18 ZJ L,(apF j Xq)⟩⟩;have Yf:=I.lw 19;have o8:Own w g8:=aeT B Yf;replace hS:=hS.aB I 19 g8 ⟨I.nn 18 19 L WV,⟨I.nn 16 19 ZG WV,⟨I.nn 9 19 ZJ WV,(apF j Yf)⟩⟩⟩;clear I j B Y5 Y4;clear am ZJ dn;clear av ZG cS;clear Xq L WW;clear Yf WV Yd;have WF:=(hS.aH 1).cell;have WR:=(hS.aH 1).frozen;have l:=hS.pt 1 0 [.bool d5,.slice bb ey eg] o7;have WY:=(l.aH 0).cell;have W9:=(l.aH 0).frozen;(go_wp2_with fail);clear WF WR WY W9;clear l;replace hS:=(hS.pt 1 0 [.bool d5,.slice bb ey eg] o7).pt 0 0 [.bool fm,.slice c8 gH gs] o8;refine gW hS ?_;clear hS;intro w3 hS;have Y7:=aK.blk (hS.aH 1);have Y4:=aK.blk (hS.aH 6);have B:=hS.ext;refine tF 12 [(4,.ri (Zc)),(9,.ri (P)),(10,.box 40 #[.bool ζ,.slice δ 0 0]),(11,.box 40 #[.bool ζ,.slice δ 0 0])] ?_;refine Qs ?_;refine Ei (fun R I=>fI T _ _ Xb C Zc _ (Blk.ext (hS.aH 7) I.1) (hS.aD 7 I.1) (hS.aD 1 I.1) X3 cg f6.o cI.o gj.o) ?_;intro d8 a2 ev eo gS hf;refine Qs ?_;refine Ei (fun R I=>fI T _ _ Xa C P _ (Blk.ext (hS.aH 7) I.1) (hS.aD 6 I.1) (hS.aD 1 I.1) XX cg gt.o dy.o gf.o) ?_;intro gb cD f2 gw Yw Yx;refine Eb ?_;intro g9 ZT Yb;refine Eb ?_;intro g10 WX WQ;refine bD ?_;intro w4 I;have j:=hS.lt;replace hS:=hS.mv I.ext;replace hS:=hS.aI I 4;replace hS:=hS.aI I 9;have Zh:=I.lw 10;have o9:Own w g9:=aeT B Zh;replace hS:=hS.aB I 10 g9 (apF j Zh);have Yg:=I.lw 11;have XM:Own w g10:=aeT B Yg;replace hS:=hS.aB I 11 g10 ⟨I.nn 10 11 Yb WQ,(apF j Yg)⟩;clear I j B Y7 Y4;clear Zh Yb ZT;clear Yg WQ WX;have Xd:=(hS.aH 1).cell;have Xp:=(hS.aH 1).frozen;have WP:=hS.pt 1 0 [.bool d8,.slice a2 ev eo] o9;have Xr:=(WP.aH 0).cell;have XU:=(WP.aH 0).frozen;(go_wp2_with fail);clear Xd Xp Xr XU;clear WP;replace hS:=(hS.pt 1 0 [.bool d8,.slice a2 ev eo] o9).pt 0 0 [.bool gb,.slice cD f2 gw] XM;refine gW hS ?_;clear hS;intro w5 hS;have Y7:=aK.blk (hS.aH 3);have Y5:=aK.blk (hS.aH 7);have B:=hS.ext;refine tF 12 [(4,.ri (M)),(9,.ri (YF)),(10,.box 40 #[.bool ζ,.slice δ 0 0]),(11,.box 40 #[.bool ζ,.slice δ 0 0])] ?_;refine Qs ?_;refine Ei (fun R I=>fI T _ _ XB C M _ (Blk.ext (hS.aH 9) I.1) (hS.aD 6 I.1) (hS.aD 3 I.1) YX cg gg.o d0.o fX.o) ?_;intro ZM Yy ZN ZO Z9 ZZ;refine Qs ?_;refine Ei (fun R I=>fI T _ _ XD C YF _ (Blk.ext (hS.aH 9) I.1) (hS.aD 5 I.1) (hS.aD 3 I.1) YU cg gR.o de.o e9.o) ?_;intro ci ao cl cn hk hl;refine Eb ?_;intro Xt XT YV;refine Eb ?_;intro g12 YA Xu;refine bD ?_;intro w6 I;have j:=hS.lt;replace hS:=hS.mv I.ext;replace hS:=hS.aI I 4;replace hS:=hS.aI I 9;have Yc:=I.lw 10;have YR:Own w Xt:=aeT B Yc;replace hS:=hS.aB I 10 Xt (apF j Yc);have Ya:=I.lw 11;have Zg:Own w g12:=aeT B Ya;replace hS:=hS.aB I 11 g12 ⟨I.nn 10 11 YV Xu,(apF j Ya)⟩;clear I j B Y7 Y5;clear Yc YV XT;clear Ya Xu YA;have XV:=(hS.aH 1).cell;have XE:=(hS.aH 1).frozen;have Xc:=hS.pt 1 0 [.bool ZM,.slice Yy ZN ZO] YR;have XJ:=(Xc.aH 0).cell;have XK:=(Xc.aH 0).frozen;have Xh:=(hS.pt 1 0 [.bool ZM,.slice Yy ZN ZO] YR).pt 0 0 [.bool ci,.slice ao cl cn] Zg;have X4:=(Xh.aH 1).cell;have XW:=(Xh.aH 0).cell;have gy:Own w w6.heap.size:=aeT hS.ext ag;(go_wp2_with fail);clear XV XE XJ XK X4 XW;clear Xc Xh;replace hS:=St.al ((hS.pt 1 0 [.bool ZM,.slice Yy ZN ZO] YR).pt 0 0 [.bool ci,.slice ao cl cn] Zg) 40 #[.bool ZM,.slice Yy ZN ZO,.bool ci,.slice ao cl cn] (g:=w6.heap.size) ag;refine gW hS ?_;clear hS;intro w7 hS;generalize w6.heap.size=fk at hS gy⊢;refine(zW T fk M YF D _ (hS.aH 12) (hS.aH 0) (hS.aF 1) (hS.aF 0) er eh gh).mono ?_;rintro e w8 ⟨v_,rfl,H,F⟩;replace hS:=hS.mv F;clear F;obtain⟨f3,cH,fr,fa,rfl,ad⟩:=RI.opn H;clear H;replace hS:=hS.aV ad;clear ad;have Zy:=(St.al hS 40 #[.bool ζ,.slice δ 0 0] (g:=w8.heap.size) ag);have XY:=(Zy.aH 0).cell;have Ye:=(Zy.aH 0).frozen;(go_wp2_with fail);clear XY Ye;clear Zy;refine gA1 hS 40 #[.bool f3,.slice cH fr fa] ?_;clear hS;intro w9 X9 ZL hS;have Zf:=aK.blk (hS.aH 0);have Yh:=aK.blk (hS.aH 2);have Yi:=aK.blk (hS.aH 3);have B:=hS.ext;refine tF 8 [(3,.ri (XO)),(7,.ri (S))] ?_;refine Qs ?_;refine Ei (fun R I=>fI T _ _ M D XO _ (Blk.ext (hS.aH 13) I.1) (hS.aD 2 I.1) (hS.aD 0 I.1) er ZR fn.o cM.o gB.o) ?_;intro ef a0 ej ew g0 g2;refine Qs ?_;refine Ei (fun R I=>fI T _ _ YF D S _ (Blk.ext (hS.aH 13) I.1) (hS.aD 1 I.1) (hS.aD 0 I.1) eh ZR fg.o cT.o e5.o) ?_;intro gk dr f1 fy g1 gU;refine bD ?_;intro XF I;have j:=hS.lt;replace hS:=hS.mv I.ext;replace hS:=hS.aI I 3;replace hS:=hS.aI I 7;clear I j B Zf Yh Yi;have XZ:=(hS.aH 3).cell;have X6:=(hS.aH 3).frozen;have Zr:=hS.pt 3 0 [.bool ef,.slice a0 ej ew] YR;have Yv:=(Zr.aH 2).cell;have Yt:=(Zr.aH 2).frozen;(go_wp2_with fail);clear XZ X6 Yv Yt;clear Zr;replace hS:=(hS.pt 3 0 [.bool ef,.slice a0 ej ew] YR).pt 2 0 [.bool gk,.slice dr f1 fy] Zg;refine gW hS ?_;clear hS;intro Xf hS;have Yh:=aK.blk (hS.aH 2);have Yi:=aK.blk (hS.aH 3);have Zi:=aK.blk (hS.aH 4);have Y9:=aK.blk (hS.aH 5);have B:=hS.ext;refine tF 11 [(4,.ri (Y)),(8,.ri (XP)),(9,.ri (ZW)),(10,.box 40 #[.bool ζ,.slice δ 0 0])] ?_;refine Qs ?_;refine Ei (fun R I=>iI T _ _ Zc XO Y _ (Blk.ext (hS.aH 13) I.1) (hS.aD 6 I.1) (hS.aD 1 I.1) d9 ch e2.o d6) ?_;intro fR Z7 f4 ff Z8 cy;refine Qs ?_;refine Ei (fun R I=>iI T _ _ P S XP _ (Blk.ext (hS.aH 13) I.1) (hS.aD 5 I.1) (hS.aD 0 I.1) ei cf e6.o ea) ?_;intro e4 dk e7 fj dl d2;refine Ei (fun R I=>wR T _ _ Y XP ZW _ (Blk.ext (hS.aH 13) I.1) (I.f 4 ((iv fR Z7 f4 ff),Z8,cy)) (I.f 8 ((iv e4 dk e7 fj),dl,d2)) d6 ea fB.o es) ?_;intro f7 cL gp gr ht gT;refine Eb ?_;intro Xj XQ Z;refine bD ?_;intro Yq I;have j:=hS.lt;replace hS:=hS.mv I.ext;replace hS:=hS.aI I 4;replace hS:=hS.aI I 8;replace hS:=hS.aI I 9;have G:=I.lw 10;have YD:Own w Xj:=aeT B G;replace hS:=hS.aB I 10 Xj (apF j G);clear I j B Yh Yi Zi Y9;clear G Z XQ;have YW:=(hS.aH 0).cell;have YS:=(hS.aH 0).frozen;(go_wp2_with fail);clear YW YS;replace hS:=hS.pt 0 0 [.bool f7,.slice cL gp gr] YD;refine gW hS ?_;clear hS;intro Yr hS;have Yh:=aK.blk (hS.aH 3);have Yi:=aK.blk (hS.aH 4);have Zi:=aK.blk (hS.aH 5);have Y9:=aK.blk (hS.aH 6);have B:=hS.ext;refine tF 11 [(4,.ri (V)),(8,.ri (ZY)),(9,.ri (ZX)),(10,.box 40 #[.bool ζ,.slice δ 0 0])] ?_;refine Qs ?_;refine Ei (fun R I=>iI T _ _ P XO V _ (Blk.ext (hS.aH 14) I.1) (hS.aD 8 I.1) (hS.aD 4 I.1) ei ch fL.o ep) ?_;intro fd ZC fi ga cN cJ;refine Qs ?_;refine Ei (fun R I=>iI T _ _ Zc S ZY _ (Blk.ext (hS.aH 14) I.1) (hS.aD 9 I.1) (hS.aD 3 I.1) d9 cf f8.o eb) ?_;intro gi cW f9 f5 dv cU;refine Ei (fun R I=>LX T _ _ V ZY ZX _ (Blk.ext (hS.aH 14) I.1) (I.f 4 ((iv fd ZC fi ga),cN,cJ)) (I.f 8 ((iv gi cW f9 f5),dv,cU)) ep eb fY.o ec) ?_;intro fW dc fS fN hj hu;refine Eb ?_;intro X5 YQ Yz;refine bD ?_;intro hB I;have j:=hS.lt;replace hS:=hS.mv I.ext;replace hS:=hS.aI I 4;replace hS:=hS.aI I 8;replace hS:=hS.aI I 9;have N:=I.lw 10;have ZP:Own w X5:=aeT B N;replace hS:=hS.aB I 10 X5 (apF j N);clear I j B Yh Yi Zi Y9;clear N Yz YQ;have ZF:=(hS.aH 0).cell;have ZE:=(hS.aH 0).frozen;(go_wp2_with fail);clear ZF ZE;replace hS:=hS.pt 0 0 [.bool fW,.slice dc fS fN] ZP;refine gW hS ?_;clear hS;intro Ym hS;have Yh:=aK.blk (hS.aH 4);have Yi:=aK.blk (hS.aH 5);have B:=hS.ext;refine tF 11 [(4,.ri (ZU)),(8,.ri (ZV)),(9,.ri (Yo)),(10,.box 40 #[.bool ζ,.slice δ 0 0])] ?_;refine Qs ?_;refine Ei (fun R I=>iI T _ _ XO XO ZU _ (Blk.ext (hS.aH 15) I.1) (hS.aD 7 I.1) (hS.aD 7 I.1) ch ch gA.o ee) ?_;intro gd cX fb e8 cC cQ;refine Qs ?_;refine Ei (fun R I=>iI T _ _ S S ZV _ (Blk.ext (hS.aH 15) I.1) (hS.aD 6 I.1) (hS.aD 6 I.1) cf cf f0.o ez) ?_;intro go cp fx gq c6 cw;refine Ei (fun R I=>wR T _ _ ZU ZV Yo _ (Blk.ext (hS.aH 15) I.1) (I.f 4 ((iv gd cX fb e8),cC,cQ)) (I.f 8 ((iv go cp fx gq),c6,cw)) ee ez dT.o a8) ?_;intro a5 af a9 a6 e0 eE;refine Eb ?_;intro XN YP cF;refine bD ?_;intro hD I;have j:=hS.lt;replace hS:=hS.mv I.ext;replace hS:=hS.aI I 4;replace hS:=hS.aI I 8;replace hS:=hS.aI I 9;have X7:=I.lw 10;have ed:Own w XN:=aeT B X7;replace hS:=hS.aB I 10 XN (apF j X7);clear I j B Yh Yi;clear X7 cF YP;have d4:=(hS.aH 0).cell;have cE:=(hS.aH 0).frozen;have YL:=hS.pt 0 0 [.bool a5,.slice af a9 a6] ed;have dq:=(YL.aH 16).cell;have dp:=(YL.aH 2).cell;have cx:=(YL.aH 1).cell;have ZI:=(YL.aH 0).cell;(go_wp2_with fail);clear d4 cE dq dp cx ZI;clear YL;replace hS:=hS.pt 0 0 [.bool a5,.slice af a9 a6] ed;refine gW hS ?_;clear hS;intro XL hS;refine(pG T _ _ _ ZW ZX Yo YE YG YK _ (hS.aH 16) (hS.aF 6) (hS.aF 3) (hS.aF 0) es ec a8 dx.o df.o).mono ?_;rintro e gO ⟨v_,rfl,H,F⟩;replace hS:=hS.mv F;clear F;obtain⟨bq,az,ca,cb,cd,aw,be,bt,cc,aP,b0,bV,rfl,Zd,YZ,YY⟩:=H;replace hS:=hS.aV Zd;clear Zd;replace hS:=hS.aV YZ;clear YZ;replace hS:=hS.aV YY;clear YY;have Zn:=(St.al hS 42 #[.bool ζ,.slice δ 0 0,.bool ζ,.slice δ 0 0,.bool ζ,.slice δ 0 0] (g:=gO.heap.size) ag);have ZH:=(Zn.aH 0).cell;have c7:=(Zn.aH 0).frozen;(go_wp2_with fail);clear ZH c7;clear Zn;refine gA1 hS 42 #[.bool bq,.slice az ca cb,.bool cd,.slice aw be bt,.bool cc,.slice aP b0 bV] ?_;clear hS;intro Za Xg hA hS;have Zf:=aK.blk (hS.aH 4);have Y8:=aK.blk (hS.aH 10);have Y5:=aK.blk (hS.aH 15);have Y4:=aK.blk (hS.aH 16);have B:=hS.ext;refine tF 15 [(4,.ri (YC)),(11,.ri (YB)),(12,.ri (Yp)),(13,.box 40 #[.bool ζ,.slice δ 0 0]),(14,.box 40 #[.bool ζ,.slice δ 0 0])] ?_;refine Qs ?_;refine Ei (fun R I=>fI T _ _ XC XR YC _ (Blk.ext (hS.aH 17) I.1) (hS.aD 21 I.1) (hS.aD 19 I.1) YT ek ds.o bm.o dw.o) ?_;intro ai Zw ap ar eN eL;refine Qs ?_;refine Ei (fun R I=>fI T _ _ WZ XR YB _ (Blk.ext (hS.aH 17) I.1) (hS.aD 24 I.1) (hS.aD 19 I.1) U ek cV.o bg.o cB.o) ?_;intro cP bh cv cA bn bo;refine Ei (fun R I=>iI T _ _ D YB Yp _ (Blk.ext (hS.aH 17) I.1) (hS.aD 14 I.1) (I.f 11 ((iv cP bh cv cA),bn,bo)) ZR cR cG.o ba) ?_;intro a1 ac a3 a7 eM eB;refine Eb ?_;intro Ze ZB Yu;refine Eb ?_;intro et ZK a4;refine bD ?_;intro hx I;have j:=hS.lt;replace hS:=hS.mv I.ext;replace hS:=hS.aI I 4;replace hS:=hS.aI I 11;replace hS:=hS.aI I 12;have X8:=I.lw 13;have ZQ:Own w Ze:=aeT B X8;replace hS:=hS.aB I 13 Ze (apF j X8);have aq:=I.lw 14;have d7:Own w et:=aeT B aq;replace hS:=hS.aB I 14 et ⟨I.nn 13 14 Yu a4,(apF j aq)⟩;clear I j B Zf Y8 Y5 Y4;clear X8 Yu ZB;clear aq a4 ZK;have d1:=(hS.aH 1).cell;have da:=(hS.aH 1).frozen;have Zt:=hS.pt 1 0 [.bool ai,.slice Zw ap ar] ZQ;have db:=(Zt.aH 0).cell;have di:=(Zt.aH 0).frozen;have Yj:=(hS.pt 1 0 [.bool ai,.slice Zw ap ar] ZQ).pt 0 0 [.bool a1,.slice ac a3 a7] d7;have cr:=(Yj.aH 19).cell;(go_wp2_with fail);clear d1 da db di cr;clear Zt Yj;replace hS:=(hS.pt 1 0 [.bool ai,.slice Zw ap ar] ZQ).pt 0 0 [.bool a1,.slice ac a3 a7] d7;refine gW hS ?_;clear hS;intro hw hS;have e3:=aK.blk (hS.aH 0);have gC:=aK.blk (hS.aH 1);have gn:=aK.blk (hS.aH 2);have B:=hS.ext;refine tF 8 [(6,.rg (Yk) (Yn) (Yl)),(7,.rg (YO) (YN) (YI))] ?_;refine Qs ?_;refine Eg (fun R I=>pG T _ _ _ YC 0 Yp Yk Yn Yl _ (Blk.ext (hS.aH 19) I.1) (hS.aD 2 I.1) (RI.zero _) (hS.aD 0 I.1) cY Wi ba dt.o du.o) ?_;intro Zp YH Zx ZA Zv YM Zk Zz Zq YJ Zm Zl Zj Zo;refine Eg (fun R I=>HP.o _ _ _ (Blk.ext (hS.aH 19) I.1) (RG.mk (hS.aD 5 I.1) (hS.aD 4 I.1) (hS.aD 3 I.1)) (RG.mk (RG.at1 (I.f 6 ((gv Zp YH Zx ZA Zv YM Zk Zz Zq YJ Zm Zl),Zj,Zo))) (RG.at2 (I.f 6 ((gv Zp YH Zx ZA Zv YM Zk Zz Zq YJ Zm Zl),Zj,Zo))) (RG.at3 (I.f 6 ((gv Zp YH Zx ZA Zv YM Zk Zz Zq YJ Zm Zl),Zj,Zo))))) ?_;intro bl aE bw bx bi ay bk bA ce ax bp bj eW eS;refine bD ?_;intro hy I;have j:=hS.lt;replace hS:=hS.mv I.ext;replace hS:=hS.aG I 6;replace hS:=hS.aG I 7;clear I j B e3 gC gn;have he:=(hS.aH 16).cell;have ho:=(hS.aH 16).frozen;go_wp2;replace hS:=hS.pt 16 0 [.bool bl,.slice aE bw bx,.bool bi,.slice ay bk bA,.bool ce,.slice ax bp bj] o6;exact cO rfl rfl rfl (hS.aH 16) ⟨_,rfl,RG.mk (hS.aF 2) (hS.aF 1) (hS.aF 0),hS.ext⟩
def Le3 (k y:Int):Prop:=if 0<=y then (k<=0\/k*k<=3*(y*y)) else (k<0/\3*(y*y)<=k*k)
instance (k y:Int):Decidable (Le3 k y):=by unfold Le3;infer_instance
def oJ(x:Int):0<=x*x:=by
 rcases Int.le_total 0 x with h|h
 .exact aca h h
 .have:=aca (a:= -x) (b:= -x) aa aa;grind
def K9{x:Int}(h:x≠0):0<x*x:=by
 have j:=oJ x;have l:x*x≠0:=qa h h;omega
def cm (x y:Int):Int:=if x<y then-1 else if y<x then 1 else 0
def zF{a b c e}(h:c≠0\/e≠0):∃z p q r s:Int,z=(fE [a,b,c,e]:Nat)/\z≠0/\a=z*p/\b=z*q/\c=z*r/\e=z*s:=by
 have eq:fE [a,b,c,e]=Nat.gcd (Nat.gcd (Nat.gcd a.natAbs b.natAbs) c.natAbs) e.natAbs:=by simp[fE]
 have C:((fE [a,b,c,e]:Nat):Int)∣a:=by rw[eq];exact aad.2 (aae (D5 _ _) (aae (D5 _ _) (D5 _ _)))
 have l:((fE [a,b,c,e]:Nat):Int)∣b:=by rw[eq];exact aad.2 (aae (D5 _ _) (aae (D5 _ _) (aal _ _)))
 have d3:((fE [a,b,c,e]:Nat):Int)∣c:=by rw[eq];exact aad.2 (aae (D5 _ _) (aal _ _))
 have j:((fE [a,b,c,e]:Nat):Int)∣e:=by rw[eq];exact aad.2 (aal _ _)
 have B:((fE [a,b,c,e]:Nat):Int)≠0:=by
  intro D;rw[D] at d3 j;have:=Int.zero_dvd.1 d3;have:=Int.zero_dvd.1 j;omega
 obtain⟨p,hp⟩:=C;obtain⟨q,hq⟩:=l;obtain⟨r,F⟩:=d3;obtain⟨s,hs⟩:=j;exact⟨_,p,q,r,s,rfl,B,hp,hq,F,hs⟩
def yt{a b}(h:a≠0\/b≠0):∃z p q:Int,z=(fE [a,b]:Nat)/\z≠0/\a=z*p/\b=z*q:=by
 by_cases hb:b=0
 .have e:fE [a,b]=Nat.gcd a.natAbs b.natAbs:=by simp[fE]
  subst hb;have l:fE [a,0]=a.natAbs:=by rw[e];simp
  rw[l];rcases Int.natAbs_eq a with j|j
  .exact⟨_,1,0,rfl,aa,aa,ag⟩
  .exact⟨_,-1,0,rfl,aa,aa,ag⟩
 .exact rX hb
def qp{a z q:Int}{n}(hq:a≠0)(h:a=z*q)(hn:a.natAbs<2^n):z.natAbs<2^n:=xU hq ⟨q,h⟩ hn
def pV{p q:Int}(h:p≠0\/q≠0):p*p+q*q≠0:=by
 have l:=oJ p;have j:=oJ q;rcases h with h|h
 .have:=K9 h;omega
 .have:=K9 h;omega
def Bc{a b d a' b' d' g F b1 p q i p1 q1 h o c1 G P j S H sa D:Int}(M:a=g*F)(J:b=g*b1)(C:a'=g*p)(B:b'=g*q)(Z:p=i*p1)(eq:q=i*q1)(L:d'=h*o)(ec:d=h*c1)(N:F*p1+b1*q1=G*P)(K:b1*p1-F*q1=G*j)(O:p1*p1+q1*q1=G*S)(Q:o=H*sa)(I:i*c1=H*D):
  ((a*a'+b*b')*d')*(S*D)=(P*sa)*(d*(a'*a'+b'*b'))/\((b*a'-a*b')*d')*(S*D)=(j*sa)*(d*(a'*a'+b'*b')):=by
 subst M J C B L ec Q Z eq;have n1:g*(i*p1)*(g*(i*p1))+g*(i*q1)*(g*(i*q1))=g*g*i*i*(G*S):=by rw[<-O];grind
 have n2:g*F*(g*(i*p1))+g*b1*(g*(i*q1))=g*g*i*(G*P):=by rw[<-N];grind
 have n3:g*b1*(g*(i*p1))-g*F*(g*(i*q1))=g*g*i*(G*j):=by rw[<-K];grind
 rw[n1,n2,n3];constructor
 .have l:g*g*i*(G*P)*(h*(H*sa))*(S*D)=g*g*i*G*P*h*sa*S*(H*D):=ak;rw[l,<-I];grind
 .have l:g*g*i*(G*j)*(h*(H*sa))*(S*D)=g*g*i*G*j*h*sa*S*(H*D):=ak;rw[l,<-I];grind
def Ed{A B D a b d}(j:D≠0)(E:(a,b,d)=nf A B D):∃G:Int,G≠0/\A=G*a/\B=G*b/\D=G*d/\0<d:=by
 obtain⟨N,K,L,l,M,C,Z,hp,J⟩:=uq (a:=A) (b:=B) j;rw[l] at E;injection E with H E;injection E with F I;subst H F I;exact⟨_,Du j,M,C,Z,hp⟩
def Ir(A B D):∃a b d:Int,(a,b,d)=nf A B D:=⟨_,_,_,rfl⟩
def FC(T v1 v2 a b d a' b' d' u v t n w)(hc:Calm w T)(L:RG w v1 a b d)(l:RG w v2 a' b' d')(sx:Sz n a b d)(sy:Sz n a' b' d')(hn:4*n+3<=12800)(hd:d≠0)(hd':d'≠0)(R:a'≠0\/b'≠0)(E:(u,v,t)=nf ((a*a'+b*b')*d') ((b*a'-a*b')*d') (d*(a'*a'+b'*b'))):
  CV 173 #[.pointer (γ ⟨T,0,δ⟩),v1,v2] w fun x w'=>RG w' x u v t:=by
 obtain⟨g,a1,b1,p,q,hg,N,M,eb,C,B⟩:=zF (a:=a) (b:=b) R;have F:p≠0\/q≠0:=by
  exact Ace
 obtain⟨h,c1,o,hh,j,ec,eo⟩:=rX (a:=d) (b:=d') hd';obtain⟨i,p1,q1,hi,I,Z,eq⟩:=yt F;have WJ:p1≠0\/q1≠0:=by
  exact Abc
 have bg:g.natAbs<2^n:=by
  rcases R with h|h
  .exact qp h C sy.a
  .exact qp h B sy.b
 have J:=fJ N M sx.a;have U:=fJ N eb sx.b;have bp:=fJ N C sy.a;have bq:=fJ N B sy.b;have Q:i.natAbs<2^n:=by
  rcases F with h|h
  .exact qp h Z bp
  .exact qp h eq bq
 have WF:=fJ I Z bp;have K:=fJ I eq bq;have bh:=qp hd ec sx.d;have WH:=fJ j ec sx.d;have bo:=fJ j eo sy.d;have m1:=bI J WF;have m2:=bI U K;have m3:=bI U WF;have m4:=bI J K;have m5:=bI WF WF;have m6:=bI K K;have m7:=jg m1 m2;have m8:=sK m3 m4;have m9:=jg m5 m6;have WI:=bI Q WH;have hN:=pV WJ;have Y:i*c1≠0:=qa I (by intro e;rw[e] at ec;simp at ec;exact hd ec);obtain⟨P,fb,S,Ef⟩:=Ir (a1*p1+b1*q1) (b1*p1-a1*q1) (p1*p1+q1*q1);obtain⟨sa,sb,D,Es⟩:=Ir o 0 (i*c1);obtain⟨G,WP,e1,e2,e3,Yu⟩:=Ed hN Ef;obtain⟨H,WN,e4,e6,e5,YP⟩:=Ed Y Es;have XU:sb=0:=by
  exact AcU
 subst XU;have sf:=jr (n:=n+n+1) hN Ef m7 m8 m9;have ss:=jr (n:=n+n+1) Y Es (iX bo aa) (show(0:Int).natAbs<2^(n+n+1) from NK aa) (iX WI aa);have WK:d*(a'*a'+b'*b')≠0:=qa hd (pV R);have WL:S*D≠0:=qa aa aa;obtain⟨WO,WM⟩:=Bc M eb C B Z eq eo ec e1 e2 e3 e4 e5;have E':(u,v,t)=nf (P*sa-fb*0) (P*0+fb*sa) (S*D):=by
  rw[E];refine oG WK WL ?_ ?_
  .rw[WO];grind
  .rw[WM];grind
 have k1:=bI (jg (bI sx.a sy.a) (bI sx.b sy.b)) sy.d;have V:=bI (sK (bI sx.b sy.a) (bI sx.a sy.b)) sy.d;have k3:=bI sx.d (jg (bI sy.a sy.a) (bI sy.b sy.b));have sz:=jr (n:=n+(n+n+1)) WK E (iX k1 aa) (iX V aa) k3;obtain⟨x1,x2,O⟩:=sx.qA aa;obtain⟨y1,y2,y3⟩:=sy.qA aa;obtain⟨f1,f2,f3⟩:=sf.qA aa;obtain⟨t1,t2,t3⟩:=ss.qA aa;obtain⟨s1,s2,s3⟩:=sz.qA aa;exact equotient_g T v1 a b d v2 a' b' d' w hc L x1 x2 O l y1 y2 y3 g (aJ hg) (bE bg aa) h (aJ hh) (bE bh aa)
  a1 (aJ (fD N M)) (bE J aa) (aJ N) (aJ ⟨_,M⟩) b1 (aJ (fD N eb)) (bE U aa) (aJ N) (aJ ⟨_,eb⟩)
  p (aJ (fD N C)) (bE bp aa) (aJ N) (aJ ⟨_,C⟩) q (aJ (fD N B)) (bE bq aa) (aJ N) (aJ ⟨_,B⟩)
  i (aJ hi) (bE Q aa) p1 (aJ (fD I Z)) (bE WF aa) (aJ I) (aJ ⟨_,Z⟩) q1 (aJ (fD I eq)) (bE K aa) (aJ I) (aJ ⟨_,eq⟩)
  _ (aJ rfl) (bE m1 aa) _ (aJ rfl) (bE m2 aa) _ (aJ rfl) (bE m7 aa)
  _ (aJ rfl) (bE m3 aa) _ (aJ rfl) (bE m4 aa) _ (aJ rfl) (bE m8 aa)
  _ (aJ rfl) (bE m5 aa) _ (aJ rfl) (bE m6 aa) _ (aJ rfl) (bE m9 aa) (aJ hN)
  P fb S (aJ Ef) f1 f2 f3 o (aJ (fD j eo)) (bE bo aa) (aJ j) (aJ ⟨_,eo⟩)
  c1 (aJ (fD j ec)) (bE WH aa) (aJ j) (aJ ⟨_,ec⟩) _ (aJ rfl) (bE WI aa) (aJ Y)
  sa 0 D (aJ Es) t1 t2 t3 u v t (aJ fun _ _ W h1 h2 h3=>yN T _ _ P fb S sa 0 D u v t (n+n+1) W h1 h2 h3 sf ss aa aa aa E') s1 s2 s3
def OT(v s l b w)(L:RX w v s l)(h:kJ s l=b):
  CE 96 #[v] w (.bool b):=by
 obtain⟨A,n,c,rfl,J⟩:=L;have:=gL s A n c l w J;rwa[h] at this
def xI(v z w)(L:RI w v z)(C:z.natAbs<lim):
  CE 96 #[v] w (.bool ε):=OT v _ _ ε w L (aeY L C)
def Oc(v0)(T Q O:Int)(w)(WQ:RG w v0 T Q O)(J:T.natAbs<lim)(I:Q.natAbs<lim)(B:O.natAbs<lim)(H1:Hid (0<O))(R:Int)(Xv:Hid (R=(fE [O,T,Q]:Nat)))(Yr:R.natAbs<lim)(H2:Hid (R=1)):
  CE 95 #[v0] w (.bool ε):=by
 have hS:=aeX w;obtain⟨Z,Y,G,C,U,P,L,V,S,M,D,W,rfl,WV,WX,WW⟩:=WQ;replace hS:=hS.aV WV;clear WV;replace hS:=hS.aV WX;clear WX;replace hS:=hS.aV WW;clear WW;have l:=(St.al hS 42 #[.bool Z,.slice Y G C,.bool U,.slice P L V,.bool S,.slice M D W] (g:=w.heap.size) ag);have WF:=(l.aH 0).cell;go_enter func95,ntmps95;(go_wp2_with fail);clear WF;clear l;refine gA1 hS 42 #[.bool Z,.slice Y G C,.bool U,.slice P L V,.bool S,.slice M D W] ?_;clear hS;intro w1 g1 o1 hS;refine(xI _ T _ (hS.aF 2) J).mono ?_;rintro e w2 ⟨rfl,F⟩;replace hS:=hS.mv F;clear F;have WR:=(hS.aH 0).cell;(go_wp2_with fail);clear WR;refine(xI _ Q _ (hS.aF 1) I).mono ?_;rintro e w3 ⟨rfl,F⟩;replace hS:=hS.mv F;clear F;have WY:=(hS.aH 0).cell;(go_wp2_with fail);clear WY;refine(xI _ O _ (hS.aF 0) B).mono ?_;rintro e w4 ⟨rfl,F⟩;replace hS:=hS.mv F;clear F;have W9:=(hS.aH 0).cell;(go_wp2_with fail);clear W9;refine(Fh _ O (1) _ (hS.aF 0) B (wZ H1.o)).mono ?_;rintro e w5 ⟨rfl,F⟩;replace hS:=hS.mv F;clear F;have WP:=(St.al hS 197 #[.int .i64 0] (g:=w5.heap.size) ag);have Xd:=(WP.aH 1).cell;(go_wp2_with fail);clear Xd;clear WP;refine gA2 hS 197 #[.int .i64 0] 40 #[.bool S,.slice M D W,.bool Z,.slice Y G C,.bool U,.slice P L V] ?_;clear hS;intro w6 g3 o3 K N hS;refine(sS g3 K O T Q R _ (hS.aH 1) (hS.aH 0) (hS.aF 0) (hS.aF 2) (hS.aF 1) B J I Xv).mono ?_;rintro e w7 ⟨v_,rfl,H,F⟩;replace hS:=hS.mv F;clear F;obtain⟨Xx,Xk,Xy,Xw,rfl,j⟩:=RI.opn H;clear H;replace hS:=hS.aV j;clear j;(go_wp2_with fail);refine(LW _ R _ (hS.aF 0) H2.o).mono ?_;rintro e w8 ⟨rfl,F⟩;exact AaI
def Wp:(1:Int).natAbs<lim:=iP aa aa
def Rq(v u x y z w)(L:RI w v x)(l:RI w u y)(H:x.natAbs<lim)(O:y.natAbs<lim)(j:z=x-y)(C:z.natAbs<lim):
  CV 148 #[v,u] w fun v w'=>nM (z,0) v w':=by
 have:=Tx v u x y w L l H O;rwa[<-j,lK C] at this
def RH(v u)(x y z:Int)(w)(L:RI w v x)(l:RI w u y)(H:x.natAbs<lim)(O:y.natAbs<lim)(j:z=(Nat.gcd x.natAbs y.natAbs:Nat)):
  CV 146 #[v,u] w fun v w'=>nM (z,0) v w':=by
 subst j;exact RB v u x y w L l H O
def Ky(v u x y q r w)(L:RI w v x)(l:RI w u y)(H:x.natAbs<lim)(O:y.natAbs<lim)(j:y≠0)(hq:q=x/y)(B:r=x%y):
  CV 182 #[v,u] w fun v w'=>Qj q r 0 v w':=by
 subst hq B;exact Jy v u x y w L l H O j
def OC{x y:Int}(H:x.natAbs<lim)(O:y.natAbs<lim):Nat.gcd x.natAbs y.natAbs<lim:=by
 rcases Be x.natAbs with h|h
 .rw[h,Nat.gcd_zero_left];exact O
 .exact Γ (Nat.gcd_le_left _ h) H
def xQ(m0 w)(l0: -9223372036854775808<=m0)(u0:m0<=9223372036854775807):
  CV 55 #[.int .i64 m0] w fun v w'=>RI w' v m0:=by
 have hS:=aeX w;go_enter func55,ntmps55;(go_wp2_with fail);refine gA1 hS 40 #[.bool ζ,.slice δ 0 0] ?_;clear hS;intro w1 g2 B hS;refine(Re (m0) _ l0 u0).mono ?_;rintro e w2 ⟨G,rfl,H,F⟩;replace hS:=hS.mv F;clear F;obtain⟨s4,l,n4,c4,rfl,j⟩:=RI.opn H;clear H;replace hS:=hS.aV j;clear j;have D:=(hS.aH 0).cell;have C:=(hS.aH 0).frozen;go_wp2;replace hS:=hS.pt 0 0 [.bool s4,.slice l n4 c4] B;exact AaQ
def Om(v0 x0 v1 x1 w)(Q:RI w v0 x0)(WT:x0.natAbs<lim)(J:RI w v1 x1)(W:x1.natAbs<lim)(D)(WZ:Hid (D=x0-x1))(WI:D.natAbs<lim):
  CV 100 #[v0,v1] w fun v w'=>RI w' v D:=by
 have hS:=aeX w;obtain⟨Y,S,V,U,rfl,T⟩:=Q.opn;replace hS:=hS.aV T;clear Q T;obtain⟨M,G,N,C,rfl,K⟩:=J.opn;replace hS:=hS.aV K;clear J K;have l:=(St.al (St.al (St.al hS 40 #[.bool Y,.slice S V U] (g:=w.heap.size) ag) 40 #[.bool M,.slice G N C] (g:=(w.heap.size+1)) ag) 40 #[.bool ζ,.slice δ 0 0] (g:=(w.heap.size+2)) ag);have WF:=(l.aH 2).cell;have WR:=(l.aH 1).cell;go_enter func100,ntmps100;(go_wp2_with fail);clear WF WR;clear l;refine gA3 hS 40 #[.bool Y,.slice S V U] 40 #[.bool M,.slice G N C] 40 #[.bool ζ,.slice δ 0 0] ?_;clear hS;intro w1 g2 o2 g3 o3 g4 o4 hS;refine(Rq _ _ x0 x1 D _ (hS.aF 1) (hS.aF 0) WT W WZ.o WI).mono ?_;exact Aav
def yc(v u x y z w)(L:RI w v x)(l:RI w u y)(H:x.natAbs<lim)(O:y.natAbs<lim)(j:z=x-y)(C:z.natAbs<lim):
  CV 100 #[v,u] w fun v w'=>RI w' v z:=Om v x u y w L H l O z (aJ j) C
def UU(v0)(x0:Int)(v1)(x1:Int)(w)(Q:RI w v0 x0)(WT:x0.natAbs<lim)(J:RI w v1 x1)(W:x1.natAbs<lim)(D:Int)(WZ:Hid (D=(Nat.gcd x0.natAbs x1.natAbs:Nat)))(WI:D.natAbs<lim):
  CV 98 #[v0,v1] w fun v w'=>RI w' v D:=by
 have hS:=aeX w;obtain⟨Y,S,V,U,rfl,T⟩:=Q.opn;replace hS:=hS.aV T;clear Q T;obtain⟨M,G,N,C,rfl,K⟩:=J.opn;replace hS:=hS.aV K;clear J K;have l:=(St.al (St.al (St.al hS 40 #[.bool Y,.slice S V U] (g:=w.heap.size) ag) 40 #[.bool M,.slice G N C] (g:=(w.heap.size+1)) ag) 40 #[.bool ζ,.slice δ 0 0] (g:=(w.heap.size+2)) ag);have WF:=(l.aH 2).cell;have WR:=(l.aH 1).cell;go_enter func98,ntmps98;(go_wp2_with fail);clear WF WR;clear l;refine gA3 hS 40 #[.bool Y,.slice S V U] 40 #[.bool M,.slice G N C] 40 #[.bool ζ,.slice δ 0 0] ?_;clear hS;intro w1 g2 o2 g3 o3 g4 o4 hS;refine(RH _ _ x0 x1 D _ (hS.aF 1) (hS.aF 0) WT W WZ.o).mono ?_;exact Aav
def zA(v u)(x y z:Int)(w)(L:RI w v x)(l:RI w u y)(H:x.natAbs<lim)(O:y.natAbs<lim)(j:z=(Nat.gcd x.natAbs y.natAbs:Nat)):
  CV 98 #[v,u] w fun v w'=>RI w' v z:=UU v x u y w L H l O z (aJ j) (by rw[j];exact OC H O)
def VZ(v0 x0 v1 x1 w)(WQ:RI w v0 x0)(WT:x0.natAbs<lim)(J:RI w v1 x1)(W:x1.natAbs<lim)(O)(WG:Hid (O=x0/x1))(WI:O.natAbs<lim)(V)(WE:Hid (V=x0%x1))(WH:Hid (x1≠0)):
  CV 149 #[v0,v1] w fun v w'=>RI w' v O:=by
 have hS:=aeX w;obtain⟨WN,WK,WM,WL,rfl,T⟩:=WQ.opn;replace hS:=hS.aV T;clear WQ T;obtain⟨M,G,N,C,rfl,K⟩:=J.opn;replace hS:=hS.aV K;clear J K;have l:=(St.al (St.al (St.al hS 40 #[.bool WN,.slice WK WM WL] (g:=w.heap.size) ag) 40 #[.bool M,.slice G N C] (g:=(w.heap.size+1)) ag) 40 #[.bool ζ,.slice δ 0 0] (g:=(w.heap.size+2)) ag);have WF:=(l.aH 2).cell;have WR:=(l.aH 1).cell;go_enter func149,ntmps149;(go_wp2_with fail);clear WF WR;clear l;refine gA3 hS 40 #[.bool WN,.slice WK WM WL] 40 #[.bool M,.slice G N C] 40 #[.bool ζ,.slice δ 0 0] ?_;clear hS;intro w1 g2 o2 g3 o3 g4 o4 hS;refine(Ky _ _ x0 x1 O V _ (hS.aF 1) (hS.aF 0) WT W WH.o WG.o WE.o).mono ?_;rintro e w2 ⟨v_,rfl,H,F⟩;replace hS:=hS.mv F;clear F;obtain⟨_,_,rfl,j,D⟩:=H;obtain⟨I,B,L,Q,rfl,P⟩:=RI.opn j;obtain⟨Z,S,U,Y,rfl,R⟩:=RI.opn D;clear j D;replace hS:=hS.aV P;clear P;replace hS:=hS.aV R;clear R;have o5:Own w w2.heap.size:=aeT hS.ext ag;have o6:Own w (w2.heap.size+1):=aeT hS.ext ag;have WP:=(St.al (St.al hS 40 #[.bool ζ,.slice δ 0 0] (g:=w2.heap.size) ag) 40 #[.bool ζ,.slice δ 0 0] (g:=(w2.heap.size+1)) ag);have WY:=(WP.aH 1).cell;have W9:=(WP.aH 1).frozen;have Xc:=(St.al (St.al hS 40 #[.bool I,.slice B L Q] (g:=w2.heap.size) ag) 40 #[.bool ζ,.slice δ 0 0] (g:=(w2.heap.size+1)) ag);have Xd:=(Xc.aH 0).cell;have Xp:=(Xc.aH 0).frozen;have Xh:=(St.al (St.al hS 40 #[.bool I,.slice B L Q] (g:=w2.heap.size) ag) 40 #[.bool Z,.slice S U Y] (g:=(w2.heap.size+1)) ag);have Xr:=(Xh.aH 1).cell;have XU:=(Xh.aH 2).cell;have XV:=(Xh.aH 2).frozen;go_wp2;replace hS:=(St.al (St.al hS 40 #[.bool I,.slice B L Q] (g:=w2.heap.size) ag) 40 #[.bool Z,.slice S U Y] (g:=w2.heap.size+1) ag).pt 2 0 [.bool I,.slice B L Q] o4;exact fC rfl rfl rfl (hS.aH 2) ⟨_,rfl,(hS.aF 1),hS.ext⟩
def O0(v u x y z w)(L:RI w v x)(l:RI w u y)(H:x.natAbs<lim)(O:y.natAbs<lim)(R:y≠0)(j:z=x/y)(C:z.natAbs<lim):
  CV 149 #[v,u] w fun v w'=>RI w' v z:=VZ v x u y w L H l O z (aJ j) C _ (aJ rfl) (aJ R)
def G8(v0 V v1 D w)(O:RI w v0 V)(WT:V.natAbs<lim)(J:RI w v1 D)(W:D.natAbs<lim)(H1:Hid (0<D))(I)(B:Hid (I=V/D))(j:I.natAbs<lim)(WU:Hid (D≠0)):
  CV 101 #[v0,v1] w fun v w'=>RI w' v I:=by
 have hS:=aeX w;obtain⟨U,P,S,R,rfl,T⟩:=O.opn;replace hS:=hS.aV T;clear O T;obtain⟨M,G,N,C,rfl,K⟩:=J.opn;replace hS:=hS.aV K;clear J K;have l:=(St.al (St.al (St.al hS 40 #[.bool U,.slice P S R] (g:=w.heap.size) ag) 40 #[.bool M,.slice G N C] (g:=(w.heap.size+1)) ag) 40 #[.bool ζ,.slice δ 0 0] (g:=(w.heap.size+2)) ag);have WF:=(l.aH 1).cell;go_enter func101,ntmps101;(go_wp2_with fail);clear WF;clear l;refine gA3 hS 40 #[.bool U,.slice P S R] 40 #[.bool M,.slice G N C] 40 #[.bool ζ,.slice δ 0 0] ?_;clear hS;intro w1 g2 o2 g3 o3 g4 o4 hS;refine(wQ _ D (1) _ (hS.aF 0) W (wZ H1.o)).mono ?_;rintro e w2 ⟨rfl,F⟩;replace hS:=hS.mv F;clear F;have WR:=(hS.aH 2).cell;have WY:=(hS.aH 1).cell;(go_wp2_with fail);clear WR WY;refine(O0 _ _ V D I _ (hS.aF 1) (hS.aF 0) WT W WU.o B.o j).mono ?_;rintro e w3 ⟨v_,rfl,H,F⟩;replace hS:=hS.mv F;clear F;obtain⟨WS,Q,Y,Z,rfl,L⟩:=RI.opn H;clear H;replace hS:=hS.aV L;clear L;have W9:=(hS.aH 0).cell;have Xd:=(hS.aH 0).frozen;go_wp2;replace hS:=hS.pt 0 0 [.bool WS,.slice Q Y Z] o4;exact AaQ
def GR(v0 x0 v1 x1 w)(WQ:RI w v0 x0)(WT:x0.natAbs<lim)(J:RI w v1 x1)(W:x1.natAbs<lim)(H1:Hid (x1<0))(D)(WZ:Hid (D=(0)-x0))(WI:D.natAbs<lim)(Q)(WP:Hid (Q=(0)-x1))(W9:Q.natAbs<lim)(Y)(WO:Hid (Y=D/Q))(Xa:Y.natAbs<lim)(WS:Hid (Q≠0)):
  CV 101 #[v0,v1] w fun v w'=>RI w' v Y:=by
 have hS:=aeX w;obtain⟨WN,WK,WM,WL,rfl,T⟩:=WQ.opn;replace hS:=hS.aV T;clear WQ T;obtain⟨M,G,N,C,rfl,K⟩:=J.opn;replace hS:=hS.aV K;clear J K;have l:=(St.al (St.al (St.al hS 40 #[.bool WN,.slice WK WM WL] (g:=w.heap.size) ag) 40 #[.bool M,.slice G N C] (g:=(w.heap.size+1)) ag) 40 #[.bool ζ,.slice δ 0 0] (g:=(w.heap.size+2)) ag);have WF:=(l.aH 1).cell;go_enter func101,ntmps101;(go_wp2_with fail);clear WF;clear l;refine gA3 hS 40 #[.bool WN,.slice WK WM WL] 40 #[.bool M,.slice G N C] 40 #[.bool ζ,.slice δ 0 0] ?_;clear hS;intro w1 g2 o2 g3 o3 g4 o4 hS;refine(wQ _ x1 (-1) _ (hS.aF 0) W (zO H1.o)).mono ?_;rintro e w2 ⟨rfl,F⟩;replace hS:=hS.mv F;clear F;(go_wp2_with fail);have Y3:=aK.blk (hS.aH 1);have Y2:=aK.blk (hS.aH 2);have B:=hS.ext;refine tF 7 [(0,.ri ((0))),(2,.ri (D)),(3,.ri ((0))),(5,.ri (Q)),(6,.ri (Y))] ?_;refine Ei (fun R I=>xQ (0) _ aa aa) ?_;intro s8 WJ n8 c8 Xn Yd;refine Qs ?_;refine Ei (fun R I=>yc _ _ (0) x0 D _ (I.f 0 ((iv s8 WJ n8 c8),Xn,Yd)) (hS.aD 1 I.1) (iP aa aa) WT WZ.o WI) ?_;intro WG WH P Z Xi WX;refine Ei (fun R I=>xQ (0) _ aa aa) ?_;intro V H U S Xk XT;refine Qs ?_;refine Ei (fun R I=>yc _ _ (0) x1 Q _ (I.f 3 ((iv V H U S),Xk,XT)) (hS.aD 0 I.1) (iP aa aa) W WP.o W9) ?_;intro WE O WW c13 L YN;refine Ei (fun R I=>O0 _ _ D Q Y _ (I.f 2 ((iv WG WH P Z),Xi,WX)) (I.f 5 ((iv WE O WW c13),L,YN)) WI W9 WS.o WO.o Xa) ?_;intro Xe Xf Xc c14 Xm XQ;refine bD ?_;intro w3 I;have j:=hS.lt;replace hS:=hS.mv I.ext;replace hS:=hS.aI I 0;replace hS:=hS.aI I 2;replace hS:=hS.aI I 3;replace hS:=hS.aI I 5;replace hS:=hS.aI I 6;clear I j B Y3 Y2;have WR:=(hS.aH 0).cell;have WY:=(hS.aH 0).frozen;go_wp2;replace hS:=hS.pt 0 0 [.bool Xe,.slice Xf Xc c14] o4;exact AaQ
def j6(v u x y z w)(L:RI w v x)(l:RI w u y)(H:x.natAbs<lim)(O:y.natAbs<lim)(R:y≠0)(hd:y∣x)(j:z=x/y):
  CV 101 #[v,u] w fun v w'=>RI w' v z:=by
 have Z:z.natAbs<lim:=by rw[j];exact jG H hd
 by_cases h:y<0
 .refine GR v x u y w L H l O (aJ h) (0-x) (aJ rfl) aa (0-y) (aJ rfl) aa z (aJ ?_) Z (aJ aa);rw[j];obtain⟨k,rfl⟩:=hd;have e:0-y*k=(0-y)*k:=ak;rw[e,abq _ R,abq _ aa]
 .exact G8 v x u y w L H l O (aJ aa) z (aJ j) Z (aJ R)
def TE(v0)(x0:Int)(v1)(x1:Int)(v2)(x2:Int)(w)(WQ:RI w v0 x0)(WT:x0.natAbs<lim)(J:RI w v1 x1)(W:x1.natAbs<lim)(Xe:RI w v2 x2)(WS:x2.natAbs<lim)(H1:Hid (x2<0))(D:Int)(WZ:Hid (D=(Nat.gcd x0.natAbs x1.natAbs:Nat)))(WI:D.natAbs<lim)(H:Int)(XK:Hid (H=(Nat.gcd D.natAbs x2.natAbs:Nat)))(WV:H.natAbs<lim)(O:Int)(XM:Hid (O=(0)-H))(Xh:O.natAbs<lim)(WE:Int)(Xt:Hid (WE=x0/O))(Xn:WE.natAbs<lim)(XJ:Hid (O≠0))(XD:Hid (O∣x0))(Y:Int)(YO:Hid (Y=x1/O))(Za:Y.natAbs<lim)(XE:Hid (O≠0))(Xv:Hid (O∣x1))(Xa:Int)(XH:Hid (Xa=x2/O))(XV:Xa.natAbs<lim)(XI:Hid (O≠0))(XC:Hid (O∣x2)):
  CV 54 #[v0,v1,v2] w fun v w'=>RG w' v WE Y Xa:=by
 have hS:=aeX w;obtain⟨WN,WK,WM,WL,rfl,T⟩:=WQ.opn;replace hS:=hS.aV T;clear WQ T;obtain⟨M,G,N,C,rfl,K⟩:=J.opn;replace hS:=hS.aV K;clear J K;obtain⟨V,Q,S,U,rfl,WO⟩:=Xe.opn;replace hS:=hS.aV WO;clear Xe WO;go_enter func54,ntmps54;(go_wp2_with fail);refine gA4 hS 40 #[.bool WN,.slice WK WM WL] 40 #[.bool M,.slice G N C] 40 #[.bool V,.slice Q S U] 42 #[.bool ζ,.slice δ 0 0,.bool ζ,.slice δ 0 0,.bool ζ,.slice δ 0 0] ?_;clear hS;intro w1 g3 o3 g4 o4 g5 o5 g6 o6 hS;have Y5:=aK.blk (hS.aH 1);have Y4:=aK.blk (hS.aH 2);have Y3:=aK.blk (hS.aH 3);have B:=hS.ext;refine tF 6 [(2,.ri (D)),(4,.ri (H)),(5,.box 40 #[.bool ζ,.slice δ 0 0])] ?_;refine Qs ?_;refine Ei (fun R I=>zA _ _ x0 x1 D _ (hS.aD 2 I.1) (hS.aD 1 I.1) WT W WZ.o) ?_;intro WG WH P Z Xi WX;refine Qs ?_;refine Ei (fun R I=>zA _ _ D x2 H _ (I.f 2 ((iv WG WH P Z),Xi,WX)) (hS.aD 0 I.1) WI WS XK.o) ?_;intro WP Xc WJ WU XT YA;refine Eb ?_;intro g7 WW L;refine bD ?_;intro w2 I;have j:=hS.lt;replace hS:=hS.mv I.ext;replace hS:=hS.aI I 2;replace hS:=hS.aI I 4;have Xq:=I.lw 5;have o7:Own w g7:=aeT B Xq;replace hS:=hS.aB I 5 g7 (apF j Xq);clear I j B Y5 Y4 Y3;clear Xq L WW;have WF:=(hS.aH 0).cell;have WR:=(hS.aH 0).frozen;have l:=hS.pt 0 0 [.bool WP,.slice Xc WJ WU] o7;have WY:=(l.aH 2).cell;(go_wp2_with fail);clear WF WR WY;clear l;replace hS:=hS.pt 0 0 [.bool WP,.slice Xc WJ WU] o7;refine gW hS ?_;clear hS;intro w3 hS;refine(wQ _ x2 (-1) _ (hS.aF 2) WS (zO H1.o)).mono ?_;rintro e w4 ⟨rfl,F⟩;replace hS:=hS.mv F;clear F;(go_wp2_with fail);have Y7:=aK.blk (hS.aH 0);have B:=hS.ext;refine tF 3 [(0,.ri ((0))),(2,.ri (O))] ?_;refine Ei (fun R I=>xQ (0) _ aa aa) ?_;intro Xo XQ Xy XA XU YP;refine Qs ?_;refine Ei (fun R I=>yc _ _ (0) H O _ (I.f 0 ((iv Xo XQ Xy XA),XU,YP)) (hS.aD 0 I.1) (iP aa aa) WV XM.o Xh) ?_;intro XB XP Xk Xz XW ZB;refine bD ?_;intro w5 I;have j:=hS.lt;replace hS:=hS.mv I.ext;replace hS:=hS.aI I 0;replace hS:=hS.aI I 2;clear I j B Y7;have W9:=(hS.aH 0).cell;have Xd:=(hS.aH 0).frozen;(go_wp2_with fail);clear W9 Xd;replace hS:=hS.pt 0 0 [.bool XB,.slice XP Xk Xz] o7;refine gW hS ?_;clear hS;intro w6 hS;have Y7:=aK.blk (hS.aH 0);have Y5:=aK.blk (hS.aH 2);have Y4:=aK.blk (hS.aH 3);have Y3:=aK.blk (hS.aH 4);have B:=hS.ext;refine tF 10 [(2,.ri (WE)),(5,.ri (Y)),(8,.ri (Xa))] ?_;refine Qs ?_;refine Ei (fun R I=>j6 _ _ x0 O WE _ (hS.aD 6 I.1) (hS.aD 0 I.1) WT Xh XJ.o XD.o Xt.o) ?_;intro Xm Xb Xf Xl XO XN;refine Qs ?_;refine Ei (fun R I=>j6 _ _ x1 O Y _ (hS.aD 5 I.1) (hS.aD 0 I.1) W Xh XE.o Xv.o YO.o) ?_;intro XL Xg XR X7 YM Zd;refine Qs ?_;refine Ei (fun R I=>j6 _ _ x2 O Xa _ (hS.aD 4 I.1) (hS.aD 0 I.1) WS Xh XI.o XC.o XH.o) ?_;intro Xw Xj Xu Xx XG XF;refine Qs ?_;refine bD ?_;intro w7 I;have j:=hS.lt;replace hS:=hS.mv I.ext;replace hS:=hS.aI I 2;replace hS:=hS.aI I 5;replace hS:=hS.aI I 8;clear I j B Y7 Y5 Y4 Y3;have Xp:=(hS.aH 1).cell;have Xr:=(hS.aH 1).frozen;exact AaW
def SF(v0)(x0:Int)(v1)(x1:Int)(v2)(x2:Int)(w)(WQ:RI w v0 x0)(WT:x0.natAbs<lim)(J:RI w v1 x1)(W:x1.natAbs<lim)(Xe:RI w v2 x2)(WS:x2.natAbs<lim)(H1:Hid (0<x2))(D:Int)(WZ:Hid (D=(Nat.gcd x0.natAbs x1.natAbs:Nat)))(WI:D.natAbs<lim)(H:Int)(XK:Hid (H=(Nat.gcd D.natAbs x2.natAbs:Nat)))(WV:H.natAbs<lim)(O:Int)(Xt:Hid (O=x0/H))(Xn:O.natAbs<lim)(XJ:Hid (H≠0))(XD:Hid (H∣x0))(Y:Int)(YO:Hid (Y=x1/H))(Za:Y.natAbs<lim)(XE:Hid (H≠0))(Xv:Hid (H∣x1))(Xa:Int)(XH:Hid (Xa=x2/H))(XV:Xa.natAbs<lim)(XI:Hid (H≠0))(XC:Hid (H∣x2)):
  CV 54 #[v0,v1,v2] w fun v w'=>RG w' v O Y Xa:=by
 have hS:=aeX w;obtain⟨WN,WK,WM,WL,rfl,T⟩:=WQ.opn;replace hS:=hS.aV T;clear WQ T;obtain⟨M,G,N,C,rfl,K⟩:=J.opn;replace hS:=hS.aV K;clear J K;obtain⟨V,Q,S,U,rfl,WO⟩:=Xe.opn;replace hS:=hS.aV WO;clear Xe WO;go_enter func54,ntmps54;(go_wp2_with fail);refine gA4 hS 40 #[.bool WN,.slice WK WM WL] 40 #[.bool M,.slice G N C] 40 #[.bool V,.slice Q S U] 42 #[.bool ζ,.slice δ 0 0,.bool ζ,.slice δ 0 0,.bool ζ,.slice δ 0 0] ?_;clear hS;intro w1 g3 o3 g4 o4 g5 o5 g6 o6 hS;have Y5:=aK.blk (hS.aH 1);have Y4:=aK.blk (hS.aH 2);have Y3:=aK.blk (hS.aH 3);have B:=hS.ext;refine tF 6 [(2,.ri (D)),(4,.ri (H)),(5,.box 40 #[.bool ζ,.slice δ 0 0])] ?_;refine Qs ?_;refine Ei (fun R I=>zA _ _ x0 x1 D _ (hS.aD 2 I.1) (hS.aD 1 I.1) WT W WZ.o) ?_;intro WG WH P Z Xi WX;refine Qs ?_;refine Ei (fun R I=>zA _ _ D x2 H _ (I.f 2 ((iv WG WH P Z),Xi,WX)) (hS.aD 0 I.1) WI WS XK.o) ?_;intro WP Xc WJ WU XT YA;refine Eb ?_;intro g7 WW L;refine bD ?_;intro w2 I;have j:=hS.lt;replace hS:=hS.mv I.ext;replace hS:=hS.aI I 2;replace hS:=hS.aI I 4;have Xq:=I.lw 5;have o7:Own w g7:=aeT B Xq;replace hS:=hS.aB I 5 g7 (apF j Xq);clear I j B Y5 Y4 Y3;clear Xq L WW;have WF:=(hS.aH 0).cell;have WR:=(hS.aH 0).frozen;have l:=hS.pt 0 0 [.bool WP,.slice Xc WJ WU] o7;have WY:=(l.aH 2).cell;(go_wp2_with fail);clear WF WR WY;clear l;replace hS:=hS.pt 0 0 [.bool WP,.slice Xc WJ WU] o7;refine gW hS ?_;clear hS;intro w3 hS;refine(wQ _ x2 (1) _ (hS.aF 2) WS (wZ H1.o)).mono ?_;rintro e w4 ⟨rfl,F⟩;replace hS:=hS.mv F;clear F;(go_wp2_with fail);have Y7:=aK.blk (hS.aH 0);have Y5:=aK.blk (hS.aH 2);have Y4:=aK.blk (hS.aH 3);have Y3:=aK.blk (hS.aH 4);have B:=hS.ext;refine tF 10 [(2,.ri (O)),(5,.ri (Y)),(8,.ri (Xa))] ?_;refine Qs ?_;refine Ei (fun R I=>j6 _ _ x0 H O _ (hS.aD 4 I.1) (hS.aD 0 I.1) WT WV XJ.o XD.o Xt.o) ?_;intro Xm Xb Xf Xl XO XN;refine Qs ?_;refine Ei (fun R I=>j6 _ _ x1 H Y _ (hS.aD 3 I.1) (hS.aD 0 I.1) W WV XE.o Xv.o YO.o) ?_;intro XL Xg XR X7 YM Zd;refine Qs ?_;refine Ei (fun R I=>j6 _ _ x2 H Xa _ (hS.aD 2 I.1) (hS.aD 0 I.1) WS WV XI.o XC.o XH.o) ?_;intro Xw Xj Xu Xx XG XF;refine Qs ?_;refine bD ?_;intro w5 I;have j:=hS.lt;replace hS:=hS.mv I.ext;replace hS:=hS.aI I 2;replace hS:=hS.aI I 5;replace hS:=hS.aI I 8;clear I j B Y7 Y5 Y4 Y3;have W9:=(hS.aH 1).cell;have Xd:=(hS.aH 1).frozen;exact AaW
theorem PH(v1 I H l j O a b d w)(P:RI w v1 l)(L:RI w I j)(R:RI w H O)(B:l.natAbs<lim)(C:j.natAbs<lim)(D:O.natAbs<lim)(hd:O≠0)(E:(a,b,d)=nf l j O):
  CV 54 #[v1,I,H] w fun v w'=>RG w' v a b d:=by
 obtain⟨K,J,d3⟩:=Jl l j O;have N:=Ep (a:=l) (b:=j) hd;have G:=T9 B C D;have S:((Nat.gcd (Nat.gcd l.natAbs j.natAbs:Int).natAbs O.natAbs:Nat):Int)=g3 l j O:=by rw[Int.natAbs_natCast,Vi]
 have g1:=OC B C;unfold nf gZ sgZ at E;by_cases hn:O<0
 .rw[ι hn] at E;have T:(-1:Int)*(g3 l j O:Int)=0-(g3 l j O:Int):=aa;rw[T] at E;injection E with M E;injection E with F Z;have n1:0-(g3 l j O:Int)≠0:=aa;have q1:0-(g3 l j O:Int)∣l:=by rw[aed];exact ack.2 K
  have q2:0-(g3 l j O:Int)∣j:=by rw[aed];exact ack.2 J
  have Q:0-(g3 l j O:Int)∣O:=by rw[aed];exact ack.2 d3
  exact TE v1 l I j H O w P B L C R D (aJ hn) _ (aJ rfl) (by simpa using g1) _ (aJ S.symm) (by simpa using G) _ (aJ rfl) aa a (aJ M) (by rw[M];exact jG B q1) (aJ n1) (aJ q1) b (aJ F) (by rw[F];exact jG C q2) (aJ n1) (aJ q2) d (aJ Z) (by rw[Z];exact jG D Q) (aJ n1) (aJ Q)
 .rw[θ hn,aeA] at E;injection E with M E;injection E with F Z;have n1:(g3 l j O:Int)≠0:=aa;exact SF v1 l I j H O w P B L C R D (aJ aa) _ (aJ rfl) (by simpa using g1) _ (aJ S.symm) (by simpa using G) a (aJ M) (by rw[M];exact jG B K) (aJ n1) (aJ K) b (aJ F) (by rw[F];exact jG C J) (aJ n1) (aJ J) d (aJ Z) (by rw[Z];exact jG D d3) (aJ n1) (aJ d3)
def Vp(m0 m1 w)(l0: -9223372036854775808<=m0)(u0:m0<=9223372036854775807)(l1: -9223372036854775808<=m1)(u1:m1<=9223372036854775807)(Y:Hid ((1:Int)≠0))(D G B)(WZ:Hid ((D,G,B)=nf (m0) (m1) (1:Int)))(WG:D.natAbs<lim)(WE:G.natAbs<lim)(Z:B.natAbs<lim):
  CV 18 #[.int .i64 m0,.int .i64 m1] w fun v w'=>RG w' v D G B:=by
 have hS:=aeX w;go_enter func18,ntmps18;(go_wp2_with fail);refine gA1 hS 42 #[.bool ζ,.slice δ 0 0,.bool ζ,.slice δ 0 0,.bool ζ,.slice δ 0 0] ?_;clear hS;intro w1 g4 o4 hS;refine(xQ (m0) _ l0 u0).mono ?_;rintro e w2 ⟨v_,rfl,H,F⟩;replace hS:=hS.mv F;clear F;obtain⟨s6,WH,n6,c6,rfl,I⟩:=RI.opn H;clear H;replace hS:=hS.aV I;clear I;(go_wp2_with fail);refine(xQ (m1) _ l1 u1).mono ?_;rintro e w3 ⟨v_,rfl,H,F⟩;replace hS:=hS.mv F;clear F;obtain⟨s8,WJ,n8,c8,rfl,J⟩:=RI.opn H;clear H;replace hS:=hS.aV J;clear J;(go_wp2_with fail);refine(xQ (1) _ aa aa).mono ?_;rintro e w4 ⟨v_,rfl,H,F⟩;replace hS:=hS.mv F;clear F;obtain⟨s9,WI,n9,c9,rfl,K⟩:=RI.opn H;clear H;replace hS:=hS.aV K;clear K;(go_wp2_with fail);refine(PH _ _ _ (m0) (m1) (1:Int) D G B _ (hS.aF 2) (hS.aF 1) (hS.aF 0) (iP l0 u0) (iP l1 u1) (iP aa aa) Y.o WZ.o).mono ?_;rintro e w5 ⟨v_,rfl,H,F⟩;replace hS:=hS.mv F;clear F;obtain⟨S,N,O,R,V,M,Q,P,W,L,U,T,rfl,j,C,l⟩:=H;replace hS:=hS.aV j;clear j;replace hS:=hS.aV C;clear C;replace hS:=hS.aV l;clear l;have WF:=(hS.aH 0).cell;have WR:=(hS.aH 0).frozen;go_wp2;replace hS:=hS.pt 0 0 [.bool S,.slice N O R,.bool V,.slice M Q P,.bool W,.slice L U T] o4;exact cO rfl rfl rfl (hS.aH 0) ⟨_,rfl,RG.mk (hS.aF 2) (hS.aF 1) (hS.aF 0),hS.ext⟩
theorem Vw(a b):Low a b 1:=⟨aa,by unfold g3;simp⟩
def Ld(m n w)(l0: -9223372036854775808<=m)(u0:m<=9223372036854775807)(l1: -9223372036854775808<=n)(u1:n<=9223372036854775807):
  CV 18 #[.int .i64 m,.int .i64 n] w fun v w'=>RG w' v m n 1:=
 Vp m n w l0 u0 l1 u1 (aJ aa) m n 1 (aJ (zV (Vw m n)).symm) (iP l0 u0) (iP l1 u1) Wp
structure FK (m n:Nat) (a b d a' b' d' u v t:Int):Prop where
 sx:Sz m a b d
 sy:Sz n a' b' d'
 hn:m+n+1<=12800
 hd:d≠0
 hd':d'≠0
 E:(u,v,t)=nf (a*a'-b*b') (a*b'+b*a') (d*d')
def FK.size{m n a b d a' b' d' u v t}(h:FK m n a b d a' b' d' u v t):Sz (m+n+1) u v t:=
 jr (qa h.hd h.hd') h.E (sK (bI h.sx.a h.sy.a) (bI h.sx.b h.sy.b)) (jg (bI h.sx.a h.sy.b) (bI h.sx.b h.sy.a)) (iX (bI h.sx.d h.sy.d) aa)
def af7{x y m n a b d a' b' d' u v t}(J:Is x a b d)(sx:Sz m a b d)(R:Is y a' b' d')(sy:Sz n a' b' d')(h:Is (x*y) u v t)(hn:m+n+1<=12800):FK m n a b d a' b' d' u v t:=by
 have l:=gm J.dne;have j:=gm R.dne;refine⟨sx,sy,hn,J.dne,R.dne,(h.Gx (qa J.dne R.dne) ?_ ?_).symm⟩
 .exact Acr
 .rw[GQ.aY,J.re,R.re,J.im,R.im];exact AaJ
def fZ(q):∃a b d:Int,Is q a b d:=by
 have l:((q.re.den:Nat):Int)≠0:=by have:=q.re.den_nz;omega
 have j:((q.im.den:Nat):Int)≠0:=by have:=q.im.den_nz;omega
 have B:q.re=((q.re.num:Int):Rat)/(((q.re.den:Nat):Int):Rat):=by
  rw[<-Rat.divInt_eq_div];exact(Rat.num_divInt_den q.re).symm
 have C:q.im=((q.im.num:Int):Rat)/(((q.im.den:Nat):Int):Rat):=by
  rw[<-Rat.divInt_eq_div];exact(Rat.num_divInt_den q.im).symm
 generalize q.re.num=a at*
 generalize ((q.re.den:Nat):Int)=d at*
 generalize q.im.num=b at*
 generalize ((q.im.den:Nat):Int)=f at*
 have D:=gm l;have V:=gm j;have h:=QT (a:=a*f) (b:=b*d) (d:=d*f) (qa l j);refine⟨_,_,_,⟨h.low,?_,?_⟩⟩
 .rw[<-h.re,B];simp only[aau];grind
 .rw[<-h.im,C];simp only[aau];grind
def VL{a b}(l1: -9223372036854775808<=a)(u1:a<=9223372036854775807)(l2: -9223372036854775808<=b)(u2:b<=9223372036854775807):Sz 64 a b 1:=⟨Co l1 u1,Co l2 u2,aj⟩
def GV (w:World) (v:Value) (q:GQ) (n:Nat):Prop:=∃a b d:Int,RG w v a b d/\Is q a b d/\Sz n a b d
def GV.ext{w w' v q n}(h:GV w v q n)(x:Ext w w'):GV w' v q n:=by
 obtain⟨a,b,d,l,j,B⟩:=h;exact⟨a,b,d,l.ext x,j,B⟩
def PV (w:World) (v:Value) (p:PQ) (n:Nat):Prop:=∃a b d x y z:Int,RP w v a b d x y z/\Is p.u a b d/\Sz n a b d/\Is p.v x y z/\Sz n x y z
def PV.ext{w w' v p n}(h:PV w v p n)(e:Ext w w'):PV w' v p n:=by
 obtain⟨a,b,d,x,y,z,l,j⟩:=h;exact⟨a,b,d,x,y,z,l.ext e,j⟩
def SS{n}(hn:1<=n):Sz n 0 0 1:=Sz.mono (m:=1) ⟨aj,aj,aj⟩ hn
def ul(v0 q0 n0 w)(WQ:GV w v0 q0 n0)(hn:1<=n0):
  CV 36 #[v0] w fun v w'=>PV w' v (PQ.plain q0) (n0):=by
 have hS:=aeX w;obtain⟨Xu,Xt,Xq,WQ,I0,S0⟩:=WQ;obtain⟨Z,Y,G,C,U,P,L,V,S,M,D,W,rfl,WV,WX,WW⟩:=WQ;replace hS:=hS.aV WV;clear WV;replace hS:=hS.aV WX;clear WX;replace hS:=hS.aV WW;clear WW;go_enter func36,ntmps36;(go_wp2_with fail);refine gA2 hS 42 #[.bool Z,.slice Y G C,.bool U,.slice P L V,.bool S,.slice M D W] 44 #[.bool ζ,.slice δ 0 0,.bool ζ,.slice δ 0 0,.bool ζ,.slice δ 0 0,.bool ζ,.slice δ 0 0,.bool ζ,.slice δ 0 0,.bool ζ,.slice δ 0 0] ?_;clear hS;intro w1 g1 o1 g2 o2 hS;have Y1:=aK.blk (hS.aH 1);have B:=hS.ext;refine tF 3 [(1,.rg ((0:Int)) ((0:Int)) ((1:Int)))] ?_;refine Qs ?_;refine Eg (fun R I=>Ld (0) (0) _ aa aa aa aa) ?_;intro WE H WG N K l O WJ J F Q WI T WH;refine Qs ?_;refine bD ?_;intro w2 I;have j:=hS.lt;replace hS:=hS.mv I.ext;replace hS:=hS.aG I 1;clear I j B Y1;have WF:=(hS.aH 0).cell;have WR:=(hS.aH 0).frozen;go_wp2;replace hS:=hS.pt 0 0 [.bool Z,.slice Y G C,.bool U,.slice P L V,.bool S,.slice M D W,.bool WE,.slice H WG N,.bool K,.slice l O WJ,.bool J,.slice F Q WI] o2;exact JN rfl rfl rfl (hS.aH 0) ⟨_,rfl,⟨_,_,_,_,_,_,RP.mk (hS.aF 5) (hS.aF 4) (hS.aF 3) (hS.aF 2) (hS.aF 1) (hS.aF 0),I0,S0,(KD 0 0),(SS hn)⟩,hS.ext⟩
def GV.at_{w v q n a b d}(h:GV w v q n)(I:Is q a b d):RG w v a b d:=by
 obtain⟨B,b1,C,l,j,_⟩:=h;obtain⟨rfl,rfl,rfl⟩:=j.unique I;exact l
def PV.at_{w v p n a b d x y z}(h:PV w v p n)(I:Is p.u a b d)(J:Is p.v x y z):RP w v a b d x y z:=by
 obtain⟨F,b1,D,G,C,z1,l,j,_,B,_⟩:=h;obtain⟨rfl,rfl,rfl⟩:=j.unique I;obtain⟨rfl,rfl,rfl⟩:=B.unique J;exact l
def Bd (q:GQ) (n:Nat):Prop:=∃a b d:Int,Is q a b d/\Sz n a b d
def Bd.sz{q n a b d}(h:Bd q n)(I:Is q a b d):Sz n a b d:=by
 obtain⟨B,b1,C,l,j⟩:=h;obtain⟨rfl,rfl,rfl⟩:=l.unique I;exact j
def Bd.mono{q m n}(h:Bd q m)(N:m<=n):Bd q n:=by
 obtain⟨a,b,d,l,j⟩:=h;exact⟨a,b,d,l,j.mono N⟩
def Bd.add{x y m n}(J:Bd x m)(R:Bd y n):Bd (x+y) (m+n+1):=by
 obtain⟨a,b,d,C,l⟩:=J;obtain⟨a',b',d',D,B⟩:=R;obtain⟨u,v,t,j⟩:=fZ (x+y);exact⟨u,v,t,j,C.Ps l D B j⟩
def Bd.mul{x y m n}(J:Bd x m)(R:Bd y n):Bd (x*y) (m+n+1):=by
 obtain⟨a,b,d,C,l⟩:=J;obtain⟨a',b',d',D,B⟩:=R;obtain⟨u,v,t,j⟩:=fZ (x*y);exact⟨u,v,t,j,C.Pv l D B j⟩
def aga{q:GQ}{a b d:Int}{n:Nat}(hd:d≠0)(j:q.re=(a:Rat)/(d:Rat))(hi:q.im=(b:Rat)/(d:Rat))(s:Sz n a b d):Bd q n:=by
 obtain⟨u,v,t,h⟩:=fZ q;exact⟨u,v,t,h,h.size hd j hi s⟩
def aeV:Nat->GQ
 |0=>GQ.i 1 0
 |n+1=>aeV n*GQ.i 0 1
def afT(q):q*GQ.i 1 0=q:=by
 ext<;>simp only[GQ.aZ,GQ.aY,GQ.dE,GQ.dD]<;>grind
theorem Is.turn{q a b d k}(h:Is (q*aeV k) a b d):Is (q*aeV (k+1)) (-b) a d:=by
 have e:q*aeV (k+1)=(q*aeV k)*GQ.i 0 1:=(GQ.bZ q (aeV k) (GQ.i 0 1)).symm;rw[e];have hd:=gm h.dne;refine⟨⟨h.low.1,?_⟩,?_,?_⟩
 .have:=h.low.2;unfold g3 at*
  rw[Int.natAbs_neg,acn,aaJ b.natAbs,<-acn];exact this
 .rw[GQ.aZ,h.re,h.im];simp only[GQ.dE,GQ.dD,Rat.intCast_neg];grind
 .rw[GQ.aY,h.re,h.im];simp only[GQ.dE,GQ.dD];grind
def Sz.turn{n a b d}(h:Sz n a b d):Sz n (-b) a d:=⟨by rw[Int.natAbs_neg];exact h.b,h.a,h.d⟩
def Nn(T:Nat)(v1 q1)(n1:Nat)(K:Nat)(w)(hc:Calm w T)(J:GV w v1 q1 n1)(hn:n1<=12800)(I:K<=100):
  CV 130 #[.pointer (γ ⟨T,0,δ⟩),v1,.int .i64 ((K:Int))] w fun v w'=>GV w' v (q1*aeV K) (n1):=by
 have hS:=aeX w;obtain⟨Xb,Xa,WZ,J,I1,S1⟩:=J;obtain⟨WM,WJ,WI,WL,WN,WO,WK,WH,WE,Q,O,WG,rfl,WT,WU,WS⟩:=J;replace hS:=hS.aV WT;clear WT;replace hS:=hS.aV WU;clear WU;replace hS:=hS.aV WS;clear WS;replace hS:=hS.xq hc trivial;clear hc;go_enter func130,ntmps130;(go_wp2_with fail);refine gA2 hS 42 #[.bool WM,.slice WJ WI WL,.bool WN,.slice WO WK WH,.bool WE,.slice Q O WG] 42 #[.bool ζ,.slice δ 0 0,.bool ζ,.slice δ 0 0,.bool ζ,.slice δ 0 0] ?_;clear hS;intro w1 g4 o4 g6 o6 hS;have Y4:=aK.blk (hS.aH 1);have B:=hS.ext;refine tF 8 [(2,.ri (Xb)),(5,.ri (Xa)),(6,.box 40 #[.bool ζ,.slice δ 0 0]),(7,.box 40 #[.bool ζ,.slice δ 0 0])] ?_;refine Qs ?_;refine Ei (fun R I=>lX _ Xb _ (hS.aD 2 I.1) (bE S1.a aa)) ?_;intro V H U S Xk XT;refine Qs ?_;refine Ei (fun R I=>lX _ Xa _ (hS.aD 1 I.1) (bE S1.b aa)) ?_;intro Xe Xf Xc c14 Xm XQ;refine Eb ?_;intro g7 WW L;refine Eb ?_;intro g8 Yd WV;refine bD ?_;intro w2 I;have j:=hS.lt;replace hS:=hS.mv I.ext;replace hS:=hS.aI I 2;replace hS:=hS.aI I 5;have Xq:=I.lw 6;have o7:Own w g7:=aeT B Xq;replace hS:=hS.aB I 6 g7 (apF j Xq);have Yf:=I.lw 7;have o8:Own w g8:=aeT B Yf;replace hS:=hS.aB I 7 g8 ⟨I.nn 6 7 L WV,(apF j Yf)⟩;clear I j B Y4;clear Xq L WW;clear Yf WV Yd;have WF:=(hS.aH 1).cell;have WR:=(hS.aH 1).frozen;have l:=hS.pt 1 0 [.bool V,.slice H U S] o7;have WY:=(l.aH 0).cell;have W9:=(l.aH 0).frozen;(go_wp2_with fail);clear WF WR WY W9;clear l;replace hS:=(hS.pt 1 0 [.bool V,.slice H U S] o7).pt 0 0 [.bool Xe,.slice Xf Xc c14] o8;refine gW hS ?_;clear hS;intro w3 hS;go_loopw [16] (fun i wr=>∃k:Nat,k<=K/\i=.int .i64 (k:Int)/\∃(W D:Int) (N WQ:Bool) (C P:Option Addr) (G M Z Y:Nat),(Is (q1*aeV k) W D WZ/\Sz n1 W D WZ)/\St w wr [(g8,40,#[.bool WQ,.slice P Z Y]),(g7,40,#[.bool N,.slice C G M]),(g6,42,#[.bool ζ,.slice δ 0 0,.bool ζ,.slice δ 0 0,.bool ζ,.slice δ 0 0]),(g4,42,#[.bool WM,.slice WJ WI WL,.bool WN,.slice WO WK WH,.bool WE,.slice Q O WG]),(T,197,#[.int .i64 0])] [nz (iv N C G M) (W),nz (iv WQ P Z Y) (D),nz (iv WM WJ WI WL) (Xb),nz (iv WN WO WK WH) (Xa),nz (iv WE Q O WG) (WZ)]) (fun i _=>K-(intOf i).toNat)
 case atStart=>exact⟨0,aa,rfl,Xb,Xa,V,Xe,H,Xf,U,S,Xc,c14,⟨by rw[show aeV 0=GQ.i 1 0 from rfl,afT];exact I1,S1⟩,hS.sel [1,0,4,3,2] rfl⟩
 case round=>
  clear hS;obtain⟨k,hk,rfl,W,D,N,WQ,C,P,G,M,Z,Y,F,hS⟩:=hrel;by_cases Xl:k<K
  .skip;(go_wp2_with fail);have Y8:=aK.blk (hS.aH 0);have Y7:=aK.blk (hS.aH 1);have B:=hS.ext;refine tF 4 [(2,.ri ((-D)))] ?_;refine Qs ?_;refine Ei (fun R I=>L6 T _ D (-D) _ (Blk.ext (hS.aH 4) I.1) (hS.aD 1 I.1) (bE F.2.b aa) rfl) ?_;intro Xg Xi WX Xh Xo Xn;refine Qs ?_;refine bD ?_;intro w4 I;have j:=hS.lt;replace hS:=hS.mv I.ext;replace hS:=hS.aI I 2;clear I j B Y8 Y7;have Xd:=(hS.aH 1).cell;have Xp:=(hS.aH 1).frozen;have WP:=hS.pt 1 0 [.bool Xg,.slice Xi WX Xh] o7;have Xr:=(WP.aH 0).cell;have XU:=(WP.aH 0).frozen;go_wp2;replace hS:=(hS.pt 1 0 [.bool Xg,.slice Xi WX Xh] o7).pt 0 0 [.bool N,.slice C G M] o8;go_roundw
   case rel=>exact⟨k+1,aa,au,(-D),W,Xg,N,Xi,C,WX,Xh,G,M,⟨F.1.turn,F.2.turn⟩,St.sel hS [0,1,3,4,5] rfl⟩
   case measure=>simp[intOf]<;>omega
  .obtain rfl:k=K:=aa;(go_wp2_with fail);have Y8:=aK.blk (hS.aH 0);have Y7:=aK.blk (hS.aH 1);have Y4:=aK.blk (hS.aH 3);have B:=hS.ext;refine tF 6 [(4,.ri (WZ))] ?_;refine Qs ?_;refine Ei (fun R I=>lX _ WZ _ (hS.aD 4 I.1) (bE S1.d aa)) ?_;intro Xw Xj Xu Xx XG XF;refine Qs ?_;refine bD ?_;intro w5 I;have j:=hS.lt;replace hS:=hS.mv I.ext;replace hS:=hS.aI I 4;clear I j B Y8 Y7 Y4;have XV:=(hS.aH 2).cell;have XE:=(hS.aH 2).frozen;go_wp2;replace hS:=hS.pt 2 0 [.bool N,.slice C G M,.bool WQ,.slice P Z Y,.bool Xw,.slice Xj Xu Xx] o6;exact cO rfl rfl rfl (hS.aH 2) ⟨_,rfl,⟨_,_,_,RG.mk (hS.aF 1) (hS.aF 2) (hS.aF 0),F.1,F.2⟩,hS.ext⟩
def JX(T:Nat)(v1 q1)(n1 K:Nat)(w)(hc:Calm w T)(J:GV w v1 q1 n1)(hn:n1<=12800)(I:K<=100):
  CV 130 #[.pointer (γ ⟨T,0,δ⟩),v1,.int .i64 (K:Int)] w fun v w'=>GV w' v (q1*aeV K) n1:=Nn T v1 q1 n1 K w hc J hn I
def lZ{f args w q n a b d}(h:CV f args w fun v w'=>GV w' v q n)(I:Is q a b d):
  CV f args w fun v w'=>RG w' v a b d:=h.mono fun e w' ⟨v,O,j,J⟩=>⟨v,O,j.at_ I,J⟩
def VC{m:Int}{K:Nat}(h:m%12=(K:Int)):(m.tmod 12+12).tmod 12=(K:Int):=by
 have l: -12<m.tmod 12/\m.tmod 12<12:=⟨by have:=Int.lt_tmod_of_pos m (b:=12) aa;omega,Int.tmod_lt_of_pos m aa⟩;have j:m.tmod 12%12=m%12:=by
  have:=Int.mul_tdiv_add_tmod m 12;omega
 rw[abf aa];omega
theorem IZ{m:Int}{K:Nat}(h:m%12=(K:Int)):(wrap64 (m.tmod 12+12)).tmod 12=(K:Int):=by
 have j: -12<m.tmod 12/\m.tmod 12<12:=⟨by have:=Int.lt_tmod_of_pos m (b:=12) aa;omega,Int.tmod_lt_of_pos m aa⟩;have e:wrap64 (m.tmod 12+12)=m.tmod 12+12:=by
  generalize m.tmod 12=t at*
  first|(unfold wrap64;omega)|go_num|(simp[wrap64];omega)
 rw[e];exact VC h
def xL(v u x y w)(L:RI w v x)(l:RI w u y)(h:x=y):
  CE 69 #[v,u] w (.bool ε):=by
 have:=M3 v u x y w L l;rwa[show decide (x=y)=ε by simpa using h] at this
def Q6(v0 Xu Xt Xq v1 Xb Xa WZ w)(WQ:RG w v0 Xu Xt Xq)(J:RG w v1 Xb Xa WZ)(B:Hid (Xu=Xb))(j:Hid (Xt=Xa))(Hd:Hid (Xq=WZ)):
  CE 37 #[v0,v1] w (.bool ε):=by
 have hS:=aeX w;obtain⟨Z,Y,G,C,U,P,L,V,S,M,D,W,rfl,H,T,K⟩:=WQ;replace hS:=hS.aV H;clear H;replace hS:=hS.aV T;clear T;replace hS:=hS.aV K;clear K;obtain⟨WM,R,WI,WL,WN,WO,WK,N,I,Q,O,WG,rfl,WT,WU,WS⟩:=J;replace hS:=hS.aV WT;clear WT;replace hS:=hS.aV WU;clear WU;replace hS:=hS.aV WS;clear WS;have l:=(St.al (St.al hS 42 #[.bool Z,.slice Y G C,.bool U,.slice P L V,.bool S,.slice M D W] (g:=w.heap.size) ag) 42 #[.bool WM,.slice R WI WL,.bool WN,.slice WO WK N,.bool I,.slice Q O WG] (g:=(w.heap.size+1)) ag);have WF:=(l.aH 1).cell;have WR:=(l.aH 0).cell;go_enter func37,ntmps37;(go_wp2_with fail);clear WF WR;clear l;refine gA2 hS 42 #[.bool Z,.slice Y G C,.bool U,.slice P L V,.bool S,.slice M D W] 42 #[.bool WM,.slice R WI WL,.bool WN,.slice WO WK N,.bool I,.slice Q O WG] ?_;clear hS;intro w1 g2 o2 g3 o3 hS;refine(xL _ _ Xu Xb _ (hS.aF 5) (hS.aF 2) B.o).mono ?_;rintro e w2 ⟨rfl,F⟩;replace hS:=hS.mv F;clear F;have WY:=(hS.aH 1).cell;have W9:=(hS.aH 0).cell;(go_wp2_with fail);clear WY W9;refine(xL _ _ Xt Xa _ (hS.aF 4) (hS.aF 1) j.o).mono ?_;rintro e w3 ⟨rfl,F⟩;replace hS:=hS.mv F;clear F;have Xd:=(hS.aH 1).cell;have Xp:=(hS.aH 0).cell;(go_wp2_with fail);clear Xd Xp;refine(xL _ _ Xq WZ _ (hS.aF 3) (hS.aF 0) Hd.o).mono ?_;rintro e w4 ⟨rfl,F⟩;exact AaI
def xV(v u a b d a' b' d' w)(L:RG w v a b d)(l:RG w u a' b' d')(h:a=a'/\b=b'/\d=d'):
  CE 37 #[v,u] w (.bool ε):=Q6 v a b d u a' b' d' w L l (aJ h.1) (aJ h.2.1) (aJ h.2.2)
def Cu(v0 Xu Xt Xq Zm Zl YW v1 Xb Xa WZ Xz XA Xy w)(WQ:RP w v0 Xu Xt Xq Zm Zl YW)(J:RP w v1 Xb Xa WZ Xz XA Xy)(Hu:Hid (Xu=Xb/\Xt=Xa/\Xq=WZ))(Hv:Hid (Zm=Xz/\Zl=XA/\YW=Xy)):
  CE 21 #[v0,v1] w (.bool ε):=by
 have hS:=aeX w;obtain⟨Z,Y,G,C,U,P,L,V,S,M,D,W,Xm,Xg,Xf,Xe,Xk,Xh,N,Xn,Xj,Xl,Xi,Xo,rfl,WV,WX,WW,XP,XR,XQ⟩:=WQ;replace hS:=hS.aV WV;clear WV;replace hS:=hS.aV WX;clear WX;replace hS:=hS.aV WW;clear WW;replace hS:=hS.aV XP;clear XP;replace hS:=hS.aV XR;clear XR;replace hS:=hS.aV XQ;clear XQ;obtain⟨WM,WJ,WI,WL,WN,WO,WK,WH,WE,Q,O,WG,Xr,Xx,WP,H,Xv,T,Xp,I,B,Xd,K,j,rfl,WT,WU,WS,Xw,R,Xc⟩:=J;replace hS:=hS.aV WT;clear WT;replace hS:=hS.aV WU;clear WU;replace hS:=hS.aV WS;clear WS;replace hS:=hS.aV Xw;clear Xw;replace hS:=hS.aV R;clear R;replace hS:=hS.aV Xc;clear Xc;have l:=(St.al (St.al hS 44 #[.bool Z,.slice Y G C,.bool U,.slice P L V,.bool S,.slice M D W,.bool Xm,.slice Xg Xf Xe,.bool Xk,.slice Xh N Xn,.bool Xj,.slice Xl Xi Xo] (g:=w.heap.size) ag) 44 #[.bool WM,.slice WJ WI WL,.bool WN,.slice WO WK WH,.bool WE,.slice Q O WG,.bool Xr,.slice Xx WP H,.bool Xv,.slice T Xp I,.bool B,.slice Xd K j] (g:=(w.heap.size+1)) ag);have WF:=(l.aH 1).cell;have WR:=(l.aH 0).cell;go_enter func21,ntmps21;(go_wp2_with fail);clear WF WR;clear l;refine gA2 hS 44 #[.bool Z,.slice Y G C,.bool U,.slice P L V,.bool S,.slice M D W,.bool Xm,.slice Xg Xf Xe,.bool Xk,.slice Xh N Xn,.bool Xj,.slice Xl Xi Xo] 44 #[.bool WM,.slice WJ WI WL,.bool WN,.slice WO WK WH,.bool WE,.slice Q O WG,.bool Xr,.slice Xx WP H,.bool Xv,.slice T Xp I,.bool B,.slice Xd K j] ?_;clear hS;intro w1 g2 o2 g3 o3 hS;refine(xV _ _ Xu Xt Xq Xb Xa WZ _ (RG.mk (hS.aF 11) (hS.aF 10) (hS.aF 9)) (RG.mk (hS.aF 5) (hS.aF 4) (hS.aF 3)) Hu.o).mono ?_;rintro e w2 ⟨rfl,F⟩;replace hS:=hS.mv F;clear F;have WY:=(hS.aH 1).cell;have W9:=(hS.aH 0).cell;(go_wp2_with fail);clear WY W9;refine(xV _ _ Zm Zl YW Xz XA Xy _ (RG.mk (hS.aF 8) (hS.aF 7) (hS.aF 6)) (RG.mk (hS.aF 2) (hS.aF 1) (hS.aF 0)) Hv.o).mono ?_;rintro e w3 ⟨rfl,F⟩;exact AaI
def QS(v u q m n w)(L:GV w v q m)(l:GV w u q n):
  CE 37 #[v,u] w (.bool ε):=by
 obtain⟨a,b,d,B,j,_⟩:=L;exact xV v u a b d a b d w B (l.at_ j) ⟨rfl,rfl,rfl⟩
def BJ(v u p m n w)(L:PV w v p m)(l:PV w u p n):
  CE 21 #[v,u] w (.bool ε):=by
 obtain⟨a,b,d,x,y,z,B,j,_,C,_⟩:=L;exact Cu v a b d x y z u a b d x y z w B (l.at_ j C) (aJ ⟨rfl,rfl,rfl⟩) (aJ ⟨rfl,rfl,rfl⟩)
def zD(Y L)(F:List Bool)(cs w)(hb:Blk w Y 42 cs)(Z:F.length=L)(K:L<=100)(I:∀j b,F[j]? =γ b->∃s1 A1 n1 c1 s2 A2 n2 c2 s3 A3 n3 c3,cs[j*6]? =γ (.bool s1)/\cs[j*6+1]? =γ (.slice A1 n1 c1)/\cs[j*6+2]? =γ (.bool s2)/\cs[j*6+3]? =γ (.slice A2 n2 c2)/\cs[j*6+4]? =γ (.bool s3)/\cs[j*6+5]? =γ (.slice A3 n3 c3)/\∀w',Ext w w'->CE 95 #[gv s1 A1 n1 c1 s2 A2 n2 c2 s3 A3 n3 c3] w' (.bool b)):
  CE 51 #[.slice (γ ⟨Y,0,δ⟩) L L] w (.bool (F.all id)):=by
 have HL:=aJ Z;have HZ:=aJ I;clear Z I;go_enter func51,ntmps51;go_wp2_with fail
 go_loopw [7] (fun i wr=>∃k:Nat,k<=L/\i=.int .i64 (k:Int)/\(F.take k).all id=ε/\Ext w wr) (fun i _=>L-(intOf i).toNat)
 case atStart=>exact⟨0,aa,rfl,ag,Ext.refl w⟩
 case round=>
  obtain⟨k,hk,rfl,T,D⟩:=hrel;have HT:=aJ T;clear T;by_cases N:k<L
  .have hq:=ο (l:=F) (i:=k) (by rw[HL.o];exact N);obtain⟨b,I⟩:∃b,F[k]? =γ b:=⟨_,hq⟩;clear hq;obtain⟨s1,A1,n1,c1,s2,A2,n2,c2,s3,A3,n3,c3,r0,r1,r2,S,W,r5,hV⟩:=HZ.o k b I;have B:=(hb.ext D).cell;have O:=(B (k*6)).trans r0;have M:=(B (k*6+1)).trans r1;have J:=(B (k*6+2)).trans r2;have R:=(B (k*6+3)).trans S;have H:=(B (k*6+4)).trans W;have G:=(B (k*6+5)).trans r5;clear B r0 r1 r2 S W r5;have U:=aJ I;clear I;have HV:=aJ hV;clear hV;have e1:((k:Int)*6).toNat=k*6:=aa;have Q:=Blk.new wr 42 #[.bool ζ,.slice δ 0 0,.bool ζ,.slice δ 0 0,.bool ζ,.slice δ 0 0];have k1:=Q.cell;have V:=Q.frozen;have b1:=Blk.new wr 42 #[.bool s1,.slice A1 n1 c1,.bool s2,.slice A2 n2 c2,.bool s3,.slice A3 n3 c3];have k3:=b1.cell;clear Q b1;(go_wp2_with fail);clear k1 V k3 O M J R H G;refine(HV.o _ (D.alloc _)).mono ?_;rintro e w2 ⟨rfl,P⟩;have C:=(D.alloc _).trans P;clear P;cases b
   .go_wp2;go_ret;refine⟨aS ?_,C⟩;symm;rw[acT];intro h;have:=nH.1 h ζ (y7 U.o);simp at this
   .go_wp2;go_roundw
    case rel=>
     refine⟨k+1,aa,au,?_,C⟩;rw[acX,U.o,List.all_append,HT.o];rfl
    case measure=>simp[intOf]<;>omega
  .obtain rfl:k=L:=aa;go_wp2;go_ret;refine⟨aS ?_,D⟩;rw[<-HT.o,ω (by rw[HL.o];exact κ _)]
def VU:(1:Int).natAbs<lim:=iP aa aa
def oC(v q n w)(L:GV w v q n)(hn:n<=12800):
  CE 95 #[v] w (.bool ε):=by
 obtain⟨a,b,d,l,j,B⟩:=L;obtain⟨l1,l2,l3⟩:=B.qA hn;have e:((fE [d,a,b]:Nat):Int)=1:=by rw[EC,j.low.2];rfl
 exact Oc v a b d w l l1 l2 l3 (aJ j.low.1) 1 (aJ e.symm) VU (aJ rfl)
def jS(gs q0 q1 m0 m1 w){G M I K O D H L l B N C W WI P Z V F U S WP T Y R}(hb:Blk w gs 42 #[.bool G,.slice M I K,.bool O,.slice D H L,.bool l,.slice B N C,.bool W,.slice WI P Z,.bool V,.slice F U S,.bool WP,.slice T Y R])(h0:GV w (gv G M I K O D H L l B N C) q0 m0)(l0:m0<=12800)(h1:GV w (gv W WI P Z V F U S WP T Y R) q1 m1)(l1:m1<=12800):
  CE 51 #[.slice (γ ⟨gs,0,δ⟩) 2 2] w (.bool ε):=by
 refine zD gs 2 [ε,ε] _ w hb rfl aa (fun j b Q=> ?_)
 match j,Q with
 |0,Q=>injection Q with Q;subst Q;exact⟨_,_,_,_,_,_,_,_,_,_,_,_,rfl,rfl,rfl,rfl,rfl,rfl,fun w' J=>oC _ q0 m0 w' (h0.ext J) l0⟩
 |1,Q=>injection Q with Q;subst Q;exact⟨_,_,_,_,_,_,_,_,_,_,_,_,rfl,rfl,rfl,rfl,rfl,rfl,fun w' J=>oC _ q1 m1 w' (h1.ext J) l1⟩
def Jm(gs q0 q1 q2 m0 m1 m2 w){G M I K O D H L l B N C WG WI P Z V F U S WP WV WJ WU Xg R WX Xh Xm Xn Xf Xl Y Q T W}(hb:Blk w gs 42 #[.bool G,.slice M I K,.bool O,.slice D H L,.bool l,.slice B N C,.bool WG,.slice WI P Z,.bool V,.slice F U S,.bool WP,.slice WV WJ WU,.bool Xg,.slice R WX Xh,.bool Xm,.slice Xn Xf Xl,.bool Y,.slice Q T W])(h0:GV w (gv G M I K O D H L l B N C) q0 m0)(l0:m0<=12800)(h1:GV w (gv WG WI P Z V F U S WP WV WJ WU) q1 m1)(l1:m1<=12800)(h2:GV w (gv Xg R WX Xh Xm Xn Xf Xl Y Q T W) q2 m2)(l2:m2<=12800):
  CE 51 #[.slice (γ ⟨gs,0,δ⟩) 3 3] w (.bool ε):=by
 refine zD gs 3 [ε,ε,ε] _ w hb rfl aa (fun j b hj=> ?_)
 match j,hj with
 |0,hj=>injection hj with hj;subst hj;exact⟨_,_,_,_,_,_,_,_,_,_,_,_,rfl,rfl,rfl,rfl,rfl,rfl,fun w' J=>oC _ q0 m0 w' (h0.ext J) l0⟩
 |1,hj=>injection hj with hj;subst hj;exact⟨_,_,_,_,_,_,_,_,_,_,_,_,rfl,rfl,rfl,rfl,rfl,rfl,fun w' J=>oC _ q1 m1 w' (h1.ext J) l1⟩
 |2,hj=>injection hj with hj;subst hj;exact⟨_,_,_,_,_,_,_,_,_,_,_,_,rfl,rfl,rfl,rfl,rfl,rfl,fun w' J=>oC _ q2 m2 w' (h2.ext J) l2⟩
def aeU (j:Int) (x:GQ) (k:Int) (y:GQ) (m:Int):GQ:=⟨((j:Rat)*x.re+(k:Rat)*y.re)/(m:Rat),((j:Rat)*x.im+(k:Rat)*y.im)/(m:Rat)⟩
def Is.Gz{x y a b d a' b' d' u v t j k m}(J:Is x a b d)(R:Is y a' b' d')(l:m≠0)(h:Is (aeU j x k y m) u v t):(u,v,t)=nf (j*a*d'+k*a'*d) (j*b*d'+k*b'*d) (d*d'*m):=by
 have C:=gm J.dne;have B:=gm R.dne;have D:=gm l;refine(h.Gx (qa (qa J.dne R.dne) l) ?_ ?_).symm
 .show((j:Rat)*x.re+(k:Rat)*y.re)/(m:Rat)=_;rw[J.re,R.re];exact AaJ
 .show((j:Rat)*x.im+(k:Rat)*y.im)/(m:Rat)=_;rw[J.im,R.im];exact AaJ
def ae3{x y n1 n2 j k m}(J:Bd x n1)(R:Bd y n2)(l:m≠0)(B: -9223372036854775808<=j)(C:j<=9223372036854775807)(F: -9223372036854775808<=k)(V:k<=9223372036854775807)(m1: -9223372036854775808<=m)(m2:m<=9223372036854775807):Bd (aeU j x k y m) (n1+n2+65):=by
 obtain⟨a,b,d,J,sx⟩:=J;obtain⟨a',b',d',R,sy⟩:=R;obtain⟨u,v,t,h⟩:=fZ (aeU j x k y m);have W:=Co B C;have D:=Co F V;have Y:=Co m1 m2;have E:=J.Gz R l h;refine⟨u,v,t,h,jr (qa (qa J.dne R.dne) l) E ?_ ?_ ?_⟩
 .exact jg (m:=n1+n2+64) (iX (bI (bI W sx.a) sy.d) aa) (iX (bI (bI D sy.a) sx.d) aa)
 .exact jg (m:=n1+n2+64) (iX (bI (bI W sx.b) sy.d) aa) (iX (bI (bI D sy.b) sx.d) aa)
 .exact iX (bI (bI sx.d sy.d) Y) aa
def jo(T v1 D x y j k m n1 n2 w)(hc:Calm w T)(L:GV w v1 x n1)(l:GV w D y n2)(hn:2*max n1 n2+65<=12800)(F:m≠0)(B: -9223372036854775808<=j)(C:j<=9223372036854775807)(G: -9223372036854775808<=k)(V:k<=9223372036854775807)(m1: -9223372036854775808<=m)(m2:m<=9223372036854775807):
  CV 128 #[.pointer (γ ⟨T,0,δ⟩),v1,.int .i64 j,D,.int .i64 k,.int .i64 m] w fun v w'=>GV w' v (aeU j x k y m) (n1+n2+65):=by
 obtain⟨a,b,d,I,i1,s1⟩:=L;obtain⟨a',b',d',H,Q,s2⟩:=l;obtain⟨u,v,t,h⟩:=fZ (aeU j x k y m);have sz:=(ae3 (m:=m) ⟨_,_,_,i1,s1⟩ ⟨_,_,_,Q,s2⟩ F B C G V m1 m2).sz h;exact(Nk T v1 D a b d j a' b' d' k m u v t (max n1 n2) w hc I H (s1.mono aa) (s2.mono aa) aa i1.dne Q.dne F B C G V m1 m2 (i1.Gz Q F h)).mono fun e w' ⟨z,O,K,J⟩=>⟨z,O,⟨u,v,t,K,h,sz⟩,J⟩
def JY(T v1 j x y n1 n2 w)(hc:Calm w T)(L:GV w v1 x n1)(l:GV w j y n2)(hn:2*max n1 n2+1<=12800):
  CV 142 #[.pointer (γ ⟨T,0,δ⟩),v1,j] w fun v w'=>GV w' v (x*y) (n1+n2+1):=by
 obtain⟨a,b,d,C,i1,s1⟩:=L;obtain⟨a',b',d',B,Q,s2⟩:=l;obtain⟨u,v,t,h⟩:=fZ (x*y);have K:=af7 i1 s1 Q s2 h aa;exact(yN T v1 j a b d a' b' d' u v t (max n1 n2) w hc C B (s1.mono aa) (s2.mono aa) aa i1.dne Q.dne K.E).mono fun e w' ⟨z,O,D,J⟩=>⟨z,O,⟨u,v,t,D,h,K.size⟩,J⟩
def Is.Ka{x y a b d a' b' d' u v t}(J:Is x a b d)(R:Is y a' b' d')(j:a'≠0\/b'≠0)(h:Is (x/y) u v t):(u,v,t)=nf ((a*a'+b*b')*d') ((b*a'-a*b')*d') (d*(a'*a'+b'*b')):=by
 have B:=gm J.dne;have C:=gm R.dne;have l:=gm (pV j);simp only[aau,aa9] at l;refine(h.Gx (qa J.dne (pV j)) ?_ ?_).symm
 .rw[GQ.Az,GQ.nrm,J.re,R.re,J.im,R.im];exact AaJ
 .rw[GQ.vo,GQ.nrm,J.re,R.re,J.im,R.im];simp only[aau,aa9,abY];grind
def Is.ne0{y a b d}(h:Is y a b d)(R:y≠GQ.i 0 0):a≠0\/b≠0:=by
 by_cases ha:a=0
 .by_cases hb:b=0
  .exfalso;apply R;ext
   .rw[h.re,ha];simp only[GQ.dE];grind
   .rw[h.im,hb];simp only[GQ.dD];grind
  .exact .inr hb
 .exact .inl ha
def Ig(T v1 j x y n1 n2 w)(hc:Calm w T)(L:GV w v1 x n1)(l:GV w j y n2)(hn:4*max n1 n2+3<=12800)(R:y≠GQ.i 0 0):
  CV 173 #[.pointer (γ ⟨T,0,δ⟩),v1,j] w fun v w'=>GV w' v (x/y) (n1+(n2+n2+1)):=by
 obtain⟨a,b,d,G,i1,s1⟩:=L;obtain⟨a',b',d',D,Q,s2⟩:=l;obtain⟨u,v,t,h⟩:=fZ (x/y);have B:=Q.ne0 R;have E:=i1.Ka Q B h;have C:=bI (jg (bI s1.a s2.a) (bI s1.b s2.b)) s2.d;have V:=bI (sK (bI s1.b s2.a) (bI s1.a s2.b)) s2.d;have F:=bI s1.d (jg (bI s2.a s2.a) (bI s2.b s2.b));have sz:=jr (n:=n1+(n2+n2+1)) (qa i1.dne (pV B)) E (iX C aa) (iX V aa) F;exact(FC T v1 j a b d a' b' d' u v t (max n1 n2) w hc G D (s1.mono aa) (s2.mono aa) hn i1.dne Q.dne B E).mono fun e w' ⟨z,O,H,J⟩=>⟨z,O,⟨u,v,t,H,h,sz⟩,J⟩
def ae1{q n}(h:Bd q n):∀K,Bd (q*aeV K) n
 |0=>by rw[show aeV 0=GQ.i 1 0 from rfl,afT];exact h
 |K+1=>by
  obtain⟨a,b,d,l,j⟩:=ae1 h K;exact⟨_,_,_,l.turn,j.turn⟩
def gQ(T:Nat)(v1 q1)(n1 K:Nat)(k:Int)(w)(j:k=(K:Int))(hc:Calm w T)(J:GV w v1 q1 n1)(hn:n1<=12800)(I:K<=100):
  CV 130 #[.pointer (γ ⟨T,0,δ⟩),v1,.int .i64 k] w fun v w'=>GV w' v (q1*aeV K) n1:=by
 subst j;exact JX T v1 q1 n1 K w hc J hn I
def oF(T v1 U R S w)(hc:Calm w T)(J:RG w v1 U R S):
  CV 138 #[.pointer (γ ⟨T,0,δ⟩),v1] w fun v w'=>(∃u,v=.tuple #[u,.int .i64 0]/\RG w' u U R S):=by
 have hS:=aeX w;obtain⟨H,C,D,G,K,I,F,B,j,Q,O,L,rfl,M,N,P⟩:=J;replace hS:=hS.aV M;clear M;replace hS:=hS.aV N;clear N;replace hS:=hS.aV P;clear P;replace hS:=hS.xq hc trivial;clear hc;have o3:Own w w.heap.size:=aeT hS.ext ag;have o4:Own w (w.heap.size+1):=aeT hS.ext ag;have l:=(St.al (St.al hS 42 #[.bool H,.slice C D G,.bool K,.slice I F B,.bool j,.slice Q O L] (g:=w.heap.size) ag) 42 #[.bool ζ,.slice δ 0 0,.bool ζ,.slice δ 0 0,.bool ζ,.slice δ 0 0] (g:=(w.heap.size+1)) ag);have Z:=(l.aH 2).cell;have W:=(l.aH 1).cell;have V:=(l.aH 0).cell;have Y:=(l.aH 0).frozen;go_enter func138,ntmps138;go_wp2;replace hS:=(St.al (St.al hS 42 #[.bool H,.slice C D G,.bool K,.slice I F B,.bool j,.slice Q O L] (g:=w.heap.size) ag) 42 #[.bool H,.slice C D G,.bool K,.slice I F B,.bool j,.slice Q O L] (g:=(w.heap.size+1)) ag);exact mF rfl rfl rfl (hS.aH 0) ⟨_,rfl,⟨_,rfl,RG.mk (hS.aF 2) (hS.aF 1) (hS.aF 0)⟩,hS.ext⟩
def xZ(T v1 Xb Xa WZ v2 XB XD XC w)(hc:Calm w T)(J:RG w v1 Xb Xa WZ)(Xe:RG w v2 XB XD XC):
  CV 141 #[.pointer (γ ⟨T,0,δ⟩),v1,v2] w fun v w'=>(∃u,v=.tuple #[u,.int .i64 0]/\RP w' u Xb Xa WZ XB XD XC):=by
 have hS:=aeX w;obtain⟨Y,H,M,S,WN,Z,R,F,D,Q,O,WG,rfl,WT,WU,WS⟩:=J;replace hS:=hS.aV WT;clear WT;replace hS:=hS.aV WU;clear WU;replace hS:=hS.aV WS;clear WS;obtain⟨N,G,K,L,I,B,V,C,U,W,P,j,rfl,XH,XI,XG⟩:=Xe;replace hS:=hS.aV XH;clear XH;replace hS:=hS.aV XI;clear XI;replace hS:=hS.aV XG;clear XG;replace hS:=hS.xq hc trivial;clear hc;have o4:Own w w.heap.size:=aeT hS.ext ag;have o5:Own w (w.heap.size+1):=aeT hS.ext ag;have o6:Own w (w.heap.size+2):=aeT hS.ext ag;have l:=(St.al (St.al (St.al hS 42 #[.bool Y,.slice H M S,.bool WN,.slice Z R F,.bool D,.slice Q O WG] (g:=w.heap.size) ag) 42 #[.bool N,.slice G K L,.bool I,.slice B V C,.bool U,.slice W P j] (g:=(w.heap.size+1)) ag) 44 #[.bool ζ,.slice δ 0 0,.bool ζ,.slice δ 0 0,.bool ζ,.slice δ 0 0,.bool ζ,.slice δ 0 0,.bool ζ,.slice δ 0 0,.bool ζ,.slice δ 0 0] (g:=(w.heap.size+2)) ag);have WF:=(l.aH 3).cell;have WR:=(l.aH 2).cell;have WY:=(l.aH 1).cell;have W9:=(l.aH 0).cell;have Xd:=(l.aH 0).frozen;go_enter func141,ntmps141;go_wp2;replace hS:=(St.al (St.al (St.al hS 42 #[.bool Y,.slice H M S,.bool WN,.slice Z R F,.bool D,.slice Q O WG] (g:=w.heap.size) ag) 42 #[.bool N,.slice G K L,.bool I,.slice B V C,.bool U,.slice W P j] (g:=(w.heap.size+1)) ag) 44 #[.bool Y,.slice H M S,.bool WN,.slice Z R F,.bool D,.slice Q O WG,.bool N,.slice G K L,.bool I,.slice B V C,.bool U,.slice W P j] (g:=(w.heap.size+2)) ag);exact rW rfl rfl rfl (hS.aH 0) ⟨_,rfl,⟨_,rfl,RP.mk (hS.aF 5) (hS.aF 4) (hS.aF 3) (hS.aF 2) (hS.aF 1) (hS.aF 0)⟩,hS.ext⟩
def JH(w):
  CV 129 #[] w fun v w'=>RG w' v 0 0 1:=by
 have hS:=aeX w;go_enter func129,ntmps129;(go_wp2_with fail);refine gA1 hS 42 #[.bool ζ,.slice δ 0 0,.bool ζ,.slice δ 0 0,.bool ζ,.slice δ 0 0] ?_;clear hS;intro w1 D o0 hS;refine(Bh (1) _ aa aa).mono ?_;rintro e w2 ⟨G,rfl,H,F⟩;replace hS:=hS.mv F;clear F;obtain⟨s1,l,n1,c1,rfl,j⟩:=RI.opn H;clear H;replace hS:=hS.aV j;clear j;have C:=(hS.aH 0).cell;have B:=(hS.aH 0).frozen;go_wp2;replace hS:=hS.pt 0 0 [.bool ζ,.slice δ 0 0,.bool ζ,.slice δ 0 0,.bool s1,.slice l n1 c1] o0;exact cO rfl rfl rfl (hS.aH 0) ⟨_,rfl,RG.mk (RI.zero _) (RI.zero _) (hS.aF 0),hS.ext⟩
def Um(v0 q0 n0 v1 q1 n1 w)(WQ:GV w v0 q0 n0)(J:GV w v1 q1 n1)(hn:2*max n0 n1+65<=12800):
  CV 194 #[v0,v1] w fun v w'=>(∃u,v=.tuple #[u,.int .i64 0]/\GV w' u (aeU 1 q0 1 q1 1) (n0+n1+65)):=by
 have hS:=aeX w;obtain⟨Xu,Xt,Xq,WQ,I0,S0⟩:=WQ;obtain⟨Z,Y,G,C,U,P,L,V,S,M,D,W,rfl,WV,WX,WW⟩:=WQ;replace hS:=hS.aV WV;clear WV;replace hS:=hS.aV WX;clear WX;replace hS:=hS.aV WW;clear WW;obtain⟨Xb,Xa,WZ,J,I1,S1⟩:=J;obtain⟨WM,WJ,WI,WL,WN,WO,WK,WH,WE,Q,O,WG,rfl,WT,WU,WS⟩:=J;replace hS:=hS.aV WT;clear WT;replace hS:=hS.aV WU;clear WU;replace hS:=hS.aV WS;clear WS;have l:=(St.al (St.al (St.al hS 42 #[.bool Z,.slice Y G C,.bool U,.slice P L V,.bool S,.slice M D W] (g:=w.heap.size) ag) 42 #[.bool WM,.slice WJ WI WL,.bool WN,.slice WO WK WH,.bool WE,.slice Q O WG] (g:=(w.heap.size+1)) ag) 42 #[.bool ζ,.slice δ 0 0,.bool ζ,.slice δ 0 0,.bool ζ,.slice δ 0 0] (g:=(w.heap.size+2)) ag);have WF:=(l.aH 2).cell;have WR:=(l.aH 1).cell;go_enter func194,ntmps194;(go_wp2_with fail);clear WF WR;clear l;refine gA4 hS 42 #[.bool Z,.slice Y G C,.bool U,.slice P L V,.bool S,.slice M D W] 42 #[.bool WM,.slice WJ WI WL,.bool WN,.slice WO WK WH,.bool WE,.slice Q O WG] 42 #[.bool ζ,.slice δ 0 0,.bool ζ,.slice δ 0 0,.bool ζ,.slice δ 0 0] 42 #[.bool Z,.slice Y G C,.bool U,.slice P L V,.bool S,.slice M D W,.bool WM,.slice WJ WI WL,.bool WN,.slice WO WK WH,.bool WE,.slice Q O WG] ?_;clear hS;intro w1 g2 o2 g3 o3 g4 o4 g9 o9 hS;refine(jS g9 q0 q1 n0 n1 _ (hS.aH 0) ⟨_,_,_,RG.mk (hS.aF 5) (hS.aF 4) (hS.aF 3),I0,S0⟩ aa ⟨_,_,_,RG.mk (hS.aF 2) (hS.aF 1) (hS.aF 0),I1,S1⟩ aa).mono ?_;rintro e w2 ⟨rfl,F⟩;replace hS:=hS.mv F;clear F;have WP:=(St.al hS 197 #[.int .i64 0] (g:=w2.heap.size) ag);have WY:=(WP.aH 4).cell;have W9:=(WP.aH 3).cell;(go_wp2_with fail);clear WY W9;clear WP;refine gA1 hS 197 #[.int .i64 0] ?_;clear hS;intro w3 g6 o6 hS;obtain⟨T,Xc,Xe,Xg⟩:=fZ (aeU (1) q0 (1) q1 (1));have Xx:Sz (n0+n1+65) T Xc Xe:=(ae3 (m:=1) ⟨_,_,_,I0,S0⟩ ⟨_,_,_,I1,S1⟩ aa aa aa aa aa aa aa).sz Xg;refine(lZ (jo g6 _ _ q0 q1 (1) (1) (1) _ _ _ (hS.aH 0) ⟨_,_,_,RG.mk (hS.aF 5) (hS.aF 4) (hS.aF 3),I0,S0⟩ ⟨_,_,_,RG.mk (hS.aF 2) (hS.aF 1) (hS.aF 0),I1,S1⟩ aa aa aa aa aa aa aa aa) Xg).mono ?_;exact Aak
def Uw(v0 q0 n0 v1 q1 n1 w)(WQ:GV w v0 q0 n0)(J:GV w v1 q1 n1)(hn:2*max n0 n1+65<=12800):
  CV 135 #[v0,v1] w fun v w'=>(∃u,v=.tuple #[u,.int .i64 0]/\GV w' u (aeU 1 q0 (-1) q1 1) (n0+n1+65)):=by
 have hS:=aeX w;obtain⟨Xu,Xt,Xq,WQ,I0,S0⟩:=WQ;obtain⟨Z,Y,G,C,U,P,L,V,S,M,D,W,rfl,WV,WX,WW⟩:=WQ;replace hS:=hS.aV WV;clear WV;replace hS:=hS.aV WX;clear WX;replace hS:=hS.aV WW;clear WW;obtain⟨Xb,Xa,WZ,J,I1,S1⟩:=J;obtain⟨WM,WJ,WI,WL,WN,WO,WK,WH,WE,Q,O,WG,rfl,WT,WU,WS⟩:=J;replace hS:=hS.aV WT;clear WT;replace hS:=hS.aV WU;clear WU;replace hS:=hS.aV WS;clear WS;have l:=(St.al (St.al (St.al hS 42 #[.bool Z,.slice Y G C,.bool U,.slice P L V,.bool S,.slice M D W] (g:=w.heap.size) ag) 42 #[.bool WM,.slice WJ WI WL,.bool WN,.slice WO WK WH,.bool WE,.slice Q O WG] (g:=(w.heap.size+1)) ag) 42 #[.bool ζ,.slice δ 0 0,.bool ζ,.slice δ 0 0,.bool ζ,.slice δ 0 0] (g:=(w.heap.size+2)) ag);have WF:=(l.aH 2).cell;have WR:=(l.aH 1).cell;go_enter func135,ntmps135;(go_wp2_with fail);clear WF WR;clear l;refine gA4 hS 42 #[.bool Z,.slice Y G C,.bool U,.slice P L V,.bool S,.slice M D W] 42 #[.bool WM,.slice WJ WI WL,.bool WN,.slice WO WK WH,.bool WE,.slice Q O WG] 42 #[.bool ζ,.slice δ 0 0,.bool ζ,.slice δ 0 0,.bool ζ,.slice δ 0 0] 42 #[.bool Z,.slice Y G C,.bool U,.slice P L V,.bool S,.slice M D W,.bool WM,.slice WJ WI WL,.bool WN,.slice WO WK WH,.bool WE,.slice Q O WG] ?_;clear hS;intro w1 g2 o2 g3 o3 g4 o4 g9 o9 hS;refine(jS g9 q0 q1 n0 n1 _ (hS.aH 0) ⟨_,_,_,RG.mk (hS.aF 5) (hS.aF 4) (hS.aF 3),I0,S0⟩ aa ⟨_,_,_,RG.mk (hS.aF 2) (hS.aF 1) (hS.aF 0),I1,S1⟩ aa).mono ?_;rintro e w2 ⟨rfl,F⟩;replace hS:=hS.mv F;clear F;have WP:=(St.al hS 197 #[.int .i64 0] (g:=w2.heap.size) ag);have WY:=(WP.aH 4).cell;have W9:=(WP.aH 3).cell;(go_wp2_with fail);clear WY W9;clear WP;refine gA1 hS 197 #[.int .i64 0] ?_;clear hS;intro w3 g6 o6 hS;obtain⟨T,Xc,Xe,Xg⟩:=fZ (aeU (1) q0 (-1) q1 (1));have Xx:Sz (n0+n1+65) T Xc Xe:=(ae3 (m:=1) ⟨_,_,_,I0,S0⟩ ⟨_,_,_,I1,S1⟩ aa aa aa aa aa aa aa).sz Xg;refine(lZ (jo g6 _ _ q0 q1 (1) (-1) (1) _ _ _ (hS.aH 0) ⟨_,_,_,RG.mk (hS.aF 5) (hS.aF 4) (hS.aF 3),I0,S0⟩ ⟨_,_,_,RG.mk (hS.aF 2) (hS.aF 1) (hS.aF 0),I1,S1⟩ aa aa aa aa aa aa aa aa) Xg).mono ?_;exact Aak
def P9(v0 q0 n0 v1 q1 n1 w)(WQ:GV w v0 q0 n0)(J:GV w v1 q1 n1)(hn:2*max n0 n1+1<=12800):
  CV 164 #[v0,v1] w fun v w'=>(∃u,v=.tuple #[u,.int .i64 0]/\GV w' u (q0*q1) (n0+n1+1)):=by
 have hS:=aeX w;obtain⟨Xu,Xt,Xq,WQ,I0,S0⟩:=WQ;obtain⟨Z,Y,G,C,U,P,L,V,S,M,D,W,rfl,WV,WX,WW⟩:=WQ;replace hS:=hS.aV WV;clear WV;replace hS:=hS.aV WX;clear WX;replace hS:=hS.aV WW;clear WW;obtain⟨Xb,Xa,WZ,J,I1,S1⟩:=J;obtain⟨WM,WJ,WI,WL,WN,WO,WK,WH,WE,Q,O,WG,rfl,WT,WU,WS⟩:=J;replace hS:=hS.aV WT;clear WT;replace hS:=hS.aV WU;clear WU;replace hS:=hS.aV WS;clear WS;have l:=(St.al (St.al (St.al hS 42 #[.bool Z,.slice Y G C,.bool U,.slice P L V,.bool S,.slice M D W] (g:=w.heap.size) ag) 42 #[.bool WM,.slice WJ WI WL,.bool WN,.slice WO WK WH,.bool WE,.slice Q O WG] (g:=(w.heap.size+1)) ag) 42 #[.bool ζ,.slice δ 0 0,.bool ζ,.slice δ 0 0,.bool ζ,.slice δ 0 0] (g:=(w.heap.size+2)) ag);have WF:=(l.aH 2).cell;have WR:=(l.aH 1).cell;go_enter func164,ntmps164;(go_wp2_with fail);clear WF WR;clear l;refine gA4 hS 42 #[.bool Z,.slice Y G C,.bool U,.slice P L V,.bool S,.slice M D W] 42 #[.bool WM,.slice WJ WI WL,.bool WN,.slice WO WK WH,.bool WE,.slice Q O WG] 42 #[.bool ζ,.slice δ 0 0,.bool ζ,.slice δ 0 0,.bool ζ,.slice δ 0 0] 42 #[.bool Z,.slice Y G C,.bool U,.slice P L V,.bool S,.slice M D W,.bool WM,.slice WJ WI WL,.bool WN,.slice WO WK WH,.bool WE,.slice Q O WG] ?_;clear hS;intro w1 g2 o2 g3 o3 g4 o4 g9 o9 hS;refine(jS g9 q0 q1 n0 n1 _ (hS.aH 0) ⟨_,_,_,RG.mk (hS.aF 5) (hS.aF 4) (hS.aF 3),I0,S0⟩ aa ⟨_,_,_,RG.mk (hS.aF 2) (hS.aF 1) (hS.aF 0),I1,S1⟩ aa).mono ?_;rintro e w2 ⟨rfl,F⟩;replace hS:=hS.mv F;clear F;have WP:=(St.al hS 197 #[.int .i64 0] (g:=w2.heap.size) ag);have WY:=(WP.aH 4).cell;have W9:=(WP.aH 3).cell;(go_wp2_with fail);clear WY W9;clear WP;refine gA1 hS 197 #[.int .i64 0] ?_;clear hS;intro w3 g6 o6 hS;obtain⟨T,Xc,Xe,Xg⟩:=fZ (q0*q1);have Xx:Sz (n0+n1+1) T Xc Xe:=(Bd.mul ⟨_,_,_,I0,S0⟩ ⟨_,_,_,I1,S1⟩).sz Xg;refine(lZ (JY g6 _ _ q0 q1 _ _ _ (hS.aH 0) ⟨_,_,_,RG.mk (hS.aF 5) (hS.aF 4) (hS.aF 3),I0,S0⟩ ⟨_,_,_,RG.mk (hS.aF 2) (hS.aF 1) (hS.aF 0),I1,S1⟩ aa) Xg).mono ?_;exact Aak
def RI.le{w s A n c k z}(h:RI w (iv s A n c) z)(j:z.natAbs<2^(32*k)):n<=k:=by
 obtain⟨A',n',c',e,I⟩:=h;simp[iv] at e;obtain⟨_,_,rfl,_⟩:=e;rw[<-I.len];exact eG (by rw[show(4294967296:Nat)=2^32 from rfl,<-Nat.pow_mul];exact j)
def VB (w:World) (v:Value) (b:Bool):Prop:=∀w',Ext w w'->(CE 95 #[v] w' (.bool b))/\True
def VB.ext{w w' v b}(h:VB w v b)(x:Ext w w'):VB w' v b:=fun w'' x'=>h w'' (x.trans x')
def VB.e{w v b}(h:VB w v b):CE 95 #[v] w (.bool b):=(h w (Ext.refl w)).1
def GV.vb{w v q n}(h:GV w v q n)(hn:n<=12800):VB w v ε:=fun w' x=>⟨oC v q n w' (h.ext x) hn,trivial⟩
def agk{w s A n c z}(h:RI w (iv s A n c) z)(j:z≠0):((n:Int)==0)=ζ:=by
 obtain⟨A',n',c',e,I⟩:=h;simp[iv] at e;obtain⟨_,_,rfl,_⟩:=e;have:=(kW I.len).2 aa;simp;omega
def agd{w s A n c z}(h:RI w (iv s A n c) z)(j:z=0):((n:Int)==0)=ε:=by
 obtain⟨A',n',c',e,I⟩:=h;simp[iv] at e;obtain⟨_,_,rfl,_⟩:=e;have:=(kW I.len);simp;omega
def RZ (a d b e r n:Int):Prop:=Le3 ((2*n-1)*r*(d*e)-2*(a*e)) (2*(b*d))
def MX(s1 A1 n1 c1 s2 A2 n2 c2 s3 A3 n3 c3 w):
  CE 136 #[gv s1 A1 n1 c1 s2 A2 n2 c2 s3 A3 n3 c3] w (.bool (decide (n1=0)&&decide (n2=0))):=by
 have F:=Blk.new w 42 #[.bool s1,.slice A1 n1 c1,.bool s2,.slice A2 n2 c2,.bool s3,.slice A3 n3 c3];have k0:=F.cell;by_cases l:n1=0
 .have G:((n1:Int)==0)=ε:=ae;have B:=aJ l;clear l;by_cases j:n2=0
  .have D:((n2:Int)==0)=ε:=ae;have C:=aJ j;clear j;go_enter aeh,adL;go_wp2;go_ret;exact⟨aS (by simp[B.o,C.o]),Ext.new _ _⟩
  .have D:((n2:Int)==0)=ζ:=ae;have C:=aJ j;clear j;go_enter aeh,adL;go_wp2;go_ret;exact⟨aS (by simp[C.o]),Ext.new _ _⟩
 .have G:((n1:Int)==0)=ζ:=ae;have B:=aJ l;clear l;go_enter aeh,adL;go_wp2;go_ret;exact⟨aS (by simp[B.o]),Ext.new _ _⟩
def BM(s1 A1 n1 c1 s2 A2 n2 c2 s3 A3 n3 c3 r w)(h:(decide (n1=0)&&decide (n2=0))=r):
  CE 136 #[gv s1 A1 n1 c1 s2 A2 n2 c2 s3 A3 n3 c3] w (.bool r):=by
 have:=MX s1 A1 n1 c1 s2 A2 n2 c2 s3 A3 n3 c3 w;rwa[h] at this
def afU{w s A n c z}(h:RI w (iv s A n c) z):decide (n=0)=decide (z=0):=by
 by_cases j:z=0
 .have:=agd h j;simp at this;simp[this,j]
 .have:=agk h j;simp at this;simp[this,j]
def Is.OX{q a b d}(h:Is q a b d):q=GQ.i 0 0↔a=0/\b=0:=by
 have hd:=gm h.dne;constructor
 .intro e;have j:=h.re;have l:=h.im;rw[e] at j l;simp only[GQ.dE,GQ.dD] at j l;have C:(a:Rat)=0:=ak;have B:(b:Rat)=0:=ak;exact⟨by exact_mod_cast C,by exact_mod_cast B⟩
 .rintro⟨rfl,rfl⟩;ext
  .rw[h.re];simp only[GQ.dE];grind
  .rw[h.im];simp only[GQ.dD];grind
def GV.zero{w q n n1 c1 n2 c2 n3 c3 s1 s2 s3 A1 A2 A3}(h:GV w (gv s1 A1 n1 c1 s2 A2 n2 c2 s3 A3 n3 c3) q n):(decide (n1=0)&&decide (n2=0))=ε↔q=GQ.i 0 0:=by
 obtain⟨a,b,d,l,j,_⟩:=h;obtain⟨r1,r2,B⟩:=RG.inj l;rw[afU r1,afU r2,j.OX];simp
def GV.opn{w v q n}(h:GV w v q n):∃s1 A1 n1 c1 s2 A2 n2 c2 s3 A3 n3 c3,v=gv s1 A1 n1 c1 s2 A2 n2 c2 s3 A3 n3 c3:=by
 obtain⟨a,b,d,⟨s1,A1,n1,c1,s2,A2,n2,c2,s3,A3,n3,c3,e,_⟩,_⟩:=h;exact⟨s1,A1,n1,c1,s2,A2,n2,c2,s3,A3,n3,c3,e⟩
def GX(v q n w)(L:GV w v q n)(h:q≠GQ.i 0 0):
  CE 136 #[v] w (.bool ζ):=by
 obtain⟨s1,A1,n1,c1,s2,A2,n2,c2,s3,A3,n3,c3,rfl⟩:=L.opn;exact BM _ _ _ _ _ _ _ _ _ _ _ _ _ w AbK
def af3{x y n1 n2}(J:Bd x n1)(R:Bd y n2)(h:y≠GQ.i 0 0):Bd (x/y) (n1+(n2+n2+1)):=by
 obtain⟨a,b,d,i1,s1⟩:=J;obtain⟨a',b',d',Q,s2⟩:=R;obtain⟨u,v,t,l⟩:=fZ (x/y);have j:=Q.ne0 h;have E:=i1.Ka Q j l;have B:=bI (jg (bI s1.a s2.a) (bI s1.b s2.b)) s2.d;have V:=bI (sK (bI s1.b s2.a) (bI s1.a s2.b)) s2.d;have C:=bI s1.d (jg (bI s2.a s2.a) (bI s2.b s2.b));exact⟨u,v,t,l,jr (n:=n1+(n2+n2+1)) (qa i1.dne (pV j)) E (iX B aa) (iX V aa) C⟩
def Ry(M I B D N J j C K L G H R w)(O:VB w (gv M I B D N J j C K L G H) R)(S:Hid ((decide (B=0)&&decide (j=0))=ε)):
  CE 90 #[gv M I B D N J j C K L G H] w (.bool R):=by
 have hS:=aeX w;have l:=(St.al hS 42 #[.bool M,.slice I B D,.bool N,.slice J j C,.bool K,.slice L G H] (g:=w.heap.size) ag);have Q:=(l.aH 0).cell;go_enter func90,ntmps90;(go_wp2_with fail);clear Q;clear l;refine gA1 hS 42 #[.bool M,.slice I B D,.bool N,.slice J j C,.bool K,.slice L G H] ?_;clear hS;intro w1 g1 o1 hS;refine(BM M I B D N J j C K L G H ε _ S.o).mono ?_;rintro e w2 ⟨rfl,F⟩;replace hS:=hS.mv F;clear F;have P:=(hS.aH 0).cell;(go_wp2_with fail);clear P;refine(VB.e (O.ext hS.ext)).mono ?_;rintro e T ⟨rfl,F⟩;exact AaI
def Sm(M I B D N J j C K L G H R w)(O:VB w (gv M I B D N J j C K L G H) R)(Q:Hid ((decide (B=0)&&decide (j=0))=ζ)):
  CE 90 #[gv M I B D N J j C K L G H] w (.bool ζ):=by
 have hS:=aeX w;have l:=(St.al hS 42 #[.bool M,.slice I B D,.bool N,.slice J j C,.bool K,.slice L G H] (g:=w.heap.size) ag);have P:=(l.aH 0).cell;go_enter func90,ntmps90;(go_wp2_with fail);clear P;clear l;refine gA1 hS 42 #[.bool M,.slice I B D,.bool N,.slice J j C,.bool K,.slice L G H] ?_;clear hS;intro w1 g1 o1 hS;refine(BM M I B D N J j C K L G H ζ _ Q.o).mono ?_;rintro e w2 ⟨rfl,F⟩;exact AaI
def xB(v q n w)(L:GV w v q n)(hn:n<=12800)(h:q=GQ.i 0 0):
  CE 90 #[v] w (.bool ε):=by
 obtain⟨s1,A1,n1,c1,s2,A2,n2,c2,s3,A3,n3,c3,rfl⟩:=L.opn;exact Ry _ _ _ _ _ _ _ _ _ _ _ _ _ w (L.vb hn) (aJ (L.zero.2 h))
def zK(v q n w)(L:GV w v q n)(hn:n<=12800)(h:q≠GQ.i 0 0):
  CE 90 #[v] w (.bool ζ):=by
 obtain⟨s1,A1,n1,c1,s2,A2,n2,c2,s3,A3,n3,c3,rfl⟩:=L.opn;exact Sm _ _ _ _ _ _ _ _ _ _ _ _ _ w (L.vb hn) (aJ AbK)
def Vl(v0 q0 n0 v1 q1 n1 w)(WQ:GV w v0 q0 n0)(J:GV w v1 q1 n1)(H0:Hid (q1≠GQ.i 0 0))(hn:4*max n0 n1+3<=12800):
  CV 137 #[v0,v1] w fun v w'=>(∃u,v=.tuple #[u,.int .i64 0]/\GV w' u (q0/q1) (n0+(n1+n1+1))):=by
 have hS:=aeX w;obtain⟨Xu,Xt,Xq,WQ,I0,S0⟩:=WQ;obtain⟨Z,Y,G,C,U,P,L,V,S,M,D,W,rfl,WV,WX,WW⟩:=WQ;replace hS:=hS.aV WV;clear WV;replace hS:=hS.aV WX;clear WX;replace hS:=hS.aV WW;clear WW;obtain⟨Xb,Xa,WZ,J,I1,S1⟩:=J;obtain⟨WM,WJ,WI,WL,WN,WO,WK,WH,WE,Q,O,WG,rfl,WT,WU,WS⟩:=J;replace hS:=hS.aV WT;clear WT;replace hS:=hS.aV WU;clear WU;replace hS:=hS.aV WS;clear WS;have l:=(St.al (St.al (St.al hS 42 #[.bool Z,.slice Y G C,.bool U,.slice P L V,.bool S,.slice M D W] (g:=w.heap.size) ag) 42 #[.bool WM,.slice WJ WI WL,.bool WN,.slice WO WK WH,.bool WE,.slice Q O WG] (g:=(w.heap.size+1)) ag) 42 #[.bool ζ,.slice δ 0 0,.bool ζ,.slice δ 0 0,.bool ζ,.slice δ 0 0] (g:=(w.heap.size+2)) ag);have WF:=(l.aH 2).cell;have WR:=(l.aH 1).cell;go_enter func137,ntmps137;(go_wp2_with fail);clear WF WR;clear l;refine gA4 hS 42 #[.bool Z,.slice Y G C,.bool U,.slice P L V,.bool S,.slice M D W] 42 #[.bool WM,.slice WJ WI WL,.bool WN,.slice WO WK WH,.bool WE,.slice Q O WG] 42 #[.bool ζ,.slice δ 0 0,.bool ζ,.slice δ 0 0,.bool ζ,.slice δ 0 0] 42 #[.bool Z,.slice Y G C,.bool U,.slice P L V,.bool S,.slice M D W,.bool WM,.slice WJ WI WL,.bool WN,.slice WO WK WH,.bool WE,.slice Q O WG] ?_;clear hS;intro w1 g2 o2 g3 o3 g4 o4 g9 o9 hS;refine(jS g9 q0 q1 n0 n1 _ (hS.aH 0) ⟨_,_,_,RG.mk (hS.aF 5) (hS.aF 4) (hS.aF 3),I0,S0⟩ aa ⟨_,_,_,RG.mk (hS.aF 2) (hS.aF 1) (hS.aF 0),I1,S1⟩ aa).mono ?_;rintro e w2 ⟨rfl,F⟩;replace hS:=hS.mv F;clear F;have WY:=(hS.aH 2).cell;(go_wp2_with fail);clear WY;refine(GX _ q1 (n1) _ ⟨_,_,_,RG.mk (hS.aF 2) (hS.aF 1) (hS.aF 0),I1,S1⟩ H0.o).mono ?_;rintro e w3 ⟨rfl,F⟩;replace hS:=hS.mv F;clear F;have WP:=(St.al hS 197 #[.int .i64 0] (g:=w3.heap.size) ag);have W9:=(WP.aH 4).cell;have Xd:=(WP.aH 3).cell;(go_wp2_with fail);clear W9 Xd;clear WP;refine gA1 hS 197 #[.int .i64 0] ?_;clear hS;intro w4 g6 o6 hS;obtain⟨Xf,T,Xc,Xy⟩:=fZ (q0/q1);have XL:Sz (n0+(n1+n1+1)) Xf T Xc:=(af3 ⟨_,_,_,I0,S0⟩ ⟨_,_,_,I1,S1⟩ H0.o).sz Xy;refine(lZ (Ig g6 _ _ q0 q1 _ _ _ (hS.aH 0) ⟨_,_,_,RG.mk (hS.aF 5) (hS.aF 4) (hS.aF 3),I0,S0⟩ ⟨_,_,_,RG.mk (hS.aF 2) (hS.aF 1) (hS.aF 0),I1,S1⟩ aa H0.o) Xy).mono ?_;exact Aap
structure Mod (S:Nat->Prop) (w w':World):Prop where
 os:w'.os=w.os
 tape:w'.tape=w.tape
 output:w'.output=w.output
 size:w.heap.size<=w'.heap.size
 block:∀k,k<w.heap.size->¬S k->w'.heap[k]? =w.heap[k]?
section
variable {S T:Nat->Prop} {w w' w'':World}
def Mod.refl(S w):Mod S w w:=⟨rfl,rfl,rfl,κ _,fun _ _ _=>rfl⟩
def Mod.trans(h:Mod S w w')(k:Mod S w' w''):Mod S w w'':=
 ⟨k.os.trans h.os,k.tape.trans h.tape,k.output.trans h.output,lh h.size k.size,fun i hi hs=>(k.block i (π hi h.size) hs).trans (h.block i hi hs)⟩
def aeW(h:Ext w w'):Mod S w w':=⟨h.os,h.tape,h.output,h.size,fun k j _=>h.block k j⟩
def Mod.mono(h:Mod S w w')(hs:∀k,S k->T k):Mod T w w':=⟨h.os,h.tape,h.output,h.size,fun k j hn=>h.block k j (fun e=>hn (hs k e))⟩
def Mod.only{g}(h:Only g w w')(j:S g):Mod S w w':=
 ⟨h.os,h.tape,h.output,h.size,fun k l hn=>h.block k l (fun e=>hn (by first|(injection e with e;exact e ▸ j)|exact e ▸ j))⟩
def Blk.mod{g t cs}(h:Blk w g t cs)(m:Mod S w w')(j:¬S g):Blk w' g t cs:=(m.block g h.lt j).trans h
def Far (S:Nat->Prop) (w:World):Prop:=∀g,S g->g<w.heap.size->∃t cs,Blk w g t cs/\kM cs=ε
def RM.mod{A n c l}(h:RM w A n c l)(m:Mod S w w')(hS:Far S w):RM w' A n c l:=by
 refine⟨⟨h.rd.1,fun hn=> ?_⟩,h.dg,h.nc,h.cm⟩;obtain⟨b,o,rfl,B,hc⟩:=h.rd.plain hn;obtain⟨I,x,e,_,J,_,_⟩:=h.at_ hn;have C:¬S b:=by
  intro hs;obtain⟨t,cs,hb,D⟩:=hS b hs B;have:=hc 0 _ (oK J);rw[hb.cell] at this;exact sM D _ _ _ this
 exact Aa0
def RI.mod{v z}(h:RI w v z)(m:Mod S w w')(hS:Far S w):RI w' v z:=by
 obtain⟨A,n,c,e,h⟩:=h;exact⟨A,n,c,e,h.mod m hS⟩
def GV.mod{v q n}(h:GV w v q n)(m:Mod S w w')(hS:Far S w):GV w' v q n:=by
 obtain⟨a,b,d,⟨s1,A1,n1,c1,s2,A2,n2,c2,s3,A3,n3,c3,e,l,j,B⟩,I,Z⟩:=h;exact⟨a,b,d,⟨s1,A1,n1,c1,s2,A2,n2,c2,s3,A3,n3,c3,e,l.mod m hS,j.mod m hS,B.mod m hS⟩,I,Z⟩
end
def GV.to{w v q m n}(h:GV w v q m)(hb:Bd q n):GV w v q n:=by
 obtain⟨a,b,d,j,I,Z⟩:=h;exact⟨a,b,d,j,I,hb.sz I⟩
def GV.up{w v q m n}(h:GV w v q m)(hn:m<=n):GV w v q n:=by
 obtain⟨a,b,d,j,I,Z⟩:=h;exact⟨a,b,d,j,I,Z.mono hn⟩
structure En where
 s1:Bool
 A1:Option Addr
 n1:Nat
 c1:Nat
 s2:Bool
 A2:Option Addr
 n2:Nat
 c2:Nat
 s3:Bool
 A3:Option Addr
 n3:Nat
 c3:Nat
def En.v (e:En):Value:=gv e.s1 e.A1 e.n1 e.c1 e.s2 e.A2 e.n2 e.c2 e.s3 e.A3 e.n3 e.c3
def En.cells (e:En):List Value:=[.bool e.s1,.slice e.A1 e.n1 e.c1,.bool e.s2,.slice e.A2 e.n2 e.c2,.bool e.s3,.slice e.A3 e.n3 e.c3]
def GV.en{w v q n}(h:GV w v q n):∃e:En,v=e.v:=by
 obtain⟨s1,A1,n1,c1,s2,A2,n2,c2,s3,A3,n3,c3,e⟩:=h.opn;exact⟨⟨s1,A1,n1,c1,s2,A2,n2,c2,s3,A3,n3,c3⟩,e⟩
def aO (n:Nat) (f:Nat->En):List Value:=(List.range n).flatMap fun j=>(f j).cells
theorem iN(n f):aO (n+1) f=aO n f++(f n).cells:=by
 unfold aO;exact Aby
def aX:∀(n:Nat) (f:Nat->En),(aO n f).length=n*6
 |0,_=>rfl
 |n+1,f=>by
  rw[iN,y9,aX n f];simp[En.cells];omega
def dN{f j t}(l:t<6):∀{n:Nat},j<n->(aO n f)[j*6+t]? =(f j).cells[t]?
 |0,h=>aa
 |n+1,h=>by
  rw[iN];by_cases e:j=n
  .subst e;rw[nV Ab7,aX];congr 1;omega
  .rw[kC Ab7];exact dN l aa
theorem zU{n f f'}(h:∀j,j<n->f j=f' j):aO n f=aO n f':=by
 unfold aO;have:∀(L:List Nat),(∀j∈L,f j=f' j)->L.flatMap (fun j=>(f j).cells)=L.flatMap (fun j=>(f' j).cells):=by
  intro L
  induction L with
  |nil=>intro _;rfl
  |cons a L ih=>
   intro h;simp only[List.flatMap_cons];rw[h a (wN),ih (fun j l=>h j (nG _ l))]
 exact this _ (fun j l=>h j (aaa.1 l))
def upd {α:Type} (f:Nat->α) (j:Nat) (e:α):Nat->α:=fun i=>if i=j then e else f i
theorem upd_same{α:Type}(f:Nat->α)(j)(e:α):upd f j e j=e:=by unfold upd;rw[ι rfl]
theorem upd_ne{α:Type}{f:Nat->α}{i j}{e:α}(h:i≠j):upd f j e i=f i:=by unfold upd;rw[θ h]
def jP:∀(B:List Value) (l:List Value) (k:Nat),fF l.toArray k B=((l.take k)++(B.take (l.length-k))++l.drop (k+B.length)).toArray
 |[],l,k=>by simp[fF]
 |v::B,l,k=>by
  show fF (l.toArray.setIfInBounds k v) (k+1) B=_;rw[nk,jP B];congr 1;by_cases h:k<l.length
  .rw[abd,List.take_set,List.drop_set_of_lt aa];have j:((l.take (k+1)).set k v)=l.take k++[v]:=by
    rw[aaS h,abK _ _ ae];simp[aat (aan h)]
   rw[j];have C:(v::B).take (l.length-k)=v::B.take (l.length-(k+1)):=by
    rw[show l.length-k=(l.length-(k+1))+1 by omega,aaq]
   rw[C];simp only[nC,aab,μ,ξ];rw[show k+1+B.length=k+(B.length+1) by omega]
  .rw[List.set_eq_of_length_le aa];rw[ω (i:=k+1) aa,ω (i:=k) aa,show l.length-k=0 by omega,show l.length-(k+1)=0 by omega];simp only[abm,aaj];rw[aap aa,aap (by simp only[nC];omega)]
def mZ{f j n}(e)(G:j<n):fF (aO n f).toArray (j*6) e.cells=(aO n (upd f j e)).toArray:=by
 rw[jP];congr 1;apply aar;intro t;have T:e.cells.length=6:=rfl;rw[aX,T,ω (l:=e.cells) (by rw[T];omega)];have B:((aO n f).take (j*6)).length=j*6:=by rw[A8,aX];omega
 by_cases D:t<j*6
 .rw[aab,kC (by rw[B];exact D),BB D];have C:t=(t/6)*6+t%6:=aa;rw[C,dN (q8 _ aa) aa,dN (q8 _ aa) aa,upd_ne aa]
 .by_cases C:t<j*6+6
  .rw[aab,nV Ade,B,kC (by rw[T];omega)];have F:t=j*6+(t-j*6):=aa
   conv=>rhs;rw[F]
   rw[dN aa G,upd_same]
  .rw[nV (by rw[y9,B,T];omega),y9,B,T,RS];rw[show j*6+6+(t-(j*6+6))=t by omega];by_cases F:t<n*6
   .have H:t=(t/6)*6+t%6:=aa;rw[H,dN (q8 _ aa) aa,dN (q8 _ aa) aa,upd_ne aa]
   .rw[wo Ab7,wo Ab7]
theorem dm(n f):kM (aO n f).toArray=ε:=by
 unfold kM;simp only[nH];intro v hv;unfold aO at hv;obtain⟨j,_,hv⟩:=ac9.1 hv;unfold En.cells at hv;simp only[pq,Z5,aa2] at hv;rcases hv with rfl|rfl|rfl|rfl|rfl|rfl<;>rfl
def dz (w:World) (g n:Nat) (x:Nat->GQ):Prop:=∃f:Nat->En,Blk w g 42 (aO n f).toArray/\∀j,j<n->GV w (f j).v (x j) 12800
def dz.ext{w w' g n x}(h:dz w g n x)(e:Ext w w'):dz w' g n x:=by
 obtain⟨f,C,l⟩:=h;exact⟨f,C.ext e,fun j B=>(l j B).ext e⟩
def dz.mod{S w w' g n x}(h:dz w g n x)(m:Mod S w w')(hS:Far S w)(D:¬S g):dz w' g n x:=by
 obtain⟨f,C,l⟩:=h;exact⟨f,C.mod m D,fun j B=>(l j B).mod m hS⟩
def dz.congr{w g n x y}(h:dz w g n x)(e:∀j,j<n->x j=y j):dz w g n y:=by
 obtain⟨f,C,B⟩:=h;exact⟨f,C,fun j l=>e j l ▸ B j l⟩
def dz.put{w g n j f x}{e:En}{q}(hb:Blk w g 42 (aO n f).toArray)(J:∀j,j<n->GV w (f j).v (x j) 12800)(C:j<n)(O:GV w e.v q 12800):
  dz (puts w g (j*6) e.cells) g n (upd x j q)/\Mod (fun k=>k=g) w (puts w g (j*6) e.cells):=by
 have l:Mod (fun k=>k=g) w (puts w g (j*6) e.cells):=Mod.only (fM _ _ _ _) rfl;have hS:Far (fun k=>k=g) w:=fun k B _=>by subst B;exact⟨_,_,hb,dm _ _⟩
 refine⟨⟨upd f j e,?_,fun i hi=> ?_⟩,l⟩
 .rw[<-mZ e C];exact bY _ _ hb
 .by_cases h:i=j
  .subst h;rw[upd_same,upd_same];exact O.mod l hS
  .rw[upd_ne h,upd_ne h];exact(J i hi).mod l hS
def Sb{A B C S T g h A1 I J H j:Nat}(R:Nat.gcd (Nat.gcd C A) B=1)(hs:Nat.gcd T S=1)(N:g=Nat.gcd (Nat.gcd T A) B)(U:h=Nat.gcd C S)(O:0<g)(M:0<h)(l:T=g*j)(L:A=g*A1)(D:B=g*I)(G:C=h*J)(F:S=h*H):Nat.gcd (Nat.gcd (J*j) (A1*H)) (I*H)=1:=by
 have c1:Nat.gcd (Nat.gcd j A1) I=1:=by
  have e:Nat.gcd (Nat.gcd T A) B=g*Nat.gcd (Nat.gcd j A1) I:=by rw[l,L,D,abN,abN]
  rw[e] at N;exact abk O aa
 have c2:Nat.gcd J H=1:=by
  have e:Nat.gcd C S=h*Nat.gcd J H:=by rw[G,F,abN]
  rw[e] at U;exact abk M aa
 have V:Nat.Coprime (Nat.gcd A1 I) j:=by
  show Nat.gcd (Nat.gcd A1 I) j=1;rw[aaJ,<-acn];exact c1
 have W:Nat.Coprime (Nat.gcd A1 I) J:=by
  have K:Nat.gcd (Nat.gcd A1 I) J∣Nat.gcd (Nat.gcd C A) B:=by
   refine acG (acG ?_ ?_) ?_
   .rw[G];exact aae (aal _ _) ⟨h,pz _ _⟩
   .rw[L];exact aae (aae (D5 _ _) (D5 _ _)) ⟨g,pz _ _⟩
   .rw[D];exact aae (aae (D5 _ _) (aal _ _)) ⟨g,pz _ _⟩
  rw[R] at K;exact Nat.dvd_one.1 K
 have P:Nat.Coprime H J:=by show Nat.gcd H J=1;rw[aaJ];exact c2
 have Q:Nat.Coprime H j:=by
  have K:Nat.gcd H j∣Nat.gcd T S:=by
   refine acG ?_ ?_
   .rw[l];exact aae (aal _ _) ⟨g,pz _ _⟩
   .rw[F];exact aae (D5 _ _) ⟨h,pz _ _⟩
  rw[hs] at K;exact Nat.dvd_one.1 K
 have k:Nat.Coprime (Nat.gcd A1 I*H) (J*j):=Nat.Coprime.mul_left (ads W V) (ads P Q);rw[acn,acV,aaJ];exact k
def nat_eq{x y z:Int}(h:x=y*z):x.natAbs=y.natAbs*z.natAbs:=by rw[h,De]
def MB{x y z:Int}(h:x=y*z)(J:0<x)(R:0<y):0<z:=by
 rcases acU z 0 with j|j|j
 .have:=ac3 R j;omega
 .subst j;simp at h;omega
 .exact j
theorem Kj(T v1 v2 P fb S sa D u v t K)(I:K<=12800)(w)(hc:Calm w T)(L:RG w v1 P fb S)(l:RG w v2 sa 0 D)(lf:Low P fb S)(B:Low sa 0 D)(sx:Sz K P fb S)(sy:Sz K sa 0 D)(E:(u,v,t)=nf (P*sa) (fb*sa) (S*D))(sz:Sz K u v t):
  CV 142 #[.pointer (γ ⟨T,0,δ⟩),v1,v2] w fun x w'=>RG w' x u v t:=by
 have hd:S≠0:=by have:=lf.1;omega
 have hd':D≠0:=by have:=B.1;omega
 obtain⟨g,t1,a1,b1,hg,N,es,M,eb⟩:=r9 (a:=D) (b:=P) (c:=fb) hd';obtain⟨h,d1,s1,z1,hh,j,Z,F,ez⟩:=r9 (a:=S) (b:=sa) (c:=0) hd;have WN:z1=0:=by
  rcases acs.1 ez.symm with h|h
  .exact absurd h j
  .exact h
 subst WN;have Q:g.natAbs=Nat.gcd (Nat.gcd D.natAbs P.natAbs) fb.natAbs:=by rw[hg];simp[fE]
 have WE:h.natAbs=Nat.gcd S.natAbs sa.natAbs:=by rw[hh];simp[fE]
 have Y:0<g:=by
  have:0<=g:=by rw[hg];omega
  omega
 have WF:0<h:=by
  have:0<=h:=by rw[hh];omega
  omega
 have V:Nat.gcd (Nat.gcd S.natAbs P.natAbs) fb.natAbs=1:=lf.2;have W:Nat.gcd D.natAbs sa.natAbs=1:=by have:=B.2;unfold g3 at this;simpa using this
 have G:=Sb V W Q WE aa aa (nat_eq es) (nat_eq M) (nat_eq eb) (nat_eq Z) (nat_eq F);have C:=MB Z lf.1 WF;have YY:=MB es B.1 Y;have WO:Low (a1*s1) (b1*s1) (d1*t1):=⟨Int.mul_pos C YY,by unfold g3;rw[De,De,De];exact G⟩;have hD:d1*t1≠0:=by have:=WO.1;omega
 have E2:nf (P*sa) (fb*sa) (S*D)=nf (a1*s1) (b1*s1) (d1*t1):=by
  refine oG (qa hd hd') hD ?_ ?_
  .rw[M,es,Z,F];grind
  .rw[eb,es,Z,F];grind
 rw[E2,zV WO] at E;injection E with e1 E;injection E with e2 e3;obtain⟨x1,x2,O⟩:=sx.qA I;obtain⟨y1,y2,y3⟩:=sy.qA I;obtain⟨z1,z2,z3⟩:=sz.qA I;have J:=fJ N M sx.a;have U:=fJ N eb sx.b;have WG:=fJ N es sy.d;have R:=fJ j F sy.a;have H:=fJ j Z sx.d;have bg:g.natAbs<2^K:=xU hd' ⟨_,es⟩ sy.d;have bh:h.natAbs<2^K:=xU hd ⟨_,Z⟩ sx.d;have l0:(0:Int).natAbs<lim:=y2;exact Ao T v1 P fb S v2 sa 0 D w hc L x1 x2 O l y1 y2 y3 g (aJ hg) (bE bg aa) h (aJ hh) (bE bh aa)
  a1 (aJ (fD N M)) (bE J aa) (aJ N) (aJ ⟨_,M⟩) b1 (aJ (fD N eb)) (bE U aa) (aJ N) (aJ ⟨_,eb⟩)
  s1 (aJ (fD j F)) (bE R aa) (aJ j) (aJ ⟨_,F⟩) 0 (aJ ag) l0 (aJ j) (aJ ⟨0,ag⟩)
  u (aJ e1) z1 0 (aJ ag) l0 u (aJ ag) z1
  0 (aJ ag) l0 v (aJ e2) z2 v (aJ ag) z2
  d1 (aJ (fD j Z)) (bE H aa) (aJ j) (aJ ⟨_,Z⟩) t1 (aJ (fD N es)) (bE WG aa) (aJ N) (aJ ⟨_,es⟩)
  t (aJ e3) z3 (aJ (by rw[e3];exact hD)) u v t (aJ (by rw[e1,e2,e3,zV WO])) z1 z2 z3
namespace GQ
def Dq(x y:GQ):x+y=y+x:=by ext<;>simp only[bR,bN]<;>grind
def IL(x y z:GQ):x+y+z=x+(y+z):=by ext<;>simp only[bR,bN]<;>grind
def pM(x y z:GQ):x*(y+z)=x*y+x*z:=by ext<;>simp only[bR,bN,aZ,aY]<;>grind
def lN(x y z:GQ):x*(y-z)=x*y-x*z:=by ext<;>simp only[dO,dQ,aZ,aY]<;>grind
def eY(x):i 0 0*x=i 0 0:=by ext<;>simp only[dE,dD,aZ,aY]<;>grind
def bJ(x):x*i 0 0=i 0 0:=by ext<;>simp only[dE,dD,aZ,aY]<;>grind
def jK(x):i 1 0*x=x:=by ext<;>simp only[dE,dD,aZ,aY]<;>grind
def kD(x):x*i 1 0=x:=by ext<;>simp only[dE,dD,aZ,aY]<;>grind
def eP(x):x-i 0 0=x:=by ext<;>simp only[dE,dD,dO,dQ]<;>grind
def Nr(x):i 0 0-x= -x:=by ext<;>simp only[dE,dD,dO,dQ,kI,kN]<;>grind
def qJ(x):x-x=i 0 0:=by ext<;>simp only[dE,dD,dO,dQ]<;>grind
def add_zero'(x):x+i 0 0=x:=by ext<;>simp only[dE,dD,bR,bN]<;>grind
def JP{x y}(h:x+y=i 0 0):x= -y:=by
 have l:=congrArg GQ.re h;have j:=congrArg GQ.im h;simp only[bR,bN,dE,dD] at l j;ext<;>simp only[kI,kN]<;>grind
def GM{x}(h:x+x=i 0 0):x=i 0 0:=by
 have j:=congrArg GQ.re h;have l:=congrArg GQ.im h;simp only[bR,bN,dE,dD] at j l;ext<;>simp only[dE,dD]<;>grind
theorem Rt(x y:GQ):(x*y).nrm=x.nrm*y.nrm:=by unfold nrm;simp only[aZ,aY];grind
theorem iK{x y}(J:x≠i 0 0)(R:y≠i 0 0):x*y≠i 0 0:=by
 intro h;have j:=Rt x y;rw[h] at j;have l:(i 0 0).nrm=0:=by unfold nrm;simp only[dE,dD];grind
 rw[l] at j;rcases aby.1 j.symm with h|h
 .exact BR J h
 .exact BR R h
end GQ
def bU (v:Nat->GQ) (D:List Nat->GQ):List Nat->GQ
 |[]=>GQ.i 0 0
 |c::cs=>v c*D cs-bU v (fun l=>D (c::l)) cs
def det:List (Nat->GQ)->List Nat->GQ
 |[],_=>GQ.i 1 0
 |v::R,cs=>bU v (det R) cs
def Cb(v a):∀(cs:List Nat) (D E:List Nat->GQ),bU v (fun l=>a*D l-E l) cs=a*bU v D cs-bU v E cs
 |[],D,E=>by simp only[bU,GQ.bJ,GQ.eP]
 |c::cs,D,E=>by
  simp only[bU,Cb v a cs];ext<;>simp only[GQ.dO,GQ.dQ,GQ.aZ,GQ.aY]<;>grind
def xh(v u f):∀(cs:List Nat) (D:List Nat->GQ),bU (fun c=>v c-f*u c) D cs=bU v D cs-f*bU u D cs
 |[],D=>by simp only[bU,GQ.bJ,GQ.eP]
 |c::cs,D=>by
  simp only[bU,xh v u f cs];ext<;>simp only[GQ.dO,GQ.dQ,GQ.aZ,GQ.aY]<;>grind
def mE(v):∀(cs:List Nat),bU v (fun _=>GQ.i 0 0) cs=GQ.i 0 0
 |[]=>rfl
 |c::cs=>by simp only[bU,mE v cs,GQ.bJ,GQ.eP]
def qG(v u):∀(cs:List Nat) (D:List Nat->GQ),bU v (bU u D) cs+bU u (bU v D) cs=GQ.i 0 0
 |[],D=>by simp only[bU,GQ.add_zero']
 |c::cs,D=>by
  have B:=qG v u cs (fun l=>D (c::l));have F:bU v (fun l=>bU u D (c::l)) cs=u c*bU v D cs-bU v (bU u (fun l=>D (c::l))) cs:=by
   rw[<-Cb];rfl
  have C:bU u (fun l=>bU v D (c::l)) cs=v c*bU u D cs-bU u (bU v (fun l=>D (c::l))) cs:=by
   rw[<-Cb];rfl
  have j:bU v (bU u D) (c::cs)=v c*bU u D cs-bU v (fun l=>bU u D (c::l)) cs:=rfl;have G:bU u (bU v D) (c::cs)=u c*bU v D cs-bU u (fun l=>bU v D (c::l)) cs:=rfl;rw[j,G,F,C];have i1:=congrArg GQ.re B;have Q:=congrArg GQ.im B;simp only[GQ.bR,GQ.bN,GQ.dE,GQ.dD] at i1 Q;ext<;>simp only[GQ.bR,GQ.bN,GQ.dO,GQ.dQ,GQ.aZ,GQ.aY,GQ.dE,GQ.dD]<;>grind
def vZ(v u R cs):det (v::u::R) cs= -det (u::v::R) cs:=by
 have h:=qG v u cs (det R);exact GQ.JP h
def qK(v):∀(R:List (Nat->GQ)) (cs:List Nat),v∈R->det (v::R) cs=GQ.i 0 0
 |[],_,h=>by cases h
 |u::R,cs,h=>by
  by_cases e:v=u
  .subst e;apply GQ.GM;exact qG v v cs (det R)
  .have j:v∈R:=by
    rcases pq.1 h with h|h
    .exact absurd h e
    .exact h
   rw[vZ];have B:det (v::R)=fun _=>GQ.i 0 0:=funext fun l=>qK v R l j;show-bU u (det (v::R)) cs=_;rw[B,mE];ext<;>simp only[GQ.kI,GQ.kN,GQ.dE,GQ.dD]<;>grind
def Says (x a:Nat->GQ) (P:List (Nat->GQ)):Prop:=∀cs,det (x::P) cs=det (a::P) cs
def Says.refl(a P):Says a a P:=fun _=>rfl
def Says.more{x a b P}(h:Says x a P):Says x a (b::P):=by
 intro cs;rw[vZ,vZ a];have:det (x::P)=det (a::P):=funext h;show-bU b (det (x::P)) cs= -bU b (det (a::P)) cs;rw[this]
def Says.step{x y a b P}(J:Says x a P)(R:Says y b P)(f):Says (fun c=>x c-f*y c) a (b::P):=by
 intro cs;have j:det ((fun c=>x c-f*y c)::b::P) cs=det (x::b::P) cs-f*det (y::b::P) cs:=xh x y f cs (det (b::P));rw[j,J.more cs,R.more cs,qK b (b::P) cs (wN),GQ.bJ,GQ.eP]
def mD{x}:∀(cs:List Nat) (D:List Nat->GQ),(∀c∈cs,x c=GQ.i 0 0)->bU x D cs=GQ.i 0 0
 |[],_,_=>rfl
 |c::cs,D,h=>by
  show x c*D cs-bU x (fun l=>D (c::l)) cs=_;rw[h c (wN),mD cs _ (fun d hd=>h d (nG _ hd)),GQ.eY,GQ.eP]
def Says.entry{x a P q}(h:Says x a P)(C:∀c∈q,x c=GQ.i 0 0)(j):det (a::P) (j::q)=x j*det P q:=by
 rw[<-h];show x j*det P q-bU x _ q=_;rw[mD q _ C,GQ.eP]

def Wh (x:GQ) (B:Nat):Prop:=∃a b:Int,x=GQ.i a b/\a.natAbs+b.natAbs<=B
def Wh.mono{x B C}(h:Wh x B)(l:B<=C):Wh x C:=by
 obtain⟨a,b,e,h⟩:=h;exact⟨a,b,e,aa⟩
def Wh.mul{x y B C}(J:Wh x B)(R:Wh y C):Wh (x*y) (B*C):=by
 obtain⟨a,b,rfl,h⟩:=J;obtain⟨c,d,rfl,k⟩:=R;refine⟨a*c-b*d,a*d+b*c,?_,?_⟩
 .ext<;>simp only[GQ.aZ,GQ.aY,GQ.dE,GQ.dD,abY,aa9,aau]
 .have l:=abH (a*c) (b*d);have j:=acg (a*d) (b*c);have F:(a.natAbs+b.natAbs)*(c.natAbs+d.natAbs)<=B*C:=Z6 h k;have D:(a.natAbs+b.natAbs)*(c.natAbs+d.natAbs)=a.natAbs*c.natAbs+b.natAbs*d.natAbs+(a.natAbs*d.natAbs+b.natAbs*c.natAbs):=by
   exact Aco
  rw[De,De] at l j;omega
def Wh.sub{x y B C}(J:Wh x B)(R:Wh y C):Wh (x-y) (B+C):=by
 obtain⟨a,b,rfl,h⟩:=J;obtain⟨c,d,rfl,k⟩:=R;refine⟨a-c,b-d,?_,?_⟩
 .ext<;>simp only[GQ.dO,GQ.dQ,GQ.dE,GQ.dD,abY]
 .have l:=abH a c;have j:=abH b d;omega
def uV:Wh (GQ.i 1 0) 1:=⟨1,0,rfl,ag⟩
def gM(B):Wh (GQ.i 0 0) B:=⟨0,0,rfl,ag⟩
def fct:Nat->Nat
 |0=>1
 |n+1=>(n+1)*fct n
def rH{x}(s):∀(cs:List Nat) (D:List Nat->GQ),bU (fun c=>s*x c) D cs=s*bU x D cs
 |[],_=>(GQ.bJ s).symm
 |c::cs,D=>by
  show s*x c*D cs-bU (fun c=>s*x c) (fun l=>D (c::l)) cs=s*(x c*D cs-bU x (fun l=>D (c::l)) cs);rw[rH s cs,GQ.lN,GQ.bZ]
def jJ{x}(s):∀(cs:List Nat) (D:List Nat->GQ),bU x (fun l=>s*D l) cs=s*bU x D cs
 |[],_=>(GQ.bJ s).symm
 |c::cs,D=>by
  show x c*(s*D cs)-bU x (fun l=>s*D (c::l)) cs=s*(x c*D cs-bU x (fun l=>D (c::l)) cs);rw[jJ s cs,GQ.lN,<-GQ.bZ,GQ.eD (x c) s,GQ.bZ]
def St.swap{w W a b bs fs}(h:St w W (a::b::bs) fs):St w W (b::a::bs) fs:=
 ⟨h.ext,fun p hp=>h.blks p (by simp at hp⊢;rcases hp with e|e|e<;>simp[e]),⟨⟨fun e=>h.nd.1.1 e.symm,h.nd.2.1⟩,h.nd.1.2,h.nd.2.2⟩,h.nums⟩
def Sy(v0)(q0:PQ)(n0:Nat)(m1:Int)(K r:Nat)(w)(WQ:PV w v0 q0 n0)(l1: -9223372036854775808<=m1)(u1:m1<=9223372036854775807)(T:Hid (m1%12=(K:Int)))(Q:Hid (K=3*r+0))(hr:r<=3)(hn:2*n0+65<=12800):
  CV 132 #[v0,.int .i64 m1] w fun v w'=>(∃u,v=.tuple #[u,.int .i64 0]/\PV w' u (⟨q0.u*aeV r,q0.v*aeV r⟩) (n0)):=by
 have hS:=aeX w;obtain⟨Xu,Xt,Xq,Zm,Zl,YW,WQ,XX,XY,XW,XZ⟩:=WQ;obtain⟨Z,Y,G,C,U,P,L,V,S,M,D,W,Xm,Xg,Xf,Xe,Xk,Xh,N,Xn,Xj,Xl,Xi,Xo,rfl,WV,WX,WW,XP,XR,XQ⟩:=WQ;replace hS:=hS.aV WV;clear WV;replace hS:=hS.aV WX;clear WX;replace hS:=hS.aV WW;clear WW;replace hS:=hS.aV XP;clear XP;replace hS:=hS.aV XR;clear XR;replace hS:=hS.aV XQ;clear XQ;have ac:=IZ T.o;have e3:(K:Int).tmod 3=0:=by rw[Q.o,abf aa];omega
 have e4:(K:Int).tdiv 3=(r:Int):=by rw[Q.o,abV aa];omega
 have l:=(St.al (St.al hS 44 #[.bool Z,.slice Y G C,.bool U,.slice P L V,.bool S,.slice M D W,.bool Xm,.slice Xg Xf Xe,.bool Xk,.slice Xh N Xn,.bool Xj,.slice Xl Xi Xo] (g:=w.heap.size) ag) 44 #[.bool ζ,.slice δ 0 0,.bool ζ,.slice δ 0 0,.bool ζ,.slice δ 0 0,.bool ζ,.slice δ 0 0,.bool ζ,.slice δ 0 0,.bool ζ,.slice δ 0 0] (g:=(w.heap.size+1)) ag);have WF:=(l.aH 1).cell;go_enter aei,adM;(go_wp2_with fail);clear WF;clear l;refine gA3 hS 44 #[.bool Z,.slice Y G C,.bool U,.slice P L V,.bool S,.slice M D W,.bool Xm,.slice Xg Xf Xe,.bool Xk,.slice Xh N Xn,.bool Xj,.slice Xl Xi Xo] 44 #[.bool ζ,.slice δ 0 0,.bool ζ,.slice δ 0 0,.bool ζ,.slice δ 0 0,.bool ζ,.slice δ 0 0,.bool ζ,.slice δ 0 0,.bool ζ,.slice δ 0 0] 42 #[.bool Z,.slice Y G C,.bool U,.slice P L V,.bool S,.slice M D W,.bool Xm,.slice Xg Xf Xe,.bool Xk,.slice Xh N Xn,.bool Xj,.slice Xl Xi Xo] ?_;clear hS;intro w1 g2 o2 g4 o4 X9 ZL hS;refine(jS X9 q0.u q0.v n0 n0 _ (hS.aH 0) ⟨_,_,_,RG.mk (hS.aF 5) (hS.aF 4) (hS.aF 3),XX,XY⟩ aa ⟨_,_,_,RG.mk (hS.aF 2) (hS.aF 1) (hS.aF 0),XW,XZ⟩ aa).mono ?_;rintro e w2 ⟨rfl,F⟩;replace hS:=hS.mv F;clear F;(go_wp2_with fail);refine gA1 hS 197 #[.int .i64 0] ?_;clear hS;intro w3 g6 o6 hS;have WR:=(hS.aH 3).cell;have XT:=(hS.aH 3).lt;go_region;clear WR XT;have o7:Own w w3.heap.size:=aeT hS.ext ag;have o8:Own w (w3.heap.size+1):=aeT hS.ext ag;replace hS:=((hS.al 42 #[.bool Z,.slice Y G C,.bool U,.slice P L V,.bool S,.slice M D W] (g:=w3.heap.size) rfl).al 42 #[.bool Xm,.slice Xg Xf Xe,.bool Xk,.slice Xh N Xn,.bool Xj,.slice Xl Xi Xo] (g:=w3.heap.size+1) ag).mv ((Ext.refl _).drew);generalize ((w3.alloc (.cells #[.bool Z,.slice Y G C,.bool U,.slice P L V,.bool S,.slice M D W] 42)).alloc (.cells #[.bool Xm,.slice Xg Xf Xe,.bool Xk,.slice Xh N Xn,.bool Xj,.slice Xl Xi Xo] 42)).drew=w4 at hS⊢;generalize w3.heap.size+1=g8 at hS o8⊢;generalize w3.heap.size=g7 at hS o7⊢
 rotate_left 1
 clear WR XT;have o8:Own w w3.heap.size:=aeT hS.ext ag;have o7:Own w (w3.heap.size+1):=aeT hS.ext ag;replace hS:=((hS.al 42 #[.bool Xm,.slice Xg Xf Xe,.bool Xk,.slice Xh N Xn,.bool Xj,.slice Xl Xi Xo] (g:=w3.heap.size) rfl).al 42 #[.bool Z,.slice Y G C,.bool U,.slice P L V,.bool S,.slice M D W] (g:=w3.heap.size+1) ag).mv ((Ext.refl _).drew);replace hS:=St.swap hS;generalize ((w3.alloc (.cells #[.bool Xm,.slice Xg Xf Xe,.bool Xk,.slice Xh N Xn,.bool Xj,.slice Xl Xi Xo] 42)).alloc (.cells #[.bool Z,.slice Y G C,.bool U,.slice P L V,.bool S,.slice M D W] 42)).drew=w4 at hS⊢;generalize w3.heap.size+1=g7 at hS o7⊢;generalize w3.heap.size=g8 at hS o8⊢
 rotate_left 1
 all_goals
  have WY:=(hS.aH 2).cell;(go_wp2_with fail);clear WY;obtain⟨WE,WJ,WG,Yj⟩:=fZ (q0.u*aeV r);have Zo:Sz (n0) WE WJ WG:=(ae1 ⟨_,_,_,XX,XY⟩ r).sz Yj;obtain⟨WH,WL,WI,Yh⟩:=fZ (q0.v*aeV r);have Zn:Sz (n0) WH WL WI:=(ae1 ⟨_,_,_,XW,XZ⟩ r).sz Yh;have Y8:=aK.blk (hS.aH 0);have Y7:=aK.blk (hS.aH 1);have B:=hS.ext;refine tF 11 [(3,.rg (WE) (WJ) (WG)),(7,.rg (WH) (WL) (WI)),(8,.retp (WE) (WJ) (WG) (WH) (WL) (WI) 0)] ?_;refine Qs ?_;refine Eg (fun R I=>lZ (gQ g6 _ q0.u (n0) r ((r:Int)) _ rfl (Blk.ext (hS.aH 2) I.1) ⟨_,_,_,RG.mk (hS.aD 5 I.1) (hS.aD 4 I.1) (hS.aD 3 I.1),XX,XY⟩ aa aa) Yj) ?_;intro XH WN Xx Xz XK WU XA XG XI WZ XD XC XM XL;refine Qs ?_;refine Eg (fun R I=>lZ (gQ g6 _ q0.v (n0) r ((r:Int)) _ rfl (Blk.ext (hS.aH 2) I.1) ⟨_,_,_,RG.mk (hS.aD 2 I.1) (hS.aD 1 I.1) (hS.aD 0 I.1),XW,XZ⟩ aa aa) Yh) ?_;intro Xb WS Xv XJ Xy WM XB Xa XE WT Xw XF XO XN;refine dJ rf rf rf ?_ ?_
  .intro R I;have hW:=I.1;have X3:RI R (iv XH WN Xx Xz) WE:=RG.at1 (I.2 3 ((gv XH WN Xx Xz XK WU XA XG XI WZ XD XC),XM,XL) rf ah);have X4:RI R (iv XK WU XA XG) WJ:=RG.at2 (I.2 3 ((gv XH WN Xx Xz XK WU XA XG XI WZ XD XC),XM,XL) rf ah);have X7:RI R (iv XI WZ XD XC) WG:=RG.at3 (I.2 3 ((gv XH WN Xx Xz XK WU XA XG XI WZ XD XC),XM,XL) rf ah);have X6:RI R (iv Xb WS Xv XJ) WH:=RG.at1 (I.2 7 ((gv Xb WS Xv XJ Xy WM XB Xa XE WT Xw XF),XO,XN) rf ah);have X5:RI R (iv Xy WM XB Xa) WL:=RG.at2 (I.2 7 ((gv Xb WS Xv XJ Xy WM XB Xa XE WT Xw XF),XO,XN) rf ah);have X8:RI R (iv XE WT Xw XF) WI:=RG.at3 (I.2 7 ((gv Xb WS Xv XJ Xy WM XB Xa XE WT Xw XF),XO,XN) rf ah);clear I;go_simp;exact⟨rfl,(xZ g6 _ WE WJ WG _ WH WL WI _ (Blk.ext (hS.aH 2) hW) (RG.mk X3 X4 X7) (RG.mk X6 X5 X8)).mono fun e w' ⟨v,O,hR,J⟩=>⟨v,O,J,hR⟩⟩
  intro v_ Yu YF WO;obtain⟨R,WK⟩:=WO;have H:Fc.holds (.retp (WE) (WJ) (WG) (WH) (WL) (WI) 0) Yu YF v_ R:=WK.get;clear WK;obtain⟨_,rfl,Yt,Yk,Yz,Yp,Yv,Yi,Yy,YB,Ym,Yg,YI,YD,Yr,Yf,YJ,Yo,YE,Ye,Yq,YH,YG,Yl,YA,YC,rfl,-,-,-,-,-,-⟩:=H;clear R;refine Qp ?_;refine Qs ?_;refine bD ?_;intro w5 I;have j:=hS.lt;replace hS:=hS.mv I.ext;replace hS:=hS.aG I 3;replace hS:=hS.aG I 7;replace hS:=hS.aP I 8;clear I j B Y8 Y7;have W9:=(hS.aH 4).cell;have Xd:=(hS.aH 4).frozen;go_wp2;replace hS:=hS.pt 4 0 [.bool Yt,.slice Yk Yz Yp,.bool Yv,.slice Yi Yy YB,.bool Ym,.slice Yg YI YD,.bool Yr,.slice Yf YJ Yo,.bool YE,.slice Ye Yq YH,.bool YG,.slice Yl YA YC] o4;exact rW rfl rfl rfl (hS.aH 4) ⟨_,rfl,⟨_,rfl,⟨_,_,_,_,_,_,RP.mk (hS.aF 5) (hS.aF 4) (hS.aF 3) (hS.aF 2) (hS.aF 1) (hS.aF 0),Yj,Zo,Yh,Zn⟩⟩,hS.ext⟩
def Sg(v0)(q0:PQ)(n0:Nat)(m1:Int)(K r:Nat)(w)(WQ:PV w v0 q0 n0)(l1: -9223372036854775808<=m1)(u1:m1<=9223372036854775807)(T:Hid (m1%12=(K:Int)))(Q:Hid (K=3*r+1))(hr:r<=3)(hn:2*n0+65<=12800):
  CV 132 #[v0,.int .i64 m1] w fun v w'=>(∃u,v=.tuple #[u,.int .i64 0]/\PV w' u (⟨aeU 1 (q0.u*aeV 1) 3 q0.v 2*aeV r,aeU 1 q0.u 1 (q0.v*aeV 1) 2*aeV r⟩) (n0+n0+65)):=by
 have hS:=aeX w;obtain⟨Xu,Xt,Xq,Zm,Zl,YW,WQ,XX,XY,XW,XZ⟩:=WQ;obtain⟨Z,Y,G,C,U,P,L,V,S,M,D,W,Xm,Xg,Xf,Xe,Xk,Xh,N,Xn,Xj,Xl,Xi,Xo,rfl,WV,WX,WW,XP,XR,XQ⟩:=WQ;replace hS:=hS.aV WV;clear WV;replace hS:=hS.aV WX;clear WX;replace hS:=hS.aV WW;clear WW;replace hS:=hS.aV XP;clear XP;replace hS:=hS.aV XR;clear XR;replace hS:=hS.aV XQ;clear XQ;have aw:=IZ T.o;have e3:(K:Int).tmod 3=1:=by rw[Q.o,abf aa];omega
 have e4:(K:Int).tdiv 3=(r:Int):=by rw[Q.o,abV aa];omega
 have l:=(St.al (St.al hS 44 #[.bool Z,.slice Y G C,.bool U,.slice P L V,.bool S,.slice M D W,.bool Xm,.slice Xg Xf Xe,.bool Xk,.slice Xh N Xn,.bool Xj,.slice Xl Xi Xo] (g:=w.heap.size) ag) 44 #[.bool ζ,.slice δ 0 0,.bool ζ,.slice δ 0 0,.bool ζ,.slice δ 0 0,.bool ζ,.slice δ 0 0,.bool ζ,.slice δ 0 0,.bool ζ,.slice δ 0 0] (g:=(w.heap.size+1)) ag);have WF:=(l.aH 1).cell;go_enter aei,adM;(go_wp2_with fail);clear WF;clear l;refine gA3 hS 44 #[.bool Z,.slice Y G C,.bool U,.slice P L V,.bool S,.slice M D W,.bool Xm,.slice Xg Xf Xe,.bool Xk,.slice Xh N Xn,.bool Xj,.slice Xl Xi Xo] 44 #[.bool ζ,.slice δ 0 0,.bool ζ,.slice δ 0 0,.bool ζ,.slice δ 0 0,.bool ζ,.slice δ 0 0,.bool ζ,.slice δ 0 0,.bool ζ,.slice δ 0 0] 42 #[.bool Z,.slice Y G C,.bool U,.slice P L V,.bool S,.slice M D W,.bool Xm,.slice Xg Xf Xe,.bool Xk,.slice Xh N Xn,.bool Xj,.slice Xl Xi Xo] ?_;clear hS;intro w1 g2 o2 g4 o4 X9 ZL hS;refine(jS X9 q0.u q0.v n0 n0 _ (hS.aH 0) ⟨_,_,_,RG.mk (hS.aF 5) (hS.aF 4) (hS.aF 3),XX,XY⟩ aa ⟨_,_,_,RG.mk (hS.aF 2) (hS.aF 1) (hS.aF 0),XW,XZ⟩ aa).mono ?_;rintro e w2 ⟨rfl,F⟩;replace hS:=hS.mv F;clear F;(go_wp2_with fail);refine gA1 hS 197 #[.int .i64 0] ?_;clear hS;intro w3 g6 o6 hS;have WR:=(hS.aH 3).cell;have XT:=(hS.aH 3).lt;go_region;clear WR XT;have o7:Own w w3.heap.size:=aeT hS.ext ag;have o8:Own w (w3.heap.size+1):=aeT hS.ext ag;replace hS:=((hS.al 42 #[.bool Z,.slice Y G C,.bool U,.slice P L V,.bool S,.slice M D W] (g:=w3.heap.size) rfl).al 42 #[.bool Xm,.slice Xg Xf Xe,.bool Xk,.slice Xh N Xn,.bool Xj,.slice Xl Xi Xo] (g:=w3.heap.size+1) ag).mv ((Ext.refl _).drew);generalize ((w3.alloc (.cells #[.bool Z,.slice Y G C,.bool U,.slice P L V,.bool S,.slice M D W] 42)).alloc (.cells #[.bool Xm,.slice Xg Xf Xe,.bool Xk,.slice Xh N Xn,.bool Xj,.slice Xl Xi Xo] 42)).drew=w4 at hS⊢;generalize w3.heap.size+1=g8 at hS o8⊢;generalize w3.heap.size=g7 at hS o7⊢
 rotate_left 1
 clear WR XT;have o8:Own w w3.heap.size:=aeT hS.ext ag;have o7:Own w (w3.heap.size+1):=aeT hS.ext ag;replace hS:=((hS.al 42 #[.bool Xm,.slice Xg Xf Xe,.bool Xk,.slice Xh N Xn,.bool Xj,.slice Xl Xi Xo] (g:=w3.heap.size) rfl).al 42 #[.bool Z,.slice Y G C,.bool U,.slice P L V,.bool S,.slice M D W] (g:=w3.heap.size+1) ag).mv ((Ext.refl _).drew);replace hS:=St.swap hS;generalize ((w3.alloc (.cells #[.bool Xm,.slice Xg Xf Xe,.bool Xk,.slice Xh N Xn,.bool Xj,.slice Xl Xi Xo] 42)).alloc (.cells #[.bool Z,.slice Y G C,.bool U,.slice P L V,.bool S,.slice M D W] 42)).drew=w4 at hS⊢;generalize w3.heap.size+1=g7 at hS o7⊢;generalize w3.heap.size=g8 at hS o8⊢
 rotate_left 1
 all_goals
  (go_wp2_with fail);obtain⟨ZM,ZN,ZO,ZH⟩:=fZ (q0.u*aeV 1);have ZZ:Sz (n0) ZM ZN ZO:=(ae1 ⟨_,_,_,XX,XY⟩ 1).sz ZH;obtain⟨ZQ,ZT,ZW,ZI⟩:=fZ (aeU (1) (q0.u*aeV 1) (3) q0.v (2));have ZX:Sz (n0+n0+65) ZQ ZT ZW:=(ae3 (m:=2) ⟨_,_,_,ZH,ZZ⟩ ⟨_,_,_,XW,XZ⟩ aa aa aa aa aa aa aa).sz ZI;obtain⟨ZR,ZV,ZP,ZJ⟩:=fZ (q0.v*aeV 1);have ZY:Sz (n0) ZR ZV ZP:=(ae1 ⟨_,_,_,XW,XZ⟩ 1).sz ZJ;obtain⟨YV,YX,YU,Yn⟩:=fZ (aeU (1) q0.u (1) (q0.v*aeV 1) (2));have av:Sz (n0+n0+65) YV YX YU:=(ae3 (m:=2) ⟨_,_,_,XX,XY⟩ ⟨_,_,_,ZJ,ZY⟩ aa aa aa aa aa aa aa).sz Yn;have Y2:=aK.blk (hS.aH 5);have B:=hS.ext;refine tF 12 [(2,.rg (ZM) (ZN) (ZO)),(5,.rg (ZQ) (ZT) (ZW)),(10,.rg (ZR) (ZV) (ZP)),(11,.rg (YV) (YX) (YU))] ?_;refine Qs ?_;refine Eg (fun R I=>lZ (gQ g6 _ q0.u (n0) 1 (1) _ rfl (Blk.ext (hS.aH 2) I.1) ⟨_,_,_,RG.mk (hS.aD 5 I.1) (hS.aD 4 I.1) (hS.aD 3 I.1),XX,XY⟩ aa aa) ZH) ?_;intro Zd YS Zp Zh Zq YN Zy Zg ZC YT ZA YZ Yc Ya;refine Qs ?_;refine Eg (fun R I=>lZ (jo g6 _ _ (q0.u*aeV 1) q0.v (1) (3) (2) _ _ _ (Blk.ext (hS.aH 2) I.1) ⟨_,_,_,RG.mk (RG.at1 (I.f 2 ((gv Zd YS Zp Zh Zq YN Zy Zg ZC YT ZA YZ),Yc,Ya))) (RG.at2 (I.f 2 ((gv Zd YS Zp Zh Zq YN Zy Zg ZC YT ZA YZ),Yc,Ya))) (RG.at3 (I.f 2 ((gv Zd YS Zp Zh Zq YN Zy Zg ZC YT ZA YZ),Yc,Ya))),ZH,ZZ⟩ ⟨_,_,_,RG.mk (hS.aD 2 I.1) (hS.aD 1 I.1) (hS.aD 0 I.1),XW,XZ⟩ aa aa aa aa aa aa aa aa) ZI) ?_;intro Zv Yx Ze Zf Zz YO Za ZG ZB YK Zx Zj ZK ZU;refine Qs ?_;refine Eg (fun R I=>lZ (gQ g6 _ q0.v (n0) 1 (1) _ rfl (Blk.ext (hS.aH 2) I.1) ⟨_,_,_,RG.mk (hS.aD 2 I.1) (hS.aD 1 I.1) (hS.aD 0 I.1),XW,XZ⟩ aa aa) ZJ) ?_;intro Zi YM ZE Zt ZF YR Zk Zc YY YL Zr Zw Yb Yd;refine Eg (fun R I=>lZ (jo g6 _ _ q0.u (q0.v*aeV 1) (1) (1) (2) _ _ _ (Blk.ext (hS.aH 2) I.1) ⟨_,_,_,RG.mk (hS.aD 5 I.1) (hS.aD 4 I.1) (hS.aD 3 I.1),XX,XY⟩ ⟨_,_,_,RG.mk (RG.at1 (I.f 10 ((gv Zi YM ZE Zt ZF YR Zk Zc YY YL Zr Zw),Yb,Yd))) (RG.at2 (I.f 10 ((gv Zi YM ZE Zt ZF YR Zk Zc YY YL Zr Zw),Yb,Yd))) (RG.at3 (I.f 10 ((gv Zi YM ZE Zt ZF YR Zk Zc YY YL Zr Zw),Yb,Yd))),ZJ,ZY⟩ aa aa aa aa aa aa aa aa) Yn) ?_;intro ac Yw aq ar ap YP ai ao ad YQ am af Z7 Z8;refine bD ?_;intro w5 I;have j:=hS.lt;replace hS:=hS.mv I.ext;replace hS:=hS.aG I 2;replace hS:=hS.aG I 5;replace hS:=hS.aG I 10;replace hS:=hS.aG I 11;clear I j B Y2;have WY:=(hS.aH 1).cell;have W9:=(hS.aH 1).frozen;have WP:=hS.pt 1 0 [.bool Zv,.slice Yx Ze Zf,.bool Zz,.slice YO Za ZG,.bool ZB,.slice YK Zx Zj] o7;have Xd:=(WP.aH 0).cell;have Xp:=(WP.aH 0).frozen;have Xc:=(hS.pt 1 0 [.bool Zv,.slice Yx Ze Zf,.bool Zz,.slice YO Za ZG,.bool ZB,.slice YK Zx Zj] o7).pt 0 0 [.bool ac,.slice Yw aq ar,.bool ap,.slice YP ai ao,.bool ad,.slice YQ am af] o8;have Xr:=(Xc.aH 2).cell;(go_wp2_with fail);clear WY W9 Xd Xp Xr;clear WP Xc;replace hS:=(hS.pt 1 0 [.bool Zv,.slice Yx Ze Zf,.bool Zz,.slice YO Za ZG,.bool ZB,.slice YK Zx Zj] o7).pt 0 0 [.bool ac,.slice Yw aq ar,.bool ap,.slice YP ai ao,.bool ad,.slice YQ am af] o8;refine gW hS ?_;clear hS;intro w6 hS;obtain⟨WE,WJ,WG,Yj⟩:=fZ ((aeU (1) (q0.u*aeV 1) (3) q0.v (2))*aeV r);have Zo:Sz (n0+n0+65) WE WJ WG:=(ae1 ⟨_,_,_,ZI,ZX⟩ r).sz Yj;obtain⟨WH,WL,WI,Yh⟩:=fZ ((aeU (1) q0.u (1) (q0.v*aeV 1) (2))*aeV r);have Zn:Sz (n0+n0+65) WH WL WI:=(ae1 ⟨_,_,_,Yn,av⟩ r).sz Yh;have Y8:=aK.blk (hS.aH 0);have Y7:=aK.blk (hS.aH 1);have B:=hS.ext;refine tF 11 [(3,.rg (WE) (WJ) (WG)),(7,.rg (WH) (WL) (WI)),(8,.retp (WE) (WJ) (WG) (WH) (WL) (WI) 0)] ?_;refine Qs ?_;refine Eg (fun R I=>lZ (gQ g6 _ (aeU (1) (q0.u*aeV 1) (3) q0.v (2)) (n0+n0+65) r ((r:Int)) _ rfl (Blk.ext (hS.aH 2) I.1) ⟨_,_,_,RG.mk (hS.aD 8 I.1) (hS.aD 7 I.1) (hS.aD 6 I.1),ZI,ZX⟩ aa aa) Yj) ?_;intro XH WN Xx Xz XK WU XA XG XI WZ XD XC XM XL;refine Qs ?_;refine Eg (fun R I=>lZ (gQ g6 _ (aeU (1) q0.u (1) (q0.v*aeV 1) (2)) (n0+n0+65) r ((r:Int)) _ rfl (Blk.ext (hS.aH 2) I.1) ⟨_,_,_,RG.mk (hS.aD 2 I.1) (hS.aD 1 I.1) (hS.aD 0 I.1),Yn,av⟩ aa aa) Yh) ?_;exact Aaj
def Ro(v0)(q0:PQ)(n0:Nat)(m1:Int)(K r:Nat)(w)(WQ:PV w v0 q0 n0)(l1: -9223372036854775808<=m1)(u1:m1<=9223372036854775807)(T:Hid (m1%12=(K:Int)))(Q:Hid (K=3*r+2))(hr:r<=3)(hn:2*n0+65<=12800):
  CV 132 #[v0,.int .i64 m1] w fun v w'=>(∃u,v=.tuple #[u,.int .i64 0]/\PV w' u (⟨aeU 1 q0.u 3 (q0.v*aeV 1) 2*aeV r,aeU 1 (q0.u*aeV 1) 1 q0.v 2*aeV r⟩) (n0+n0+65)):=by
 have hS:=aeX w;obtain⟨Xu,Xt,Xq,Zm,Zl,YW,WQ,XX,XY,XW,XZ⟩:=WQ;obtain⟨Z,Y,G,C,U,P,L,V,S,M,D,W,Xm,Xg,Xf,Xe,Xk,Xh,N,Xn,Xj,Xl,Xi,Xo,rfl,WV,WX,WW,XP,XR,XQ⟩:=WQ;replace hS:=hS.aV WV;clear WV;replace hS:=hS.aV WX;clear WX;replace hS:=hS.aV WW;clear WW;replace hS:=hS.aV XP;clear XP;replace hS:=hS.aV XR;clear XR;replace hS:=hS.aV XQ;clear XQ;have av:=IZ T.o;have e3:(K:Int).tmod 3=2:=by rw[Q.o,abf aa];omega
 have e4:(K:Int).tdiv 3=(r:Int):=by rw[Q.o,abV aa];omega
 have l:=(St.al (St.al hS 44 #[.bool Z,.slice Y G C,.bool U,.slice P L V,.bool S,.slice M D W,.bool Xm,.slice Xg Xf Xe,.bool Xk,.slice Xh N Xn,.bool Xj,.slice Xl Xi Xo] (g:=w.heap.size) ag) 44 #[.bool ζ,.slice δ 0 0,.bool ζ,.slice δ 0 0,.bool ζ,.slice δ 0 0,.bool ζ,.slice δ 0 0,.bool ζ,.slice δ 0 0,.bool ζ,.slice δ 0 0] (g:=(w.heap.size+1)) ag);have WF:=(l.aH 1).cell;go_enter aei,adM;(go_wp2_with fail);clear WF;clear l;refine gA3 hS 44 #[.bool Z,.slice Y G C,.bool U,.slice P L V,.bool S,.slice M D W,.bool Xm,.slice Xg Xf Xe,.bool Xk,.slice Xh N Xn,.bool Xj,.slice Xl Xi Xo] 44 #[.bool ζ,.slice δ 0 0,.bool ζ,.slice δ 0 0,.bool ζ,.slice δ 0 0,.bool ζ,.slice δ 0 0,.bool ζ,.slice δ 0 0,.bool ζ,.slice δ 0 0] 42 #[.bool Z,.slice Y G C,.bool U,.slice P L V,.bool S,.slice M D W,.bool Xm,.slice Xg Xf Xe,.bool Xk,.slice Xh N Xn,.bool Xj,.slice Xl Xi Xo] ?_;clear hS;intro w1 g2 o2 g4 o4 X9 ZL hS;refine(jS X9 q0.u q0.v n0 n0 _ (hS.aH 0) ⟨_,_,_,RG.mk (hS.aF 5) (hS.aF 4) (hS.aF 3),XX,XY⟩ aa ⟨_,_,_,RG.mk (hS.aF 2) (hS.aF 1) (hS.aF 0),XW,XZ⟩ aa).mono ?_;rintro e w2 ⟨rfl,F⟩;replace hS:=hS.mv F;clear F;(go_wp2_with fail);refine gA1 hS 197 #[.int .i64 0] ?_;clear hS;intro w3 g6 o6 hS;have WR:=(hS.aH 3).cell;have XT:=(hS.aH 3).lt;go_region;clear WR XT;have o7:Own w w3.heap.size:=aeT hS.ext ag;have o8:Own w (w3.heap.size+1):=aeT hS.ext ag;replace hS:=((hS.al 42 #[.bool Z,.slice Y G C,.bool U,.slice P L V,.bool S,.slice M D W] (g:=w3.heap.size) rfl).al 42 #[.bool Xm,.slice Xg Xf Xe,.bool Xk,.slice Xh N Xn,.bool Xj,.slice Xl Xi Xo] (g:=w3.heap.size+1) ag).mv ((Ext.refl _).drew);generalize ((w3.alloc (.cells #[.bool Z,.slice Y G C,.bool U,.slice P L V,.bool S,.slice M D W] 42)).alloc (.cells #[.bool Xm,.slice Xg Xf Xe,.bool Xk,.slice Xh N Xn,.bool Xj,.slice Xl Xi Xo] 42)).drew=w4 at hS⊢;generalize w3.heap.size+1=g8 at hS o8⊢;generalize w3.heap.size=g7 at hS o7⊢
 rotate_left 1
 clear WR XT;have o8:Own w w3.heap.size:=aeT hS.ext ag;have o7:Own w (w3.heap.size+1):=aeT hS.ext ag;replace hS:=((hS.al 42 #[.bool Xm,.slice Xg Xf Xe,.bool Xk,.slice Xh N Xn,.bool Xj,.slice Xl Xi Xo] (g:=w3.heap.size) rfl).al 42 #[.bool Z,.slice Y G C,.bool U,.slice P L V,.bool S,.slice M D W] (g:=w3.heap.size+1) ag).mv ((Ext.refl _).drew);replace hS:=St.swap hS;generalize ((w3.alloc (.cells #[.bool Xm,.slice Xg Xf Xe,.bool Xk,.slice Xh N Xn,.bool Xj,.slice Xl Xi Xo] 42)).alloc (.cells #[.bool Z,.slice Y G C,.bool U,.slice P L V,.bool S,.slice M D W] 42)).drew=w4 at hS⊢;generalize w3.heap.size+1=g7 at hS o7⊢;generalize w3.heap.size=g8 at hS o8⊢
 rotate_left 1
 all_goals
  (go_wp2_with fail);obtain⟨ZQ,ZP,ZV,ZN⟩:=fZ (q0.v*aeV 1);have ar:Sz (n0) ZQ ZP ZV:=(ae1 ⟨_,_,_,XW,XZ⟩ 1).sz ZN;obtain⟨ZU,ZY,ad,ZO⟩:=fZ (aeU (1) q0.u (3) (q0.v*aeV 1) (2));have ao:Sz (n0+n0+65) ZU ZY ad:=(ae3 (m:=2) ⟨_,_,_,XX,XY⟩ ⟨_,_,_,ZN,ar⟩ aa aa aa aa aa aa aa).sz ZO;obtain⟨Zi,Zd,Zh,Yb⟩:=fZ (q0.u*aeV 1);have ap:Sz (n0) Zi Zd Zh:=(ae1 ⟨_,_,_,XX,XY⟩ 1).sz Yb;obtain⟨Z8,ZW,am,ZM⟩:=fZ (aeU (1) (q0.u*aeV 1) (1) q0.v (2));have aq:Sz (n0+n0+65) Z8 ZW am:=(ae3 (m:=2) ⟨_,_,_,Yb,ap⟩ ⟨_,_,_,XW,XZ⟩ aa aa aa aa aa aa aa).sz ZM;have Y2:=aK.blk (hS.aH 5);have B:=hS.ext;refine tF 12 [(4,.rg (ZQ) (ZP) (ZV)),(5,.rg (ZU) (ZY) (ad)),(8,.rg (Zi) (Zd) (Zh)),(11,.rg (Z8) (ZW) (am))] ?_;refine Qs ?_;refine Eg (fun R I=>lZ (gQ g6 _ q0.v (n0) 1 (1) _ rfl (Blk.ext (hS.aH 2) I.1) ⟨_,_,_,RG.mk (hS.aD 2 I.1) (hS.aD 1 I.1) (hS.aD 0 I.1),XW,XZ⟩ aa aa) ZN) ?_;intro Zw YM ZA Zy ZB YP Zx Zz Zq YO Zp Zv Yw Yx;refine Eg (fun R I=>lZ (jo g6 _ _ q0.u (q0.v*aeV 1) (1) (3) (2) _ _ _ (Blk.ext (hS.aH 2) I.1) ⟨_,_,_,RG.mk (hS.aD 5 I.1) (hS.aD 4 I.1) (hS.aD 3 I.1),XX,XY⟩ ⟨_,_,_,RG.mk (RG.at1 (I.f 4 ((gv Zw YM ZA Zy ZB YP Zx Zz Zq YO Zp Zv),Yw,Yx))) (RG.at2 (I.f 4 ((gv Zw YM ZA Zy ZB YP Zx Zz Zq YO Zp Zv),Yw,Yx))) (RG.at3 (I.f 4 ((gv Zw YM ZA Zy ZB YP Zx Zz Zq YO Zp Zv),Yw,Yx))),ZN,ar⟩ aa aa aa aa aa aa aa aa) ZO) ?_;intro YX YN ZG ZF ZI YL Zr ZH YS YQ ZJ ZE YY YZ;refine Qs ?_;refine Eg (fun R I=>lZ (gQ g6 _ q0.u (n0) 1 (1) _ rfl (Blk.ext (hS.aH 2) I.1) ⟨_,_,_,RG.mk (hS.aD 5 I.1) (hS.aD 4 I.1) (hS.aD 3 I.1),XX,XY⟩ aa aa) Yb) ?_;intro Zg Yc Zk YR Zf Yd Ze Zc Zj Ya Za YT YK Yn;refine Qs ?_;refine Eg (fun R I=>lZ (jo g6 _ _ (q0.u*aeV 1) q0.v (1) (1) (2) _ _ _ (Blk.ext (hS.aH 2) I.1) ⟨_,_,_,RG.mk (RG.at1 (I.f 8 ((gv Zg Yc Zk YR Zf Yd Ze Zc Zj Ya Za YT),YK,Yn))) (RG.at2 (I.f 8 ((gv Zg Yc Zk YR Zf Yd Ze Zc Zj Ya Za YT),YK,Yn))) (RG.at3 (I.f 8 ((gv Zg Yc Zk YR Zf Yd Ze Zc Zj Ya Za YT),YK,Yn))),Yb,ap⟩ ⟨_,_,_,RG.mk (hS.aD 2 I.1) (hS.aD 1 I.1) (hS.aD 0 I.1),XW,XZ⟩ aa aa aa aa aa aa aa aa) ZM) ?_;intro af Zt ZT Z9 ZZ ZC ZX ac ai ZK Z7 ZR YU YV;refine bD ?_;intro w5 I;have j:=hS.lt;replace hS:=hS.mv I.ext;replace hS:=hS.aG I 4;replace hS:=hS.aG I 5;replace hS:=hS.aG I 8;replace hS:=hS.aG I 11;clear I j B Y2;have WY:=(hS.aH 1).cell;have W9:=(hS.aH 1).frozen;have WP:=hS.pt 1 0 [.bool YX,.slice YN ZG ZF,.bool ZI,.slice YL Zr ZH,.bool YS,.slice YQ ZJ ZE] o7;have Xd:=(WP.aH 0).cell;have Xp:=(WP.aH 0).frozen;have Xc:=(hS.pt 1 0 [.bool YX,.slice YN ZG ZF,.bool ZI,.slice YL Zr ZH,.bool YS,.slice YQ ZJ ZE] o7).pt 0 0 [.bool af,.slice Zt ZT Z9,.bool ZZ,.slice ZC ZX ac,.bool ai,.slice ZK Z7 ZR] o8;have Xr:=(Xc.aH 2).cell;(go_wp2_with fail);clear WY W9 Xd Xp Xr;clear WP Xc;replace hS:=(hS.pt 1 0 [.bool YX,.slice YN ZG ZF,.bool ZI,.slice YL Zr ZH,.bool YS,.slice YQ ZJ ZE] o7).pt 0 0 [.bool af,.slice Zt ZT Z9,.bool ZZ,.slice ZC ZX ac,.bool ai,.slice ZK Z7 ZR] o8;refine gW hS ?_;clear hS;intro w6 hS;obtain⟨WE,WJ,WG,Yj⟩:=fZ ((aeU (1) q0.u (3) (q0.v*aeV 1) (2))*aeV r);have Zo:Sz (n0+n0+65) WE WJ WG:=(ae1 ⟨_,_,_,ZO,ao⟩ r).sz Yj;obtain⟨WH,WL,WI,Yh⟩:=fZ ((aeU (1) (q0.u*aeV 1) (1) q0.v (2))*aeV r);have Zn:Sz (n0+n0+65) WH WL WI:=(ae1 ⟨_,_,_,ZM,aq⟩ r).sz Yh;have Y8:=aK.blk (hS.aH 0);have Y7:=aK.blk (hS.aH 1);have B:=hS.ext;refine tF 11 [(3,.rg (WE) (WJ) (WG)),(7,.rg (WH) (WL) (WI)),(8,.retp (WE) (WJ) (WG) (WH) (WL) (WI) 0)] ?_;refine Qs ?_;refine Eg (fun R I=>lZ (gQ g6 _ (aeU (1) q0.u (3) (q0.v*aeV 1) (2)) (n0+n0+65) r ((r:Int)) _ rfl (Blk.ext (hS.aH 2) I.1) ⟨_,_,_,RG.mk (hS.aD 8 I.1) (hS.aD 7 I.1) (hS.aD 6 I.1),ZO,ao⟩ aa aa) Yj) ?_;intro XH WN Xx Xz XK WU XA XG XI WZ XD XC XM XL;refine Qs ?_;refine Eg (fun R I=>lZ (gQ g6 _ (aeU (1) (q0.u*aeV 1) (1) q0.v (2)) (n0+n0+65) r ((r:Int)) _ rfl (Blk.ext (hS.aH 2) I.1) ⟨_,_,_,RG.mk (hS.aD 2 I.1) (hS.aD 1 I.1) (hS.aD 0 I.1),ZM,aq⟩ aa aa) Yh) ?_;exact Aaj
def RQ:∀r:Nat,PQ.zp (3*r)=⟨aeV r,GQ.i 0 0⟩
 |0=>rfl
 |r+1=>by
  rw[Δ,PQ.Js,RQ r,PQ.zp3];ext<;>simp only[PQ.yK,PQ.yC,PQ.mk4,aeV,GQ.aZ,GQ.aY,GQ.bR,GQ.bN,GQ.dE,GQ.dD]<;>grind
def VN(p r):(⟨p.u*aeV r,p.v*aeV r⟩:PQ)=p*PQ.zp (3*r+0):=by
 rw[Bn,RQ];ext<;>simp only[PQ.yK,PQ.yC,GQ.aZ,GQ.aY,GQ.bR,GQ.bN,GQ.dE,GQ.dD]<;>grind
def VO(p r):(⟨aeU 1 (p.u*aeV 1) 3 p.v 2*aeV r,aeU 1 p.u 1 (p.v*aeV 1) 2*aeV r⟩:PQ)=p*PQ.zp (3*r+1):=by
 rw[PQ.Js,RQ,PQ.zp1];ext<;>simp only[aeU,aeV,PQ.mk4,PQ.yK,PQ.yC,GQ.aZ,GQ.aY,GQ.bR,GQ.bN,GQ.dE,GQ.dD]<;>grind
def VX(p r):(⟨aeU 1 p.u 3 (p.v*aeV 1) 2*aeV r,aeU 1 (p.u*aeV 1) 1 p.v 2*aeV r⟩:PQ)=p*PQ.zp (3*r+2):=by
 rw[PQ.Js,RQ,PQ.zp2];ext<;>simp only[aeU,aeV,PQ.mk4,PQ.yK,PQ.yC,GQ.aZ,GQ.aY,GQ.bR,GQ.bN,GQ.dE,GQ.dD]<;>grind
def PV.mono{w v p m n}(h:PV w v p m)(N:m<=n):PV w v p n:=by
 obtain⟨a,b,d,x,y,z,B,j,D,l,C⟩:=h;exact⟨a,b,d,x,y,z,B,j,D.mono N,l,C.mono N⟩
def QY(v0 q0)(n0:Nat)(m1:Int)(K:Nat)(w)(L:PV w v0 q0 n0)(l1: -9223372036854775808<=m1)(u1:m1<=9223372036854775807)(T:m1%12=(K:Int))(hn:2*n0+65<=12800):
  CV 132 #[v0,.int .i64 m1] w fun v w'=>(∃u,v=.tuple #[u,.int .i64 0]/\PV w' u (q0*PQ.zp K) (n0+n0+65)):=by
 have I:K<12:=aa;obtain⟨r,B⟩:∃r,r=K/3:=⟨_,rfl⟩;have l:K%3=0\/K%3=1\/K%3=2:=aa;rcases l with h|h|h
 .have e:K=3*r+0:=aa;have:=Sy v0 q0 n0 m1 K r w L l1 u1 (aJ T) (aJ e) aa hn;rw[VN,<-e] at this;exact this.mono fun e w' ⟨v,O,⟨u,j,hp⟩,J⟩=>⟨v,O,⟨u,j,hp.mono aa⟩,J⟩
 .have e:K=3*r+1:=aa;have:=Sg v0 q0 n0 m1 K r w L l1 u1 (aJ T) (aJ e) aa hn;rw[VO,<-e] at this;exact this
 .have e:K=3*r+2:=aa;have:=Ro v0 q0 n0 m1 K r w L l1 u1 (aJ T) (aJ e) aa hn;rw[VX,<-e] at this;exact this
def VJ(m0 m1 m2 w)(l0: -9223372036854775808<=m0)(u0:m0<=9223372036854775807)(l1: -9223372036854775808<=m1)(u1:m1<=9223372036854775807)(l2: -9223372036854775808<=m2)(u2:m2<=9223372036854775807)(H0:(m2==0)=ζ)(l:Hid ((m2)≠0))(S T M)(XM:Hid ((S,T,M)=nf (m0) (m1) (m2)))(J:S.natAbs<lim)(G:T.natAbs<lim)(C:M.natAbs<lim):
  CV 92 #[.int .i64 m0,.int .i64 m1,.int .i64 m2] w fun v w'=>(∃u,v=.tuple #[u,.int .i64 0]/\RG w' u S T M):=by
 have hS:=aeX w;go_enter func92,ntmps92;(go_wp2_with fail);refine gA2 hS 42 #[.bool ζ,.slice δ 0 0,.bool ζ,.slice δ 0 0,.bool ζ,.slice δ 0 0] 197 #[.int .i64 0] ?_;clear hS;intro w1 g6 o6 g8 o8 hS;refine(Bh (m0) _ l0 u0).mono ?_;rintro e w2 ⟨v_,rfl,H,F⟩;replace hS:=hS.mv F;clear F;obtain⟨WE,O,WW,c13,rfl,D⟩:=RI.opn H;clear H;replace hS:=hS.aV D;clear D;(go_wp2_with fail);refine(Bh (m1) _ l1 u1).mono ?_;rintro e w3 ⟨v_,rfl,H,F⟩;replace hS:=hS.mv F;clear F;obtain⟨WL,WJ,WK,WM,rfl,P⟩:=RI.opn H;clear H;replace hS:=hS.aV P;clear P;(go_wp2_with fail);refine(Bh (m2) _ l2 u2).mono ?_;rintro e w4 ⟨v_,rfl,H,F⟩;replace hS:=hS.mv F;clear F;obtain⟨WS,Q,WH,WO,rfl,L⟩:=RI.opn H;clear H;replace hS:=hS.aV L;clear L;(go_wp2_with fail);refine(pG g8 _ _ _ (m0) (m1) (m2) S T M _ (hS.aH 0) (hS.aF 2) (hS.aF 1) (hS.aF 0) (iP l0 u0) (iP l1 u1) (iP l2 u2) l.o XM.o).mono ?_;rintro e w5 ⟨v_,rfl,H,F⟩;replace hS:=hS.mv F;clear F;obtain⟨XE,Xz,XJ,XG,XD,XB,XC,XK,XH,XA,XF,XI,rfl,K,B,j⟩:=H;replace hS:=hS.aV K;clear K;replace hS:=hS.aV B;clear B;replace hS:=hS.aV j;clear j;(go_wp2_with fail);refine(oF g8 _ S T M _ (hS.aH 0) (RG.mk (hS.aF 2) (hS.aF 1) (hS.aF 0))).mono ?_;rintro e w6 ⟨v_,rfl,H,F⟩;replace hS:=hS.mv F;clear F;obtain⟨_,rfl,Xm,V,Xn,Xw,Xx,W,Z,Y,Xo,U,Xl,Xv,rfl,I,N,R⟩:=H;replace hS:=hS.aV I;clear I;replace hS:=hS.aV N;clear N;replace hS:=hS.aV R;clear R;have WF:=(hS.aH 1).cell;have WR:=(hS.aH 1).frozen;go_wp2;replace hS:=hS.pt 1 0 [.bool Xm,.slice V Xn Xw,.bool Xx,.slice W Z Y,.bool Xo,.slice U Xl Xv] o6;exact mF rfl rfl rfl (hS.aH 1) ⟨_,rfl,⟨_,rfl,RG.mk (hS.aF 2) (hS.aF 1) (hS.aF 0)⟩,hS.ext⟩
def NE(x y):aeU 1 x 1 y 1=x+y:=by
 ext<;>simp only[aeU,GQ.bR,GQ.bN]<;>grind
def NU(x y):aeU 1 x (-1) y 1=x-y:=by
 ext<;>simp only[aeU,GQ.dO,GQ.dQ]<;>grind
def TP(re im den w)(l0: -9223372036854775808<=re)(u0:re<=9223372036854775807)(l1: -9223372036854775808<=im)(u1:im<=9223372036854775807)(l2: -9223372036854775808<=den)(u2:den<=9223372036854775807)(hd:den≠0):
  CV 92 #[.int .i64 re,.int .i64 im,.int .i64 den] w fun v w'=>(∃u,v=.tuple #[u,.int .i64 0]/\GV w' u ⟨(re:Rat)/(den:Rat),(im:Rat)/(den:Rat)⟩ 64):=by
 obtain⟨a,b,d,E⟩:=Ir re im den;have I:=QT (a:=re) (b:=im) (d:=den) hd;rw[<-E] at I;have sz:=jr (n:=64) hd E (Co l0 u0) (Co l1 u1) (Co l2 u2);obtain⟨s1,s2,s3⟩:=sz.qA aa;exact(VJ re im den w l0 u0 l1 u1 l2 u2 (by simpa using hd) (aJ hd) a b d (aJ E) s1 s2 s3).mono fun e w' ⟨v,O,⟨u,j,l⟩,J⟩=>⟨v,O,⟨u,j,a,b,d,l,I,sz⟩,J⟩
def nX{D B}(h:D.natAbs<=B):Wh (GQ.i D 0) B:=⟨D,0,rfl,by simpa using h⟩
def wL{x N M F B2 n}(Q:Wh N F)(H:Wh M B2)(I:M≠GQ.i 0 0)(J:x*M=N)(T:F*B2<2^n)(R:B2*B2<2^n):Bd x n:=by
 obtain⟨a,b,rfl,D⟩:=Q;obtain⟨c,d,rfl,C⟩:=H;have G:c*c+d*d≠0:=by
  intro e;apply I;have U:0<=c*c:=oJ c;have S:0<=d*d:=oJ d;have P:c*c=0:=aa;have L:d*d=0:=aa;rw[(acs.1 P).elim id id,(acs.1 L).elim id id]
 have j:((c:Rat)*c+d*d)≠0:=by
  have:=gm G;simpa only[aa9,aau] using this
 have r1:=congrArg GQ.re J;have r2:=congrArg GQ.im J;simp only[GQ.aZ,GQ.aY,GQ.dE,GQ.dD] at r1 r2;have B:(a.natAbs+b.natAbs)*(c.natAbs+d.natAbs)<=F*B2:=Z6 D C;have l:(c.natAbs+d.natAbs)*(c.natAbs+d.natAbs)<=B2*B2:=Z6 C C;have O:(a.natAbs+b.natAbs)*(c.natAbs+d.natAbs)=a.natAbs*c.natAbs+b.natAbs*d.natAbs+(a.natAbs*d.natAbs+b.natAbs*c.natAbs):=by
  exact Aco
 have K:(c.natAbs+d.natAbs)*(c.natAbs+d.natAbs)=c.natAbs*c.natAbs+d.natAbs*d.natAbs+(c.natAbs*d.natAbs+d.natAbs*c.natAbs):=by
  exact Aco
 refine aga (a:=a*c+b*d) (b:=b*c-a*d) (d:=c*c+d*d) G ?_ ?_ ⟨?_,?_,?_⟩
 .simp only[aa9,aau];grind
 .simp only[aa9,abY,aau];grind
 .have:=acg (a*c) (b*d);exact Abt
 .have:=abH (b*c) (a*d);exact Abt
 .have:=acg (c*c) (d*d);exact Abt
def room (b k:Nat):Nat:=fct (k+1)*(2^(b*(k+1)+1))^(k+1)*(2^(b*(k+1))*(fct k*(2^(b*(k+1)+1))^k))
instance:DecidableEq GQ:=fun x y=>decidable_of_iff (x.re=y.re/\x.im=y.im) ⟨fun h=>GQ.ext h.1 h.2,fun h=>by rw[h];exact⟨rfl,rfl⟩⟩
theorem ae5{x y}(h:y≠GQ.i 0 0):x/y*y=x:=by
 have j:=GQ.BR h;unfold GQ.nrm at j;ext<;>simp only[GQ.aZ,GQ.aY,GQ.Az,GQ.vo,GQ.nrm]<;>grind
def afp(y):GQ.i 0 0/y=GQ.i 0 0:=by
 ext<;>simp only[GQ.Az,GQ.vo,GQ.dE,GQ.dD]<;>grind
def fp (X:Nat->Nat->GQ) (c:Nat):Nat->Nat->Option Nat
 |0,_=>δ
 |n+1,k=>if X k c=GQ.i 0 0 then fp X c n (k+1) else γ k
theorem zo{X c p}:∀{n k:Nat},k<=p->p<k+n->(∀i,k<=i->i<p->X i c=GQ.i 0 0)->X p c≠GQ.i 0 0->fp X c n k=γ p
 |0,k,h1,h2,_,_=>aa
 |n+1,k,h1,h2,h,h0=>by
  unfold fp;by_cases e:k=p
  .subst e;rw[θ h0]
  .rw[ι (h k (κ _) aa)];exact zo aa aa (fun i hi=>h i aa) h0
theorem zy{X c}:∀{n k:Nat},(∀i,k<=i->i<k+n->X i c=GQ.i 0 0)->fp X c n k=δ
 |0,_,_=>rfl
 |n+1,k,h=>by
  unfold fp;rw[ι (h k (κ _) aa)];exact zy (fun i l j=>h i aa aa)
theorem pK{X c}:∀{n k:Nat},fp X c n k=δ->∀i,k<=i->i<k+n->X i c=GQ.i 0 0
 |0,k,_,i,h1,h2=>aa
 |n+1,k,h,i,h1,h2=>by
  unfold fp at h;by_cases e:X k c=GQ.i 0 0
  .rw[ι e] at h;by_cases j:i=k
   .subst j;exact e
   .exact pK h i aa aa
  .rw[θ e] at h;cases h
theorem iD{X c p}:∀{n k:Nat},fp X c n k=γ p->k<=p/\p<k+n/\X p c≠GQ.i 0 0/\∀i,k<=i->i<p->X i c=GQ.i 0 0
 |0,k,h=>by cases h
 |n+1,k,h=>by
  unfold fp at h;by_cases e:X k c=GQ.i 0 0
  .rw[ι e] at h;obtain⟨B,j,D,l⟩:=iD h;refine⟨aa,aa,D,fun i hi hp=> ?_⟩;by_cases C:i=k
   .subst C;exact e
   .exact l i aa hp
  .rw[θ e] at h;cases h;exact⟨κ _,aa,e,fun i B j=>aa⟩
def swp (k r i:Nat):Nat:=if i=k then r else if i=r then k else i
theorem OD(k i):swp k k i=i:=by unfold swp;split<;>omega
theorem nU(k r):swp k r r=k:=by unfold swp;split<;>simp_all
theorem Vt(k r):swp k r k=r:=by unfold swp;simp
theorem vJ{k r i}(l:i≠k)(j:i≠r):swp k r i=i:=by unfold swp;rw[θ l,θ j]
theorem lM{k r i m}(j:k<m)(l:r<m)(hi:i<m):swp k r i<m:=by unfold swp;split<;>(try split)<;>omega
theorem Ea(k r i):swp k r (swp k r i)=i:=by unfold swp;split<;>(try split)<;>(try split)<;>(try split)<;>omega
def clr (X:Nat->Nat->GQ) (r c:Nat):Nat->Nat->GQ:=fun i j=>if r<i then X i j-X i c/X r c*X r j else X i j
structure Ec where
 r:Nat
 X:Nat->Nat->GQ
 odd:Bool
 q:List Nat
def jR (m c:Nat) (s:Ec):Ec:=
 match fp s.X c (m-s.r) s.r with
 |none=>s
 |some k=>⟨s.r+1,clr (fun i=>s.X (swp k s.r i)) s.r c,s.odd^^decide (k≠s.r),c::s.q⟩
def ech (m:Nat) (X:Nat->Nat->GQ):Nat->Ec
 |0=>⟨0,X,ζ,[]⟩
 |c+1=>jR m c (ech m X c)
theorem eQ{m c}{s:Ec}(h:fp s.X c (m-s.r) s.r=δ):jR m c s=s:=by unfold jR;rw[h]
theorem dL{m c k}{s:Ec}(h:fp s.X c (m-s.r) s.r=γ k):jR m c s=⟨s.r+1,clr (fun i=>s.X (swp k s.r i)) s.r c,s.odd^^decide (k≠s.r),c::s.q⟩:=by unfold jR;rw[h]
structure Inv (m:Nat) (X0:Nat->Nat->GQ) (c:Nat) (s:Ec) (o:Nat->Nat) (P:List (Nat->GQ)):Prop where
 rm:s.r<=m
 pl:P.length=s.r
 ql:s.q.length=s.r
 ne:det P s.q≠GQ.i 0 0
 qc:∀d∈s.q,d<c
 pm:∀p∈P,∃i,i<m/\p=X0 i
 om:∀i,i<m->o i<m
 sy:∀i,s.r<=i->i<m->Says (s.X i) (X0 (o i)) P
 z:∀i j,s.r<=i->i<m->j<c->s.X i j=GQ.i 0 0
def afq(m l):Inv m l 0 (ech m l 0) (fun i=>i) []:=
 ⟨by simp[ech],rfl,rfl,by show GQ.i 1 0≠_;decide,by simp[ech],ag,fun i h=>h,fun i _ _=>Says.refl _ _,by intros;omega⟩
theorem Inv.step{m c l}{s:Ec}{o P}(h:Inv m l c s o P):∃R D,Inv m l (c+1) (jR m c s) R D:=by
 have O:=h.rm;cases J:fp s.X c (m-s.r) s.r with
 |none=>
  rw[eQ J];refine⟨o,P,h.rm,h.pl,h.ql,h.ne,fun d hd=>aci (h.qc d hd),h.pm,h.om,h.sy,fun i j G H N=> ?_⟩;by_cases e:j=c
  .subst e;exact pK J i G aa
  .exact h.z i j G H aa
 |some k=>
  obtain⟨I,V,M,Q⟩:=iD J;rw[dL J];have B:swp k s.r s.r=k:=nU _ _;have L:=(h.sy k I aa).entry (fun d hd=>h.z k d I aa (h.qc d hd)) c;refine⟨fun i=>o (swp k s.r i),l (o k)::P,by show s.r+1<=m;omega,by simp[h.pl],by simp[h.ql],?_,?_,?_,?_,?_,?_⟩
  .show det (l (o k)::P) (c::s.q)≠_;rw[L];exact GQ.iK M h.ne
  .intro d hd;rcases pq.1 hd with rfl|hd
   .omega
   .exact aci (h.qc d hd)
  .intro p hp;rcases pq.1 hp with rfl|hp
   .exact⟨o k,h.om k aa,rfl⟩
   .exact h.pm p hp
  .intro i hi;exact h.om _ (lM aa aa hi)
  .intro i G H;have C:s.r<i:=G;have e:(clr (fun i=>s.X (swp k s.r i)) s.r c) i=fun j=>s.X (swp k s.r i) j-(s.X (swp k s.r i) c/s.X k c)*s.X k j:=by
    funext j;unfold clr;rw[ι C];simp only[B]
   show Says ((clr (fun i=>s.X (swp k s.r i)) s.r c) i) _ _;rw[e];have F:s.r<=swp k s.r i:=by unfold swp;split<;>(try split)<;>omega
   exact Says.step (h.sy _ F (lM aa aa H)) (h.sy k I aa) _
  .intro i j G H N;have C:s.r<i:=G;have F:s.r<=swp k s.r i:=by unfold swp;split<;>(try split)<;>omega
   have K:=lM (k:=k) (r:=s.r) (i:=i) (m:=m) aa aa H;show(clr (fun i=>s.X (swp k s.r i)) s.r c) i j=_;unfold clr;rw[ι C];simp only[B];by_cases e:j=c
   .subst e;rw[ae5 M,GQ.qJ]
   .rw[h.z _ j F K aa,h.z k j I aa aa,GQ.bJ,GQ.eP]
def oz(m l):∀c,∃o P,Inv m l c (ech m l c) o P
 |0=>⟨_,_,afq m l⟩
 |c+1=>by
  obtain⟨o,P,h⟩:=oz m l c;exact h.step
theorem Gl{ops}:∀(f g k p:Nat),f<=g->anc ops f k p=ε->anc ops g k p=ε
 |0,_,_,_,_,h=>by simp[anc] at h
 |f+1,0,_,_,hl,_=>aa
 |f+1,g+1,k,p,hl,h=>by
  unfold anc at h⊢;cases l:ops[k]? with
  |none=>simp[l] at h
  |some o=>
   simp only[l] at h⊢;rw[Array.any_eq_true] at h⊢;obtain⟨i,hi,h⟩:=h;refine⟨i,hi,?_⟩;rw[τ,abb] at h⊢;refine⟨h.1,?_⟩;rcases h.2 with j|j
   .exact .inl j
   .exact .inr (Gl f g _ _ aa j)
def uX{ops k p}(h:(Nat.ble 4 ops.size&&anc ops 4 k p)=ε):anc ops ops.size k p=ε:=by
 rw[τ] at h;exact Gl 4 _ k p (adt h.1) h.2
def Sj(v0 q0 n0 v1 q1 n1 w)(j:GV w v0 q0 n0)(J:GV w v1 q1 n1)(hn:2*max n0 n1+65<=12800):
  CV 194 #[v0,v1] w fun v w'=>(∃u,v=.tuple #[u,.int .i64 0]/\GV w' u (q0+q1) (n0+n1+65)):=by
 have:=Um v0 q0 n0 v1 q1 n1 w j J hn;rwa[NE] at this
def ME(v0 q0 n0 v1 q1 n1 w)(j:GV w v0 q0 n0)(J:GV w v1 q1 n1)(hn:2*max n0 n1+65<=12800):
  CV 135 #[v0,v1] w fun v w'=>(∃u,v=.tuple #[u,.int .i64 0]/\GV w' u (q0-q1) (n0+n1+65)):=by
 have:=Uw v0 q0 n0 v1 q1 n1 w j J hn;rwa[NU] at this
def DY(v u q q' m n w)(L:GV w v q m)(l:GV w u q' n)(h:q=q'):
  CE 37 #[v,u] w (.bool ε):=by subst h;exact QS v u q m n w L l
def mK(v u p j m n w)(L:PV w v p m)(l:PV w u j n)(h:p=j):
  CE 21 #[v,u] w (.bool ε):=by subst h;exact BJ v u p m n w L l
instance (a d x z r n:Int):Decidable (RZ a d x z r n):=by unfold RZ;infer_instance
end Go.Proofs.YtbfnfkppkmpieaaGreat
