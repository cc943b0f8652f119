import Derived.Test.YtbfnfkppkmpieaaGreatQa
set_option linter.unusedVariables false
set_option maxHeartbeats 25600000
set_option maxRecDepth 200000
set_option linter.defProp false
namespace Go.Proofs.YtbfnfkppkmpieaaGreat
open Go.RowKit
def RM.TR{w:World}{j:Addr}{n c k x:Nat}{l}(h:RM w (some j) n c l)(J:l[k]? =some x):w.cell? (j.add k)=some (.int .u32 (x:Int))/\w.cell? ⟨j.block,j.off+k,none⟩=some (.int .u32 (x:Int)):=by
 have B:k<l.length:=(List.getElem?_eq_some_iff.1 J).1;have Z:=h.len;obtain⟨b,o,e,_,hc⟩:=h.rd.plain aa;cases e
 have:=hc k _ (oz J);exact⟨by rw[add_plain];exact this,this⟩
def GZ{x s:Nat}(h:x*2^s<4294967296):IntKind.u32.wrap ((x:Int)*2^s)=((x*2^s:Nat):Int):=by
 have e:((x:Int)*2^s)=((x*2^s:Nat):Int):=by push_cast;rfl
 rw[e];exact IntWalk.u32_in _ aa
def Ht{U a b s la n}(F:val U=a*2^s)(ha:a<4294967296^la)(hb:4294967296^(n+1)<=b)(j:n+1<=la)(Z:la-n-1<=U.length):val (U.drop (la-n-1))<b*2^s:=by
 have G:=gI U (la-n-1) Z;have B:a*2^s<4294967296^la*2^s:=Nat.mul_lt_mul_of_pos_right ha (Nat.pow_pos aa);have C:4294967296^la=4294967296^(la-n-1)*4294967296^(n+1):=by rw[<-Nat.pow_add];congr 1;omega
 have D:4294967296^(la-n-1)*(4294967296^(n+1)*2^s)<=4294967296^(la-n-1)*(b*2^s):=Nat.mul_le_mul_left _ (Nat.mul_le_mul_right _ hb);rw[C,Nat.mul_assoc] at B;have l:4294967296^(la-n-1)*val (U.drop (la-n-1))<4294967296^(la-n-1)*(b*2^s):=aa;exact Nat.lt_of_mul_lt_mul_left l
def F7(A B la n c d a b w)(hA:RM w A la c (bZ a))(hB:RM w B (n+2) d (bZ b))(Wq:b<=a)(XA:la<=10000):
  Calls Tryz.prog 180 #[.slice A la c,.slice B (n+2) d] w fun e w'=>∃q r,e=.returned (.tuple #[q,r])/\SlM (bZ (a/b)) q w'/\SlM (bZ (a%b)) r w'/\Ext w w':=by
 have Wv:decide (mI a b<0)=false:=by rw[kH];exact decide_eq_false aa
 have WY:=aJ hA.len;have Wy:=hB.len;have X4:n+2<=la:=by
  exact AdE
 obtain⟨ad,x,rfl,_,J,D,_⟩:=hB.at_ (k:=n+1) aa;have F:0<x:=by
  have:=bJ b x (last_at Wy J);omega
 have HX:=aJ J;clear J;have Wx:=aJ Wy;clear Wy;have t1:(((n+2:Nat):Int)==1)=false:=ae;have t2:((n:Int)+2==1)=false:=ae;go_enter Tryz.func180,Tryz.ntmps180;(go_wp2_with fail);refine(ig A (some ad) la (n+2) c d _ _ _ hA hB (bJ _) (bJ _)).mono ?_;rintro e w1 ⟨rfl,H⟩;rw[aM,aM];obtain⟨O,XI⟩:=(hB.ext H).TR HX.o;go_wp2;go_loop [8] (fun i=>∃s:Nat,s<=31/\i=.int .i64 s/\x*2^s<4294967296) (fun i=>32-(intOf i).toNat)
 case atStart=>exact⟨0,aa,rfl,by simpa using D⟩
 case round=>
  obtain⟨s,hs,rfl,Wo⟩:=hrel;obtain⟨y,R⟩:∃y,y=x*2^s:=⟨_,rfl⟩;have e1:IntKind.u32.wrap ((x:Int)*2^s)=(y:Int):=by rw[GZ Wo,R]
  have e2:=VC (y:=y) (by rw[R];exact Wo);have HY:=aJ R;clear R;by_cases Ye:y<2147483648
  .rw[decide_eq_true Ye] at e2;go_wp2;go_round
   case rel=>
    have h1:=HY.o;have h2:1*2^s<=x*2^s:=Nat.mul_le_mul_right _ F;have h3:2^s<2^31:=aa;have h4:=(Nat.pow_lt_pow_iff_right aa).1 h3;exact⟨s+1,aa,au,by rw[Nat.pow_succ,<-Nat.mul_assoc];omega⟩
   case measure=>simp[intOf]<;>omega
  .rw[decide_eq_false Ye] at e2;have hN:Gd b n s x:=⟨Wx.o,HX.o,by have:=HY.o;omega,Wo,aa⟩;have HN:=aJ hN;clear hN;go_wp2;clear e1 e2 O XI;have q1:(0:Int)<=(n:Int)+2:=aa;refine bz 10 [(true,0),(true,1),(true,3),(true,4),(true,6),(true,7),(false,2),(false,5),(true,8),(true,9)] ah ah ?_;refine aS [0,1,3,4,6,7] [(false,2),(false,5),(true,8),(true,9)] _ ah ?_;simp only[bO,aV,List.cons_append,List.nil_append];(repeat (go_big_quiet_step (fail)));refine wpQuiet_nil ?_;refine aR 2 [(false,5),(true,8),(true,9)] ah ?_;intro K I;simp only[aV];(go_wp2_with fail);refine(Au A la c s (bZ a) _ (hA.ext H.drew) aa aa).mono ?_;rintro e w2 ⟨rfl,U,hU,G,WC,P⟩;rw[aM] at WC;have P:=P.jd;have X3:w1.drew.heap.size=w1.heap.size:=rfl;rw[X3] at hU;rw[X3];go_wp2;refine I _ _ ⟨⟨w2,P⟩,rfl⟩ ?_;clear I K X3;refine aR 5 [(true,8),(true,9)] ah ?_;intro K I;simp only[aV];(go_wp2_with fail);refine(Au (some ad) (n+2) d s (bZ b) _ (hB.ext (H.trans P)) aa aa).mono ?_;rintro e w3 ⟨rfl,Q,T,M,WM,Wp⟩;rw[aM] at WM;go_wp2;refine I _ _ ⟨⟨w3,P.trans Wp⟩,rfl⟩ ?_;clear I K;obtain⟨hV,v1,v0,Wu,WV,X8⟩:=HN.digits M T.2 WM;have W9:n+2<=n+2+1:=aa;refine aS [8,9] [] _ ah ?_;simp only[bO,aV,List.cons_append,List.nil_append];(repeat (go_big_quiet_step (fail)));refine wpQuiet_nil ?_;simp only[bP,List.drop_succ_cons,List.drop_zero];have WN:=jf ((la:Int)-((n:Int)+2)+1) (la-n-1) aa aa;go_wp2;clear WN;obtain⟨V,WQ⟩:∃V,V=val (Q.take (n+2)):=⟨_,rfl⟩;have WE:V=b*2^s:=by rw[WQ,hV]
   have Z:0<V:=by
    exact Adk
   have Xg:V<4294967296^(n+2):=by rw[WE];exact HN.lt
   have XL:fZ (w3.alloc (.cells (mg (List.replicate (la-n-1) 0)).toArray 208)) w1.heap.size U:=hU.far (Wp.alloc _);have XC:fZ (w3.alloc (.cells (mg (List.replicate (la-n-1) 0)).toArray 208)) w2.heap.size Q:=T.far (Ext.new _ _);have Wt:lS U [] (a*2^s) V (la-n-1):=by
    exact Ac3
   have WF:=aJ WQ;have Xn:=aJ WE;clear WQ WE hV WC WM;have WG:=P.size;have WT:=Wp.size;have Yk:=hU.1.lt;have Yl:=T.1.lt;have l:=aJ G;have WA:=aJ M;have S:=aJ Wu;have XU:=aJ WV;have WJ:=aJ Wt;clear Wt G M Wu WV;have XK:=aJ XL;have Xq:=aJ XC;clear XL XC hU T;have Wz:Ext w w3:=(H.trans P).trans Wp;go_loopw [12] (fun iv wr=>∃(k:Nat) (U qs:List Nat),k<=la-n-1/\iv=.int .i64 ((k:Int)-1)/\U.length=la+1/\k+qs.length=la-n-1/\lS U qs (a*2^s) V k/\fZ wr w1.heap.size U/\fZ wr w2.heap.size Q/\fZ wr w3.heap.size (List.replicate k 0++qs)/\Ext w wr) (fun iv _=>(intOf iv+1).toNat)
   case atStart=>exact⟨la-n-1,U,[],Nat.le_refl _,by congr 1;omega,l.o,ag,WJ.o,XK.o,Xq.o,⟨by simpa using Blk.new w3 _ _,by simpa using Dig.replicate _⟩,Wz.alloc _⟩
   case round=>
    clear XK Xq WJ l;obtain⟨k,U,qs,hk,rfl,G,Xp,XM,hU,T,hq,C⟩:=hrel;have l:=aJ G;clear G;have XO:=aJ Xp;clear Xp;have WB:=aJ XM;clear XM;by_cases h0:k=0
    .subst h0;have W:=WB.done;have XJ:=aJ W;clear W;have X5:RM wr (some ⟨w3.heap.size,0,none⟩) (la-n-1) (la-n-1) qs:=by
      exact Adv
     have X7:RM wr (some ⟨w1.heap.size,0,none⟩) (n+2) (la+1) (U.take (n+2)):=(hU.rm (n:=la+1) l.o aa).take aa aa aa;go_wp2;have q2:(0:Int)<=(n:Int)+2:=aa;have q3:(n:Int)+2<=(la:Int)+1:=aa;refine bz 9 [(true,0),(true,2),(true,3),(true,4),(true,5),(true,6),(false,1),(false,7),(true,8)] ah ah ?_;refine aS [0,2,3,4,5,6] [(false,1),(false,7),(true,8)] _ ah ?_;simp only[bO,aV,List.cons_append,List.nil_append];(repeat (go_big_quiet_step (fail)));refine wpQuiet_nil ?_;refine aR 1 [(false,7),(true,8)] ah ?_;intro K I;simp only[aV];(go_wp2_with fail);refine(il _ _ _ qs _ (X5.ext (Ext.refl wr).drew) aa).mono ?_;rintro e wa ⟨va,rfl,WR,Xj⟩;have Xj:=Xj.jd;go_wp2;refine I _ _ ⟨⟨wa,Xj⟩,rfl⟩ ?_;clear I K;refine aR 7 [(true,8)] ah ?_;intro K I;simp only[aV];(go_wp2_with fail);refine(Mm _ (n+2) _ s (U.take (n+2)) _ (X7.ext Xj) aa aa).mono ?_;rintro e wb ⟨vb,rfl,WU,Xh⟩;have WK:=Xj.trans Xh;go_wp2;refine I _ _ ⟨⟨wb,WK⟩,rfl⟩ ?_;clear I K;refine aS [8] [] _ ah ?_;simp only[bO,aV,List.cons_append,List.nil_append];(repeat (go_big_quiet_step (fail)));refine wpQuiet_nil ?_;simp only[bP,List.drop_succ_cons,List.drop_zero];have XP:val qs=a/b:=by rw[XJ.o.1,Xn.o,Am]
     have Xt:val (U.take (n+2))/2^s=a%b:=by
      exact AcI
     rw[XP] at WR;rw[Xt] at WU;have Yb:=aJ (WR.ext Xh);have X6:=aJ WU;clear WR WU XP Xt;go_wp2
     go_ret2
     exact⟨_,_,rfl,Yb.o,X6.o,C.trans WK⟩
    .obtain⟨j,rfl⟩:∃j,k=j+1:=⟨k-1,aa⟩;obtain⟨u2,u1,u0,WL,Xd,WW,ht⟩:=Ll (j:=j) hU.2 (T.2.take (n+2)) Ab3 (by rw[List.length_take,WA.o];omega) S.o XU.o X8 (by rw[<-WF.o];exact WB.o.2);rw[<-WF.o] at ht;have HT:=aJ ht;clear ht;rw[show((j+1:Nat):Int)-1=(j:Int) by omega];obtain⟨x2,Xm,_,XV,_⟩:=hU.at_ (k:=j+n+2) Ab3;obtain⟨x1,Xl,_,XR,_⟩:=hU.at_ (k:=j+n+1) Ab3;obtain⟨x0,Xu,_,Xy,_⟩:=hU.at_ (k:=j+n) Ab3;obtain rfl:x2=u2:=by rw[WL] at Xm;injection Xm with h;exact h.symm
     obtain rfl:x1=u1:=by rw[Xd] at Xl;injection Xl with h;exact h.symm
     obtain rfl:x0=u0:=by rw[WW] at Xu;injection Xu with h;exact h.symm
     obtain⟨y1,Yh,_,XT,_⟩:=T.at_ (k:=n+1) (by rw[WA.o];omega);obtain⟨y0,Yi,_,Xz,_⟩:=T.at_ (k:=n) (by rw[WA.o];omega);obtain rfl:y1=v1:=by have:=S.o;rw[List.getElem?_take_of_lt aa,Yh] at this;injection this
     obtain rfl:y0=v0:=by have:=XU.o;rw[List.getElem?_take_of_lt aa,Yi] at this;injection this
     clear Xm Xl Xu Yh Yi WL Xd WW;go_wp2;have Y2:=aK.cell XV;have Y1:=aK.cell XR;have Y0:=aK.cell Xy;have Z1:=aK.cell XT;have Z0:=aK.cell Xz;have b1:IntKind.i64.wrap ((j:Int)+((n:Int)+2))=(j:Int)+((n:Int)+2):=IntWalk.i64_in _ aa;have b2:IntKind.i64.wrap ((j:Int)+((n:Int)+2)-1)=(j:Int)+((n:Int)+1):=by rw[IntWalk.i64_in _ aa];omega
     have b3:IntKind.i64.wrap ((j:Int)+((n:Int)+2)-2)=(j:Int)+(n:Int):=by rw[IntWalk.i64_in _ aa];omega
     have b4:IntKind.i64.wrap ((n:Int)+2-1)=(n:Int)+1:=by rw[IntWalk.i64_in _ aa];omega
     have b5:IntKind.i64.wrap ((n:Int)+2-2)=(n:Int):=by rw[IntWalk.i64_in _ aa];omega
     have c1:((j:Int)+((n:Int)+2)).toNat=j+n+2:=aa;have c2:((j:Int)+((n:Int)+1)).toNat=j+n+1:=aa;have c3:((j:Int)+(n:Int)).toNat=j+n:=aa;have c4:((n:Int)+1).toNat=n+1:=aa;have d1:(0:Int)<=(j:Int)+((n:Int)+2):=aa;have d2:(0:Int)<=(j:Int)+((n:Int)+1):=aa;have d3:(0:Int)<=(j:Int)+(n:Int):=aa;have d4:(j:Int)+((n:Int)+2)<(la:Int)+1:=aa;have d5:(j:Int)+((n:Int)+1)<(la:Int)+1:=aa;have d6:(j:Int)+(n:Int)<(la:Int)+1:=aa;have d7:(0:Int)<=(n:Int)+1:=aa;have d8:(n:Int)+1<(n:Int)+2:=aa;have d9:(n:Int)<(n:Int)+2:=aa;refine bz 41 [(true,0),(true,1),(true,2),(true,3),(true,4),(true,5),(true,6),(true,7),(true,8),(true,9),(true,10),(true,11),(true,12),(true,13),(true,14),(true,15),(true,16),(true,17),(true,18),(true,19),(true,20),(true,21),(true,22),(true,23),(true,24),(true,25),(true,26),(true,27),(true,28),(true,29),(true,30),(true,31),(true,32),(true,33),(true,34),(true,35),(true,36),(true,37),(true,38),(true,39),(false,40)] ah ah ?_;refine aS [0,1,2,3,4,5,6,7,8,9,10,11,12,13,14,15,16,17,18,19,20,21,22,23,24,25,26,27,28,29,30,31,32,33,34,35,36,37,38,39] [(false,40)] _ ah ?_;simp only[bO,aV,List.cons_append,List.nil_append];(repeat (go_big_quiet_step (fail)));refine wpQuiet_nil ?_;clear b1 b2 b3 b4 b5 c1 c2 c3 c4 d1 d2 d3 d4 d5 d6 d7 d8 d9 Y2 Y1 Y0 Z1 Z0 XV XR Xy XT Xz;refine aR 40 [] ah ?_;intro K I;simp only[aV];(go_wp2_with fail);refine(JI (val (U.drop j)) V (4294967296^n) x2 x1 x0 y1 y0 _ HT.o).mono ?_;rintro e wg ⟨⟨g,rfl,XZ,XF,XE⟩,Yg⟩;obtain⟨qd,WP⟩:∃qd,qd=val (U.drop j)/V:=⟨_,rfl⟩;rw[<-WP] at XF XE;have XH:Ext wr wg:=Yg ▸ (Ext.refl wr).drew;clear Yg;have Xk:=aJ WP;clear WP;go_wp2;refine I _ _ ⟨⟨wg,XH⟩,rfl⟩ ?_;clear I K;simp only[bP,List.drop_succ_cons,List.drop_zero];have XQ:=hU.far XH;have Ya:=T.far XH;have Yj:=hq.far XH;have Xe:RM wg (some ⟨w2.heap.size,0,none⟩) (n+2) (n+3) (Q.take (n+2)):=(Ya.rm (n:=n+3) WA.o aa).take aa aa aa;have Yf:=XQ.sub (j:=j) (m:=la+1-j) (c:=la+1-j) Ab3 (Nat.le_refl _) aa;clear hU T hq;have hcut:val ((U.drop j).take (n+2+1))=val (U.drop j):=by
      refine EK (XQ.2.drop j) (by rw[List.length_drop,l.o];omega) ?_;have h1:=HT.fits;have h2:4294967296*V<=4294967296*4294967296^(n+2):=Nat.mul_le_mul_left _ (Nat.le_of_lt Xg);rw[Nat.pow_succ,Nat.mul_comm (4294967296^(n+2))];omega
     have XX:=aJ hcut;clear hcut;have XY:(0:Int)<=(j:Int):=aa;have Ws:(j:Int)<=(la:Int)+1:=aa;have Yn:((la:Int)+1-(j:Int)).toNat=la+1-j:=aa;(go_wp2_with fail);refine(M9 _ _ (n+2) (la+1-j) _ _ g (U.drop j) (Q.take (n+2)) _ Yf Xe aa aa aa).mono ?_;rintro e wl ⟨rfl,Xi⟩;rw[XX.o,<-WF.o];have G:=XQ.far Xi;have Yd:=Xe.ext Xi;have M:=Ya.far Xi;have Xb:=Yj.far Xi;clear XQ Xe Yf Ya Yj;have XW:=(C.trans XH).trans Xi;have W9:V*qd<=val (U.drop j):=by rw[Xk.o];exact Nat.mul_div_le _ _
     have Xa:val (U.drop j)<V*(qd+1):=by rw[Xk.o];exact Nat.lt_mul_div_succ _ Z
     have Xo:qd<4294967296:=by rw[Xk.o];exact HT.Uc
     have Xx:∀g',g'=qd->decide (val (U.drop j)<V*g')=false:=fun g' e=>by rw[e];exact decide_eq_false aa
     have WX:∀g',g'=qd+1->decide (val (U.drop j)<V*g')=true:=fun g' e=>by rw[e];exact decide_eq_true Xa
     have Xc:=aJ Xa;clear Xa;have Ww:=aJ W9;clear W9;rcases(show g=qd\/g=qd+1 by omega) with WZ|WZ
     all_goals
      first
       |rw[Xx g WZ]
       |rw[WX g WZ]
      first
       |(have Yc:=WZ.symm;subst Yc)
       |subst WZ
      clear Xx WX;(go_wp2_with fail);refine(Mw (some ⟨w2.heap.size,0,none⟩) w1.heap.size j (n+2) (la+1-j) _ _ _ U (Q.take (n+2)) _ G Yd aa aa Ab3 (Nat.le_refl _) aa aa (by rw[XX.o,<-WF.o];exact Ww.o)).mono ?_;rintro e w5 ⟨rfl,U',XN,N,WH,L,WO⟩;rw[<-WF.o] at L;have WS:fZ w5 w3.heap.size (List.replicate (j+1) 0++qs):=⟨WO.blk Xb.1 aa,Xb.2⟩;have XD:fZ w5 w2.heap.size Q:=⟨WO.blk M.1 aa,M.2⟩;obtain⟨z,_,_,Y,WI⟩:=WS.at_ (k:=j) ae;have Xw:=WB.step Ab3 N WH L Xk.o Z;have Xr:=aJ Xw;have XB:=aJ XN;have Xf:=aJ XD;have X9:=aJ WS;have Xv:=aJ N;clear Xw XN XD WS N WH L G Yd M Xb;have Ym:=XW.size;have XG:Ext w w5:=WO.ext XW (by have:=H.size;omega);go_wp2;go_roundw
      case rel=>
       exact AaP
      case measure=>simp[intOf]<;>omega
def yB(A B n m c d a b w)(l:RM w A n c (bZ a))(j:RM w B m d (bZ b))(hb:0<b)(hn:n<=10000):
  Calls Tryz.prog 180 #[.slice A n c,.slice B m d] w fun e w'=>∃q r,e=.returned (.tuple #[q,r])/\SlM (bZ (a/b)) q w'/\SlM (bZ (a%b)) r w'/\Ext w w':=by
 rcases Nat.lt_or_ge a b with h|h
 .exact J6 A B n m c d a b w l j h
 .match m,j with
  |0,j=>
   have C:=j.empty;rw[mG] at C;omega
  |1,j=>exact G7 A B n c d a b w l j h aa
  |k+2,j=>exact F7 A B n k c d a b w l j h hn
def FM (U l v:List Nat) (j i g G B:Nat):Prop:=
 l.length=U.length/\l.take j=U.take j/\(∀t,j+i<=t->l[t]? =U[t]?)/\val l+4294967296^j*(g*val (v.take i))=val U+4294967296^(j+i)*(G+B)
def FM.start(U v j g):FM U U v j 0 g 0 0:=⟨rfl,rfl,fun _ _=>rfl,by simp[val]⟩
def NL{x j pl:Nat}(J:x<4294967296)(hb:j<=1)(hp:pl<4294967296):x+4294967296*ni ((x:Int)-j-pl)=oW ((x:Int)-j-pl)+j+pl:=by
 have:=EU J hp hb;omega
def FM.step{U B v j i g G l x y p}(h:FM U B v j i g G l)(J:U[j+i]? =some x)(R:v[i]? =some y)(D:x<4294967296)(hb:l<=1)(hp:p=g*y+G):
  FM U (B.set (j+i) (oW ((x:Int)-l-(p%4294967296:Nat)))) v j (i+1) g (p/4294967296) (ni ((x:Int)-l-(p%4294967296:Nat))):=by
 obtain⟨I,H,F,Q⟩:=h;refine⟨by rw[List.length_set];exact I,?_,fun t N=> ?_,?_⟩
 .rw[List.take_set_of_le aa];exact H
 .rw[List.getElem?_set_ne aa];exact F t aa
 .have P:B[j+i]? =some x:=by rw[F _ (Nat.le_refl _)];exact J
  have K:=NL D hb (Nat.mod_lt p (show 0<4294967296 by omega));generalize oW ((x:Int)-l-(p%4294967296:Nat))=dg at*
  generalize ni ((x:Int)-l-(p%4294967296:Nat))=C at*
  have L:=pO (y:=dg) P;rw[bF R,show j+(i+1)=(j+i)+1 from rfl,Nat.pow_succ,Nat.mul_assoc];have O:4294967296^j*(g*(val (v.take i)+4294967296^i*y))=4294967296^j*(g*val (v.take i))+4294967296^(j+i)*(g*y):=by
   rw[Nat.mul_add,Nat.mul_add,Nat.pow_add];congr 1;rw[Nat.mul_left_comm g,Nat.mul_assoc]
  have M:4294967296^(j+i)*dg+4294967296^(j+i)*(g*y)+4294967296^(j+i)*(G+l)=4294967296^(j+i)*x+4294967296^(j+i)*(4294967296*(p/4294967296+C)):=by
   rw[<-Nat.mul_add,<-Nat.mul_add,<-Nat.mul_add];congr 1;omega
  omega
def P8{U X:List Nat}{m}(B:val (U.drop m)=0)(L:Dig X)(Z:X.length=U.length)(h:∀t,m<=t->X[t]? =U[t]?):val X<4294967296^m:=by
 rcases Nat.lt_or_ge U.length m with l|l
 .have:=lQ L;exact Nat.lt_of_lt_of_le this (Nat.pow_le_pow_right aa aa)
 .have e:X.drop m=U.drop m:=by
   apply List.ext_getElem?;intro i;rw[List.getElem?_drop,List.getElem?_drop];exact h _ aa
  have j:=gI X m aa;rw[e,B] at j;have C:=kM L m;omega
def drop_zero{U:List Nat}{j m}(C:j+m<=U.length)(h:val (U.drop j)<4294967296^m):val (U.drop (j+m))=0:=by
 have B:=gI (U.drop j) m (by rw[List.length_drop];omega);rw[List.drop_drop] at B;rcases Nat.eq_zero_or_pos (val (U.drop (j+m))) with l|l
 .exact l
 .have:4294967296^m*1<=4294967296^m*val (U.drop (j+m)):=Nat.mul_le_mul_left _ l;omega
def QP{U F v j m g G C u}(h:FM U F v j m g G C)(hv:v.length=m)(H:U[j+m]? =some u)(B:u<4294967296)(hc:G<4294967296)(hb:C<=1):
  val (F.set (j+m) (oW ((u:Int)-C-G)))+4294967296^j*(g*val v)=val U+4294967296^(j+m+1)*ni ((u:Int)-C-G):=by
 obtain⟨O,L,I,J⟩:=h;have P:F[j+m]? =some u:=by rw[I _ (Nat.le_refl _)];exact H
 have K:=EU B hc hb;generalize oW ((u:Int)-C-G)=dg at*
 generalize ni ((u:Int)-C-G)=D at*
 have M:=pO (y:=dg) P;rw[List.take_of_length_le (l:=v) aa] at J;have e:4294967296^(j+m+1)*D=4294967296^(j+m)*(4294967296*D):=by rw[Nat.pow_succ,Nat.mul_assoc]
 have N:4294967296^(j+m)*u+4294967296^(j+m)*(4294967296*D)=4294967296^(j+m)*(G+C)+4294967296^(j+m)*dg:=by
  rw[<-Nat.mul_add,<-Nat.mul_add];congr 1
 omega
def Oe{U X j m V q l}(h:val X+4294967296^j*(q*V)=val U+4294967296^m*l)(L:val X<4294967296^m)(hq:4294967296^j*(q*V)<=val U):l=0:=by
 rcases Nat.eq_zero_or_pos l with B|B
 .exact B
 .have:4294967296^m*1<=4294967296^m*l:=Nat.mul_le_mul_left _ B;omega
def QK{U X j m V q l}(h:val X+4294967296^j*(q*V)=val U+4294967296^m*l)(hb:l<=1)(hq:val U<4294967296^j*(q*V)):l=1:=by
 rcases Nat.eq_zero_or_pos l with B|B
 .subst B;omega
 .omega
def OY{U j V q}(l:j<=U.length)(hq:V*q<=val (U.drop j)):4294967296^j*(q*V)<=val U:=by
 have C:=gI U j l;have B:4294967296^j*(q*V)<=4294967296^j*val (U.drop j):=Nat.mul_le_mul_left _ (by rw[Nat.mul_comm];exact hq);omega
def seg_lt{U j V q}(hd:Dig U)(l:j<=U.length)(hq:val (U.drop j)<V*q):val U<4294967296^j*(q*V):=by
 have D:=gI U j l;have C:=kM hd j;have B:4294967296^j*(val (U.drop j)+1)<=4294967296^j*(q*V):=Nat.mul_le_mul_left _ (by rw[Nat.mul_comm q];exact hq);rw[Nat.mul_add,Nat.mul_one] at B;omega
def FN (U l v:List Nat) (j i G:Nat):Prop:=
 l.length=U.length/\l.take j=U.take j/\(∀t,j+i<=t->l[t]? =U[t]?)/\val l+4294967296^(j+i)*G=val U+4294967296^j*val (v.take i)
def FN.start(U v j):FN U U v j 0 0:=⟨rfl,rfl,fun _ _=>rfl,by simp[val]⟩
def FN.step{U l v j i G x y s}(h:FN U l v j i G)(J:U[j+i]? =some x)(R:v[i]? =some y)(hs:s=x+y+G):FN U (l.set (j+i) (s%4294967296)) v j (i+1) (s/4294967296):=by
 obtain⟨D,C,B,I⟩:=h;refine⟨by rw[List.length_set];exact D,?_,fun t H=> ?_,?_⟩
 .rw[List.take_set_of_le aa];exact C
 .rw[List.getElem?_set_ne aa];exact B t aa
 .have P:l[j+i]? =some x:=by rw[B _ (Nat.le_refl _)];exact J
  have F:=pO (y:=s%4294967296) P;rw[bF R,show j+(i+1)=(j+i)+1 from rfl,Nat.pow_succ,Nat.mul_assoc,Nat.mul_add,<-Nat.mul_assoc (4294967296^j),<-Nat.pow_add];have e:4294967296^(j+i)*(s%4294967296)+4294967296^(j+i)*(4294967296*(s/4294967296))=4294967296^(j+i)*x+4294967296^(j+i)*y+4294967296^(j+i)*G:=by
   rw[<-Nat.mul_add,<-Nat.mul_add,<-Nat.mul_add];congr 1;omega
  omega
def QO{U X Y v j m c d V q}(L:val X+4294967296^j*((q+1)*V)=val U+4294967296^(j+m+1))(h:FN X Y v j m c)(hv:v.length=m)(hV:val v=V)(hd:X[j+m]? =some d)(D:val (Y.set (j+m) ((d+c)%4294967296))<4294967296^(j+m+1))(hq:4294967296^j*(q*V)<=val U)(B:d<4294967296)(hc:c<=1):
  val (Y.set (j+m) ((d+c)%4294967296))+4294967296^j*(q*V)=val U:=by
 obtain⟨M,I,F,H⟩:=h;have P:Y[j+m]? =some d:=by rw[F _ (Nat.le_refl _)];exact hd
 have G:=pO (y:=(d+c)%4294967296) P;rw[List.take_of_length_le (l:=v) aa,hV] at H;have K:4294967296^j*((q+1)*V)=4294967296^j*(q*V)+4294967296^j*V:=by rw[Nat.add_mul,Nat.one_mul,Nat.mul_add]
 generalize val (Y.set (j+m) ((d+c)%4294967296))=R at*
 have C:(d+c)%4294967296=d+c\/(d+c)%4294967296+4294967296=d+c:=aa;rcases C with C|C
 .exfalso;rw[C,Nat.mul_add] at G;omega
 .have J:4294967296^(j+m)*((d+c)%4294967296)+4294967296^(j+m+1)=4294967296^(j+m)*d+4294967296^(j+m)*c:=by
   rw[Nat.pow_succ,<-Nat.mul_add,<-Nat.mul_add];congr 1
  omega
theorem UQ{x c b:Nat}(J:x<4294967296)(hc:c<4294967296)(hb:b<=1):∃z:Nat,IntKind.u64.wrap (IntKind.u64.wrap ((x:Int)-c)-b)=(z:Int)/\z<18446744073709551616/\(z:Int)%4294967296=(oW ((x:Int)-b-c):Int)/\(ni ((x:Int)-b-c)=0->z<9223372036854775808)/\(ni ((x:Int)-b-c)=1->9223372036854775808<=z):=by
 rw[jl,jl];refine⟨((((x:Int)-c)%18446744073709551616-b)%18446744073709551616).toNat,aa,aa,?_,?_,?_⟩
 .unfold oW;omega
 .unfold ni;split<;>omega
 .unfold ni;split<;>omega
def EM(B gU j n c d v1 U v w)(hU:fZ w gU U)(hB:RM w B (n+2) d v)(Wq:∀ad,B=some ad->ad.block≠gU)(hn:n<=1000000)(hj:j<=1000000)(WQ:j+n+3<=U.length)(hc:n+3<=c)(Wv:c<=9223372036854775807)(Wu:v[n+1]? =some v1)(XQ:2147483648<=v1)(Wo:val (U.drop (j+1))<val v):
  Calls Tryz.prog 221 #[.slice (some ⟨gU,j,none⟩) (n+3:Nat) c,.slice B (n+2:Nat) d] w fun e w'=>e=.returned (.int .u32 ((val (U.drop j)/val v:Nat):Int))/\∃U',fZ w' gU U'/\U'.length=U.length/\U'.take j=U.take j/\
   val U'+4294967296^j*(val v*(val (U.drop j)/val v))=val U/\Only gU w w':=by
 have Xx:=hB.len;have XO:=hB.dg;have WV:v[n]? =some v[n]:=List.getElem?_eq_getElem aa;generalize v[n]=v0 at WV;obtain⟨u2,u1,u0,WL,Xd,WW,t⟩:=Ll hU.2 XO WQ Xx Wu WV XQ Wo;obtain⟨bV,oV,rfl,_,XJ⟩:=hB.rd.plain aa;have Yw:=Wq _ rfl;clear Wq;have XT:=XJ (n+1) _ (oz Wu);have Xz:=XJ n _ (oz WV);obtain⟨x2,Xm,_,XV,_⟩:=hU.at_ (k:=j+n+2) aa;obtain⟨x1,Xl,_,XR,_⟩:=hU.at_ (k:=j+n+1) aa;obtain⟨x0,Xu,_,Xy,_⟩:=hU.at_ (k:=j+n) aa;obtain rfl:x2=u2:=by rw[WL] at Xm;injection Xm with h;exact h.symm
 obtain rfl:x1=u1:=by rw[Xd] at Xl;injection Xl with h;exact h.symm
 obtain rfl:x0=u0:=by rw[WW] at Xu;injection Xu with h;exact h.symm
 have Xr:=aJ XJ;have S:=aJ Wu;have XU:=aJ WV;have YK:=aJ WL;have YI:=aJ Xd;have YJ:=aJ WW;have XI:=aJ Xx;have Yv:=t.m2;have Yu:=t.m1;have Yh:=t.m0;have Yg:=t.l1;have XX:=t.l0;have Xh:=aJ (iH.first t);obtain⟨hd,Xi⟩:∃hd,hd=x2*4294967296+x1:=⟨_,rfl⟩;rw[<-Xi] at Xh;have XD:hd<18446744073709551616:=aa;have e0:bits .or .u64 ((x2:Int)*4294967296) (x1:Int)=(hd:Int):=by rw[or_hi Yv Yu,Xi];omega
 have Yc:=aJ Xi;clear Xi;have YF:1<=v1:=aa;have Yb:(0:Int)<=(hd:Int)/(v1:Int):=Int.ediv_nonneg aa aa;have XW:(hd:Int)/(v1:Int)<=18446744073709551615:=by
  have:=Nat.div_le_self hd v1;rw[<-Int.natCast_ediv];omega
 clear Xm Xl Xu XJ Wu WV WL Xd WW Xx;have T:=aJ t;clear t;have a2:j+(n+2)=j+n+2:=aa;have M:j+(n+1)=j+n+1:=aa;have k1:(n:Int)+2-1=(n:Int)+1:=aa;have k3:((n:Int)+1).toNat=n+1:=aa;have k4:((n:Int)+2).toNat=n+2:=aa;go_enter Tryz.func221,Tryz.ntmps221;(go_wp2_with fail);have d1:(0:Int)<=(n:Int)+2:=aa;have d2:(n:Int)+2<(n:Int)+3:=aa;have d3:(n:Int)+1<(n:Int)+3:=aa;go_quiet (fail);(go_wp2_with fail);go_quiet (fail)
 go_upto_block 0 with fail
 go_cut [8,9] (fun gv rv wx=>∃g:Nat,gv=.int .u64 (g:Int)/\g<4294967296/\val (U.drop j)/val v<=g/\g<=val (U.drop j)/val v+1/\Ext w wx)
 case first=>
  (go_wp2_with fail);clear e0;go_loopw [8,9] (fun qv rv wr=>∃g rest:Nat,qv=.int .u64 (g:Int)/\rv=.int .u64 (rest:Int)/\rest<4294967296/\iH (val (U.drop j)) (val v) x2 x1 v1 g rest/\Ext w wr) (fun qv _ _=>(intOf qv).toNat)
  case atStart=>exact⟨hd/v1,hd%v1,rfl,rfl,Nat.lt_trans (Nat.mod_lt _ aa) Yg,Xh.o,((Ext.refl w).drewN _).drewN _⟩
  case round=>
   obtain⟨g,rest,rfl,rfl,hr,hG,C⟩:=hrel;have Ya:=iH.le T.o hG;have HG:=aJ hG;clear hG;have Xz:wr.cell? ⟨bV,oV+n,none⟩=some (.int .u32 (v0:Int)):=C.cell_ Xz;have Xy:wr.cell? ⟨gU,j+n,none⟩=some (.int .u32 (x0:Int)):=C.cell_ Xy;have k5:(n:Int)+2-2=(n:Int):=aa;have d4:(n:Int)<(n:Int)+2:=aa;have d5:(n:Int)<(n:Int)+3:=aa;by_cases hb:4294967296<=g
   .have WF:(4294967296:Int)<=(g:Int):=aa;have WN:=aJ (iH.big T.o HG.o hb);by_cases l:4294967296<=rest+v1
    .have WM:(4294967296:Int)<=(rest:Int)+(v1:Int):=aa;obtain⟨s1,s2,s3⟩:=iH.stop T.o WN.o l;have S1:=aJ s1;have S2:=aJ s2;have S3:=aJ s3;clear s1 s2 s3;(go_wp2_with fail);go_quiet (fail);go_wp2_with fail
     go_meet
     case rel=>exact⟨g-1,au,S1.o,S2.o,S3.o,C.drewN _⟩
    .have WM:decide ((4294967296:Int)<=(rest:Int)+(v1:Int))=false:=by rw[decide_eq_false_iff_not];omega
     have X5:decide (4294967296<=rest+v1)=false:=decide_eq_false l;have Wt:=aJ l;clear l;(go_wp2_with fail);go_quiet (fail);go_wp2_with fail
     go_roundw
     case rel=>exact⟨g-1,rest+v1,au,au,by have:=Wt.o;omega,WN.o,C.drewN _⟩
     case measure=>simp[intOf]<;>omega
   .obtain⟨tp,H⟩:∃tp,tp=g*v0:=⟨_,rfl⟩;obtain⟨z,hz⟩:∃z,z=x0+4294967296*rest:=⟨_,rfl⟩;have XB:tp<=18446744065119617025:=by rw[H];exact sZ aa XX
    have e1:IntKind.u64.wrap ((g:Int)*(v0:Int))=(tp:Int):=by rw[IntWalk.u64_in _ Abw,H];simp
    have e2:bits .or .u64 ((rest:Int)*4294967296) (x0:Int)=(z:Int):=by rw[or_hi hr Yh,hz]
    have Yd:z<18446744073709551616:=aa;have WF:decide ((4294967296:Int)<=(g:Int))=false:=by rw[decide_eq_false_iff_not];omega
    have Wz:decide (4294967296<=g)=false:=decide_eq_false hb;have HB:=aJ hb;by_cases hc:z<tp
    .obtain⟨N,Xn⟩:=iH.fail (u0:=x0) (v0:=v0) T.o HG.o (by rw[<-H,<-hz];exact hc);have WN:=aJ Xn;clear Xn;clear H hz hb;have WS:(z:Int)<(tp:Int):=aa;clear hc;by_cases l:4294967296<=rest+v1
     .have WM:(4294967296:Int)<=(rest:Int)+(v1:Int):=aa;obtain⟨s1,s2,s3⟩:=iH.stop T.o WN.o l;have S1:=aJ s1;have S2:=aJ s2;have S3:=aJ s3;clear s1 s2 s3;have Wt:=aJ l;clear l;(go_wp2_with fail);go_quiet (fail);go_wp2_with fail
      go_meet
      case rel=>exact⟨g-1,au,S1.o,S2.o,S3.o,C.drewN _⟩
     .have WM:decide ((4294967296:Int)<=(rest:Int)+(v1:Int))=false:=by rw[decide_eq_false_iff_not];omega
      have X5:decide (4294967296<=rest+v1)=false:=decide_eq_false l;have Wt:=aJ l;clear l;(go_wp2_with fail);go_quiet (fail);go_wp2_with fail
      go_roundw
      case rel=>exact⟨g-1,rest+v1,au,au,by have:=Wt.o;omega,WN.o,C.drewN _⟩
      case measure=>simp[intOf]<;>omega
    .obtain⟨s2,s3⟩:=iH.pass (u0:=x0) (v0:=v0) T.o HG.o aa (by rw[<-H,<-hz];omega);have S2:=aJ s2;have S3:=aJ s3;clear s2 s3 H hz hb;have WS:(tp:Int)<=(z:Int):=aa;clear hc;(go_wp2_with fail);go_quiet (fail);go_wp2_with fail
     go_meet
     case rel=>exact⟨g,rfl,by have:=HB.o;omega,S2.o,S3.o,C.drewN _⟩
 case rest=>
  obtain⟨g,rfl,XZ,XF,XE,C⟩:=hcut;obtain⟨qd,WP⟩:∃qd,qd=val (U.drop j)/val v:=⟨_,rfl⟩;rw[<-WP] at XF XE;have Yl:fZ wc gU U:=hU.far C;have Ym:=T.Rh;have W9:val v*qd<=val (U.drop j):=by rw[WP];exact Nat.mul_div_le _ _
  have Xa:val (U.drop j)<val v*(qd+1):=by rw[WP];exact Nat.lt_mul_div_succ _ Ym
  have Xo:qd<4294967296:=by rw[WP];exact T.Uc
  have Xg:=lQ XO;rw[XI.o] at Xg;have WC:val (U.drop (j+(n+3)))=0:=by
   refine drop_zero aa ?_;have h1:=T.fits;have h2:4294967296*val v<=4294967296*4294967296^(n+2):=Nat.mul_le_mul_left _ (Nat.le_of_lt Xg);rw[show n+3=(n+2)+1 from rfl,Nat.pow_succ,Nat.mul_comm (4294967296^(n+2))];omega
  have WH:=aJ WC;have Xk:=aJ WP;have Ww:=aJ W9;have Xc:=aJ Xa;have WT:=aJ WQ;have Yz:=aJ Yl;clear WC WP W9 Xa WQ Yl Xg Ym Wo e0 Yb XW XD Yc Xh XT Xz XV XR Xy;have X3:∀(i y:Nat),v[i]? =some y->∀wr,Only gU wc wr->wr.cell? ⟨bV,oV+i,none⟩=some (.int .u32 (y:Int)):=fun i y R wr ho=>ho.cell_ (C.cell_ (Xr.o i _ (oz R))) Yw;have Yj:=aJ X3;clear X3;go_wp2_with fail
  go_loopw [10,11,75] (fun cv bv iv wr=>∃(i G bo:Nat) (U':List Nat),i<=n+2/\iv=.int .i64 i/\cv=.int .u64 (G:Int)/\bv=.int .u64 (bo:Int)/\G<4294967296/\bo<=1/\FM U U' v j i g G bo/\fZ wr gU U'/\Only gU wc wr) (fun _ _ iv _=>n+2-(intOf iv).toNat)
  case atStart=>exact⟨0,0,0,U,aa,rfl,rfl,rfl,aa,aa,FM.start _ _ _ _,Yz.o,Only.refl _ _⟩
  case round=>
   obtain⟨i,G,bo,U',hi,rfl,rfl,rfl,WK,Wx,hM,F,WO⟩:=hrel;have HM:=aJ hM;clear hM;by_cases Wo:i<n+2
   .obtain⟨x,J,D,K,X4⟩:=F.at_ (k:=j+i) (by have:=HM.o.1;have:=WT.o;omega);obtain⟨y,R⟩:∃y,v[i]? =some y:=⟨_,List.getElem?_eq_getElem (by rw[XI.o];exact Wo)⟩;have I:=XO.at_ R;have WG:=Yj.o i y R wr WO;have Xt:U[j+i]? =some x:=by rw[<-HM.o.2.2.1 _ (Nat.le_refl _)];exact J
    obtain⟨tp,H⟩:∃tp,tp=g*y:=⟨_,rfl⟩;have XB:tp<=18446744065119617025:=by rw[H];exact sZ XZ I
    have e1:IntKind.u64.wrap ((g:Int)*(y:Int))=(tp:Int):=by rw[IntWalk.u64_in _ (by rw[show((g:Int)*(y:Int))=((g*y:Nat):Int) by simp,<-H];omega),H];simp
    obtain⟨p,hp⟩:∃p,p=tp+G:=⟨_,rfl⟩;have e2:(tp:Int)+(G:Int)=(p:Int):=aa;have WX:p<18446744073709551616:=aa;have e3:(p:Int)%4294967296=((p%4294967296:Nat):Int):=aa;have WR:p%4294967296<4294967296:=Nat.mod_lt _ aa;have e4:(p:Int)/4294967296=((p/4294967296:Nat):Int):=aa;have Yx:p/4294967296<4294967296:=aa;have HS:=aJ (HM.step Xt R D Wx (p:=p) (by rw[hp,H]));generalize p%4294967296=pl at*
    generalize p/4294967296=ph at*
    have Q:=aJ F;clear F J R Xt H hp;go_wp2_with fail
    go_roundw
    case rel=>
     refine⟨i+1,ph,ni ((x:Int)-bo-pl),_,aa,au,rfl,by rw[Ii D WR Wx],Yx,sU _,HS.o,Q.set (Ke D WR Wx) (tY _),WO.trans (Only.set _ _ _ _)⟩
    case measure=>simp[intOf]<;>omega
   .obtain rfl:i=n+2:=aa;obtain⟨x,J,D,K,X4⟩:=F.at_ (k:=j+n+2) (by have:=HM.o.1;have:=WT.o;omega);have Xt:U[j+(n+2)]? =some x:=by rw[<-HM.o.2.2.1 _ (Nat.le_refl _)];exact J
    have XA:=QP HM.o XI.o Xt D WK Wx;obtain⟨z,ez,Yd,Wy,WJ,XC⟩:=UQ D WK Wx;have XN:=tY ((x:Int)-bo-G);have XG:=sU ((x:Int)-bo-G);generalize oW ((x:Int)-bo-G)=dg at*
    generalize ni ((x:Int)-bo-G)=Xp at*
    have L:fZ (wr.setCell ⟨gU,j+n+2,none⟩ (.int .u32 ((z:Int)%4294967296))) gU (U'.set (j+(n+2)) dg):=F.set (k:=j+n+2) Wy XN;have X8:(U'.set (j+(n+2)) dg).length=U.length:=by rw[List.length_set];exact HM.o.1
    have Yt:(U'.set (j+(n+2)) dg).take j=U.take j:=by rw[List.take_set_of_le aa];exact HM.o.2.1
    have X9:∀t,j+(n+3)<=t->(U'.set (j+(n+2)) dg)[t]? =U[t]? :=fun t ht=>by rw[List.getElem?_set_ne aa];exact HM.o.2.2.1 _ aa
    have Yo:(U'.set (j+(n+2)) dg)[j+(n+2)]? =some dg:=by rw[List.getElem?_set_self (by rw[HM.o.1];have:=WT.o;omega)]
    have Wp:=P8 WH.o L.2 X8 X9;have HX:=aJ L;have XK:=aJ X8;have Yn:=aJ Yt;have Xj:=aJ X9;have YL:=aJ Yo;have XM:=aJ XA;have Yi:=aJ Wp;have WI:=aJ Wy;generalize U'.set (j+(n+2)) dg=X at*
    have XH:=WO.trans (Only.set wr gU (j+n+2) (.int .u32 ((z:Int)%4294967296)));clear L X8 Yt X9 Yo XA Wp Wy J Xt F;rcases(show g=qd\/g=qd+1 by omega) with WZ|WZ
    .have WB:Xp=0:=Oe (m:=j+(n+2)+1) (q:=g) (V:=val v) XM.o Yi.o (by rw[WZ];exact OY (by have:=WT.o;omega) Ww.o);have YA:=WJ WB;have Xq:=aJ WB;have XY:=aJ WZ;have YD:(z:Int)/9223372036854775808=0:=aa;have Yy:z/9223372036854775808=0:=aa;clear WJ XC WB WZ;(go_wp2_with fail);go_ret;refine⟨aL (by rw[<-Xk.o,XY.o]),X,HX.o,XK.o,Yn.o,?_,(Only.Eu C).trans XH⟩;have h1:=XM.o;rw[Xq.o,XY.o,Nat.mul_zero,Nat.add_zero,Nat.mul_comm qd] at h1;rw[<-Xk.o];exact h1
    .have WA:Xp=1:=QK (U:=U) (X:=X) (j:=j) (m:=j+(n+2)+1) (q:=g) (V:=val v) XM.o XG (by rw[WZ];exact seg_lt hU.2 (by have:=WT.o;omega) Xc.o);have YA:=XC WA;have Ws:=aJ WA;have XY:=aJ WZ;have YD:(z:Int)/9223372036854775808=1:=aa;have Yy:z/9223372036854775808=1:=aa;clear WJ XC WA WZ;(go_wp2_with fail);have W:=aJ XH;clear XH;generalize YG:wr.setCell ⟨gU,j+n+2,none⟩ (.int .u32 ((z:Int)%4294967296))=w2 at*
     clear YG;go_loopw [10,128] (fun cv iv wr=>∃(i G:Nat) (Y:List Nat),i<=n+2/\iv=.int .i64 i/\cv=.int .u64 (G:Int)/\G<=1/\FN X Y v j i G/\fZ wr gU Y/\Only gU wc wr) (fun _ iv _=>n+2-(intOf iv).toNat)
     case atStart=>exact⟨0,0,X,aa,rfl,rfl,aa,FN.start _ _ _,HX.o,W.o⟩
     case round=>
      rename_i Yr _ _ _ _ _
      obtain⟨i,Z,Y,Xf,rfl,rfl,Ye,Xw,F,WO⟩:=hrel;have O:=aJ Xw;clear Xw;by_cases WE:i<n+2
      .obtain⟨x',P,YB,XP,YH⟩:=F.at_ (k:=j+i) (by have:=O.o.1;have:=XK.o;have:=WT.o;omega);obtain⟨y,R⟩:∃y,v[i]? =some y:=⟨_,List.getElem?_eq_getElem (by rw[XI.o];exact WE)⟩;have I:=XO.at_ R;have WG:=Yj.o i y R _ WO;have Xt:X[j+i]? =some x':=by rw[<-O.o.2.2.1 _ (Nat.le_refl _)];exact P
       have HS:=aJ (O.step Xt R (s:=x'+y+Z) rfl);have Q:=aJ F;have f1:(i:Int)<(n:Int)+2:=aa;have f2:(i:Int)<(n:Int)+3:=aa;clear F P R Xt;(go_wp2_with fail);go_quiet (fail);go_wp2_with fail
       go_roundw
       case rel=>
        refine⟨i+1,(x'+y+Z)/4294967296,_,aa,au,au,aa,HS.o,fZ.set (Q.drewN _) aa (Nat.mod_lt _ aa),(WO.trans (Only.Eu ((Ext.refl _).drewN _))).trans (Only.set _ _ _ _)⟩
       case measure=>simp[intOf]<;>omega
      .obtain rfl:i=n+2:=aa;obtain⟨dd,Xb,X6,XL,Yp⟩:=F.at_ (k:=j+n+2) (by have:=O.o.1;have:=XK.o;have:=WT.o;omega);have Yf:X[j+(n+2)]? =some dd:=by rw[<-O.o.2.2.1 _ (Nat.le_refl _)];exact Xb
       have Xe:∀z:Int,z=((dd+Z)%4294967296:Nat)->fZ (wr.setCell ⟨gU,j+n+2,none⟩ (.int .u32 z)) gU (Y.set (j+(n+2)) ((dd+Z)%4294967296)):=fun z hz=>F.set (k:=j+n+2) hz (Nat.mod_lt _ aa);have Wt:=aJ Xe;have XA:=XM.o;rw[Ws.o,Nat.mul_one,XY.o] at XA;have X7:(Y.set (j+(n+2)) ((dd+Z)%4294967296)).length=U.length:=by rw[List.length_set,O.o.1];exact XK.o
       have Yk:(Y.set (j+(n+2)) ((dd+Z)%4294967296)).take j=U.take j:=by rw[List.take_set_of_le aa,O.o.2.1];exact Yn.o
       have Yq:∀t,j+(n+3)<=t->(Y.set (j+(n+2)) ((dd+Z)%4294967296))[t]? =U[t]? :=fun t ht=>by rw[List.getElem?_set_ne aa,O.o.2.2.1 _ aa];exact Xj.o t ht
       have Xv:=QO (q:=qd) (V:=val v) XA O.o XI.o rfl Yf (P8 WH.o (Xe _ rfl).2 X7 Yq) (OY (by have:=WT.o;omega) Ww.o) X6 Ye;have WY:=aJ Xv;have YE:=aJ X7;have YC:=aJ Yk;clear Xe XA X7 Yk Yq Xv Yf Xb F;have WU:1<=g:=by rw[XY.o];omega
       (go_wp2_with fail);go_ret;refine⟨aL (by rw[<-Xk.o];have:=XY.o;omega),_,Wt.o _ aa,YE.o,YC.o,?_,((Only.Eu C).trans WO).trans (Only.set _ _ _ _)⟩;rw[<-Xk.o,Nat.mul_comm (val v)];exact WY.o
theorem Ri{x}(D:0<x)(J:x<4294967296):∃s:Nat,s<32/\32-(Lib.bitLen x:Int)=(s:Int)/\2147483648<=x*2^s/\x*2^s<4294967296:=by
 obtain⟨F,l,B⟩:=Lib.bitLenAux_bounds 64 x aa aa;have C:=Lib.bitLen_le x 32 aa J;unfold Lib.bitLen at C⊢;generalize Lib.bitLenAux 64 x=L at*
 obtain⟨t,rfl⟩:∃t,L=t+1:=⟨L-1,aa⟩;refine⟨31-t,aa,aa,?_,?_⟩
 .have j:2^t*2^(31-t)<=x*2^(31-t):=Nat.mul_le_mul_right _ Aby;rw[<-Nat.pow_add,show t+(31-t)=31 by omega] at j;exact j
 .have j:x*2^(31-t)<2^(t+1)*2^(31-t):=Nat.mul_lt_mul_of_pos_right B (Nat.pow_pos aa);rw[<-Nat.pow_add,show t+1+(31-t)=32 by omega] at j;exact j
def MJ(A B n m c d a b w)(C:RM w A n c (bZ a))(F:RM w B m d (bZ b))(j:a<b)(hn:n<=1000000):
  Calls Tryz.prog 204 #[.slice A n c,.slice B m d] w fun e w'=>∃q r,e=.returned (.tuple #[q,r])/\SlM (bZ (a/b)) q w'/\SlM (bZ (a%b)) r w'/\Ext w w':=by
 have D:decide (mI a b<0)=true:=by rw[kH];exact decide_eq_true j
 go_enter Tryz.func204,Tryz.ntmps204;(go_wp2_with fail);refine(iE A B n m c d _ _ _ C F (bJ _) (bJ _)).mono ?_;rintro e w1 ⟨rfl,H⟩;rw[aM,aM];(go_wp2_with (at_builtin;refine iY jQ rfl (.const (.slice none 0 0)) (.tmp 16) rfl w1.heap.size _ 0 [] rf (World.ownsRow_nil _ _ _ _) _ n _ (mg (bZ a)) rf (C.ext H).rd zG aa aa aa ?_));intro J w2 l G;have P:=fq G (Ext.refl _) Aa1;have I:=aJ l;clear l;go_wp2
 go_ret2
 refine⟨_,_,rfl,⟨none,0,0,rfl,?_⟩,?_,H.trans P⟩
 .rw[Nat.div_eq_of_lt j,iw];exact RM.nil
 .rw[Nat.mod_eq_of_lt j];exact RM.jJ (by simpa using I.o) (oC _)
def JX(A B la n c d a b w)(hA:RM w A la c (bZ a))(hB:RM w B (n+2) d (bZ b))(Wq:b<=a)(XA:la<=10000):
  Calls Tryz.prog 204 #[.slice A la c,.slice B (n+2) d] w fun e w'=>∃q r,e=.returned (.tuple #[q,r])/\SlM (bZ (a/b)) q w'/\SlM (bZ (a%b)) r w'/\Ext w w':=by
 have Wv:decide (mI a b<0)=false:=by rw[kH];exact decide_eq_false aa
 have WY:=aJ hA.len;have Wy:=hB.len;have X4:n+2<=la:=by
  exact AdE
 obtain⟨ad,x,rfl,_,J,D,_⟩:=hB.at_ (k:=n+1) aa;have F:0<x:=by
  have:=bJ b x (last_at Wy J);omega
 have HX:=aJ J;clear J;have Wx:=aJ Wy;clear Wy;have t1:(((n+2:Nat):Int)==1)=false:=ae;have t2:((n:Int)+2==1)=false:=ae;go_enter Tryz.func204,Tryz.ntmps204;(go_wp2_with fail);refine(iE A (some ad) la (n+2) c d _ _ _ hA hB (bJ _) (bJ _)).mono ?_;rintro e w1 ⟨rfl,H⟩;rw[aM,aM];obtain⟨O,XI⟩:=(hB.ext H).TR HX.o;(go_wp2_with fail);obtain⟨s,hs,Wo,Ww,Ws⟩:=Ri F D;refine(Tryz.bits_LeadingZeros32 (x:Int) _ aa aa).mono ?_;rintro e wz ⟨rfl,R⟩;rw[R];clear R;rw[Int.toNat_natCast,Wo];clear Wo;have hN:Gd b n s x:=⟨Wx.o,HX.o,Ww,Ws,hs⟩;have HN:=aJ hN;clear hN;clear O XI;(go_wp2_with fail);refine(ui A la c s (bZ a) _ (hA.ext H) aa aa).mono ?_;rintro e w2 ⟨rfl,U,hU,G,WC,P⟩;rw[aM] at WC;(go_wp2_with fail);refine(ui (some ad) (n+2) d s (bZ b) _ (hB.ext (H.trans P)) aa aa).mono ?_;rintro e w3 ⟨rfl,Q,T,M,WM,Wp⟩;rw[aM] at WM;obtain⟨hV,v1,v0,Wu,WV,X8⟩:=HN.digits M T.2 WM;have W9:n+2<=n+2+1:=aa;have q1:(0:Int)<=(n:Int)+2:=aa;have WN:=jf ((la:Int)-((n:Int)+2)+1) (la-n-1) aa aa;(go_wp2_with fail);clear WN;obtain⟨V,WQ⟩:∃V,V=val (Q.take (n+2)):=⟨_,rfl⟩;have WE:V=b*2^s:=by rw[WQ,hV]
 have Z:0<V:=by
  exact Adk
 have Xg:V<4294967296^(n+2):=by rw[WE];exact HN.lt
 have XL:fZ (w3.alloc (.cells (mg (List.replicate (la-n-1) 0)).toArray 208)) w1.heap.size U:=hU.far (Wp.alloc _);have XC:fZ (w3.alloc (.cells (mg (List.replicate (la-n-1) 0)).toArray 208)) w2.heap.size Q:=T.far (Ext.new _ _);have Wt:lS U [] (a*2^s) V (la-n-1):=by
  exact Ac3
 have WF:=aJ WQ;have Xn:=aJ WE;clear WQ WE hV WC WM;have WG:=P.size;have WT:=Wp.size;have Yk:=hU.1.lt;have Yl:=T.1.lt;have l:=aJ G;have WA:=aJ M;have S:=aJ Wu;have XU:=aJ WV;have WJ:=aJ Wt;clear Wt G M Wu WV;have XK:=aJ XL;have Xq:=aJ XC;clear XL XC hU T;have Wz:Ext w w3:=(H.trans P).trans Wp;go_loopw [11] (fun iv wr=>∃(k:Nat) (U qs:List Nat),k<=la-n-1/\iv=.int .i64 ((k:Int)-1)/\U.length=la+1/\k+qs.length=la-n-1/\lS U qs (a*2^s) V k/\fZ wr w1.heap.size U/\fZ wr w2.heap.size Q/\fZ wr w3.heap.size (List.replicate k 0++qs)/\Ext w wr) (fun iv _=>(intOf iv+1).toNat)
 case atStart=>exact⟨la-n-1,U,[],Nat.le_refl _,by congr 1;omega,l.o,ag,WJ.o,XK.o,Xq.o,⟨by simpa using Blk.new w3 _ _,by simpa using Dig.replicate _⟩,Wz.alloc _⟩
 case round=>
  clear XK Xq WJ l;obtain⟨k,U,qs,hk,rfl,G,Xp,XM,hU,T,hq,C⟩:=hrel;have l:=aJ G;clear G;have XO:=aJ Xp;clear Xp;have WB:=aJ XM;clear XM;by_cases h0:k=0
  .subst h0;have W:=WB.done;have XJ:=aJ W;clear W;have X5:RM wr (some ⟨w3.heap.size,0,none⟩) (la-n-1) (la-n-1) qs:=by
    exact Adv
   have X7:RM wr (some ⟨w1.heap.size,0,none⟩) (n+2) (n+2) (U.take (n+2)):=(hU.rm (n:=la+1) l.o aa).take aa aa aa;go_wp2;have q2:(0:Int)<=(n:Int)+2:=aa;have q3:(n:Int)+2<=(la:Int)+1:=aa;refine bz 9 [(true,0),(true,2),(true,3),(true,4),(true,5),(true,6),(false,1),(false,7),(true,8)] ah ah ?_;refine aS [0,2,3,4,5,6] [(false,1),(false,7),(true,8)] _ ah ?_;simp only[bO,aV,List.cons_append,List.nil_append];(repeat (go_big_quiet_step (fail)));refine wpQuiet_nil ?_;refine aR 1 [(false,7),(true,8)] ah ?_;intro K I;simp only[aV];(go_wp2_with fail);refine(jK _ _ _ qs _ (X5.ext (Ext.refl wr).drew)).mono ?_;rintro e wa ⟨va,rfl,WR,Xj⟩;have Xj:=Xj.jd;go_wp2;refine I _ _ ⟨⟨wa,Xj⟩,rfl⟩ ?_;clear I K;refine aR 7 [(true,8)] ah ?_;intro K I;simp only[aV];(go_wp2_with fail);refine(BJ _ (n+2) _ s (U.take (n+2)) _ (X7.ext Xj) aa aa).mono ?_;rintro e wb ⟨vb,rfl,WU,Xh⟩;have WK:=Xj.trans Xh;go_wp2;refine I _ _ ⟨⟨wb,WK⟩,rfl⟩ ?_;clear I K;refine aS [8] [] _ ah ?_;simp only[bO,aV,List.cons_append,List.nil_append];(repeat (go_big_quiet_step (fail)));refine wpQuiet_nil ?_;simp only[bP,List.drop_succ_cons,List.drop_zero];have XP:val qs=a/b:=by rw[XJ.o.1,Xn.o,Am]
   have Xt:val (U.take (n+2))/2^s=a%b:=by
    exact AcI
   rw[XP] at WR;rw[Xt] at WU;have Yb:=aJ (WR.ext Xh);have X6:=aJ WU;clear WR WU XP Xt;go_wp2
   go_ret2
   exact⟨_,_,rfl,Yb.o,X6.o,C.trans WK⟩
  .obtain⟨j,rfl⟩:∃j,k=j+1:=⟨k-1,aa⟩;rw[show((j+1:Nat):Int)-1=(j:Int) by omega];have Xe:RM wr (some ⟨w2.heap.size,0,none⟩) (n+2) (n+2) (Q.take (n+2)):=(T.rm (n:=n+3) WA.o aa).take aa aa aa;have q2:(0:Int)<=(j:Int):=aa;have q3:(j:Int)<=(j:Int)+((n:Int)+2)+1:=aa;have q4:(j:Int)+((n:Int)+2)+1<=(la:Int)+1:=aa;have q5:((j:Int)+((n:Int)+2)+1-(j:Int)).toNat=n+3:=aa;(go_wp2_with fail);rw[show j+(n+2)+1-j=n+3 by omega];refine(EM (some ⟨w2.heap.size,0,none⟩) w1.heap.size j n _ _ v1 U (Q.take (n+2)) _ hU Xe (fun ad e=>by cases e;simp;omega) aa aa Ab3 aa aa S.o X8 (by rw[<-WF.o];exact WB.o.2)).mono ?_;rintro e w5 ⟨rfl,U',XN,N,WH,L,WO⟩;rw[<-WF.o] at L;rw[<-WF.o];have Xo:val (U.drop j)/V<4294967296:=by
    rw[Nat.div_lt_iff_lt_mul Z];obtain⟨xj,WL⟩:∃xj,U[j]? =some xj:=⟨_,List.getElem?_eq_getElem Ab3⟩;exact Kr hU.2 WL WB.o.2
   obtain⟨qd,WP⟩:∃qd,qd=val (U.drop j)/V:=⟨_,rfl⟩;rw[<-WP] at L Xo;rw[<-WP];have WS:fZ w5 w3.heap.size (List.replicate (j+1) 0++qs):=⟨WO.blk hq.1 aa,hq.2⟩;have XD:fZ w5 w2.heap.size Q:=⟨WO.blk T.1 aa,T.2⟩;obtain⟨z,_,_,Y,WI⟩:=WS.at_ (k:=j) ae;have Xw:=WB.step Ab3 N WH L WP Z;have Xr:=aJ Xw;have XB:=aJ XN;have Xf:=aJ XD;have X9:=aJ WS;have Xv:=aJ N;clear Xw XN XD WS N WH L hU Xe T hq WP;have Ym:=C.size;have XG:Ext w w5:=WO.ext C (by have:=H.size;omega);have q6:(j:Int)<((la-n-1:Nat):Int):=aa;go_wp2;go_roundw
   case rel=>
    exact AaP
   case measure=>simp[intOf]<;>omega
def Ka(A B n c d a b w)(hA:RM w A n c (bZ a))(hB:RM w B 1 d (bZ b))(Wq:b<=a)(hn:n<=1000000):
  Calls Tryz.prog 204 #[.slice A n c,.slice B 1 d] w fun e w'=>∃q r,e=.returned (.tuple #[q,r])/\SlM (bZ (a/b)) q w'/\SlM (bZ (a%b)) r w'/\Ext w w':=by
 have Wv:decide (mI a b<0)=false:=by rw[kH];exact decide_eq_false aa
 obtain⟨ad,x,rfl,_,J,D,K⟩:=hB.at_ (k:=0) aa;have Z:=hB.len;have U:bZ b=[x]:=by
  match hd:bZ b,Z,J with
  |[y],_,h=>simp at h;rw[h]
 have hb:b=x:=by rw[<-aM b,U];simp[val]
 subst hb;have T:0<b:=by
  exact AcA
 have WY:=aJ hA.len;have HC:=aJ K;clear K J Z U;go_enter Tryz.func204,Tryz.ntmps204;(go_wp2_with fail);refine(iE A (some ad) n 1 c d _ _ _ hA hB (bJ _) (bJ _)).mono ?_;rintro e w1 ⟨rfl,H⟩;rw[aM,aM];(go_wp2_with (at_builtin;refine iY jQ rfl (.const (.slice none 0 0)) (.tmp 22) rfl w1.heap.size _ 0 [] rf (World.ownsRow_nil _ _ _ _) _ n _ (mg (bZ a)) rf (hA.ext H).rd zG aa aa aa ?_));intro v2 w2 ho hg;have P:=fq hg (Ext.refl _) Aa1;have M:=H.trans P;rcases xG.jJ ho (oC _) with ⟨_,h1,h2⟩|⟨g,G,r,rfl,XG,F,I,l⟩
 .exfalso;rw[mG] at h2;omega
 .clear ho hg;have O:w2.cell? ad=some (.int .u32 (b:Int)):=M.cell_ HC.o;(go_wp2_with fail);refine(Gn g n G b (bZ a) r _ F WY.o hn T D).mono ?_;rintro e w3 ⟨rfl,q,hq,R,j,WO⟩;rw[aM] at j;rw[aM];have Wp:Ext w w3:=WO.ext M (Nat.le_trans H.size XG);have Y:a%b<4294967296:=Nat.lt_trans (Nat.mod_lt _ T) D;generalize hr:a%b=S at*
  have W9:=aJ hr;clear hr;have Q:=aJ j;clear j;have C:=hq.rm R I l;have WA:=aJ R;clear R;(go_wp2_with fail);refine(jK _ n G q _ C).mono ?_;rintro e w4 ⟨v4,rfl,W,N⟩;rw[Q.o] at W;(go_wp2_with fail);refine(jK _ 1 1 [S] _ (RM.blk (Blk.new _ _ _) (Dig.one Y) rfl aa)).mono ?_;rintro e w5 ⟨v5,rfl,WC,V⟩;have L:=W.ext ((Ext.new w4 _).trans V);go_wp2
  go_ret2
  refine⟨_,_,rfl,L,by rw[W9.o];simpa[val] using WC,(Wp.trans N).trans ((Ext.new w4 _).trans V)⟩
def zU(A B n m c d a b w)(l:RM w A n c (bZ a))(j:RM w B m d (bZ b))(hb:0<b)(hn:n<=10000):
  Calls Tryz.prog 204 #[.slice A n c,.slice B m d] w fun e w'=>∃q r,e=.returned (.tuple #[q,r])/\SlM (bZ (a/b)) q w'/\SlM (bZ (a%b)) r w'/\Ext w w':=by
 rcases Nat.lt_or_ge a b with h|h
 .exact MJ A B n m c d a b w l j h aa
 .match m,j with
  |0,j=>
   have C:=j.empty;rw[mG] at C;omega
  |1,j=>exact Ka A B n c d a b w l j h aa
  |k+2,j=>exact JX A B n k c d a b w l j h hn
def PL{x y q r}(R:y≠0)(h:q*y+r=x)(j:0<=r)(B:r<(y.natAbs:Int)):x/y=q/\x%y=r:=by
 rcases Int.lt_or_lt_of_ne R with hn|hp
 .have l:(-y)*(-q)+r=x:=by rw[Int.neg_mul_neg,Int.mul_comm];exact h
  have:=(Int.ediv_emod_unique (a:=x) (b:= -y) (q:= -q) (r:=r) aa).2 ⟨aa,j,aa⟩;rw[Int.ediv_neg,Int.emod_neg] at this;exact⟨aa,this.2⟩
 .exact(Int.ediv_emod_unique hp).2 ⟨by rw[Int.mul_comm] at h;omega,j,aa⟩
theorem FQ(z):zOf (decide (z<0)) z.natAbs=z:=by
 unfold zOf;by_cases h:z<0
 .simp[h];omega
 .simp[h];omega
def GR(a b m n):zOf a m*zOf b n=zOf (a !=b) (m*n):=by
 cases a<;>cases b<;>simp[zOf,Int.neg_mul,Int.mul_neg]
theorem ru{x y}(R:y≠0)(h:x<0->x.natAbs%y.natAbs=0):x/y=zOf (decide (x<0) !=decide (y<0)) (x.natAbs/y.natAbs)/\x%y=((x.natAbs%y.natAbs:Nat):Int):=by
 have hp:0<y.natAbs:=aa;have l:=Nat.div_add_mod x.natAbs y.natAbs;have B:=Nat.mod_lt x.natAbs hp;refine PL R ?_ aa aa;have e:zOf (decide (x<0) !=decide (y<0)) (x.natAbs/y.natAbs)*y=zOf (decide (x<0)) (x.natAbs/y.natAbs*y.natAbs):=by
  have j:=GR (decide (x<0) !=decide (y<0)) (decide (y<0)) (x.natAbs/y.natAbs) y.natAbs;rw[FQ] at j;rw[j];congr 1;cases decide (x<0)<;>cases decide (y<0)<;>rfl
 rw[e];rw[Nat.mul_comm] at l;generalize x.natAbs/y.natAbs*y.natAbs=t at*
 unfold zOf;by_cases J:x<0
 .have:=h J;simp[J];omega
 .simp[J];omega
theorem yc{x y}(R:y≠0)(J:x<0)(h:0<x.natAbs%y.natAbs):x/y=zOf (decide (x<0) !=decide (y<0)) (x.natAbs/y.natAbs+1)/\x%y=((y.natAbs-x.natAbs%y.natAbs:Nat):Int):=by
 have hp:0<y.natAbs:=aa;have l:=Nat.div_add_mod x.natAbs y.natAbs;have B:=Nat.mod_lt x.natAbs hp;refine PL R ?_ aa aa;have e:zOf (decide (x<0) !=decide (y<0)) (x.natAbs/y.natAbs+1)*y=zOf (decide (x<0)) ((x.natAbs/y.natAbs+1)*y.natAbs):=by
  have j:=GR (decide (x<0) !=decide (y<0)) (decide (y<0)) (x.natAbs/y.natAbs+1) y.natAbs;rw[FQ] at j;rw[j];congr 1;cases decide (x<0)<;>cases decide (y<0)<;>rfl
 rw[e,Nat.add_mul,Nat.one_mul];rw[Nat.mul_comm] at l;generalize x.natAbs/y.natAbs*y.natAbs=t at*
 unfold zOf;simp[J];omega
def Dr{x y:Int}(R:y≠0)(J:x<0)(h:0<x.natAbs%y.natAbs):x.natAbs/y.natAbs+1<=x.natAbs:=by
 have hp:0<y.natAbs:=aa;have B:=Nat.div_add_mod x.natAbs y.natAbs;have j:=Nat.mod_lt x.natAbs hp;have l:1*(x.natAbs/y.natAbs)<=y.natAbs*(x.natAbs/y.natAbs):=Nat.mul_le_mul_right _ hp;omega
def NB (q r e:Int) (v:Value) (w:World):Prop:=∃a b,v=.tuple #[a,b,.int .i64 e]/\RI w a q/\RI w b r

section
variable {w w1:World} {x y r s:Obj} {cs:Array Value} {t:TypeId}
def xw(J:Ext ((((w.alloc x).alloc y).alloc r).alloc s) w1):Ext w w1:=((((Ext.new w _).alloc _).alloc _).alloc _).trans J
def ve(J:Ext ((((w.alloc (.cells cs t)).alloc y).alloc r).alloc s) w1):Blk w1 w.heap.size t cs:=((((Blk.new w t cs).alloc _).alloc _).alloc _).ext J
def rW(J:Ext ((((w.alloc x).alloc (.cells cs t)).alloc r).alloc s) w1):Blk w1 (w.heap.size+1) t cs:=(((Blk.new' t cs ag).alloc _).alloc _).ext J
def F5(J:Ext ((((w.alloc x).alloc y).alloc (.cells cs t)).alloc s) w1):Blk w1 (w.heap.size+2) t cs:=((Blk.new' t cs ag).alloc _).ext J
def Gh(J:Ext ((((w.alloc x).alloc y).alloc r).alloc (.cells cs t)) w1):Blk w1 (w.heap.size+3) t cs:=(Blk.new' t cs ag).ext J
end
def vP{x y:Int}(M:x.natAbs<lim):x.natAbs/y.natAbs<lim:=Nat.lt_of_le_of_lt (Nat.div_le_self _ _) M
def Kl{x y:Int}(M:x.natAbs<lim):x.natAbs%y.natAbs<lim:=Nat.lt_of_le_of_lt (Nat.mod_le _ _) M
def tT{s k z}(h:z=zOf s k)(j:k<lim):oZ (zOf s k)=(z,0):=by rw[kW (by rw[sW];exact j),h]
def kL{k n}(h:(bZ k).length=n):0<n↔0<k:=by
 rcases Nat.eq_zero_or_pos k with j|j
 .subst j;rw[iw] at h;simp at h;omega
 .have:bZ k≠[]:=fun e=>by rw[mG] at e;omega
  have:=List.length_pos_iff.2 this;omega
def Nu(v u x y w)(L:RI w v x)(l:RI w u y)(M:x.natAbs<lim)(O:y.natAbs<lim)(WF:y≠0):
  CV 195 #[v,u] w fun v w'=>NB (x/y) (x%y) 0 v w':=by
 have S:=aJ (RI.valid L M);have Wu:=aJ (RI.valid l O);obtain⟨A,n,c,rfl,J⟩:=L;obtain⟨B,m,d,rfl,R⟩:=l;have hn:=J.j3 M;have hm:=R.j3 O;have Xk:0<m:=(kL R.len).2 aa;have t1:((m:Int)==0)=false:=ae;have t2:(m==0)=false:=ae;generalize WN:decide (x<0)=sx at*
 generalize WM:decide (y<0)=sy at*
 have WI:=aJ WN;have WL:=aJ WM;clear WN WM;go_enter Tryz.func195,Tryz.ntmps195;(go_wp2_with fail);refine(gK _ A n c _ _ (J.ext ((((Ext.new w _).alloc _).alloc _).alloc _))).mono ?_;rintro e w1 ⟨rfl,H⟩;rw[S.o];have c0:=(ve H).cell;have c1:=(rW H).cell;(go_wp2_with fail);refine(gK _ B m d _ _ (R.ext (xw H))).mono ?_;rintro e w2 ⟨rfl,P⟩;rw[Wu.o];clear c0 c1;have P:=H.trans P;have c0:=(ve P).cell;have c1:=(rW P).cell;(go_wp2_with fail);refine(zU A B n m c d x.natAbs y.natAbs _ (J.ext (xw P)) (R.ext (xw P)) aa aa).mono ?_;rintro e w3 ⟨q,r,rfl,⟨Aq,nq,cq,rfl,T⟩,⟨Ar,nr,cr,rfl,hR⟩,Wp⟩;clear c0 c1;have Wp:=P.trans Wp;have c0:=(ve Wp).cell;have c1:=(rW Wp).cell;have WK:=kL hR.len;by_cases D:sx=true/\0<nr
 .obtain⟨rfl,WS⟩:=D;have F:x<0:=of_decide_eq_true WI.o;have Wz:=WK.1 WS;have WR:=yc (x:=x) (y:=y) WF F Wz;rw[WI.o,WL.o] at WR;have U:=aJ WR;clear WR;have Ww:=aJ (Dr WF F Wz);have X6:nq<=400:=by have:=T.len;have:=jq (vP (y:=y) M);omega
  have Ws:=Nat.mod_lt x.natAbs (show 0<y.natAbs by omega);have WP:nr<=m:=by
   exact Acd
  have WV:(0:Int)<(nr:Int):=aa;have WO:=aJ Ws;clear Ws F Wz WK;(go_wp2_with fail);refine(zk Aq _ nq 1 cq 1 _ [1] _ (T.ext (Ext.new w3 _)) (RM.blk (Blk.new _ _ _) (Dig.one aa) rfl aa) aa aa).mono ?_;rintro e w4 ⟨v4,rfl,⟨Aq,nq,cq,rfl,T⟩,N⟩;rw[aM,show val [1]=1 from rfl] at T;have WH:=(Ext.new w3 _).trans N;have W:=hR.ext WH;have N:=Wp.trans WH;clear c0 c1 hR;have c1:=(rW N).cell;(go_wp2_with fail);refine(uw B Ar m nr d cr _ _ _ (R.ext (xw N)) W aa WP (by rw[aM,aM];exact Nat.le_of_lt WO.o)).mono ?_;rintro e w5 ⟨v5,rfl,⟨Ar,nr,cr,rfl,hR⟩,Wt⟩;rw[aM,aM] at hR;have T:=T.ext Wt;have Wt:=N.trans Wt;clear c1;have c0:=(ve Wt).cell;have c1:=(rW Wt).cell;clear N WH;obtain⟨zq,Wx⟩:∃z,z=x/y:=⟨_,rfl⟩;obtain⟨zr,Wy⟩:∃z,z=x%y:=⟨_,rfl⟩;(go_wp2_with fail);refine(iF _ Aq nq cq _ _ T).mono ?_;rintro e w4 ⟨v4,rfl,j,N⟩;have Z:=aJ Wx;have Wv:=aJ Wy;clear Wx Wy;have G:=Z.trans U.o.1;simp only[Bool.true_bne] at G;rw[aM,tT G (Nat.lt_of_le_of_lt Ww.o M)] at j;have WE:=aJ G;clear G;obtain⟨u4,rfl,A4,n4,c4,rfl,C⟩:=j;have W:=hR.ext N;have N:=Wt.trans N;clear c0 c1;have b4:=F5 N;have WQ:=b4.cell;have f4:=b4.frozen;obtain⟨k1,k2,k3⟩:=je (xw N) aa b4 (decide (zq<0)) A4 n4 c4;have WC:=k3 _ _ _ _ W;have Y:=k3 _ _ _ _ C;have b5:=((Gh N).far (p:=⟨w.heap.size+2,0,none⟩) ag (.bool (decide (zq<0)))).far (p:=⟨w.heap.size+2,1,none⟩) ag (.slice A4 n4 c4);clear k3;have K1:=aJ k1;have V:=aJ k2;have Q:=aJ Y;have Xj:=aJ WC;have Wq:=aJ b5;clear k1 k2 Y WC b5 C W T hR;(go_wp2_with fail);refine(iF false Ar _ cr _ _ Xj.o).mono ?_;rintro e w6 ⟨v6,rfl,j,Wo⟩;rw[aM,tT (show zr=zOf false _ from Wv.o.trans U.o.2) (Nat.lt_of_le_of_lt (Nat.sub_le _ _) O)] at j;exact Aaj
 .have WR:=ru (x:=x) (y:=y) WF (fun h=>by
   have h1:sx=true:=by rw[<-WI.o];exact decide_eq_true h
   have:¬0<nr:=fun h2=>D ⟨h1,h2⟩;rw[WK] at this;omega)
  rw[WI.o,WL.o] at WR;have U:=aJ WR;clear WR;have WT:sx=false\/(sx=true/\nr=0):=by
   cases sx
   .exact .inl rfl
   .simp at D;exact .inr ⟨rfl,aa⟩
  clear D WK;rcases WT with rfl|⟨rfl,rfl⟩
  all_goals
   obtain⟨zq,Wx⟩:∃z,z=x/y:=⟨_,rfl⟩;obtain⟨zr,Wy⟩:∃z,z=x%y:=⟨_,rfl⟩;(go_wp2_with fail);refine(iF _ Aq nq cq _ _ T).mono ?_;rintro e w4 ⟨v4,rfl,j,N⟩;have Z:=aJ Wx;have Wv:=aJ Wy;clear Wx Wy;have G:=Z.trans U.o.1;simp only[Bool.false_bne,Bool.true_bne] at G;rw[aM,tT G (vP M)] at j;have WE:=aJ G;clear G;obtain⟨u4,rfl,A4,n4,c4,rfl,C⟩:=j;have W:=hR.ext N;have N:=Wp.trans N;clear c0 c1;have b4:=F5 N;have WQ:=b4.cell;have f4:=b4.frozen;obtain⟨k1,k2,k3⟩:=je (xw N) aa b4 (decide (zq<0)) A4 n4 c4;have WC:=k3 _ _ _ _ W;have Y:=k3 _ _ _ _ C;have b5:=((Gh N).far (p:=⟨w.heap.size+2,0,none⟩) ag (.bool (decide (zq<0)))).far (p:=⟨w.heap.size+2,1,none⟩) ag (.slice A4 n4 c4);clear k3;have K1:=aJ k1;have V:=aJ k2;have Q:=aJ Y;have Xj:=aJ WC;have Wq:=aJ b5;clear k1 k2 Y WC b5 C W T hR;(go_wp2_with fail);refine(iF false Ar _ cr _ _ Xj.o).mono ?_;rintro e w6 ⟨v6,rfl,j,Wo⟩;rw[aM,tT (show zr=zOf false _ from Wv.o.trans U.o.2) (Kl M)] at j;exact Aaj
def I8(v u x y w)(L:RI w v x)(l:RI w u y)(M:x.natAbs<lim)(O:y.natAbs<lim)(WF:y≠0):
  CV 182 #[v,u] w fun v w'=>NB (x/y) (x%y) 0 v w':=by
 have S:=aJ (RI.valid L M);have Wu:=aJ (RI.valid l O);obtain⟨A,n,c,rfl,J⟩:=L;obtain⟨B,m,d,rfl,R⟩:=l;have hn:=J.j3 M;have hm:=R.j3 O;have Xk:0<m:=(kL R.len).2 aa;have t1:((m:Int)==0)=false:=ae;have t2:(m==0)=false:=ae;generalize WN:decide (x<0)=sx at*
 generalize WM:decide (y<0)=sy at*
 have WI:=aJ WN;have WL:=aJ WM;clear WN WM;go_enter Tryz.func182,Tryz.ntmps182;(go_wp2_with fail);refine(fE _ A n c _ _ (J.ext ((((Ext.new w _).alloc _).alloc _).alloc _))).mono ?_;rintro e w1 ⟨rfl,H⟩;rw[S.o];have c0:=(ve H).cell;have c1:=(rW H).cell;(go_wp2_with fail);refine(fE _ B m d _ _ (R.ext (xw H))).mono ?_;rintro e w2 ⟨rfl,P⟩;rw[Wu.o];clear c0 c1;have P:=H.trans P;have c0:=(ve P).cell;have c1:=(rW P).cell;(go_wp2_with fail);refine(yB A B n m c d x.natAbs y.natAbs _ (J.ext (xw P)) (R.ext (xw P)) aa aa).mono ?_;rintro e w3 ⟨q,r,rfl,⟨Aq,nq,cq,rfl,T⟩,⟨Ar,nr,cr,rfl,hR⟩,Wp⟩;clear c0 c1;have Wp:=P.trans Wp;have c0:=(ve Wp).cell;have c1:=(rW Wp).cell;have X6:nq<=400:=by have:=T.len;have:=jq (vP (y:=y) M);omega
 have WK:nr<=400:=by have:=hR.len;have:=jq (Kl (y:=y) M);omega
 cases sx
 .have WR:=ru (x:=x) (y:=y) WF (fun h=>absurd h (of_decide_eq_false WI.o));rw[WI.o,WL.o] at WR;have U:=aJ WR;clear WR;have WA:Hid (∀z:Int,z=x/y->z.natAbs<lim):=aJ (fun z hz=>by rw[hz,U.o.1,sW];exact vP M);obtain⟨zq,Wx⟩:∃z,z=x/y:=⟨_,rfl⟩;obtain⟨zr,Wy⟩:∃z,z=x%y:=⟨_,rfl⟩;have Z:=aJ Wx;have Wv:=aJ Wy;clear Wx Wy;have G:=Z.trans U.o.1;simp only[Bool.false_bne] at G;exact Aah
 ·(go_wp2_with fail);refine(il Ar nr cr _ _ hR aa).mono ?_;rintro e WX ⟨v3,rfl,⟨At,nt,ct,rfl,hT⟩,WU⟩;rw[aM] at hT;have WT:=kL hT.len;have T:=T.ext WU;have hR:=hR.ext WU;have Wp:=Wp.trans WU;clear c0 c1;have c0:=(ve Wp).cell;have c1:=(rW Wp).cell;by_cases WQ:0<nt
  .have F:x<0:=of_decide_eq_true WI.o;have Wz:=WT.1 WQ;have WR:=yc (x:=x) (y:=y) WF F Wz;rw[WI.o,WL.o] at WR;have U:=aJ WR;clear WR;have Ww:=aJ (Dr WF F Wz);have WA:Hid (∀z:Int,z=x/y->z.natAbs<lim):=aJ (fun z hz=>by rw[hz,U.o.1,sW];exact Nat.lt_of_le_of_lt Ww.o M);have Ws:=Nat.mod_lt x.natAbs (show 0<y.natAbs by omega);have WP:nr<=m:=by
    exact Acd
   have WV:(0:Int)<(nt:Int):=aa;have WO:=aJ Ws;clear Ws F Wz WT;(go_wp2_with fail);refine(Da Aq _ nq 1 cq 1 _ [1] _ (T.ext (Ext.new WX _)) (RM.blk (Blk.new _ _ _) (Dig.one aa) rfl aa) aa aa).mono ?_;rintro e w4 ⟨v4,rfl,⟨lq,⟨Aq,WY,cq,rfl,T⟩,XM,XK⟩,N⟩;rw[aM,show val [1]=1 from rfl] at XM;have Xa:WY<=402:=by have:=T.len;omega
   have W9:=aJ XM;clear XM;have WH:=(Ext.new WX _).trans N;have W:=hR.ext WH;have N:=Wp.trans WH;clear c0 c1 hR;have c1:=(rW N).cell;(go_wp2_with fail);refine(uN B Ar m nr d cr _ _ _ (R.ext (xw N)) W aa WP (by rw[aM,aM];exact Nat.le_of_lt WO.o)).mono ?_;rintro e w5 ⟨v5,rfl,⟨Ar,WZ,cr,rfl,hR⟩,Wt⟩;rw[aM,aM] at hR;have Xb:WZ<=400:=by have:=hR.len;have:=jq (Nat.lt_of_le_of_lt (Nat.sub_le y.natAbs (x.natAbs%y.natAbs)) O);omega
   have T:=T.ext Wt;have Wp:=N.trans Wt;clear c1 N WH;have c0:=(ve Wp).cell;have c1:=(rW Wp).cell;obtain⟨zq,Wx⟩:∃z,z=x/y:=⟨_,rfl⟩;obtain⟨zr,Wy⟩:∃z,z=x%y:=⟨_,rfl⟩;have Z:=aJ Wx;have Wv:=aJ Wy;clear Wx Wy;have G:=Z.trans U.o.1;simp only[Bool.true_bne] at G;have Q:zr=zOf false _:=Wv.trans U.o.2;(go_wp2_with fail);refine(iq _ Aq WY cq _ _ T aa).mono ?_;rintro e w4 ⟨v4,rfl,C,N⟩;rw[W9.o] at C;rw[<-G] at C;have WJ:=aJ Q;clear Q G;have Wo:zq.natAbs<lim:=WA.o zq Z.o;have W:=hR.ext N;have N:=Wp.trans N;clear c0 c1 T hR;(go_wp2_with fail);refine(kK _ zq _ C).mono ?_;rintro e w5 ⟨v5,rfl,j,Wt⟩;rw[kW Wo] at j;obtain⟨u5,rfl,A5,n5,c5,rfl,Y⟩:=j;have WC:=W.ext Wt;have Wt:=N.trans Wt;clear C W;(go_wp2_with fail);have Y9:=aK.blk (Blk.new w5 40 #[.bool (decide (zq<0)),.slice A5 n5 c5]);have Wq:=Wt.trans (Ext.new w5 (.cells #[.bool (decide (zq<0)),.slice A5 n5 c5] 40));have WS:=WC.ext (Ext.new w5 (.cells #[.bool (decide (zq<0)),.slice A5 n5 c5] 40));have WB:=Y.ext (Ext.new w5 (.cells #[.bool (decide (zq<0)),.slice A5 n5 c5] 40));generalize w5.alloc (.cells #[.bool (decide (zq<0)),.slice A5 n5 c5] 40)=w6 at*
   refine bz 3 [(true,0),(true,1),(false,2)] ah ah ?_;refine aS [0,1] [(false,2)] _ ah ?_;simp only[bO,aV,List.cons_append,List.nil_append];(repeat (go_big_quiet_step (fail)));refine wpQuiet_nil ?_;refine aR 2 [] ah ?_;intro K I;simp only[aV];(go_wp2_with fail);refine(iq false Ar WZ cr _ _ (WS.ext (Ext.refl w6).drew) aa).mono ?_;rintro e w7 ⟨v7,rfl,⟨A7,n7,c7,rfl,WE⟩,D⟩;have D:=D.jd;go_wp2;refine I _ _ ⟨⟨w7,D⟩,rfl⟩ ?_;clear I K;simp only[bP,List.drop_succ_cons,List.drop_zero];have V:=Wq.trans D;have b4:=F5 V;have b5:=Gh V;have c4:=b4.cell;have f4:=b4.frozen;have WW:=b5.cell;have f5:=b5.frozen;obtain⟨n1,n2,n3⟩:=je (xw V) aa b4 (decide (zq<0)) A5 n5 c5;have WG:=(b5.far (p:=⟨w.heap.size+2,0,none⟩) ag (.bool (decide (zq<0)))).far (p:=⟨w.heap.size+2,1,none⟩) ag (.slice A5 n5 c5);rw[aM,<-WJ.o] at WE;rw[aM,<-WJ.o];obtain⟨o1,o2,o3⟩:=je n1 aa WG (decide (zr<0)) A7 n7 c7;have o4:=(n2.far (p:=⟨w.heap.size+3,0,none⟩) ag (.bool (decide (zr<0)))).far (p:=⟨w.heap.size+3,1,none⟩) ag (.slice A7 n7 c7);have r4:=o3 _ _ _ _ (n3 _ _ _ _ (WB.ext D));have r5:=o3 _ _ _ _ (n3 _ _ _ _ WE);have O1:=aJ o1;have O2:=aJ o2;have O4:=aJ o4;have R4:=aJ r4;have R5:=aJ r5;clear n1 n2 n3 WG o1 o2 o3 o4 r4 r5;go_wp2;rw[<-Z.o,<-Wv.o];exact vG rfl rfl rfl O4.o rfl O2.o ⟨_,rfl,⟨_,_,rfl,⟨_,_,_,rfl,R4.o⟩,⟨_,_,_,rfl,R5.o⟩⟩,O1.o⟩
  .have hz:=WT;have WR:=ru (x:=x) (y:=y) WF (fun h=>by have:=mt WT.2 WQ;omega);rw[WI.o,WL.o] at WR;have U:=aJ WR;clear WR;have WA:Hid (∀z:Int,z=x/y->z.natAbs<lim):=aJ (fun z hz=>by rw[hz,U.o.1,sW];exact vP M);obtain rfl:nt=0:=aa;clear WT WQ;obtain⟨zq,Wx⟩:∃z,z=x/y:=⟨_,rfl⟩;obtain⟨zr,Wy⟩:∃z,z=x%y:=⟨_,rfl⟩;have Z:=aJ Wx;have Wv:=aJ Wy;clear Wx Wy;have G:=Z.trans U.o.1;simp only[Bool.true_bne] at G;exact Aah
def Gf(a b:Nat)(w)(ha:a<18446744073709551616)(hb:b<18446744073709551616):
  CE 201 #[.int .u64 (a:Int),.int .u64 (b:Int)] w (.int .u64 ((Nat.gcd a b:Nat):Int)):=by
 go_enter Tryz.func201,Tryz.ntmps201;go_wp2_with fail
 go_loopw [0,1] (fun I bv wr=>∃p q:Nat,I=.int .u64 (p:Int)/\bv=.int .u64 (q:Int)/\p<18446744073709551616/\q<18446744073709551616/\Nat.gcd p q=Nat.gcd a b/\Ext w wr) (fun _ bv _=>(intOf bv).toNat)
 case atStart=>exact⟨a,b,rfl,rfl,ha,hb,rfl,Ext.refl _⟩
 case round=>
  obtain⟨p,q,rfl,rfl,hp,hq,G,C⟩:=hrel;have D:=aJ G;clear G;by_cases J:q=0
  .subst J;go_wp2;go_ret;exact⟨aL (by rw[<-D.o,Nat.gcd_zero_right]),C⟩
  .have B:0<q:=aa;have M:=Nat.mod_lt p B;have H:(p:Int)%(q:Int)=((p%q:Nat):Int):=ag;have l:=aJ (show Nat.gcd q (p%q)=Nat.gcd a b by rw[<-D.o,Nat.gcd_comm p q,Nat.gcd_rec q p,Nat.gcd_comm]);have N:((q:Int) !=0)=true:=ae;have K:(q !=0)=true:=ae;have L:(q:Int)≠0:=aa;have F:=aJ H;clear H;generalize O:p%q=j at*
   clear O;(go_wp2_with fail);go_quiet (fail);go_wp2_with fail
   go_roundw
   case rel=>exact⟨q,j,rfl,by rw[F.o],hq,aa,l.o,C.drewN _⟩
   case measure=>simp only[intOf];rw[F.o];omega
def uq{k n}(h:(bZ k).length=n)(hn:n<=2):k<18446744073709551616:=dN (k:=2) aa
def IE(g):val [g%4294967296,g/4294967296]=g:=by simp only[val];omega
def UT(v u x y w)(L:RI w v x)(l:RI w u y)(M:x.natAbs<lim)(O:y.natAbs<lim):
  CV 177 #[v,u] w fun v w'=>mY ((Nat.gcd x.natAbs y.natAbs:Nat),0) v w':=by
 have S:=aJ (RI.valid L M);have Wu:=aJ (RI.valid l O);obtain⟨A,n,c,rfl,J⟩:=L;obtain⟨B,m,d,rfl,R⟩:=l;go_enter Tryz.func177,Tryz.ntmps177;(go_wp2_with fail);refine(gK _ A n c _ _ (J.ext (((Ext.new w _).alloc _).alloc _))).mono ?_;rintro e w1 ⟨rfl,H⟩;rw[S.o];have c0:=(iA H).cell;have c1:=(iP H).cell;(go_wp2_with fail);refine(gK _ B m d _ _ (R.ext (fF H))).mono ?_;rintro e w2 ⟨rfl,P⟩;rw[Wu.o];clear c0 c1;have P:=H.trans P;have c0:=(iA P).cell;have c1:=(iP P).cell;(go_wp2_with fail);go_quiet (fail);(go_wp2_with fail);clear c0 c1;go_loopg [6,7] y.natAbs (fun gk av bv wr=>∃A n c B m d p,av=.slice A n c/\bv=.slice B m d/\RM wr A n c (bZ p)/\RM wr B m d (bZ gk)/\p<lim/\gk<lim/\Nat.gcd p gk=Nat.gcd x.natAbs y.natAbs/\Ext w2 wr)
 case atStart=>exact⟨A,n,c,B,m,d,x.natAbs,rfl,rfl,J.ext ((fF P).drewN _),R.ext ((fF P).drewN _),M,O,rfl,(Ext.refl _).drewN _⟩
 case round=>
  clear J R;obtain⟨A',n',c',B',Y,d',p,rfl,rfl,hA,hB,hp,hq,hg,C⟩:=hrel;have Wz:=hA.len;have Wy:=hB.len;have WL:n'<=400:=by have:=jq hp;omega
  have Ww:Y<=400:=by have:=jq hq;omega
  have W9:=kL Wy;have HG:=aJ hg;have WY:=aJ Wz;have Wx:=aJ Wy;clear hg Wz Wy;by_cases h0:0<Y
  .have WA:=W9.1 h0;have Wq:(0:Int)<(Y:Int):=aa;by_cases W:n'<=2/\Y<=2
   .obtain⟨WP,WF⟩:=W;have Wt:(n':Int)<=2:=aa;have WC:(Y:Int)<=2:=aa;have WB:=uq WY.o WP;have Q:=uq Wx.o WF;(go_wp2_with fail);refine(G5 A' n' c' _ _ hA WP).mono ?_;rintro e w4 ⟨rfl,rfl⟩;rw[aM];(go_wp2_with fail);refine(G5 B' Y d' _ _ hB WF).mono ?_;rintro e w5 ⟨rfl,rfl⟩;rw[aM];(go_wp2_with fail);refine(Gf p gk _ WB Q).mono ?_;rintro e w6 ⟨rfl,Wo⟩;rw[HG.o];have Wo:=(P.trans C).trans Wo;obtain⟨G,hG⟩:∃G,G=Nat.gcd x.natAbs y.natAbs:=⟨_,rfl⟩;have F:G<lim:=by rw[hG,<-HG.o];exact Nat.lt_of_le_of_lt (Nat.gcd_le_right _ WA) hq
    have WG:G<18446744073709551616:=by rw[hG,<-HG.o];exact Nat.lt_of_le_of_lt (Nat.gcd_le_right _ WA) Q
    rw[<-hG];have WE:=aJ hG;clear hG;have e1:(G:Int)%4294967296=((G%4294967296:Nat):Int):=aa;have e2:(G:Int)/4294967296=((G/4294967296:Nat):Int):=aa;have WO:Dig [G%4294967296,G/4294967296]:=by
     intro z hz;simp at hz;omega
    have XB:=IE G;have WH:G/4294967296<4294967296:=aa;generalize G%4294967296=g0 at*
    generalize G/4294967296=g1 at*
    have U:=aJ XB;clear XB;(go_wp2_with fail);refine(iF false _ 2 2 [g0,g1] _ (RM.blk (Blk.new _ _ _) WO rfl aa)).mono ?_;rintro e w7 ⟨v7,rfl,j,D⟩;obtain⟨Z,hZ⟩:∃Z:Int,Z=(G:Int):=⟨_,rfl⟩;rw[U.o,tT (z:=Z) (hZ.trans (by simp[zOf])) F] at j;have HZ:=aJ hZ;clear hZ;obtain⟨u7,rfl,A2,n2,c2,rfl,hI⟩:=j;have Wp:=(Wo.trans (Ext.new w6 _)).trans D;exact Acc
   .have K:decide ((n':Int)<=2)=false\/(n'<=2/\decide ((Y:Int)<=2)=false):=by
     by_cases h:n'<=2
     .exact .inr ⟨h,by rw[decide_eq_false_iff_not];omega⟩
     .exact .inl (by rw[decide_eq_false_iff_not];omega)
    have WI:=aJ W;clear W;have WE:=aJ (show Nat.gcd gk (p%gk)=Nat.gcd x.natAbs y.natAbs by rw[<-HG.o,Nat.gcd_comm p gk,Nat.gcd_rec gk p,Nat.gcd_comm]);have Ws:=Nat.mod_lt p WA;rcases K with K|⟨WP,K⟩
    all_goals
     try have Wt:(n':Int)<=2:=aa
     (go_wp2_with fail);refine(zU A' B' n' Y c' d' p gk _ hA hB WA aa).mono ?_;rintro e w4 ⟨q,r,rfl,⟨Aq,nq,cq,rfl,T⟩,⟨Ar,nr,cr,rfl,hR⟩,N⟩;have I:=hB.ext N;go_wp2_with fail
     go_roundg (p%gk)
     case measure=>exact Ws
     case rel=>exact⟨B',Y,d',Ar,nr,cr,gk,rfl,rfl,I,hR,hq,Nat.lt_trans Ws hq,WE.o,C.trans N⟩
  .obtain rfl:Y=0:=aa;obtain rfl:gk=0:=by
    exact AcZ
   have Wv:p=Nat.gcd x.natAbs y.natAbs:=by rw[<-HG.o,Nat.gcd_zero_right]
   obtain⟨G,hG⟩:∃G,G=p:=⟨_,rfl⟩;subst hG;have WE:=aJ Wv;clear Wv;have F:=hp;(go_wp2_with fail);refine(sS A' n' c' _ _ hA aa).mono ?_;rintro e w4 ⟨v4,rfl,⟨A4,n4,c4,rfl,hC⟩,N⟩;(go_wp2_with fail);refine(iF false A4 n4 c4 _ _ hC).mono ?_;rintro e w7 ⟨v7,rfl,j,D⟩;obtain⟨Z,hZ⟩:∃Z:Int,Z=(G:Int):=⟨_,rfl⟩;rw[aM,tT (z:=Z) (hZ.trans (by simp[zOf])) F] at j;have HZ:=aJ hZ;clear hZ;obtain⟨u7,rfl,A2,n2,c2,rfl,hI⟩:=j;have Wp:=((P.trans C).trans N).trans D;exact Acc
def Q6(v u x y w)(L:RI w v x)(l:RI w u y)(M:x.natAbs<lim)(O:y.natAbs<lim):
  CV 146 #[v,u] w fun v w'=>mY ((Nat.gcd x.natAbs y.natAbs:Nat),0) v w':=by
 have S:=aJ (RI.valid L M);have Wu:=aJ (RI.valid l O);obtain⟨A,n,c,rfl,J⟩:=L;obtain⟨B,m,d,rfl,R⟩:=l;have hn:=J.j3 M;have hm:=R.j3 O;go_enter Tryz.func146,Tryz.ntmps146;(go_wp2_with fail);refine(fE _ A n c _ _ (J.ext (((Ext.new w _).alloc _).alloc _))).mono ?_;rintro e w1 ⟨rfl,H⟩;rw[S.o];have c0:=(iA H).cell;have c1:=(iP H).cell;(go_wp2_with fail);refine(fE _ B m d _ _ (R.ext (fF H))).mono ?_;rintro e w2 ⟨rfl,P⟩;rw[Wu.o];clear c0 c1;have P:=H.trans P;have Y0:=aK.blk (iA P);have Y1:=aK.blk (iP P);(go_wp2_with fail);refine bz 7 [(true,0),(true,1),(true,3),(true,4),(false,2),(false,5),(true,6)] ah ah ?_;refine aS [0,1,3,4] [(false,2),(false,5),(true,6)] _ ah ?_;simp only[bO,aV,List.cons_append,List.nil_append];(repeat (go_big_quiet_step (fail)));refine wpQuiet_nil ?_;refine aR 2 [(false,5),(true,6)] ah ?_;intro K I;simp only[aV];(go_wp2_with fail);refine(il A n c _ _ ((J.ext (fF P)).ext (Ext.refl _).drew) aa).mono ?_;rintro e w3 ⟨v3,rfl,⟨A3,n3,c3,rfl,hA⟩,D⟩;have D:=Ext.jd D;go_wp2;refine I _ _ ⟨⟨w3,D⟩,rfl⟩ ?_;clear I K;rw[aM] at hA;refine aR 5 [(true,6)] ah ?_;intro K I;simp only[aV];(go_wp2_with fail);refine(il B m d _ _ ((R.ext (fF P)).ext D) aa).mono ?_;rintro e w4 ⟨v4,rfl,⟨A4,n4,c4,rfl,hB⟩,Q⟩;have Q:=D.trans Q;go_wp2;refine I _ _ ⟨⟨w4,Q⟩,rfl⟩ ?_;clear I K;rw[aM] at hB;have hA:=hA.ext (by assumption:Ext w3 w4);refine aS [6] [] _ ah ?_;simp only[bO,aV,List.cons_append,List.nil_append];(repeat (go_big_quiet_step (fail)));refine wpQuiet_nil ?_;simp only[bP,List.drop_succ_cons,List.drop_zero];(go_wp2_with fail);clear Y0 Y1 J R;have N:=P.trans Q;clear P D Q H;go_loopg [6,7] y.natAbs (fun gk av bv wr=>∃A n c B m d p,av=.slice A n c/\bv=.slice B m d/\RM wr A n c (bZ p)/\RM wr B m d (bZ gk)/\p<lim/\gk<lim/\Nat.gcd p gk=Nat.gcd x.natAbs y.natAbs/\Ext w4 wr)
 case atStart=>exact⟨_,_,_,_,_,_,x.natAbs,rfl,rfl,hA,hB,M,O,rfl,Ext.refl _⟩
 case round=>
  clear hA hB;obtain⟨A',n',c',B',Y,d',p,rfl,rfl,hA,hB,hp,hq,hg,C⟩:=hrel;have Wz:=hA.len;have Wy:=hB.len;have WL:n'<=400:=by have:=jq hp;omega
  have Ww:Y<=400:=by have:=jq hq;omega
  have W9:=kL Wy;have HG:=aJ hg;clear hg Wz Wy;by_cases h0:0<Y
  .have WA:=W9.1 h0;have Wq:(0:Int)<(Y:Int):=aa;have WE:=aJ (show Nat.gcd gk (p%gk)=Nat.gcd x.natAbs y.natAbs by rw[<-HG.o,Nat.gcd_comm p gk,Nat.gcd_rec gk p,Nat.gcd_comm]);have W:=Nat.mod_lt p WA;(go_wp2_with fail);refine(yB A' B' n' Y c' d' p gk _ hA hB WA aa).mono ?_;rintro e w5 ⟨q,r,rfl,⟨Aq,nq,cq,rfl,T⟩,⟨Ar,nr,cr,rfl,hR⟩,Wt⟩;have F:=hB.ext Wt;have WK:nr<=400:=by have:=hR.len;have:=jq (Nat.lt_trans W hq);omega
   (go_wp2_with fail);refine(il Ar nr cr _ _ hR aa).mono ?_;rintro e w6 ⟨v6,rfl,⟨A6,n6,c6,rfl,hT⟩,Wo⟩;rw[aM] at hT;have j:=F.ext Wo;go_wp2_with fail
   go_roundg (p%gk)
   case measure=>exact W
   case rel=>exact⟨_,_,_,_,_,_,gk,rfl,rfl,j,hT,hq,Nat.lt_trans W hq,WE.o,C.trans (Wt.trans Wo)⟩
  .obtain rfl:Y=0:=aa;obtain rfl:gk=0:=by
    exact AcZ
   have Wv:p=Nat.gcd x.natAbs y.natAbs:=by rw[<-HG.o,Nat.gcd_zero_right]
   have WE:=aJ Wv;clear Wv;(go_wp2_with fail);refine(iq false A' n' c' _ _ hA aa).mono ?_;rintro e w8 ⟨U,rfl,G,WU⟩;obtain⟨Z,hZ⟩:∃Z:Int,Z=(p:Int):=⟨_,rfl⟩;rw[aM,yT,<-hZ] at G;have HZ:=aJ hZ;clear hZ;obtain⟨A2,n2,c2,rfl,hI⟩:=G;have WH:=N.trans (C.trans WU);have b4:=lJ WH;have c4:=b4.cell;have f4:=b4.frozen;obtain⟨k1,k2,k3⟩:=je (fF WH) aa b4 (decide (Z<0)) A2 n2 c2;exact AaG
def Pf{cs:Array Value}{i v}(h:cs[i]? =some v):cs.setIfInBounds i v=cs:=by
 apply Array.ext';simp only[Array.toList_setIfInBounds];have l:cs.toList[i]? =some v:=by simpa using h
 obtain⟨j,e⟩:=List.getElem?_eq_some_iff.1 l;rw[<-e];exact List.set_getElem_self j
def Ext.stay{w0 w g i t cs v}(J:Ext w0 w)(hb:Blk w g t cs)(h:cs[i]? =some v):Ext w0 (w.setCell ⟨g,i,none⟩ v):=by
 refine⟨J.os,J.tape,J.output,by have:=J.size;simpa[World.setCell] using this,fun k l=> ?_⟩;by_cases j:k=g
 .subst j;have B:=hb.mX i v;rw[Pf h] at B;have C:=J.block k l;rw[<-C];exact(show(w.setCell ⟨k,i,none⟩ v).heap[k]? =some (.cells cs t (0,0)) from B).trans (show w.heap[k]? =some (.cells cs t (0,0)) from hb).symm
 .rw[Below.heap_setCell w ⟨g,i,none⟩ v k j];exact J.block k l
def RI.opn{w v z}(h:RI w v z):∃s A n c,v=iv s A n c/\RI w (iv s A n c) z:=by
 obtain⟨A,n,c,rfl,I⟩:=h;exact⟨_,A,n,c,rfl,A,n,c,rfl,I⟩
def qM{w w' g l A0 n0 c0}(J:Ext w w')(D:w.heap.size<=g)(hb:Blk w' g 40 #[.bool l,.slice A0 n0 c0])(b A n c):
  Ext w ((w'.setCell ⟨g,0,none⟩ (.bool b)).setCell ⟨g,1,none⟩ (.slice A n c))/\Blk ((w'.setCell ⟨g,0,none⟩ (.bool b)).setCell ⟨g,1,none⟩ (.slice A n c)) g 40 #[.bool b,.slice A n c]/\∀v z,RI w' v z->RI ((w'.setCell ⟨g,0,none⟩ (.bool b)).setCell ⟨g,1,none⟩ (.slice A n c)) v z:=by
 obtain⟨G,C,j⟩:=je J D hb b A n c;exact⟨G,C,fun v z ⟨A',n',c',F,B⟩=>⟨A',n',c',F,j _ _ _ _ B⟩⟩
abbrev gv (s1:Bool) (A1:Option Addr) (n1 c1:Nat) (s2:Bool) (A2:Option Addr) (n2 c2:Nat) (s3:Bool) (A3:Option Addr) (n3 c3:Nat):Value:=
 .agg #[.bool s1,.slice A1 n1 c1,.bool s2,.slice A2 n2 c2,.bool s3,.slice A3 n3 c3]
def RG (w:World) (v:Value) (a b d:Int):Prop:=
 ∃s1 A1 n1 c1 s2 A2 n2 c2 s3 A3 n3 c3,v=gv s1 A1 n1 c1 s2 A2 n2 c2 s3 A3 n3 c3/\RI w (iv s1 A1 n1 c1) a/\RI w (iv s2 A2 n2 c2) b/\RI w (iv s3 A3 n3 c3) d
def RG.ext{w w' v a b d}(h:RG w v a b d)(x:Ext w w'):RG w' v a b d:=by
 obtain⟨s1,A1,n1,c1,s2,A2,n2,c2,s3,A3,n3,c3,e,B,l,j⟩:=h;exact⟨s1,A1,n1,c1,s2,A2,n2,c2,s3,A3,n3,c3,e,B.ext x,l.ext x,j.ext x⟩
def Calm (w:World) (g:Nat):Prop:=Blk w g 197 #[.int .i64 0]
def Calm.ext{w w' g}(h:Calm w g)(x:Ext w w'):Calm w' g:=Blk.ext h x
def tV(g v z w)(hc:Calm w g)(L:RI w v z):
  CV 176 #[.pointer (some ⟨g,0,none⟩),v,.int .i64 0] w fun v w'=>RI w' v z:=by
 obtain⟨s,A,n,c,rfl,L⟩:=L.opn;have C:=Blk.cell hc;have l:=Blk.frozen hc;have j:Ext w (w.setCell ⟨g,0,none⟩ (.int .i64 0)):=(Ext.refl w).stay hc rfl;have O:=hc.ext j;have D:=Blk.cell O;have B:g<w.heap.size:=Blk.lt hc;have J:=L.ext j;go_enter Tryz.func176,Tryz.ntmps176;(go_wp2_with fail);exact fu rfl rfl rfl (Blk.new' _ _ Abj) ⟨_,rfl,J.ext ((Ext.new _ _).alloc _),j.trans ((Ext.new _ _).alloc _)⟩
def uV(v z w)(L:RI w v z):
  CE 144 #[v] w (.bool (decide (z=1))):=by
 obtain⟨A,n,c,rfl,J⟩:=L;have T:=J.len;generalize hs:decide (z<0)=s at*
 have c0:=(Blk.new w 40 #[.bool s,.slice A n c]).cell;cases s
 .by_cases P:n=1
  .subst P;obtain⟨M,x,rfl,hb,l,D,K⟩:=J.at_ (k:=0) aa;have C:z=(x:Int):=by
    have hd:bZ z.natAbs=[x]:=by
     cases hq:bZ z.natAbs with
     |nil=>rw[hq] at T;simp at T
     |cons a m=>
      rw[hq] at T l;simp at T l;rw[T,l]
    have hv:=aM z.natAbs;rw[hd] at hv;simp[val] at hv;have:=of_decide_eq_false hs;omega
   have j:=(Ext.new w (.cells #[.bool false,.slice (some M) 1 c] 40)).cell_ K;have F:(w.alloc (.cells #[.bool false,.slice (some M) 1 c] 40)).cell? M=some (.int .u32 (x:Int)):=by
    have e:M.add 0=M:=by simp[Addr.add]
    rw[e] at j;exact j
   have B:=aJ C;clear C hs T;by_cases H:x=1
   .subst H;go_enter Tryz.func144,Tryz.ntmps144;go_wp2;go_ret;exact⟨aQ (by rw[B.o];rfl),Ext.new _ _⟩
   .have O:((x:Int)==1)=false:=ae;have N:¬(x:Int)=1:=aa;go_enter Tryz.func144,Tryz.ntmps144;go_wp2;go_ret;exact⟨aQ (by rw[B.o];simp;omega),Ext.new _ _⟩
  .have G:z≠1:=by
    intro e;subst e;have:bZ (1:Int).natAbs=[1]:=by
     have e:(1:Int).natAbs=val [1]:=rfl;rw[e];exact Hl (Dig.one aj) (by intro x h;simp at h;omega)
    rw[this] at T;simp at T;omega
   have O:((n:Int)==1)=false:=ae;have N:¬(n:Int)=1:=aa;exact Abb
 .have G:z≠1:=by have:=of_decide_eq_true hs;omega
  exact Abb
def mf(v z w)(L:RI w v z)(C:z.natAbs<lim):
  CV 169 #[v] w fun v w'=>RI w' v z:=by
 obtain⟨A,n,c,rfl,J⟩:=L;have hn:=J.j3 C;have P:Hid (∀w' A' n' c',RM w' A' n' c' (bZ z.natAbs)->RI w' (iv (decide (z<0)) A' n' c') z):=aJ (fun w' A' n' c' h=>⟨A',n',c',rfl,h⟩);generalize decide (z<0)=s at*
 have N:=(Ext.new w (.cells #[.bool s,.slice A n c] 40)).alloc (.cells #[.bool false,.slice none 0 0] 40);have F:=aK.blk ((Blk.new w 40 #[.bool s,.slice A n c]).alloc (.cells #[.bool false,.slice none 0 0] 40));go_enter Tryz.func169,Tryz.ntmps169;(go_wp2_with fail);refine bz 6 [(true,0),(true,1),(true,2),(true,3),(false,4),(true,5)] ah ah ?_;refine aS [0,1,2,3] [(false,4),(true,5)] _ ah ?_;simp only[bO,aV,List.cons_append,List.nil_append];(repeat (go_big_quiet_step (fail)));refine wpQuiet_nil ?_;refine aR 4 [(true,5)] ah ?_;intro K I;simp only[aV];(go_wp2_with fail);refine(sS A n c _ _ ((J.ext N).ext (Ext.refl _).drew) aa).mono ?_;rintro e G ⟨v1,rfl,⟨A1,n1,c1,rfl,O⟩,D⟩;have D:=Ext.jd D;go_wp2;refine I _ _ ⟨⟨G,D⟩,rfl⟩ ?_;clear I K;refine aS [5] [] _ ah ?_;simp only[bO,aV,List.cons_append,List.nil_append];(repeat (go_big_quiet_step (fail)));refine wpQuiet_nil ?_;clear F;simp only[bP,List.drop_succ_cons,List.drop_zero];have b4:=yt D;have c4:=b4.cell;have Q:=b4.frozen;obtain⟨B,l,j⟩:=je (nQ D) aa b4 s A1 n1 c1;have M:=aJ B;have V:=aJ l;have H:=aJ (j _ _ _ _ O);clear B l j;go_wp2;exact fu rfl rfl rfl V.o ⟨_,rfl,P.o _ _ _ _ H.o,M.o⟩
def vW(g a b x y z w)(hc:Calm w g)(L:RI w a x)(l:RI w b y)(M:x.natAbs<lim)(O:y.natAbs<lim)(K:z=x+y)(C:z.natAbs<lim):
  CV 167 #[.pointer (some ⟨g,0,none⟩),a,b] w fun v w'=>RI w' v z:=by
 obtain⟨s,A,n,c,rfl,L⟩:=L.opn;obtain⟨t,B,m,d,rfl,l⟩:=l.opn;have Q:Hid (oZ (x+y)=(z,0)):=aJ (by rw[<-K];exact kW C);clear K;have F:=((Ext.new w (.cells #[.bool s,.slice A n c] 40)).alloc (.cells #[.bool t,.slice B m d] 40)).alloc (.cells #[.bool false,.slice none 0 0] 40);go_enter Tryz.func167,Tryz.ntmps167;(go_wp2_with fail);refine(UJ _ _ x y _ (L.ext F) (l.ext F) M O).mono ?_;exact AaD
def KQ(g a b x y z w)(hc:Calm w g)(L:RI w a x)(l:RI w b y)(M:x.natAbs<lim)(O:y.natAbs<lim)(K:z=x-y)(C:z.natAbs<lim):
  CV 175 #[.pointer (some ⟨g,0,none⟩),a,b] w fun v w'=>RI w' v z:=by
 obtain⟨s,A,n,c,rfl,L⟩:=L.opn;obtain⟨t,B,m,d,rfl,l⟩:=l.opn;have Q:Hid (oZ (x-y)=(z,0)):=aJ (by rw[<-K];exact kW C);clear K;have F:=((Ext.new w (.cells #[.bool s,.slice A n c] 40)).alloc (.cells #[.bool t,.slice B m d] 40)).alloc (.cells #[.bool false,.slice none 0 0] 40);go_enter Tryz.func175,Tryz.ntmps175;(go_wp2_with fail);refine(U0 _ _ x y _ (L.ext F) (l.ext F) M O).mono ?_;exact AaD
def Md(g a x z w)(hc:Calm w g)(L:RI w a x)(M:x.natAbs<lim)(D:z= -x):
  CV 170 #[.pointer (some ⟨g,0,none⟩),a] w fun v w'=>RI w' v z:=by
 obtain⟨s,A,n,c,rfl,L⟩:=L.opn;have N:=aJ D;clear D;have C:=(Ext.new w (.cells #[.bool s,.slice A n c] 40)).alloc (.cells #[.bool false,.slice none 0 0] 40);go_enter Tryz.func170,Tryz.ntmps170;(go_wp2_with fail);refine(UA _ x z _ (L.ext C) M N.o).mono ?_;rintro e w1 ⟨v1,rfl,⟨u1,rfl,J⟩,H⟩;(go_wp2_with fail);refine(tV g u1 z _ ((hc.ext C).ext H) J).mono ?_;rintro e w2 ⟨O,rfl,I,P⟩;obtain⟨s2,A2,n2,c2,rfl,I⟩:=I.opn;have j:=H.trans P;have b4:=yt j;have c4:=b4.cell;have Q:=b4.frozen;obtain⟨F,B,l⟩:=qM (nQ j) aa b4 s2 A2 n2 c2;have K:=aJ F;have V:=aJ B;have G:=aJ (l _ _ I);clear F B l;go_wp2;exact fu rfl rfl rfl V.o ⟨_,rfl,G.o,K.o⟩
def iG(g a b x y z w)(hc:Calm w g)(L:RI w a x)(l:RI w b y)(M:x.natAbs<lim)(O:y.natAbs<lim)(hz:z=x*y)(C:z.natAbs<lim):
  CV 168 #[.pointer (some ⟨g,0,none⟩),a,b] w fun v w'=>RI w' v z:=by
 obtain⟨s,A,n,c,rfl,L⟩:=L.opn;obtain⟨t,B,m,d,rfl,l⟩:=l.opn;have Q:Hid (oZ (x*y)=(z,0)):=aJ (by rw[<-hz];exact kW C);have HZ:=aJ hz;clear hz;have hE:=((Ext.new w (.cells #[.bool s,.slice A n c] 40)).alloc (.cells #[.bool t,.slice B m d] 40)).alloc (.cells #[.bool false,.slice none 0 0] 40);go_enter Tryz.func168,Tryz.ntmps168;(go_wp2_with fail);refine(uV _ x _ (L.ext hE)).mono ?_;rintro e w1 ⟨rfl,H⟩;have c0:=(iA H).cell;have c1:=(iP H).cell;by_cases T:x=1
 .have J:decide (x=1)=true:=by simpa using T
  have G:y=z:=by rw[HZ.o,T];omega
  have D:=aJ G;have H1:=aJ T;clear G T;rw[J];clear J;(go_wp2_with fail);refine(mf _ y _ (l.ext (fF H)) O).mono ?_;rintro e w2 ⟨v2,rfl,I,P⟩;rw[D.o] at I;exact AaB
 .have J:decide (x=1)=false:=by simpa using T
  have H1:=aJ T;clear T;rw[J];clear J;(go_wp2_with fail);refine(uV _ y _ (l.ext (fF H))).mono ?_;rintro e w3 ⟨rfl,Z⟩;have H:=H.trans Z;clear c0 c1;have c0:=(iA H).cell;have c1:=(iP H).cell;by_cases U:y=1
  .have J:decide (y=1)=true:=by simpa using U
   have G:x=z:=by rw[HZ.o,U];omega
   have D:=aJ G;clear G U;rw[J];clear J;(go_wp2_with fail);refine(mf _ x _ (L.ext (fF H)) M).mono ?_;rintro e w2 ⟨v2,rfl,I,P⟩;rw[D.o] at I;exact AaB
  .have J:decide (y=1)=false:=by simpa using U
   have H2:=aJ U;clear U;rw[J];clear J;(go_wp2_with fail);refine(Ud _ _ x y _ (L.ext (fF H)) (l.ext (fF H)) M O).mono ?_;rintro e w4 ⟨v4,rfl,j,N⟩;rw[Q.o] at j;obtain⟨u4,rfl,hI⟩:=j;have H:=H.trans N;(go_wp2_with fail);refine(tV g u4 z _ (hc.ext (fF H)) hI).mono ?_;rintro e w2 ⟨v2,rfl,I,P⟩;exact AaB
def Own (w:World) (g:Nat):Prop:=w.heap.size<=g
def Own.of{w w' g}(h:Ext w w')(j:w'.heap.size<=g):Own w g:=Nat.le_trans h.size j
abbrev pv (s1:Bool) (A1:Option Addr) (n1 c1:Nat) (s2:Bool) (A2:Option Addr) (n2 c2:Nat) (s3:Bool) (A3:Option Addr) (n3 c3:Nat) (s4:Bool) (A4:Option Addr) (n4 c4:Nat) (s5:Bool) (A5:Option Addr) (n5 c5:Nat) (s6:Bool) (A6:Option Addr) (n6 c6:Nat):Value:=
 .agg #[.bool s1,.slice A1 n1 c1,.bool s2,.slice A2 n2 c2,.bool s3,.slice A3 n3 c3,.bool s4,.slice A4 n4 c4,.bool s5,.slice A5 n5 c5,.bool s6,.slice A6 n6 c6]
def RP (w:World) (v:Value) (a b d x y z:Int):Prop:=
 ∃s1 A1 n1 c1 s2 A2 n2 c2 s3 A3 n3 c3 s4 A4 n4 c4 s5 A5 n5 c5 s6 A6 n6 c6,v=pv s1 A1 n1 c1 s2 A2 n2 c2 s3 A3 n3 c3 s4 A4 n4 c4 s5 A5 n5 c5 s6 A6 n6 c6/\RI w (iv s1 A1 n1 c1) a/\RI w (iv s2 A2 n2 c2) b/\RI w (iv s3 A3 n3 c3) d/\RI w (iv s4 A4 n4 c4) x/\RI w (iv s5 A5 n5 c5) y/\RI w (iv s6 A6 n6 c6) z
def RP.ext{w w' v a b d x y z}(h:RP w v a b d x y z)(e:Ext w w'):RP w' v a b d x y z:=by
 obtain⟨s1,A1,n1,c1,s2,A2,n2,c2,s3,A3,n3,c3,s4,A4,n4,c4,s5,A5,n5,c5,s6,A6,n6,c6,B,D,l,j,G,C,F⟩:=h;exact⟨s1,A1,n1,c1,s2,A2,n2,c2,s3,A3,n3,c3,s4,A4,n4,c4,s5,A5,n5,c5,s6,A6,n6,c6,B,D.ext e,l.ext e,j.ext e,G.ext e,C.ext e,F.ext e⟩
def RG.mk{w s1 s2 s3 A1 A2 A3 n1 c1 n2 c2 n3 c3 a b d}(B:RI w (iv s1 A1 n1 c1) a)(l:RI w (iv s2 A2 n2 c2) b)(j:RI w (iv s3 A3 n3 c3) d):RG w (gv s1 A1 n1 c1 s2 A2 n2 c2 s3 A3 n3 c3) a b d:=
 ⟨_,_,_,_,_,_,_,_,_,_,_,_,rfl,B,l,j⟩
def RP.mk{w s1 s2 s3 s4 s5 s6 A1 A2 A3 A4 A5 A6 n1 c1 n2 c2 n3 c3 n4 c4 n5 c5 n6 c6 a b d x y z}(C:RI w (iv s1 A1 n1 c1) a)(l:RI w (iv s2 A2 n2 c2) b)(j:RI w (iv s3 A3 n3 c3) d)(F:RI w (iv s4 A4 n4 c4) x)(B:RI w (iv s5 A5 n5 c5) y)(D:RI w (iv s6 A6 n6 c6) z):
  RP w (pv s1 A1 n1 c1 s2 A2 n2 c2 s3 A3 n3 c3 s4 A4 n4 c4 s5 A5 n5 c5 s6 A6 n6 c6) a b d x y z:=
 ⟨_,_,_,_,_,_,_,_,_,_,_,_,_,_,_,_,_,_,_,_,_,_,_,_,rfl,C,l,j,F,B,D⟩
inductive Fc where
 |any
 |ri (z:Int)
 |rg (a b d:Int)
 |rp (a b d x y z:Int)
 |reti (p:Int×Int)
 |retd (q r e:Int)
 |retg (a b d e:Int)
 |retp (a b d x y z e:Int)
 |box (t:TypeId) (cs:Array Value)
 |sl (t:TypeId) (n:Nat) (cs:Array Value)
 |eq (u:Value)
def Fc.holds:Fc->Nat->Nat->Value->World->Prop
 | .any,_,_,_,_=>True
 | .ri z,_,_,v,w=>RI w v z
 | .rg a b d,_,_,v,w=>RG w v a b d
 | .rp a b d x y z,_,_,v,w=>RP w v a b d x y z
 | .reti p,_,_,v,w=>mY p v w
 | .retd q r e,_,_,v,w=>NB q r e v w
 | .retg a b d e,_,_,v,w=>∃u,v=.tuple #[u,.int .i64 e]/\RG w u a b d
 | .retp a b d x y z e,_,_,v,w=>∃u,v=.tuple #[u,.int .i64 e]/\RP w u a b d x y z
 | .box t cs,lo,hi,v,w=>v=.pointer (some ⟨lo,0,none⟩)/\lo<hi/\Blk w lo t cs
 | .sl t n cs,lo,hi,v,w=>v=.slice (some ⟨lo,0,none⟩) n n/\lo<hi/\Blk w lo t cs
 | .eq u,_,_,v,_=>v=u
def Fc.GM(f:Fc){lo hi v w w'}(h:f.holds lo hi v w)(x:Ext w w'):f.holds lo hi v w':=by
 cases f with
 |any=>trivial
 |ri z=>exact RI.ext h x
 |rg a b d=>exact RG.ext h x
 |rp a b d p q r=>exact RP.ext h x
 |reti p=>exact mY.ext h x
 |retd q r e=>obtain⟨a,b,j,l,B⟩:=h;exact⟨a,b,j,RI.ext l x,RI.ext B x⟩
 |retg a b d e=>obtain⟨u,j,l⟩:=h;exact⟨u,j,l.ext x⟩
 |retp a b d p q r e=>obtain⟨u,j,l⟩:=h;exact⟨u,j,l.ext x⟩
 |box t cs=>exact⟨h.1,h.2.1,h.2.2.ext x⟩
 |sl t n cs=>exact⟨h.1,h.2.1,h.2.2.ext x⟩
 |eq u=>exact h
def TF:List (Nat×Fc)->Nat->Fc
 |[],_=> .any
 |p::r,i=>bif Nat.beq p.1 i then p.2 else TF r i
def Ou:List (Nat×Fc)->Nat->Bool
 |[],_=>false
 |p::r,i=>Nat.beq p.1 i||Ou r i
def Fcs (l:List (Nat×Fc)):Nat->Nat->Nat->Value->World->Prop:=fun i lo hi v w=>(TF l i).holds lo hi v w
def Ox(l):∀i lo hi v w w',Fcs l i lo hi v w->Ext w w'->Fcs l i lo hi v w':=fun _ _ _ _ _ _ h x=>Fc.GM _ h x
def puts (w:World) (g:Nat):Nat->List Value->World
 |_,[]=>w
 |i,v::r=>puts (w.setCell ⟨g,i,none⟩ v) g (i+1) r
def fD (cs:Array Value):Nat->List Value->Array Value
 |_,[]=>cs
 |i,v::r=>fD (cs.setIfInBounds i v) (i+1) r
def kz (cs:Array Value):Bool:=cs.toList.all fun v=>match v with| .int _ _=>false|_=>true
def su{cs}(h:kz cs=true):∀(j:Nat) (k:IntKind) (x:Int),cs[j]?≠some (.int k x):=by
 intro j k x e;have l:(Value.int k x)∈cs.toList:=by
  have:cs.toList[j]? =some (.int k x):=by simpa using e
  exact List.mem_of_getElem? this
 have:=List.all_eq_true.1 h _ l;simp at this
def fK(w g):∀(i:Nat) (B:List Value),Only g w (puts w g i B)
 |_,[]=>Only.refl _ _
 |i,v::r=>(Only.set w g i v).trans (fK _ g (i+1) r)
def gz{w0 g}(j:Own w0 g):∀(i:Nat) (B:List Value) {w:World},Ext w0 w->Ext w0 (puts w g i B)
 |_,[],_,h=>h
 |i,v::r,w,h=>gz j (i+1) r (show Ext w0 (w.setCell ⟨g,i,none⟩ v) from h.setCell (by exact j) _)
def bY{g t}:∀(i:Nat) (B:List Value) {w:World} {cs:Array Value},Blk w g t cs->Blk (puts w g i B) g t (fD cs i B)
 |_,[],_,_,h=>h
 |i,v::r,_,_,h=>bY (i+1) r (h.mX i v)
def PS{w w' w'' g t cs cs'}(i B)(J:Ext w w')(C:Own w g)(hb:Blk w' g t cs)(hn:kz cs=true)(e:w''=puts w' g i B)(ec:fD cs i B=cs'):
  Ext w w''/\Blk w'' g t cs'/\(∀g2 t cs,g2≠g->Blk w' g2 t cs->Blk w'' g2 t cs)/\(∀v s l,RX w' v s l->RX w'' v s l)/\∀v z,RI w' v z->RI w'' v z:=by
 subst e;subst ec;have L:∀v s l,RX w' v s l->RX (puts w' g i B) v s l:=fun v s l ⟨A',n',c',F,D⟩=>⟨A',n',c',F,D.only (fK _ _ _ _) hb (su hn)⟩;exact⟨gz C _ _ J,bY _ _ hb,fun g2 t cs j h=>(fK w' g i B).blk h j,L,fun v z h=>L _ _ _ h⟩
def Ao{w g s1 s2 s3 A1 A2 A3 n1 c1 n2 c2 n3 c3}(hb:Blk w g 42 #[.bool s1,.slice A1 n1 c1,.bool s2,.slice A2 n2 c2,.bool s3,.slice A3 n3 c3]):(loadVar 42 ⟨g,0,none⟩).run Tryz.prog w=.ok (gv s1 A1 n1 c1 s2 A2 n2 c2 s3 A3 n3 c3) w:=by
 have hc:=hb.cell;simp[go_sem,hc,gv]
def xP{w g s1 s2 s3 s4 s5 s6 A1 A2 A3 A4 A5 A6 n1 c1 n2 c2 n3 c3 n4 c4 n5 c5 n6 c6}(hb:Blk w g 44 #[.bool s1,.slice A1 n1 c1,.bool s2,.slice A2 n2 c2,.bool s3,.slice A3 n3 c3,.bool s4,.slice A4 n4 c4,.bool s5,.slice A5 n5 c5,.bool s6,.slice A6 n6 c6]):(loadVar 44 ⟨g,0,none⟩).run Tryz.prog w=.ok (pv s1 A1 n1 c1 s2 A2 n2 c2 s3 A3 n3 c3 s4 A4 n4 c4 s5 A5 n5 c5 s6 A6 n6 c6) w:=by
 have hc:=hb.cell;simp[go_sem,hc,pv]
section
variable {fn:Func} {R:Ending->World->Prop} {a:Act} {w:World} {t u g:Nat} {s1 s2 s3 s4 s5 s6:Bool} {A1 A2 A3 A4 A5 A6:Option Addr} {n1 c1 n2 c2 n3 c3 n4 c4 n5 c5 n6 c6:Nat}
def dh(l:fn.results= #[.cell t 42])(hd:a.defers=[])(hp:a.tmps[t]?.getD undef=.pointer (some ⟨g,0,none⟩))(hb:Blk w g 42 #[.bool s1,.slice A1 n1 c1,.bool s2,.slice A2 n2 c2,.bool s3,.slice A3 n3 c3])(j:R (.returned (gv s1 A1 n1 c1 s2 A2 n2 c2 s3 A3 n3 c3)) w):bodyPost Tryz.prog fn R .ret a w:=bodyPost_ret (by simp[results,l,hp,asAddr,Ao hb]) hd j
def mo(l:fn.results= #[.cell t 42,.tmp u])(hd:a.defers=[])(hp:a.tmps[t]?.getD undef=.pointer (some ⟨g,0,none⟩))(hb:Blk w g 42 #[.bool s1,.slice A1 n1 c1,.bool s2,.slice A2 n2 c2,.bool s3,.slice A3 n3 c3])(j:R (.returned (.tuple #[gv s1 A1 n1 c1 s2 A2 n2 c2 s3 A3 n3 c3,a.tmps.getD u undef])) w):bodyPost Tryz.prog fn R .ret a w:=bodyPost_ret (v:=.tuple #[gv s1 A1 n1 c1 s2 A2 n2 c2 s3 A3 n3 c3,a.tmps.getD u undef]) (by simp[results,l,hp,asAddr,Ao hb]) hd j
def JG(l:fn.results= #[.cell t 44])(hd:a.defers=[])(hp:a.tmps[t]?.getD undef=.pointer (some ⟨g,0,none⟩))(hb:Blk w g 44 #[.bool s1,.slice A1 n1 c1,.bool s2,.slice A2 n2 c2,.bool s3,.slice A3 n3 c3,.bool s4,.slice A4 n4 c4,.bool s5,.slice A5 n5 c5,.bool s6,.slice A6 n6 c6])(j:R (.returned (pv s1 A1 n1 c1 s2 A2 n2 c2 s3 A3 n3 c3 s4 A4 n4 c4 s5 A5 n5 c5 s6 A6 n6 c6)) w):bodyPost Tryz.prog fn R .ret a w:=bodyPost_ret (by simp[results,l,hp,asAddr,xP hb]) hd j
def qO(l:fn.results= #[.cell t 44,.tmp u])(hd:a.defers=[])(hp:a.tmps[t]?.getD undef=.pointer (some ⟨g,0,none⟩))(hb:Blk w g 44 #[.bool s1,.slice A1 n1 c1,.bool s2,.slice A2 n2 c2,.bool s3,.slice A3 n3 c3,.bool s4,.slice A4 n4 c4,.bool s5,.slice A5 n5 c5,.bool s6,.slice A6 n6 c6])(j:R (.returned (.tuple #[pv s1 A1 n1 c1 s2 A2 n2 c2 s3 A3 n3 c3 s4 A4 n4 c4 s5 A5 n5 c5 s6 A6 n6 c6,a.tmps.getD u undef])) w):bodyPost Tryz.prog fn R .ret a w:=bodyPost_ret (v:=.tuple #[pv s1 A1 n1 c1 s2 A2 n2 c2 s3 A3 n3 c3 s4 A4 n4 c4 s5 A5 n5 c5 s6 A6 n6 c6,a.tmps.getD u undef]) (by simp[results,l,hp,asAddr,xP hb]) hd j
end
def jV{lo hi N j:Nat}(B:lo<hi)(l:N<j)(h:hi<=N\/j<=lo):lo≠N:=aa
section
variable {w:World} {s1 s2 s3 s4 s5 s6:Bool} {A1 A2 A3 A4 A5 A6:Option Addr} {n1 c1 n2 c2 n3 c3 n4 c4 n5 c5 n6 c6:Nat} {a b d x y z e:Int}
def RG.inj(h:RG w (gv s1 A1 n1 c1 s2 A2 n2 c2 s3 A3 n3 c3) a b d):RI w (iv s1 A1 n1 c1) a/\RI w (iv s2 A2 n2 c2) b/\RI w (iv s3 A3 n3 c3) d:=by
 obtain⟨I,J,m1,L,D,B2,m2,K,F,G,H,d3,j,l,B,C⟩:=h;simp[gv] at j;obtain⟨rfl,⟨rfl,rfl,rfl⟩,rfl,⟨rfl,rfl,rfl⟩,rfl,rfl,rfl,rfl⟩:=j;exact⟨l,B,C⟩
def RG.at1(h:RG w (gv s1 A1 n1 c1 s2 A2 n2 c2 s3 A3 n3 c3) a b d):RI w (iv s1 A1 n1 c1) a:=h.inj.1
def RG.at2(h:RG w (gv s1 A1 n1 c1 s2 A2 n2 c2 s3 A3 n3 c3) a b d):RI w (iv s2 A2 n2 c2) b:=h.inj.2.1
def RG.at3(h:RG w (gv s1 A1 n1 c1 s2 A2 n2 c2 s3 A3 n3 c3) a b d):RI w (iv s3 A3 n3 c3) d:=h.inj.2.2
def RP.inj(h:RP w (pv s1 A1 n1 c1 s2 A2 n2 c2 s3 A3 n3 c3 s4 A4 n4 c4 s5 A5 n5 c5 s6 A6 n6 c6) a b d x y z):RI w (iv s1 A1 n1 c1) a/\RI w (iv s2 A2 n2 c2) b/\RI w (iv s3 A3 n3 c3) d/\RI w (iv s4 A4 n4 c4) x/\RI w (iv s5 A5 n5 c5) y/\RI w (iv s6 A6 n6 c6) z:=by
 obtain⟨Y,Z,m1,O,I,B2,m2,N,J,V,W,d3,Q,B4,R,T,L,P,U,S,M,j,K,d6,l,G,C,B,F,D,H⟩:=h;simp[pv] at l;obtain⟨rfl,⟨rfl,rfl,rfl⟩,rfl,⟨rfl,rfl,rfl⟩,rfl,⟨rfl,rfl,rfl⟩,rfl,⟨rfl,rfl,rfl⟩,rfl,⟨rfl,rfl,rfl⟩,rfl,rfl,rfl,rfl⟩:=l;exact⟨G,C,B,F,D,H⟩
def RP.at1(h:RP w (pv s1 A1 n1 c1 s2 A2 n2 c2 s3 A3 n3 c3 s4 A4 n4 c4 s5 A5 n5 c5 s6 A6 n6 c6) a b d x y z):RI w (iv s1 A1 n1 c1) a:=h.inj.1
def RP.at2(h:RP w (pv s1 A1 n1 c1 s2 A2 n2 c2 s3 A3 n3 c3 s4 A4 n4 c4 s5 A5 n5 c5 s6 A6 n6 c6) a b d x y z):RI w (iv s2 A2 n2 c2) b:=h.inj.2.1
def RP.at3(h:RP w (pv s1 A1 n1 c1 s2 A2 n2 c2 s3 A3 n3 c3 s4 A4 n4 c4 s5 A5 n5 c5 s6 A6 n6 c6) a b d x y z):RI w (iv s3 A3 n3 c3) d:=h.inj.2.2.1
def RP.at4(h:RP w (pv s1 A1 n1 c1 s2 A2 n2 c2 s3 A3 n3 c3 s4 A4 n4 c4 s5 A5 n5 c5 s6 A6 n6 c6) a b d x y z):RI w (iv s4 A4 n4 c4) x:=h.inj.2.2.2.1
def RP.at5(h:RP w (pv s1 A1 n1 c1 s2 A2 n2 c2 s3 A3 n3 c3 s4 A4 n4 c4 s5 A5 n5 c5 s6 A6 n6 c6) a b d x y z):RI w (iv s5 A5 n5 c5) y:=h.inj.2.2.2.2.1
def RP.at6(h:RP w (pv s1 A1 n1 c1 s2 A2 n2 c2 s3 A3 n3 c3 s4 A4 n4 c4 s5 A5 n5 c5 s6 A6 n6 c6) a b d x y z):RI w (iv s6 A6 n6 c6) z:=h.inj.2.2.2.2.2
def RP.rt(h:∃u,Value.tuple #[pv s1 A1 n1 c1 s2 A2 n2 c2 s3 A3 n3 c3 s4 A4 n4 c4 s5 A5 n5 c5 s6 A6 n6 c6,.int .i64 e]=.tuple #[u,.int .i64 e]/\RP w u a b d x y z):RP w (pv s1 A1 n1 c1 s2 A2 n2 c2 s3 A3 n3 c3 s4 A4 n4 c4 s5 A5 n5 c5 s6 A6 n6 c6) a b d x y z:=by
 obtain⟨u,j,l⟩:=h;simp at j;exact j ▸ l
def RP.rt1(h:∃u,Value.tuple #[pv s1 A1 n1 c1 s2 A2 n2 c2 s3 A3 n3 c3 s4 A4 n4 c4 s5 A5 n5 c5 s6 A6 n6 c6,.int .i64 e]=.tuple #[u,.int .i64 e]/\RP w u a b d x y z):RI w (iv s1 A1 n1 c1) a:=(RP.rt h).at1
def RP.rt2(h:∃u,Value.tuple #[pv s1 A1 n1 c1 s2 A2 n2 c2 s3 A3 n3 c3 s4 A4 n4 c4 s5 A5 n5 c5 s6 A6 n6 c6,.int .i64 e]=.tuple #[u,.int .i64 e]/\RP w u a b d x y z):RI w (iv s2 A2 n2 c2) b:=(RP.rt h).at2
def RP.rt3(h:∃u,Value.tuple #[pv s1 A1 n1 c1 s2 A2 n2 c2 s3 A3 n3 c3 s4 A4 n4 c4 s5 A5 n5 c5 s6 A6 n6 c6,.int .i64 e]=.tuple #[u,.int .i64 e]/\RP w u a b d x y z):RI w (iv s3 A3 n3 c3) d:=(RP.rt h).at3
def RP.rt4(h:∃u,Value.tuple #[pv s1 A1 n1 c1 s2 A2 n2 c2 s3 A3 n3 c3 s4 A4 n4 c4 s5 A5 n5 c5 s6 A6 n6 c6,.int .i64 e]=.tuple #[u,.int .i64 e]/\RP w u a b d x y z):RI w (iv s4 A4 n4 c4) x:=(RP.rt h).at4
def RP.rt5(h:∃u,Value.tuple #[pv s1 A1 n1 c1 s2 A2 n2 c2 s3 A3 n3 c3 s4 A4 n4 c4 s5 A5 n5 c5 s6 A6 n6 c6,.int .i64 e]=.tuple #[u,.int .i64 e]/\RP w u a b d x y z):RI w (iv s5 A5 n5 c5) y:=(RP.rt h).at5
def RP.rt6(h:∃u,Value.tuple #[pv s1 A1 n1 c1 s2 A2 n2 c2 s3 A3 n3 c3 s4 A4 n4 c4 s5 A5 n5 c5 s6 A6 n6 c6,.int .i64 e]=.tuple #[u,.int .i64 e]/\RP w u a b d x y z):RI w (iv s6 A6 n6 c6) z:=(RP.rt h).at6
end
def iO{z}(j: -9223372036854775808<=z)(l:z<=9223372036854775807):z.natAbs<lim:=Pt (k:=2) aa aj
theorem VS:(0:Int).natAbs<lim:=by
 have:0<lim:=by unfold lim;exact Nat.pow_pos aj
 simpa using this
abbrev Bk:Type:=Nat×TypeId×Array Value
abbrev Nm:Type:=Value×Bool×List Nat
abbrev nz (v:Value) (z:Int):Nm:=(v,decide (z<0),bZ z.natAbs)
def apart (g:Nat):List Bk->Prop
 |[]=>True
 |p::r=>p.1≠g/\apart g r
def rZ:List Bk->Prop
 |[]=>True
 |p::r=>apart p.1 r/\rZ r
structure St (w W:World) (bs:List Bk) (fs:List Nm):Prop where
 ext:Ext w W
 blks:∀p∈bs,Blk W p.1 p.2.1 p.2.2
 nd:rZ bs
 nums:∀q∈fs,RX W q.1 q.2.1 q.2.2
def zK{g}:∀{bs:List Bk},(∀p∈bs,p.1≠g)->apart g bs
 |[],_=>trivial
 |p::r,h=>⟨h p ag,zK (fun q hq=>h q (by simp[hq]))⟩
def xJ{g}:∀{bs:List Bk},apart g bs->∀p∈bs,p.1≠g
 |[],_,p,hp=>by cases hp
 |q::r,h,p,hp=>by
  rcases List.mem_cons.1 hp with e|e
  .subst e;exact h.1
  .exact xJ h.2 p e
section
variable {w W W':World} {bs:List Bk} {fs:List Nm}
def St.start(w):St w w [] []:=⟨Ext.refl w,ag,trivial,ag⟩
def St.mv(h:St w W bs fs)(x:Ext W W'):St w W' bs fs:=⟨h.ext.trans x,fun p hp=>(h.blks p hp).ext x,h.nd,fun q hq=>(h.nums q hq).ext x⟩
def St.blk(h:St w W bs fs)(i:Nat){g:Nat}{t cs}(e:bs[i]? =some (g,t,cs)):Blk W g t cs:=h.blks _ (List.mem_of_getElem? e)
def St.num(h:St w W bs fs)(i:Nat){v s l}(e:fs[i]? =some (v,s,l)):RX W v s l:=h.nums _ (List.mem_of_getElem? e)
def St.aF{w W : World}{bs : List Bk}{fs : List Nm}(h : St w W bs fs)(i : Nat){v : Value}{s : Bool}{l : List Nat}(e : fs[i]? = some (v, s, l) := by rfl): RX W v s l := h.num i e
def St.aH{w W : World}{bs : List Bk}{fs : List Nm}(h : St w W bs fs)(i : Nat){g : Nat}{t : TypeId}{cs : Array Value}(e : bs[i]? = some (g, t, cs) := by rfl): Blk W g t cs := h.blk i e
def St.aD{w W W' : World}{bs : List Bk}{fs : List Nm}(h : St w W bs fs)(i : Nat)(x : Ext W W'){v : Value}{z : Int}(e : fs[i]? = some (nz v z) := by rfl): RI W' v z := RI.ext (h.num i e) x
def St.lt(h:St w W bs fs):∀p∈bs,p.1<W.heap.size:=fun p hp=>(h.blks p hp).lt
def St.addN(h:St w W bs fs){v s l}(x:RX W v s l):St w W bs ((v,s,l)::fs):=
 ⟨h.ext,h.blks,h.nd,List.forall_mem_cons.2 ⟨x,h.nums⟩⟩
def St.less{b}(h:St w W (b::bs) fs):St w W bs fs:=⟨h.ext,fun p hp=>h.blks p (List.mem_cons_of_mem _ hp),h.nd.2,h.nums⟩
def St.one{f}(h:St w W bs (f::fs)):St w W bs [f]:=⟨h.ext,h.blks,h.nd,fun q hq=>by
 have e:=List.mem_singleton.1 hq;subst e;exact h.nums q ag⟩
def St.sel(h:St w W bs fs)(is:List Nat){j}(e:is.filterMap (fun i=>fs[i]?)=j):St w W bs j:=⟨h.ext,h.blks,h.nd,fun q hq=>by
 rw[<-e] at hq;obtain⟨i,_,hi⟩:=List.mem_filterMap.1 hq;exact h.nums q (List.mem_of_getElem? hi)⟩
def St.aU(h:St w W bs fs){v z}(x:RI W v z):St w W bs (nz v z::fs):=h.addN x
def St.vk(h:St w W bs fs){g t cs}(hb:Blk W g t cs)(ha:apart g bs):St w W ((g,t,cs)::bs) fs:=
 ⟨h.ext,List.forall_mem_cons.2 ⟨hb,h.blks⟩,⟨ha,h.nd⟩,h.nums⟩
def St.al(h:St w W bs fs)(t cs){g}(j:W.heap.size=g):St w (W.alloc (.cells cs t)) ((g,t,cs)::bs) fs:=
 St.vk (h.mv (Ext.new _ _)) (Blk.new' _ _ j) (zK fun p hp=>by have:=h.lt p hp;omega)
def zx:∀{bs:List Bk} {i j:Nat} {p q:Bk},rZ bs->i≠j->bs[i]? =some p->bs[j]? =some q->p.1≠q.1
 |[],i,j,p,q,_,_,hi,_=>by simp at hi
 |b::r,0,0,p,q,_,h,_,_=>absurd rfl h
 |b::r,0,j+1,p,q,h,_,hi,hj=>by
  simp at hi hj;subst hi;exact(xJ h.1 q (List.mem_of_getElem? hj)).symm
 |b::r,i+1,0,p,q,h,_,hi,hj=>by
  simp at hi hj;subst hj;exact xJ h.1 p (List.mem_of_getElem? hi)
 |b::r,i+1,j+1,p,q,h,hne,hi,hj=>zx (bs:=r) (i:=i) (j:=j) h.2 aa (by simpa using hi) (by simpa using hj)
def Dm{g}:∀{bs:List Bk} {i:Nat} {p:Bk} {cs:Array Value},bs[i]? =some p->apart g bs->apart g (bs.set i (p.1,p.2.1,cs))
 |[],i,p,cs,h,_=>by simp at h
 |b::r,0,p,cs,h,ha=>by simp at h;subst h;exact ha
 |b::r,i+1,p,cs,h,ha=>⟨ha.1,Dm Acn ha.2⟩
def IB:∀{bs:List Bk} {i:Nat} {p:Bk} {cs:Array Value},bs[i]? =some p->rZ bs->rZ (bs.set i (p.1,p.2.1,cs))
 |[],i,p,cs,h,_=>by simp at h
 |b::r,0,p,cs,h,ha=>by simp at h;subst h;exact ha
 |b::r,i+1,p,cs,h,ha=>⟨Dm Acn ha.1,IB Acn ha.2⟩
def St.put(h:St w W bs fs)(i k:Nat){g:Nat}{t cs cs' bs'}(B)(e:bs[i]? =some (g,t,cs))(D:Own w g)(hn:kz cs=true)(l:W'=puts W g k B)(ec:fD cs k B=cs')(J:bs.set i (g,t,cs')=bs'):St w W' bs' fs:=by
 have hb:=h.blk i e;obtain⟨K,G,F,I,_⟩:=PS k B h.ext D hb hn l ec;refine⟨K,fun p hp=> ?_,J ▸ IB (p:=(g,t,cs)) e h.nd,fun q hq=>I _ _ _ (h.nums q hq)⟩;obtain⟨j,C⟩:=List.getElem?_of_mem hp;rw[<-J] at C;have T:i<bs.length:=(List.getElem?_eq_some_iff.1 e).1;by_cases L:i=j
 .subst L;rw[List.getElem?_set_self T] at C;injection C with C;subst C;exact G
 .rw[List.getElem?_set_ne L] at C;exact F _ _ _ (fun H=>zx h.nd (fun h=>L h.symm) C e H) (h.blks p (List.mem_of_getElem? C))
end
def fA (zs:List Int):Nat:=zs.foldl (fun g z=>Nat.gcd g z.natAbs) 0
theorem Ni{zs:List Int}{k}{z:Int}(h:zs[k]? =some z):fA (zs.take (k+1))=Nat.gcd (fA (zs.take k)) z.natAbs:=by
 unfold fA;rw[List.take_add_one,h,List.foldl_append];rfl
def GL:∀(zs:List Int),zs.foldl (fun g z=>Nat.gcd g z.natAbs) 1=1
 |[]=>rfl
 |z::zs=>by rw[List.foldl_cons,Nat.gcd_one_left];exact GL zs
theorem OU{zs k}(h:fA (zs.take k)=1):fA zs=1:=by
 have e:zs=zs.take k++zs.drop k:=(List.take_append_drop k zs).symm;rw[e];unfold fA at h⊢;rw[List.foldl_append,h];exact GL _
theorem Ld:0<lim:=by unfold lim;exact Nat.pow_pos aj
def Kt:∀(zs:List Int) (g:Nat),g<lim->(∀z∈zs,z.natAbs<lim)->zs.foldl (fun g z=>Nat.gcd g z.natAbs) g<lim
 |[],g,hg,_=>hg
 |z::zs,g,hg,h=>by
  rw[List.foldl_cons];refine Kt zs _ ?_ (fun x J=>h x (List.mem_cons_of_mem _ J));rcases Nat.eq_zero_or_pos g with j|j
  .subst j;rw[Nat.gcd_zero_left];exact h z ag
  .exact Nat.lt_of_le_of_lt (Nat.gcd_le_left _ j) hg
def LF{zs}(h:∀z∈zs,z.natAbs<lim):fA zs<lim:=Kt zs 0 Ld h
def zT(g gs L zs cs w)(hc:Calm w g)(hb:Blk w gs 40 cs)(hL:zs.length=L)(I:L<=100)(R:∀j z,zs[j]? =some z->z.natAbs<lim/\∃s A n c,cs[j*2]? =some (.bool s)/\cs[j*2+1]? =some (.slice A n c)/\RI w (iv s A n c) z):
  CV 145 #[.pointer (some ⟨g,0,none⟩),.slice (some ⟨gs,0,none⟩) L L] w fun v w'=>RI w' v (fA zs:Nat):=by
 have HL:=aJ hL;have HZ:=aJ R;clear hL R;have hS:=((St.start w).vk hc trivial).al 40 #[.bool false,.slice none 0 0] (g:=w.heap.size) rfl;replace hS:=hS.al 40 #[.bool false,.slice none 0 0] (g:=w.heap.size+1) ag;have o4:Own w w.heap.size:=Nat.le_refl _;have o5:Own w (w.heap.size+1):=Nat.le_succ _;have P:=(hS.aH 0).cell;have Q:=(hS.aH 0).frozen;go_enter Tryz.func145,Tryz.ntmps145;(go_wp2_with fail);clear P Q;generalize ((w.alloc (.cells #[.bool false,.slice none 0 0] 40)).alloc (.cells #[.bool false,.slice none 0 0] 40))=w1 at hS⊢;generalize w.heap.size+1=g5 at hS o5⊢;generalize w.heap.size=g4 at hS o4⊢;go_loopw [11] (fun i wr=>∃k:Nat,k<=L/\i=.int .i64 (k:Int)/\∃s A n c,St w wr [(g5,40,#[.bool s,.slice A n c]),(g4,40,#[.bool false,.slice none 0 0]),(g,197,#[.int .i64 0])] [nz (iv s A n c) (fA (zs.take k):Nat)]) (fun i _=>L-(intOf i).toNat)
 case atStart=>
  exact⟨0,aa,rfl,false,none,0,0,hS.aU (RI.zero _)⟩
 case round=>
  clear hS;obtain⟨k,hk,rfl,s5,A5,n5,c5,hS⟩:=hrel;by_cases WZ:k<L
  .have hq:=List.getElem?_eq_getElem (l:=zs) (i:=k) (by rw[HL.o];exact WZ);obtain⟨z,R⟩:∃z,zs[k]? =some z:=⟨_,hq⟩;clear hq;obtain⟨C,s6,A6,n6,c6,U,O,WB⟩:=HZ.o k z R;have B:=(hb.ext hS.ext).cell;have Y:=(B (k*2)).trans U;have Xi:=(B (k*2+1)).trans O;clear B U O;have HG:=aJ (Ni R);have gl:(fA (zs.take k):Int).natAbs<lim:=LF (fun x J=>by
    obtain⟨j,hj⟩:=List.getElem?_of_mem (List.mem_of_mem_take J);exact(HZ.o j x hj).1)
   have XI:Hid (fA (zs.take k)=1->fA zs=1):=aJ OU;clear R;replace hS:=hS.aU (WB.ext hS.ext);generalize fA (zs.take k)=G at*
   have e1:((k:Int)*2).toNat=k*2:=aa;have o7:Own w wr.heap.size:=Own.of hS.ext (Nat.le_refl _);have hT:=hS.al 40 #[.bool false,.slice none 0 0] (g:=wr.heap.size) rfl;have P:=(hT.aH 0).cell;have Q:=(hT.aH 0).frozen;clear hT;replace hS:=hS.al 40 #[.bool s6,.slice A6 n6 c6] (g:=wr.heap.size) rfl;have k3:=(hS.aH 1).cell;(go_wp2_with fail);clear P Q k3 Y Xi;generalize wr.alloc (.cells #[.bool s6,.slice A6 n6 c6] 40)=w2 at hS⊢;generalize wr.heap.size=g7 at hS o7⊢;refine(uV _ _ _ (hS.aF 1)).mono ?_;rintro e w3 ⟨rfl,F⟩;replace hS:=hS.mv F;clear F;by_cases T:(G:Int)=1
   .have S:decide ((G:Int)=1)=true:=by simpa using T
    rw[S];have H:fA zs=1:=XI.o aa;have D:Hid ((G:Int)=(fA zs:Nat)):=aJ (by rw[H];exact T);clear S T H;have P:=(hS.aH 1).cell;have Q:=(hS.aH 2).cell;have k3:=(hS.aH 2).frozen;replace hS:=hS.put (W':=((w3.setCell ⟨g4,0,none⟩ (.bool s5)).setCell ⟨g4,1,none⟩ (.slice A5 n5 c5))) 2 0 [.bool s5,.slice A5 n5 c5] (cs':= #[.bool s5,.slice A5 n5 c5]) rfl o4 rfl rfl rfl rfl;go_wp2;rw[<-D.o];exact fu rfl rfl rfl (hS.aH 2) ⟨_,rfl,hS.aF 1,hS.ext⟩
   .have S:decide ((G:Int)=1)=false:=by simpa using T
    rw[S];clear S T;have P:=(hS.aH 1).cell;have Q:=(hS.aH 0).cell;(go_wp2_with fail);clear P Q;refine(UT _ _ _ _ _ (hS.aF 1) (hS.aF 0) gl C).mono ?_;rintro e w4 ⟨v_,rfl,⟨K,rfl,M⟩,F⟩;replace hS:=hS.mv F;clear F;have N:RI w4 K ((Nat.gcd (G:Int).natAbs z.natAbs:Nat)):=M;have WN:Hid (Nat.gcd (G:Int).natAbs z.natAbs=fA (zs.take (k+1))):=aJ HG.symm;rw[WN.o] at N;clear M;(go_wp2_with fail);refine(tV g K _ _ (hS.aH 3) N).mono ?_;rintro e w5 ⟨v_,rfl,M,F⟩;replace hS:=hS.mv F;clear F N;obtain⟨V,A8,Z,W,rfl,N⟩:=RI.opn M;replace hS:=hS.aU N;clear M N;have P:=(hS.aH 1).cell;have Q:=(hS.aH 1).frozen;replace hS:=hS.put (W':=((w5.setCell ⟨g5,0,none⟩ (.bool V)).setCell ⟨g5,1,none⟩ (.slice A8 Z W))) 1 0 [.bool V,.slice A8 Z W] (cs':= #[.bool V,.slice A8 Z W]) rfl o5 rfl rfl rfl rfl;go_wp2;go_roundw
    case rel=>
     refine⟨k+1,aa,au,V,A8,Z,W,?_⟩;exact St.one (St.less hS)
    case measure=>simp[intOf]<;>omega
  .obtain rfl:k=L:=aa;have D:Hid (fA (zs.take k)=fA zs):=aJ (by rw[List.take_of_length_le (by rw[HL.o];exact Nat.le_refl _)]);rw[D.o] at hS;have P:=(hS.aH 0).cell;have Q:=(hS.aH 1).cell;have k3:=(hS.aH 1).frozen;replace hS:=hS.put (W':=((wr.setCell ⟨g4,0,none⟩ (.bool s5)).setCell ⟨g4,1,none⟩ (.slice A5 n5 c5))) 1 0 [.bool s5,.slice A5 n5 c5] (cs':= #[.bool s5,.slice A5 n5 c5]) rfl o4 rfl rfl rfl rfl;go_wp2;exact fu rfl rfl rfl (hS.aH 1) ⟨_,rfl,hS.aF 0,hS.ext⟩
def AZ(g B)(x y z:Int)(w){s1 s2 A1 A2 n1 c1 n2 c2}(hc:Calm w g)(hb:Blk w B 40 #[.bool s1,.slice A1 n1 c1,.bool s2,.slice A2 n2 c2])(F:RI w (iv s1 A1 n1 c1) x)(D:RI w (iv s2 A2 n2 c2) y)(M:x.natAbs<lim)(C:y.natAbs<lim)(E:Hid (z=(fA [x,y]:Nat))):
  CV 145 #[.pointer (some ⟨g,0,none⟩),.slice (some ⟨B,0,none⟩) 2 2] w fun v w'=>RI w' v z:=by
 rw[E.o];refine zT g B 2 [x,y] _ w hc hb rfl aa (fun j u l=> ?_)
 match j,l with
 |0,l=>injection l with l;subst l;exact⟨M,_,_,_,_,rfl,rfl,F⟩
 |1,l=>injection l with l;subst l;exact⟨C,_,_,_,_,rfl,rfl,D⟩
def sj(g B)(x y t z:Int)(w){s1 s2 s3 A1 A2 A3 n1 c1 n2 c2 n3 c3}(hc:Calm w g)(hb:Blk w B 40 #[.bool s1,.slice A1 n1 c1,.bool s2,.slice A2 n2 c2,.bool s3,.slice A3 n3 c3])(H:RI w (iv s1 A1 n1 c1) x)(G:RI w (iv s2 A2 n2 c2) y)(C:RI w (iv s3 A3 n3 c3) t)(M:x.natAbs<lim)(D:y.natAbs<lim)(F:t.natAbs<lim)(E:Hid (z=(fA [x,y,t]:Nat))):
  CV 145 #[.pointer (some ⟨g,0,none⟩),.slice (some ⟨B,0,none⟩) 3 3] w fun v w'=>RI w' v z:=by
 rw[E.o];refine zT g B 3 [x,y,t] _ w hc hb rfl aa (fun j u l=> ?_)
 match j,l with
 |0,l=>injection l with l;subst l;exact⟨M,_,_,_,_,rfl,rfl,H⟩
 |1,l=>injection l with l;subst l;exact⟨D,_,_,_,_,rfl,rfl,G⟩
 |2,l=>injection l with l;subst l;exact⟨F,_,_,_,_,rfl,rfl,C⟩
def OW(g B)(x y t u z:Int)(w){s1 s2 s3 s4 A1 A2 A3 A4 n1 c1 n2 c2 n3 c3 n4 c4}(hc:Calm w g)(hb:Blk w B 40 #[.bool s1,.slice A1 n1 c1,.bool s2,.slice A2 n2 c2,.bool s3,.slice A3 n3 c3,.bool s4,.slice A4 n4 c4])(I:RI w (iv s1 A1 n1 c1) x)(G:RI w (iv s2 A2 n2 c2) y)(C:RI w (iv s3 A3 n3 c3) t)(J:RI w (iv s4 A4 n4 c4) u)(M:x.natAbs<lim)(D:y.natAbs<lim)(F:t.natAbs<lim)(H:u.natAbs<lim)(E:Hid (z=(fA [x,y,t,u]:Nat))):
  CV 145 #[.pointer (some ⟨g,0,none⟩),.slice (some ⟨B,0,none⟩) 4 4] w fun v w'=>RI w' v z:=by
 rw[E.o];refine zT g B 4 [x,y,t,u] _ w hc hb rfl aa (fun j q l=> ?_)
 match j,l with
 |0,l=>injection l with l;subst l;exact⟨M,_,_,_,_,rfl,rfl,I⟩
 |1,l=>injection l with l;subst l;exact⟨D,_,_,_,_,rfl,rfl,G⟩
 |2,l=>injection l with l;subst l;exact⟨F,_,_,_,_,rfl,rfl,C⟩
 |3,l=>injection l with l;subst l;exact⟨H,_,_,_,_,rfl,rfl,J⟩
def Ei{P:Program}{ops:Array Oper}{w0:World}{E:Nat->Bool}{Φ:Nat->Nat->Nat->Value->World->Prop}{Qt:Book->Act->Prop}{o:Oper}{l:List Oper}{k:Nat}{F:Book}{a:Act}{G:Value->World->Prop}{f:FuncId}{args:Array Value}{Q:Bool->Option Addr->Nat->Nat->Nat->Nat->Prop}(x:∀W,Kn ops w0 Φ k F W->Calls P f args W (fun e w'=>∃v,e=.returned v/\G v w'/\Ext W w'))(h:∀s A n c lo hi,Q s A n c lo hi)(t:(∀W,Kn ops w0 Φ k F W->Calls P f args W (fun e w'=>∃v,e=.returned v/\G v w'/\Ext W w'))->(∀s A n c lo hi,Q s A n c lo hi)->wpT P ops w0 E Φ Qt (o::l) k F a:=by
   intro x h;refine eQ (by rfl) (by rfl) (by rfl) ?_ ?_
   .intro W I;have y:=x W I;clear x h I;go_simp;exact⟨rfl,y.mono fun e w' ⟨v,O,hv,J⟩=>⟨v,O,J,hv⟩⟩
   .intro v lo hi B;obtain⟨W,j⟩:=B;obtain⟨s,A,n,c,rfl,-⟩:=RI.opn j.get;clear j W x;(try simp only[Act.put,List.setIfInBounds_toArray,List.set_cons_succ,List.set_cons_zero]);exact h s A n c lo hi):wpT P ops w0 E Φ Qt (o::l) k F a:=t x h
def Eg{P:Program}{ops:Array Oper}{w0:World}{E:Nat->Bool}{Φ:Nat->Nat->Nat->Value->World->Prop}{Qt:Book->Act->Prop}{o:Oper}{l:List Oper}{k:Nat}{F:Book}{a:Act}{G:Value->World->Prop}{f:FuncId}{args:Array Value}{Q:Bool->Option Addr->Nat->Nat->Bool->Option Addr->Nat->Nat->Bool->Option Addr->Nat->Nat->Nat->Nat->Prop}(x:∀W,Kn ops w0 Φ k F W->Calls P f args W (fun e w'=>∃v,e=.returned v/\G v w'/\Ext W w'))(h:∀sa B na H M K nb L D C nd j lo hi,Q sa B na H M K nb L D C nd j lo hi)(t:(∀W,Kn ops w0 Φ k F W->Calls P f args W (fun e w'=>∃v,e=.returned v/\G v w'/\Ext W w'))->(∀sa B na H M K nb L D C nd j lo hi,Q sa B na H M K nb L D C nd j lo hi)->wpT P ops w0 E Φ Qt (o::l) k F a:=by
   intro x h;refine eQ (by rfl) (by rfl) (by rfl) ?_ ?_
   .intro W I;have y:=x W I;clear x h I;go_simp;exact⟨rfl,y.mono fun e w' ⟨v,O,hv,J⟩=>⟨v,O,J,hv⟩⟩
   .intro v lo hi R;obtain⟨W,N⟩:=R;obtain⟨sa,B,na,H,M,K,nb,L,D,C,nd,j,rfl,-,-,-⟩:=N.get;clear N W x;(try simp only[Act.put,List.setIfInBounds_toArray,List.set_cons_succ,List.set_cons_zero]);exact h sa B na H M K nb L D C nd j lo hi):wpT P ops w0 E Φ Qt (o::l) k F a:=t x h
section
variable {w W w0:World} {bs:List Bk} {fs:List Nm} {Φ:Nat->Nat->Nat->Value->World->Prop} {F:Book} {p:Prop}
def St.aI(h:St w W bs fs)(I:dO w0 Φ F W)(i:Nat){v:Value}{lo hi:Nat}{z:Int}(l:F i=some (v,lo,hi):=by rfl)(j:Φ i lo hi v W=RI W v z:=by rfl):St w W bs (nz v z::fs):=h.aU (j ▸ I.at_ i l)
section
variable {s1 s2 s3 s4 s5 s6:Bool} {A1 A2 A3 A4 A5 A6:Option Addr} {n1 n2 n3 n4 n5 n6 c1 c2 c3 c4 c5 c6:Nat}
def St.aG(h:St w W bs fs)(I:dO w0 Φ F W)(i:Nat){lo hi:Nat}{a b d:Int}(l:F i=some (gv s1 A1 n1 c1 s2 A2 n2 c2 s3 A3 n3 c3,lo,hi):=by rfl)(j:Φ i lo hi (gv s1 A1 n1 c1 s2 A2 n2 c2 s3 A3 n3 c3) W=RG W (gv s1 A1 n1 c1 s2 A2 n2 c2 s3 A3 n3 c3) a b d:=by rfl):St w W bs (nz (iv s3 A3 n3 c3) d::nz (iv s2 A2 n2 c2) b::nz (iv s1 A1 n1 c1) a::fs):=
 have x:RG W _ a b d:=j ▸ I.at_ i l
 ((h.aU x.at1).aU x.at2).aU x.at3
def St.aP(h:St w W bs fs)(I:dO w0 Φ F W)(i:Nat){lo hi:Nat}{a b d x y z e:Int}(j:F i=some (.tuple #[pv s1 A1 n1 c1 s2 A2 n2 c2 s3 A3 n3 c3 s4 A4 n4 c4 s5 A5 n5 c5 s6 A6 n6 c6,.int .i64 e],lo,hi):=by rfl)(l:Φ i lo hi (.tuple #[pv s1 A1 n1 c1 s2 A2 n2 c2 s3 A3 n3 c3 s4 A4 n4 c4 s5 A5 n5 c5 s6 A6 n6 c6,.int .i64 e]) W=∃u,Value.tuple #[pv s1 A1 n1 c1 s2 A2 n2 c2 s3 A3 n3 c3 s4 A4 n4 c4 s5 A5 n5 c5 s6 A6 n6 c6,.int .i64 e]=.tuple #[u,.int .i64 e]/\RP W u a b d x y z:=by rfl):St w W bs (nz (iv s6 A6 n6 c6) z::nz (iv s5 A5 n5 c5) y::nz (iv s4 A4 n4 c4) x::nz (iv s3 A3 n3 c3) d::nz (iv s2 A2 n2 c2) b::nz (iv s1 A1 n1 c1) a::fs):=
 have r:=RP.rt (l ▸ I.at_ i j)
 (((((h.aU r.at1).aU r.at2).aU r.at3).aU r.at4).aU r.at5).aU r.at6
end
def St.aB(h:St w W bs fs)(I:dO w0 Φ F W)(i g:Nat){hi:Nat}{v:Value}{T:TypeId}{cs:Array Value}{r q:Prop}(ha:apart g bs)(l:F i=some (v,g,hi):=by rfl)(j:Φ i g hi v W=(r/\q/\Blk W g T cs):=by rfl):St w W ((g,T,cs)::bs) fs:=h.vk (j ▸ I.at_ i l).2.2 ha
def St.pt(h:St w W bs fs)(i k:Nat)(B:List Value){g:Nat}{T:TypeId}{cs cs':Array Value}{W':World}{bs':List Bk}(j:Own w g)(e:bs[i]? =some (g,T,cs):=by rfl)(hn:kz cs=true:=by kernel_rfl)(l:puts W g k B=W':=by simp only[puts];first|done|rfl)(ec:fD cs k B=cs':=by simp only[fD,List.setIfInBounds_toArray,List.set_cons_succ,List.set_cons_zero];first|done|rfl)(J:bs.set i (g,T,cs')=bs':=by simp only[List.set_cons_succ,List.set_cons_zero];first|done|rfl):St w W' bs' fs:=h.put i k B e j hn l.symm ec J
def gW{Q:World->Prop}(x:St w W bs fs)(h:∀W,St w W bs fs->Q W)(t:(∃W',W=W'/\St w W' bs fs)->(∀W,St w W bs fs->Q W)->p:=by
  intro x h;obtain⟨W',e,y⟩:=x;rw[e];exact h W' y):p:=t ⟨_,rfl,x⟩ h
def gA1{Q:World->Nat->Prop}(x:St w W bs fs)(j:TypeId)(c1:Array Value)(h:∀W',∀g1,Own w g1->St w W' ((g1,j,c1)::bs) fs->Q W' g1)(t:(∃W' g1,(W.alloc (.cells c1 j))=W'/\W.heap.size=g1/\Own w g1/\St w W' ((g1,j,c1)::bs) fs)->(∀W',∀g1,Own w g1->St w W' ((g1,j,c1)::bs) fs->Q W' g1)->p:=by
  intro x h;obtain⟨W',g1,e,l,o1,y⟩:=x;rw[e];(try rw[l]);exact h W' g1 o1 y):p:=
 t ⟨_,_,rfl,rfl,Own.of x.ext ag,(St.al x j c1 ag)⟩ h
def gA2{Q:World->Nat->Nat->Prop}(x:St w W bs fs)(j:TypeId)(c1:Array Value)(l:TypeId)(c2:Array Value)(h:∀W',∀g1,Own w g1->∀g2,Own w g2->St w W' ((g2,l,c2)::(g1,j,c1)::bs) fs->Q W' g1 g2)(t:(∃W' g1 g2,((W.alloc (.cells c1 j)).alloc (.cells c2 l))=W'/\W.heap.size=g1/\Own w g1/\W.heap.size+1=g2/\Own w g2/\St w W' ((g2,l,c2)::(g1,j,c1)::bs) fs)->(∀W',∀g1,Own w g1->∀g2,Own w g2->St w W' ((g2,l,c2)::(g1,j,c1)::bs) fs->Q W' g1 g2)->p:=by
  intro x h;obtain⟨W',g1,g2,e,D,o1,B,C,y⟩:=x;rw[e];(try rw[B]);(try rw[D]);exact h W' g1 o1 g2 C y):p:=
 t ⟨_,_,_,rfl,rfl,Own.of x.ext ag,rfl,Own.of x.ext ag,(St.al (St.al x j c1 ag) l c2 ag)⟩ h
def gA3{Q:World->Nat->Nat->Nat->Prop}(x:St w W bs fs)(j:TypeId)(c1:Array Value)(l:TypeId)(c2:Array Value)(B:TypeId)(c3:Array Value)(h:∀W',∀g1,Own w g1->∀g2,Own w g2->∀g3,Own w g3->St w W' ((g3,B,c3)::(g2,l,c2)::(g1,j,c1)::bs) fs->Q W' g1 g2 g3)(t:(∃W' g1 g2 g3,(((W.alloc (.cells c1 j)).alloc (.cells c2 l)).alloc (.cells c3 B))=W'/\W.heap.size=g1/\Own w g1/\W.heap.size+1=g2/\Own w g2/\W.heap.size+2=g3/\Own w g3/\St w W' ((g3,B,c3)::(g2,l,c2)::(g1,j,c1)::bs) fs)->(∀W',∀g1,Own w g1->∀g2,Own w g2->∀g3,Own w g3->St w W' ((g3,B,c3)::(g2,l,c2)::(g1,j,c1)::bs) fs->Q W' g1 g2 g3)->p:=by
  intro x h;obtain⟨W',g1,g2,g3,e,G,o1,F,C,D,H,y⟩:=x;rw[e];(try rw[D]);(try rw[F]);(try rw[G]);exact h W' g1 o1 g2 C g3 H y):p:=
 t ⟨_,_,_,_,rfl,rfl,Own.of x.ext ag,rfl,Own.of x.ext ag,rfl,Own.of x.ext ag,(St.al (St.al (St.al x j c1 ag) l c2 ag) B c3 ag)⟩ h
def gA4{Q:World->Nat->Nat->Nat->Nat->Prop}(x:St w W bs fs)(j:TypeId)(c1:Array Value)(l:TypeId)(c2:Array Value)(B:TypeId)(c3:Array Value)(C:TypeId)(c4:Array Value)(h:∀W',∀g1,Own w g1->∀g2,Own w g2->∀g3,Own w g3->∀g4,Own w g4->St w W' ((g4,C,c4)::(g3,B,c3)::(g2,l,c2)::(g1,j,c1)::bs) fs->Q W' g1 g2 g3 g4)(t:(∃W' g1 g2 g3 g4,((((W.alloc (.cells c1 j)).alloc (.cells c2 l)).alloc (.cells c3 B)).alloc (.cells c4 C))=W'/\W.heap.size=g1/\Own w g1/\W.heap.size+1=g2/\Own w g2/\W.heap.size+2=g3/\Own w g3/\W.heap.size+3=g4/\Own w g4/\St w W' ((g4,C,c4)::(g3,B,c3)::(g2,l,c2)::(g1,j,c1)::bs) fs)->(∀W',∀g1,Own w g1->∀g2,Own w g2->∀g3,Own w g3->∀g4,Own w g4->St w W' ((g4,C,c4)::(g3,B,c3)::(g2,l,c2)::(g1,j,c1)::bs) fs->Q W' g1 g2 g3 g4)->p:=by
  intro x h;obtain⟨W',g1,g2,g3,g4,e,J,o1,H,F,G,K,D,I,y⟩:=x;rw[e];(try rw[D]);(try rw[G]);(try rw[H]);(try rw[J]);exact h W' g1 o1 g2 F g3 K g4 I y):p:=
 t ⟨_,_,_,_,_,rfl,rfl,Own.of x.ext ag,rfl,Own.of x.ext ag,rfl,Own.of x.ext ag,rfl,Own.of x.ext ag,(St.al (St.al (St.al (St.al x j c1 ag) l c2 ag) B c3 ag) C c4 ag)⟩ h
def gA5{Q:World->Nat->Nat->Nat->Nat->Nat->Prop}(x:St w W bs fs)(j:TypeId)(c1:Array Value)(l:TypeId)(c2:Array Value)(B:TypeId)(c3:Array Value)(C:TypeId)(c4:Array Value)(D:TypeId)(c5:Array Value)(h:∀W',∀g1,Own w g1->∀g2,Own w g2->∀g3,Own w g3->∀g4,Own w g4->∀g5,Own w g5->St w W' ((g5,D,c5)::(g4,C,c4)::(g3,B,c3)::(g2,l,c2)::(g1,j,c1)::bs) fs->Q W' g1 g2 g3 g4 g5)(t:(∃W' g1 g2 g3 g4 g5,(((((W.alloc (.cells c1 j)).alloc (.cells c2 l)).alloc (.cells c3 B)).alloc (.cells c4 C)).alloc (.cells c5 D))=W'/\W.heap.size=g1/\Own w g1/\W.heap.size+1=g2/\Own w g2/\W.heap.size+2=g3/\Own w g3/\W.heap.size+3=g4/\Own w g4/\W.heap.size+4=g5/\Own w g5/\St w W' ((g5,D,c5)::(g4,C,c4)::(g3,B,c3)::(g2,l,c2)::(g1,j,c1)::bs) fs)->(∀W',∀g1,Own w g1->∀g2,Own w g2->∀g3,Own w g3->∀g4,Own w g4->∀g5,Own w g5->St w W' ((g5,D,c5)::(g4,C,c4)::(g3,B,c3)::(g2,l,c2)::(g1,j,c1)::bs) fs->Q W' g1 g2 g3 g4 g5)->p:=by
  intro x h;obtain⟨W',g1,g2,g3,g4,g5,e,L,o1,J,H,I,M,G,K,N,F,y⟩:=x;rw[e];(try rw[N]);(try rw[G]);(try rw[I]);(try rw[J]);(try rw[L]);exact h W' g1 o1 g2 H g3 M g4 K g5 F y):p:=
 t ⟨_,_,_,_,_,_,rfl,rfl,Own.of x.ext ag,rfl,Own.of x.ext ag,rfl,Own.of x.ext ag,rfl,Own.of x.ext ag,rfl,Own.of x.ext ag,(St.al (St.al (St.al (St.al (St.al x j c1 ag) l c2 ag) B c3 ag) C c4 ag) D c5 ag)⟩ h
end
def an1(w:World)(j:TypeId)(c1:Array Value):Ext w (w.alloc (.cells c1 j))/\Blk (w.alloc (.cells c1 j)) w.heap.size j c1:=⟨(Ext.trans (Ext.refl w) (Ext.new _ _)),(Blk.new' _ _ ag)⟩
def ah1(w:World)(j:TypeId)(c1:Array Value):Hid (Ext w (w.alloc (.cells c1 j)))/\Hid (Blk (w.alloc (.cells c1 j)) w.heap.size j c1):=⟨aJ (Ext.trans (Ext.refl w) (Ext.new _ _)),aJ (Blk.new' _ _ ag)⟩
def an2(w:World)(j:TypeId)(c1:Array Value)(l:TypeId)(c2:Array Value):Ext w ((w.alloc (.cells c1 j)).alloc (.cells c2 l))/\Blk ((w.alloc (.cells c1 j)).alloc (.cells c2 l)) w.heap.size j c1/\Blk ((w.alloc (.cells c1 j)).alloc (.cells c2 l)) (w.heap.size+1) l c2:=⟨(Ext.trans (Ext.trans (Ext.refl w) (Ext.new _ _)) (Ext.new _ _)),(Blk.alloc (Blk.new' _ _ ag) _),(Blk.new' _ _ ag)⟩
def ah2(w:World)(j:TypeId)(c1:Array Value)(l:TypeId)(c2:Array Value):Hid (Ext w ((w.alloc (.cells c1 j)).alloc (.cells c2 l)))/\Hid (Blk ((w.alloc (.cells c1 j)).alloc (.cells c2 l)) w.heap.size j c1)/\Hid (Blk ((w.alloc (.cells c1 j)).alloc (.cells c2 l)) (w.heap.size+1) l c2):=⟨aJ (Ext.trans (Ext.trans (Ext.refl w) (Ext.new _ _)) (Ext.new _ _)),aJ (Blk.alloc (Blk.new' _ _ ag) _),aJ (Blk.new' _ _ ag)⟩
def an3(w:World)(j:TypeId)(c1:Array Value)(l:TypeId)(c2:Array Value)(B:TypeId)(c3:Array Value):Ext w (((w.alloc (.cells c1 j)).alloc (.cells c2 l)).alloc (.cells c3 B))/\Blk (((w.alloc (.cells c1 j)).alloc (.cells c2 l)).alloc (.cells c3 B)) w.heap.size j c1/\Blk (((w.alloc (.cells c1 j)).alloc (.cells c2 l)).alloc (.cells c3 B)) (w.heap.size+1) l c2/\Blk (((w.alloc (.cells c1 j)).alloc (.cells c2 l)).alloc (.cells c3 B)) (w.heap.size+2) B c3:=⟨(Ext.trans (Ext.trans (Ext.trans (Ext.refl w) (Ext.new _ _)) (Ext.new _ _)) (Ext.new _ _)),(Blk.alloc (Blk.alloc (Blk.new' _ _ ag) _) _),(Blk.alloc (Blk.new' _ _ ag) _),(Blk.new' _ _ ag)⟩
def ah3(w:World)(j:TypeId)(c1:Array Value)(l:TypeId)(c2:Array Value)(B:TypeId)(c3:Array Value):Hid (Ext w (((w.alloc (.cells c1 j)).alloc (.cells c2 l)).alloc (.cells c3 B)))/\Hid (Blk (((w.alloc (.cells c1 j)).alloc (.cells c2 l)).alloc (.cells c3 B)) w.heap.size j c1)/\Hid (Blk (((w.alloc (.cells c1 j)).alloc (.cells c2 l)).alloc (.cells c3 B)) (w.heap.size+1) l c2)/\Hid (Blk (((w.alloc (.cells c1 j)).alloc (.cells c2 l)).alloc (.cells c3 B)) (w.heap.size+2) B c3):=⟨aJ (Ext.trans (Ext.trans (Ext.trans (Ext.refl w) (Ext.new _ _)) (Ext.new _ _)) (Ext.new _ _)),aJ (Blk.alloc (Blk.alloc (Blk.new' _ _ ag) _) _),aJ (Blk.alloc (Blk.new' _ _ ag) _),aJ (Blk.new' _ _ ag)⟩
def an4(w:World)(j:TypeId)(c1:Array Value)(l:TypeId)(c2:Array Value)(B:TypeId)(c3:Array Value)(C:TypeId)(c4:Array Value):Ext w ((((w.alloc (.cells c1 j)).alloc (.cells c2 l)).alloc (.cells c3 B)).alloc (.cells c4 C))/\Blk ((((w.alloc (.cells c1 j)).alloc (.cells c2 l)).alloc (.cells c3 B)).alloc (.cells c4 C)) w.heap.size j c1/\Blk ((((w.alloc (.cells c1 j)).alloc (.cells c2 l)).alloc (.cells c3 B)).alloc (.cells c4 C)) (w.heap.size+1) l c2/\Blk ((((w.alloc (.cells c1 j)).alloc (.cells c2 l)).alloc (.cells c3 B)).alloc (.cells c4 C)) (w.heap.size+2) B c3/\Blk ((((w.alloc (.cells c1 j)).alloc (.cells c2 l)).alloc (.cells c3 B)).alloc (.cells c4 C)) (w.heap.size+3) C c4:=⟨(Ext.trans (Ext.trans (Ext.trans (Ext.trans (Ext.refl w) (Ext.new _ _)) (Ext.new _ _)) (Ext.new _ _)) (Ext.new _ _)),(Blk.alloc (Blk.alloc (Blk.alloc (Blk.new' _ _ ag) _) _) _),(Blk.alloc (Blk.alloc (Blk.new' _ _ ag) _) _),(Blk.alloc (Blk.new' _ _ ag) _),(Blk.new' _ _ ag)⟩
def ah4(w:World)(j:TypeId)(c1:Array Value)(l:TypeId)(c2:Array Value)(B:TypeId)(c3:Array Value)(C:TypeId)(c4:Array Value):Hid (Ext w ((((w.alloc (.cells c1 j)).alloc (.cells c2 l)).alloc (.cells c3 B)).alloc (.cells c4 C)))/\Hid (Blk ((((w.alloc (.cells c1 j)).alloc (.cells c2 l)).alloc (.cells c3 B)).alloc (.cells c4 C)) w.heap.size j c1)/\Hid (Blk ((((w.alloc (.cells c1 j)).alloc (.cells c2 l)).alloc (.cells c3 B)).alloc (.cells c4 C)) (w.heap.size+1) l c2)/\Hid (Blk ((((w.alloc (.cells c1 j)).alloc (.cells c2 l)).alloc (.cells c3 B)).alloc (.cells c4 C)) (w.heap.size+2) B c3)/\Hid (Blk ((((w.alloc (.cells c1 j)).alloc (.cells c2 l)).alloc (.cells c3 B)).alloc (.cells c4 C)) (w.heap.size+3) C c4):=⟨aJ (Ext.trans (Ext.trans (Ext.trans (Ext.trans (Ext.refl w) (Ext.new _ _)) (Ext.new _ _)) (Ext.new _ _)) (Ext.new _ _)),aJ (Blk.alloc (Blk.alloc (Blk.alloc (Blk.new' _ _ ag) _) _) _),aJ (Blk.alloc (Blk.alloc (Blk.new' _ _ ag) _) _),aJ (Blk.alloc (Blk.new' _ _ ag) _),aJ (Blk.new' _ _ ag)⟩
section
variable {w W:World} {Φ:Nat->Nat->Nat->Value->World->Prop} {F:Book}
def dO.lw(h:dO w Φ F W)(i:Nat){v:Value}{g hi:Nat}(j:F i=some (v,g,hi):=by rfl):w.heap.size<=g:=h.low i _ j
def dO.hB(h:dO w Φ F W)(i:Nat){v:Value}{g hi:Nat}{T:TypeId}{cs:Array Value}{r q:Prop}(l:F i=some (v,g,hi):=by rfl)(j:Φ i g hi v W=(r/\q/\Blk W g T cs):=by rfl):Hid (Blk W g T cs):=aJ (j ▸ h.at_ i l).2.2
def dO.nn(h:dO w Φ F W)(i j:Nat){v u:Value}{g g' hi C:Nat}(l:g<hi)(B:g'<C)(G:F i=some (v,g,hi):=by rfl)(D:F j=some (u,g',C):=by rfl)(hn:i≠j:=by decide):g≠g':=jV l B (h.disj i j _ _ hn G D)
end
def apF{bs:List Bk}{L g:Nat}(h:∀p∈bs,p.1<L)(l:L<=g):apart g bs:=zK fun p hp=>Nat.ne_of_lt (Nat.lt_of_lt_of_le (h p hp) l)
def tF{P:Program}{K:Nat}{Q:Exit->Act->World->Prop}{a:Act}{w:World}{l:List Oper}(n:Nat)(m:List (Nat×Fc)){q:Prop}(h:q)(t:q->wpT P l.toArray w (Ou m) (Fcs m) (fun F a'=>∀w',dO w (Fcs m) F w'->wpList P l.toArray Q (l.drop n) a' w') (l.take n) 0 Book.none a:=by
   intro h;simp only[List.take_succ_cons,List.take_zero,List.drop_succ_cons,List.drop_zero];exact h)(B:P.follows .mixedOrders=true:=by kernel_rfl)(j:Region.lexTailB .any l.toArray n=true:=by kernel_rfl):(Code.region K l.toArray true).wp P Q a w:=bR n (Ou m) (Fcs m) (Ox _) B j (t h)
def Lx(v z w)(L:RI w v z)(h:z=1):
  CE 144 #[v] w (.bool true):=by
 have:=uV v z w L;rwa[show decide (z=1)=true by simpa using h] at this
def Uf(v z w)(L:RI w v z)(h:z≠1):
  CE 144 #[v] w (.bool false):=by
 have:=uV v z w L;rwa[show decide (z=1)=false by simpa using h] at this
def MO(v u x y q r w)(L:RI w v x)(l:RI w u y)(M:x.natAbs<lim)(O:y.natAbs<lim)(j:y≠0)(hq:q=x/y)(B:r=x%y):
  CV 195 #[v,u] w fun v w'=>NB q r 0 v w':=by
 subst hq B;exact Nu v u x y w L l M O j
def xA(T v1 Q m2 w)(hc:Calm w T)(J:RI w v1 Q)(Wo:Q.natAbs<lim)(l2: -9223372036854775808<=m2)(u2:m2<=9223372036854775807)(l)(K:Hid (l=Q*(m2)))(F:l.natAbs<lim):
  CV 165 #[.pointer (some ⟨T,0,none⟩),v1,.int .i64 m2] w fun v w'=>RI w' v l:=by
 have hS:=St.start w;obtain⟨D,H,C,G,rfl,O⟩:=J.opn;replace hS:=hS.aU O;clear J O;replace hS:=hS.vk hc trivial;clear hc;go_enter Tryz.func165,Tryz.ntmps165;(go_wp2_with fail);refine gA2 hS 40 #[.bool D,.slice H C G] 40 #[.bool false,.slice none 0 0] ?_;clear hS;intro w1 g4 o4 g6 o6 hS;have Y4:=aK.blk (hS.aH 1);have B:=hS.ext;refine tF 5 [(3,.ri ((m2))),(4,.ri (l))] ?_;refine Qs ?_;refine Ei (fun R I=>AA (m2) _ l2 u2) ?_;intro W Z U V L Y;refine Ei (fun R I=>iG T _ _ Q (m2) l _ (Blk.ext (hS.aH 2) I.1) (hS.aD 0 I.1) (I.f 3 ((iv W Z U V),L,Y)) Wo (iO l2 u2) K.o F) ?_;intro S M N P WX XC;refine bE ?_;intro w2 I;have j:=hS.lt;replace hS:=hS.mv I.ext;replace hS:=hS.aI I 3;replace hS:=hS.aI I 4;clear I j B Y4;have WC:=(hS.aH 0).cell;have WB:=(hS.aH 0).frozen;go_wp2;replace hS:=hS.pt 0 0 [.bool S,.slice M N P] o6;exact AaT
def PD(T v1 R v2 S w)(hc:Calm w T)(J:RI w v1 R)(Z:R.natAbs<lim)(I:RI w v2 S)(WE:S.natAbs<lim)(H1:Hid (S=1)):
  CV 166 #[.pointer (some ⟨T,0,none⟩),v1,v2] w fun v w'=>RI w' v R:=by
 have hS:=St.start w;obtain⟨D,H,C,G,rfl,O⟩:=J.opn;replace hS:=hS.aU O;clear J O;obtain⟨K,N,P,Q,rfl,j⟩:=I.opn;replace hS:=hS.aU j;clear I j;replace hS:=hS.vk hc trivial;clear hc;have l:=(St.al (St.al (St.al hS 40 #[.bool D,.slice H C G] (g:=w.heap.size) ag) 40 #[.bool K,.slice N P Q] (g:=(w.heap.size+1)) ag) 40 #[.bool false,.slice none 0 0] (g:=(w.heap.size+2)) ag);have Y:=(l.aH 1).cell;go_enter Tryz.func166,Tryz.ntmps166;(go_wp2_with fail);clear Y;clear l;refine gA3 hS 40 #[.bool D,.slice H C G] 40 #[.bool K,.slice N P Q] 40 #[.bool false,.slice none 0 0] ?_;clear hS;intro w1 g4 o4 g5 o5 g6 o6 hS;refine(Lx _ S _ (hS.aF 0) H1.o).mono ?_;rintro e w2 ⟨rfl,F⟩;replace hS:=hS.mv F;clear F;have W:=(hS.aH 2).cell;(go_wp2_with fail);clear W;refine(mf _ R _ (hS.aF 1) Z).mono ?_;rintro e w3 ⟨v_,rfl,M,F⟩;replace hS:=hS.mv F;clear F;obtain⟨U,B,V,c13,rfl,L⟩:=RI.opn M;clear M;replace hS:=hS.aU L;clear L;have WK:=(hS.aH 0).cell;have WM:=(hS.aH 0).frozen;go_wp2;replace hS:=hS.pt 0 0 [.bool U,.slice B V c13] o6;exact AaT
def Td(T v1 x1 v2 x2 w)(hc:Calm w T)(J:RI w v1 x1)(Wo:x1.natAbs<lim)(WR:RI w v2 x2)(WE:x2.natAbs<lim)(H1:Hid (x2≠1))(B)(Wv:Hid (B=x1/x2))(Ww:B.natAbs<lim)(Wt)(Wu:Hid (Wt=x1%x2))(WG:Hid (x2≠0)):
  CV 166 #[.pointer (some ⟨T,0,none⟩),v1,v2] w fun v w'=>RI w' v B:=by
 have hS:=St.start w;obtain⟨D,H,C,G,rfl,O⟩:=J.opn;replace hS:=hS.aU O;clear J O;obtain⟨K,N,P,Q,rfl,Wy⟩:=WR.opn;replace hS:=hS.aU Wy;clear WR Wy;replace hS:=hS.vk hc trivial;clear hc;have l:=(St.al (St.al (St.al hS 40 #[.bool D,.slice H C G] (g:=w.heap.size) ag) 40 #[.bool K,.slice N P Q] (g:=(w.heap.size+1)) ag) 40 #[.bool false,.slice none 0 0] (g:=(w.heap.size+2)) ag);have WC:=(l.aH 1).cell;go_enter Tryz.func166,Tryz.ntmps166;(go_wp2_with fail);clear WC;clear l;refine gA3 hS 40 #[.bool D,.slice H C G] 40 #[.bool K,.slice N P Q] 40 #[.bool false,.slice none 0 0] ?_;clear hS;intro w1 g4 o4 g5 o5 g6 o6 hS;refine(Uf _ x2 _ (hS.aF 0) H1.o).mono ?_;rintro e w2 ⟨rfl,F⟩;replace hS:=hS.mv F;clear F;have WB:=(hS.aH 2).cell;have WK:=(hS.aH 1).cell;(go_wp2_with fail);clear WB WK;refine(MO _ _ x1 x2 B Wt _ (hS.aF 1) (hS.aF 0) Wo WE WG.o Wv.o Wu.o).mono ?_;rintro e w3 ⟨v_,rfl,M,F⟩;replace hS:=hS.mv F;clear F;obtain⟨_,_,rfl,j,I⟩:=M;obtain⟨U,L,Z,W,rfl,S⟩:=RI.opn j;obtain⟨Wp,Y,Ws,Wq,rfl,R⟩:=RI.opn I;clear j I;replace hS:=hS.aU S;clear S;replace hS:=hS.aU R;clear R;have Wz:=(St.al (St.al hS 40 #[.bool false,.slice none 0 0] (g:=w3.heap.size) ag) 40 #[.bool false,.slice none 0 0] (g:=(w3.heap.size+1)) ag);have WM:=(Wz.aH 1).cell;have WQ:=(Wz.aH 1).frozen;have WP:=(St.al (St.al hS 40 #[.bool U,.slice L Z W] (g:=w3.heap.size) ag) 40 #[.bool false,.slice none 0 0] (g:=(w3.heap.size+1)) ag);have Xb:=(WP.aH 0).cell;have Xd:=(WP.aH 0).frozen;have WT:=(St.al (St.al hS 40 #[.bool U,.slice L Z W] (g:=w3.heap.size) ag) 40 #[.bool Wp,.slice Y Ws Wq] (g:=(w3.heap.size+1)) ag);have XF:=(WT.aH 1).cell;(go_wp2_with fail);clear WM WQ Xb Xd XF;clear Wz WP WT;refine gA2 hS 40 #[.bool U,.slice L Z W] 40 #[.bool Wp,.slice Y Ws Wq] ?_;clear hS;intro w4 g7 o7 g8 o8 hS;refine(tV T _ B _ (hS.aH 5) (hS.aF 1)).mono ?_;rintro e w5 ⟨v_,rfl,M,F⟩;replace hS:=hS.mv F;clear F;obtain⟨Xy,WS,XL,Xx,rfl,V⟩:=RI.opn M;clear M;replace hS:=hS.aU V;clear V;have XG:=(hS.aH 2).cell;have Xn:=(hS.aH 2).frozen;go_wp2;replace hS:=hS.pt 2 0 [.bool Xy,.slice WS XL Xx] o6;exact fu rfl rfl rfl (hS.aH 2) ⟨_,rfl,(hS.aF 0),hS.ext⟩
def jA{x y:Int}(M:x.natAbs<lim)(R:y∣x):(x/y).natAbs<lim:=by
 obtain⟨k,rfl⟩:=R;by_cases j:y=0
 .subst j;simpa using Ld
 .rw[Int.mul_ediv_cancel_left _ j];rw[Int.natAbs_mul] at M;exact Nat.lt_of_le_of_lt (Nat.le_mul_of_pos_left _ aa) M
def fG(T a b x y z w)(hc:Calm w T)(L:RI w a x)(l:RI w b y)(M:x.natAbs<lim)(O:y.natAbs<lim)(R:y≠0)(hd:y∣x)(B:z=x/y):
  CV 166 #[.pointer (some ⟨T,0,none⟩),a,b] w fun v w'=>RI w' v z:=by
 by_cases j:y=1
 .have e:z=x:=by rw[B,j];omega
  rw[e];exact PD T a x b y w hc L M l O (aJ j)
 .subst B;exact Td T a x b y w hc L M l O (aJ j) _ (aJ rfl) (jA M hd) _ (aJ rfl) (aJ R)
theorem Af{x}(h:x<0):rQ x 0= -1:=by unfold rQ;rw[if_pos h]
theorem vT{x}(h:0<x):rQ x 0=1:=by unfold rQ;rw[if_neg aa,if_pos h]
def EH(v x k w)(L:RI w v x)(M:x.natAbs<lim)(h:rQ x 0=k):
  CE 143 #[v] w (.int .i64 k):=by
 have:=Tk v x w L M;rwa[h] at this
def vI(v x k w)(L:RI w v x)(M:x.natAbs<lim)(h:rQ x 0=k):
  CE 99 #[v] w (.int .i64 k):=by
 have:=Qz v x w L M;rwa[h] at this
def Hw(T v1)(x1:Int)(v2)(x2:Int)(v3)(Y:Int)(w)(hc:Calm w T)(J:RI w v1 x1)(Wo:x1.natAbs<lim)(WR:RI w v2 x2)(WE:x2.natAbs<lim)(WH:RI w v3 Y)(Wu:Y.natAbs<lim)(H1:Hid (Y<0))(Z:Int)(Xt:Hid (Z=(fA [Y,x1,x2]:Nat)))(WA:Z.natAbs<lim)(Wp:Int)(Xe:Hid (Wp= -Z))(Xa:Wp.natAbs<lim)(WV:Int)(Xg:Hid (WV=x1/Wp))(X7:WV.natAbs<lim)(Xz:Hid (Wp≠0))(WJ:Hid (Wp∣x1))(Ws:Int)(Xo:Hid (Ws=x2/Wp))(Xx:Ws.natAbs<lim)(Xf:Hid (Wp≠0))(WF:Hid (Wp∣x2))(L:Int)(Xq:Hid (L=Y/Wp))(YC:L.natAbs<lim)(Xp:Hid (Wp≠0))(WI:Hid (Wp∣Y)):
  CV 139 #[.pointer (some ⟨T,0,none⟩),v1,v2,v3] w fun v w'=>RG w' v WV Ws L:=by
 have hS:=St.start w;obtain⟨D,H,C,G,rfl,O⟩:=J.opn;replace hS:=hS.aU O;clear J O;obtain⟨K,N,P,Q,rfl,Wy⟩:=WR.opn;replace hS:=hS.aU Wy;clear WR Wy;obtain⟨W,V,S,U,rfl,WG⟩:=WH.opn;replace hS:=hS.aU WG;clear WH WG;replace hS:=hS.vk hc trivial;clear hc;have l:=(St.al (St.al (St.al (St.al hS 40 #[.bool D,.slice H C G] (g:=w.heap.size) ag) 40 #[.bool K,.slice N P Q] (g:=(w.heap.size+1)) ag) 40 #[.bool W,.slice V S U] (g:=(w.heap.size+2)) ag) 42 #[.bool false,.slice none 0 0,.bool false,.slice none 0 0,.bool false,.slice none 0 0] (g:=(w.heap.size+3)) ag);have WC:=(l.aH 1).cell;have WB:=(l.aH 3).cell;have WK:=(l.aH 2).cell;go_enter Tryz.func139,Tryz.ntmps139;(go_wp2_with fail);clear WC WB WK;clear l;refine gA5 hS 40 #[.bool D,.slice H C G] 40 #[.bool K,.slice N P Q] 40 #[.bool W,.slice V S U] 42 #[.bool false,.slice none 0 0,.bool false,.slice none 0 0,.bool false,.slice none 0 0] 40 #[.bool W,.slice V S U,.bool D,.slice H C G,.bool K,.slice N P Q] ?_;clear hS;intro w1 g5 o5 g6 o6 g7 o7 g8 o8 WU Yi hS;refine(sj T WU Y x1 x2 Z _ (hS.aH 5) (hS.aH 0) (hS.aF 0) (hS.aF 2) (hS.aF 1) Wu Wo WE Xt).mono ?_;rintro e w2 ⟨v_,rfl,M,F⟩;replace hS:=hS.mv F;clear F;obtain⟨Wv,Wt,Wx,Ww,rfl,Wq⟩:=RI.opn M;clear M;replace hS:=hS.aU Wq;clear Wq;have Wz:=(St.al hS 40 #[.bool false,.slice none 0 0] (g:=w2.heap.size) ag);have WM:=(Wz.aH 0).cell;have WQ:=(Wz.aH 0).frozen;have WP:=(St.al hS 40 #[.bool Wv,.slice Wt Wx Ww] (g:=w2.heap.size) ag);have Xb:=(WP.aH 3).cell;(go_wp2_with fail);clear WM WQ Xb;clear Wz WP;refine gA1 hS 40 #[.bool Wv,.slice Wt Wx Ww] ?_;clear hS;intro w3 g9 o9 hS;refine(EH _ Y (-1) _ (hS.aF 1) Wu (Af H1.o)).mono ?_;rintro e w4 ⟨rfl,F⟩;replace hS:=hS.mv F;clear F;have Xd:=(hS.aH 0).cell;(go_wp2_with fail);clear Xd;refine(Md T _ Z Wp _ (hS.aH 6) (hS.aF 0) WA Xe.o).mono ?_;rintro e w5 ⟨v_,rfl,M,F⟩;replace hS:=hS.mv F;clear F;obtain⟨WY,WW,WZ,W9,rfl,WS⟩:=RI.opn M;clear M;replace hS:=hS.aU WS;clear WS;have XF:=(hS.aH 0).cell;have XG:=(hS.aH 0).frozen;have WT:=hS.pt 0 0 [.bool WY,.slice WW WZ W9] o9;have Xn:=(WT.aH 6).cell;(go_wp2_with fail);clear XF XG Xn;clear WT;replace hS:=hS.pt 0 0 [.bool WY,.slice WW WZ W9] o9;refine gW hS ?_;clear hS;intro w6 hS;have Y9:=aK.blk (hS.aH 0);have Y7:=aK.blk (hS.aH 3);have Y6:=aK.blk (hS.aH 4);have Y5:=aK.blk (hS.aH 5);have B:=hS.ext;refine tF 13 [(3,.ri (WV)),(7,.ri (Ws)),(11,.ri (L))] ?_;refine Qs ?_;refine Ei (fun R I=>fG T _ _ x1 Wp WV _ (Blk.ext (hS.aH 6) I.1) (hS.aD 4 I.1) (hS.aD 0 I.1) Wo Xa Xz.o WJ.o Xg.o) ?_;intro Xj WX Xi Xh XV XW;refine Qs ?_;refine Ei (fun R I=>fG T _ _ x2 Wp Ws _ (Blk.ext (hS.aH 6) I.1) (hS.aD 3 I.1) (hS.aD 0 I.1) WE Xa Xf.o WF.o Xo.o) ?_;intro Xl WL Xk Xm WN WO;refine Qs ?_;refine Ei (fun R I=>fG T _ _ Y Wp L _ (Blk.ext (hS.aH 6) I.1) (hS.aD 2 I.1) (hS.aD 0 I.1) Wu Xa Xp.o WI.o Xq.o) ?_;intro Xu Xc XC Xr XT XU;refine Qs ?_;refine bE ?_;intro w7 I;have j:=hS.lt;replace hS:=hS.mv I.ext;replace hS:=hS.aI I 3;replace hS:=hS.aI I 7;replace hS:=hS.aI I 11;clear I j B Y9 Y7 Y6 Y5;have Xw:=(hS.aH 2).cell;have Xv:=(hS.aH 2).frozen;exact AaX
def GU(T v1)(x1:Int)(v2)(x2:Int)(v3)(Y:Int)(w)(hc:Calm w T)(J:RI w v1 x1)(Wo:x1.natAbs<lim)(WR:RI w v2 x2)(WE:x2.natAbs<lim)(WH:RI w v3 Y)(Wu:Y.natAbs<lim)(H1:Hid (0<Y))(Z:Int)(Xt:Hid (Z=(fA [Y,x1,x2]:Nat)))(WA:Z.natAbs<lim)(WV:Int)(Xg:Hid (WV=x1/Z))(X7:WV.natAbs<lim)(Xz:Hid (Z≠0))(WJ:Hid (Z∣x1))(Ws:Int)(Xo:Hid (Ws=x2/Z))(Xx:Ws.natAbs<lim)(Xf:Hid (Z≠0))(WF:Hid (Z∣x2))(L:Int)(Xq:Hid (L=Y/Z))(YC:L.natAbs<lim)(Xp:Hid (Z≠0))(WI:Hid (Z∣Y)):
  CV 139 #[.pointer (some ⟨T,0,none⟩),v1,v2,v3] w fun v w'=>RG w' v WV Ws L:=by
 have hS:=St.start w;obtain⟨D,H,C,G,rfl,O⟩:=J.opn;replace hS:=hS.aU O;clear J O;obtain⟨K,N,P,Q,rfl,Wy⟩:=WR.opn;replace hS:=hS.aU Wy;clear WR Wy;obtain⟨W,V,S,U,rfl,WG⟩:=WH.opn;replace hS:=hS.aU WG;clear WH WG;replace hS:=hS.vk hc trivial;clear hc;have l:=(St.al (St.al (St.al (St.al hS 40 #[.bool D,.slice H C G] (g:=w.heap.size) ag) 40 #[.bool K,.slice N P Q] (g:=(w.heap.size+1)) ag) 40 #[.bool W,.slice V S U] (g:=(w.heap.size+2)) ag) 42 #[.bool false,.slice none 0 0,.bool false,.slice none 0 0,.bool false,.slice none 0 0] (g:=(w.heap.size+3)) ag);have WC:=(l.aH 1).cell;have WB:=(l.aH 3).cell;have WK:=(l.aH 2).cell;go_enter Tryz.func139,Tryz.ntmps139;(go_wp2_with fail);clear WC WB WK;clear l;refine gA5 hS 40 #[.bool D,.slice H C G] 40 #[.bool K,.slice N P Q] 40 #[.bool W,.slice V S U] 42 #[.bool false,.slice none 0 0,.bool false,.slice none 0 0,.bool false,.slice none 0 0] 40 #[.bool W,.slice V S U,.bool D,.slice H C G,.bool K,.slice N P Q] ?_;clear hS;intro w1 g5 o5 g6 o6 g7 o7 g8 o8 WU Yi hS;refine(sj T WU Y x1 x2 Z _ (hS.aH 5) (hS.aH 0) (hS.aF 0) (hS.aF 2) (hS.aF 1) Wu Wo WE Xt).mono ?_;rintro e w2 ⟨v_,rfl,M,F⟩;replace hS:=hS.mv F;clear F;obtain⟨Wv,Wt,Wx,Ww,rfl,Wq⟩:=RI.opn M;clear M;replace hS:=hS.aU Wq;clear Wq;have Wz:=(St.al hS 40 #[.bool false,.slice none 0 0] (g:=w2.heap.size) ag);have WM:=(Wz.aH 0).cell;have WQ:=(Wz.aH 0).frozen;have WP:=(St.al hS 40 #[.bool Wv,.slice Wt Wx Ww] (g:=w2.heap.size) ag);have Xb:=(WP.aH 3).cell;(go_wp2_with fail);clear WM WQ Xb;clear Wz WP;refine gA1 hS 40 #[.bool Wv,.slice Wt Wx Ww] ?_;clear hS;intro w3 g9 o9 hS;refine(EH _ Y (1) _ (hS.aF 1) Wu (vT H1.o)).mono ?_;rintro e w4 ⟨rfl,F⟩;replace hS:=hS.mv F;clear F;have Xd:=(hS.aH 6).cell;(go_wp2_with fail);clear Xd;have Y9:=aK.blk (hS.aH 0);have Y7:=aK.blk (hS.aH 3);have Y6:=aK.blk (hS.aH 4);have Y5:=aK.blk (hS.aH 5);have B:=hS.ext;refine tF 13 [(3,.ri (WV)),(7,.ri (Ws)),(11,.ri (L))] ?_;refine Qs ?_;refine Ei (fun R I=>fG T _ _ x1 Z WV _ (Blk.ext (hS.aH 6) I.1) (hS.aD 3 I.1) (hS.aD 0 I.1) Wo WA Xz.o WJ.o Xg.o) ?_;intro Xj WX Xi Xh XV XW;refine Qs ?_;refine Ei (fun R I=>fG T _ _ x2 Z Ws _ (Blk.ext (hS.aH 6) I.1) (hS.aD 2 I.1) (hS.aD 0 I.1) WE WA Xf.o WF.o Xo.o) ?_;intro Xl WL Xk Xm WN WO;refine Qs ?_;refine Ei (fun R I=>fG T _ _ Y Z L _ (Blk.ext (hS.aH 6) I.1) (hS.aD 1 I.1) (hS.aD 0 I.1) Wu WA Xp.o WI.o Xq.o) ?_;intro Xu Xc XC Xr XT XU;refine Qs ?_;refine bE ?_;intro w5 I;have j:=hS.lt;replace hS:=hS.mv I.ext;replace hS:=hS.aI I 3;replace hS:=hS.aI I 7;replace hS:=hS.aI I 11;clear I j B Y9 Y7 Y6 Y5;have XF:=(hS.aH 2).cell;have XG:=(hS.aH 2).frozen;exact AaX
theorem Fe(a b d):fA [d,a,b]=g3 a b d:=by
 unfold fA g3;simp[Nat.gcd_comm]
def TG{a b d}(ha:a.natAbs<lim)(hb:b.natAbs<lim)(hd:d.natAbs<lim):g3 a b d<lim:=by
 rw[<-Fe];refine LF (fun z j=> ?_);simp at j;rcases j with rfl|rfl|rfl<;>assumption
theorem oL(T v1 G H j l Y a b d w)(hc:Calm w T)(R:RI w v1 j)(P:RI w G l)(L:RI w H Y)(M:j.natAbs<lim)(C:l.natAbs<lim)(D:Y.natAbs<lim)(hd:Y≠0)(E:(a,b,d)=nf j l Y):
  CV 139 #[.pointer (some ⟨T,0,none⟩),v1,G,H] w fun v w'=>RG w' v a b d:=by
 obtain⟨K,I,d3⟩:=JM j l Y;have N:=EX (a:=j) (b:=l) hd;have B:=TG M C D;have Q:(fA [Y,j,l]:Int)=g3 j l Y:=by rw[Fe]
 unfold nf gZ sgZ at E;by_cases hn:Y<0
 .rw[if_pos hn] at E;have S:(-1:Int)*(g3 j l Y:Int)= -(g3 j l Y:Int):=aa;rw[S] at E;injection E with F E;injection E with J Z;have n1: -(g3 j l Y:Int)≠0:=aa;have q1: -(g3 j l Y:Int)∣j:=Int.neg_dvd.2 K;have q2: -(g3 j l Y:Int)∣l:=Int.neg_dvd.2 I;have O: -(g3 j l Y:Int)∣Y:=Int.neg_dvd.2 d3;exact Hw T v1 j G l H Y w hc R M P C L D (aJ hn) _ (aJ Q.symm) (by simpa using B) _ (aJ rfl) (by simpa using B) a (aJ F) (by rw[F];exact jA M q1) (aJ n1) (aJ q1) b (aJ J) (by rw[J];exact jA C q2) (aJ n1) (aJ q2) d (aJ Z) (by rw[Z];exact jA D O) (aJ n1) (aJ O)
 .rw[if_neg hn,Int.one_mul] at E;injection E with F E;injection E with J Z;have n1:(g3 j l Y:Int)≠0:=aa;exact GU T v1 j G l H Y w hc R M P C L D (aJ aa) _ (aJ Q.symm) (by simpa using B) a (aJ F) (by rw[F];exact jA M K) (aJ n1) (aJ K) b (aJ J) (by rw[J];exact jA C I) (aJ n1) (aJ I) d (aJ Z) (by rw[Z];exact jA D d3) (aJ n1) (aJ d3)
def NN(T v1)(WN WO WL:Int)(m2 v3)(Yg X8 K:Int)(m4 m5 w)(hc:Calm w T)(J:RG w v1 WN WO WL)(XI:WN.natAbs<lim)(XD:WO.natAbs<lim)(V:WL.natAbs<lim)(l2: -9223372036854775808<=m2)(u2:m2<=9223372036854775807)(WH:RG w v3 Yg X8 K)(ZR:Yg.natAbs<lim)(YQ:X8.natAbs<lim)(X3:K.natAbs<lim)(l4: -9223372036854775808<=m4)(u4:m4<=9223372036854775807)(l5: -9223372036854775808<=m5)(u5:m5<=9223372036854775807)(D:Int)(Z7:Hid (D=(fA [WL,K]:Nat)))(YD:D.natAbs<lim)(WV:Int)(Xg:Hid (WV=K/D))(X7:WV.natAbs<lim)(Xz:Hid (D≠0))(WJ:Hid (D∣K))(C:Int)(YT:Hid (C=WV*(m2)))(X5:C.natAbs<lim)(L:Int)(Xq:Hid (L=WL/D))(YC:L.natAbs<lim)(Xp:Hid (D≠0))(WI:Hid (D∣WL))(U:Int)(aw:Hid (U=L*(m4)))(YF:U.natAbs<lim)(S:Int)(be:Hid (S=WN*C))(ZF:S.natAbs<lim)(N:Int)(a6:Hid (N=Yg*U))(ZG:N.natAbs<lim)(H:Int)(YV:Hid (H=S+N))(Yo:H.natAbs<lim)(Xa:Int)(bg:Hid (Xa=WO*C))(Zc:Xa.natAbs<lim)(Xf:Int)(a7:Hid (Xf=X8*U))(ZA:Xf.natAbs<lim)(W9:Int)(ZX:Hid (W9=Xa+Xf))(YR:W9.natAbs<lim)(Xk:Int)(Z9:Hid (Xk=K/D))(ar:Xk.natAbs<lim)(aP:Hid (D≠0))(ZO:Hid (D∣K))(Z:Int)(a3:Hid (Z=WL*Xk))(ZJ:Z.natAbs<lim)(W:Int)(av:Hid (W=Z*(m5)))(Zo:W.natAbs<lim)(aq:Hid (W≠0))(WR Y WA:Int)(ZY:Hid ((WR,Y,WA)=nf H W9 W))(bo:WR.natAbs<lim)(bl:Y.natAbs<lim)(bm:WA.natAbs<lim):
  CV 128 #[.pointer (some ⟨T,0,none⟩),v1,.int .i64 m2,v3,.int .i64 m4,.int .i64 m5] w fun v w'=>RG w' v WR Y WA:=by
 have hS:=St.start w;obtain⟨Wv,Ws,Wq,Wt,Wy,Wu,Ww,Wx,Wp,Q,Wo,O,rfl,WE,WF,WG⟩:=J;replace hS:=hS.aU WE;clear WE;replace hS:=hS.aU WF;clear WF;replace hS:=hS.aU WG;clear WG;obtain⟨Yr,Yk,YB,YA,Yl,Yu,Ym,Yt,XZ,XP,XQ,X4,rfl,Yv,Yn,Yq⟩:=WH;replace hS:=hS.aU Yv;clear Yv;replace hS:=hS.aU Yn;clear Yn;replace hS:=hS.aU Yq;clear Yq;replace hS:=hS.vk hc trivial;clear hc;have l:=(St.al (St.al (St.al hS 42 #[.bool Wv,.slice Ws Wq Wt,.bool Wy,.slice Wu Ww Wx,.bool Wp,.slice Q Wo O] (g:=w.heap.size) ag) 42 #[.bool Yr,.slice Yk YB YA,.bool Yl,.slice Yu Ym Yt,.bool XZ,.slice XP XQ X4] (g:=(w.heap.size+1)) ag) 42 #[.bool false,.slice none 0 0,.bool false,.slice none 0 0,.bool false,.slice none 0 0] (g:=(w.heap.size+2)) ag);have WC:=(l.aH 2).cell;have WB:=(l.aH 1).cell;go_enter Tryz.func128,Tryz.ntmps128;(go_wp2_with fail);clear WC WB;clear l;refine gA4 hS 42 #[.bool Wv,.slice Ws Wq Wt,.bool Wy,.slice Wu Ww Wx,.bool Wp,.slice Q Wo O] 42 #[.bool Yr,.slice Yk YB YA,.bool Yl,.slice Yu Ym Yt,.bool XZ,.slice XP XQ X4] 42 #[.bool false,.slice none 0 0,.bool false,.slice none 0 0,.bool false,.slice none 0 0] 40 #[.bool Wp,.slice Q Wo O,.bool XZ,.slice XP XQ X4] ?_;clear hS;intro w1 g7 o7 g9 o9 g12 YL aG bA hS;refine(AZ T aG WL K D _ (hS.aH 4) (hS.aH 0) (hS.aF 3) (hS.aF 0) V X3 Z7).mono ?_;rintro e w2 ⟨v_,rfl,M,F⟩;replace hS:=hS.mv F;clear F;obtain⟨a2,ZE,bk,a5,rfl,XY⟩:=RI.opn M;clear M;replace hS:=hS.aU XY;clear XY;have Wz:=(St.al hS 40 #[.bool false,.slice none 0 0] (g:=w2.heap.size) ag);have WK:=(Wz.aH 0).cell;have WM:=(Wz.aH 0).frozen;(go_wp2_with fail);clear WK WM;clear Wz;refine gA1 hS 40 #[.bool a2,.slice ZE bk a5] ?_;clear hS;intro w3 XR Zw hS;have YM:=aK.blk (hS.aH 0);have Y9:=aK.blk (hS.aH 3);have Y7:=aK.blk (hS.aH 4);have B:=hS.ext;refine tF 18 [(5,.ri (WV)),(7,.ri (C)),(13,.ri (L)),(15,.ri (U)),(16,.box 40 #[.bool false,.slice none 0 0]),(17,.box 40 #[.bool false,.slice none 0 0])] ?_;refine Qs ?_;refine Ei (fun R I=>fG T _ _ K D WV _ (Blk.ext (hS.aH 5) I.1) (hS.aD 1 I.1) (hS.aD 0 I.1) X3 YD Xz.o WJ.o Xg.o) ?_;intro Xj WX Xi Xh XV XW;refine Qs ?_;refine Ei (fun R I=>xA T _ WV (m2) _ (Blk.ext (hS.aH 5) I.1) (I.f 5 ((iv Xj WX Xi Xh),XV,XW)) X7 l2 u2 C YT X5) ?_;intro YJ X6 YP YK Zm Zf;refine Qs ?_;refine Ei (fun R I=>fG T _ _ WL D L _ (Blk.ext (hS.aH 5) I.1) (hS.aD 4 I.1) (hS.aD 0 I.1) V YD Xp.o WI.o Xq.o) ?_;intro Xu Xc XC Xr XT XU;refine Qs ?_;refine Ei (fun R I=>xA T _ L (m4) _ (Blk.ext (hS.aH 5) I.1) (I.f 13 ((iv Xu Xc XC Xr),XT,XU)) YC l4 u4 U aw YF) ?_;intro bi ZW a4 az bp bt;refine Eb ?_;intro WU XB Xe;refine Eb ?_;intro XM Yy Ye;refine bE ?_;intro w4 I;have j:=hS.lt;replace hS:=hS.mv I.ext;replace hS:=hS.aI I 5;replace hS:=hS.aI I 7;replace hS:=hS.aI I 13;replace hS:=hS.aI I 15;have G:=I.lw 16;have Yi:Own w WU:=Own.of B G;replace hS:=hS.aB I 16 WU (apF j G);have P:=I.lw 17;have Zr:Own w XM:=Own.of B P;replace hS:=hS.aB I 17 XM ⟨I.nn 16 17 Xe Ye,(apF j P)⟩;clear I j B YM Y9 Y7;clear G Xe XB;clear P Ye Yy;have WQ:=(hS.aH 1).cell;have Xb:=(hS.aH 1).frozen;have WP:=hS.pt 1 0 [.bool YJ,.slice X6 YP YK] Yi;have Xd:=(WP.aH 0).cell;have XF:=(WP.aH 0).frozen;(go_wp2_with fail);clear WQ Xb Xd XF;clear WP;replace hS:=(hS.pt 1 0 [.bool YJ,.slice X6 YP YK] Yi).pt 0 0 [.bool bi,.slice ZW a4 az] Zr;refine gW hS ?_;clear hS;intro w5 hS;have YG:=aK.blk (hS.aH 0);have YE:=aK.blk (hS.aH 1);have Y9:=aK.blk (hS.aH 5);have Y7:=aK.blk (hS.aH 6);have B:=hS.ext;refine tF 13 [(5,.ri (S)),(10,.ri (N)),(11,.ri (H)),(12,.box 40 #[.bool false,.slice none 0 0])] ?_;refine Qs ?_;refine Ei (fun R I=>iG T _ _ WN C S _ (Blk.ext (hS.aH 7) I.1) (hS.aD 10 I.1) (hS.aD 2 I.1) XI X5 be.o ZF) ?_;intro bh ZL bj af Yf Yd;refine Qs ?_;refine Ei (fun R I=>iG T _ _ Yg U N _ (Blk.ext (hS.aH 7) I.1) (hS.aD 7 I.1) (hS.aD 0 I.1) ZR YF a6.o ZG) ?_;intro Zp X9 Zv Zq ac ad;refine Ei (fun R I=>vW T _ _ S N H _ (Blk.ext (hS.aH 7) I.1) (I.f 5 ((iv bh ZL bj af),Yf,Yd)) (I.f 10 ((iv Zp X9 Zv Zq),ac,ad)) ZF ZG YV.o Yo) ?_;intro YS Yp YU YW Zz ZB;refine Eb ?_;intro Yj Yx ZM;refine bE ?_;intro w6 I;have j:=hS.lt;replace hS:=hS.mv I.ext;replace hS:=hS.aI I 5;replace hS:=hS.aI I 10;replace hS:=hS.aI I 11;have XL:=I.lw 12;have ay:Own w Yj:=Own.of B XL;replace hS:=hS.aB I 12 Yj (apF j XL);clear I j B YG YE Y9 Y7;clear XL ZM Yx;have XG:=(hS.aH 0).cell;have Xn:=(hS.aH 0).frozen;(go_wp2_with fail);clear XG Xn;replace hS:=hS.pt 0 0 [.bool YS,.slice Yp YU YW] ay;refine gW hS ?_;clear hS;intro w7 hS;have YG:=aK.blk (hS.aH 1);have YE:=aK.blk (hS.aH 2);have Y9:=aK.blk (hS.aH 6);have Y7:=aK.blk (hS.aH 7);have B:=hS.ext;refine tF 13 [(5,.ri (Xa)),(10,.ri (Xf)),(11,.ri (W9)),(12,.box 40 #[.bool false,.slice none 0 0])] ?_;refine Qs ?_;refine Ei (fun R I=>iG T _ _ WO C Xa _ (Blk.ext (hS.aH 8) I.1) (hS.aD 12 I.1) (hS.aD 5 I.1) XD X5 bg.o Zc) ?_;intro a8 ZV ai ao YZ Zn;refine Qs ?_;refine Ei (fun R I=>iG T _ _ X8 U Xf _ (Blk.ext (hS.aH 8) I.1) (hS.aD 9 I.1) (hS.aD 3 I.1) YQ YF a7.o ZA) ?_;intro aE Zh ba Xl Xy Xx;refine Ei (fun R I=>vW T _ _ Xa Xf W9 _ (Blk.ext (hS.aH 8) I.1) (I.f 5 ((iv a8 ZV ai ao),YZ,Zn)) (I.f 10 ((iv aE Zh ba Xl),Xy,Xx)) Zc ZA ZX.o YR) ?_;intro a0 ZU a1 Xm bw bx;refine Eb ?_;intro WS Zj Yz;refine bE ?_;intro w8 I;have j:=hS.lt;replace hS:=hS.mv I.ext;replace hS:=hS.aI I 5;replace hS:=hS.aI I 10;replace hS:=hS.aI I 11;have XX:=I.lw 12;have a9:Own w WS:=Own.of B XX;replace hS:=hS.aB I 12 WS (apF j XX);clear I j B YG YE Y9 Y7;clear XX Yz Zj;have Xw:=(hS.aH 0).cell;have Xv:=(hS.aH 0).frozen;(go_wp2_with fail);clear Xw Xv;replace hS:=hS.pt 0 0 [.bool a0,.slice ZU a1 Xm] a9;refine gW hS ?_;clear hS;intro w9 hS;have YM:=aK.blk (hS.aH 4);have Y9:=aK.blk (hS.aH 7);have Y7:=aK.blk (hS.aH 8);have B:=hS.ext;refine tF 13 [(8,.ri (Xk)),(9,.ri (Z)),(11,.ri (W)),(12,.box 40 #[.bool false,.slice none 0 0])] ?_;refine Qs ?_;refine Ei (fun R I=>fG T _ _ K D Xk _ (Blk.ext (hS.aH 9) I.1) (hS.aD 11 I.1) (hS.aD 10 I.1) X3 YD aP.o ZO.o Z9.o) ?_;intro ZZ Zi Z8 bb ZT Zl;refine Ei (fun R I=>iG T _ _ WL Xk Z _ (Blk.ext (hS.aH 9) I.1) (hS.aD 14 I.1) (I.f 8 ((iv ZZ Zi Z8 bb),ZT,Zl)) V ar a3.o ZJ) ?_;intro am ZI ax ap ZN ZH;refine Qs ?_;refine Ei (fun R I=>xA T _ Z (m5) _ (Blk.ext (hS.aH 9) I.1) (I.f 9 ((iv am ZI ax ap),ZN,ZH)) ZJ l5 u5 W av Zo) ?_;intro YY Yh Zk YO bq bn;refine Eb ?_;intro ZK Zg Ya;refine bE ?_;intro Xt I;have j:=hS.lt;replace hS:=hS.mv I.ext;replace hS:=hS.aI I 8;replace hS:=hS.aI I 9;replace hS:=hS.aI I 11;have XA:=I.lw 12;have Zt:Own w ZK:=Own.of B XA;replace hS:=hS.aB I 12 ZK (apF j XA);clear I j B YM Y9 Y7;clear XA Ya Zg;have XK:=(hS.aH 0).cell;have XN:=(hS.aH 0).frozen;have WT:=hS.pt 0 0 [.bool YY,.slice Yh Zk YO] Zt;have XO:=(WT.aH 10).cell;have XH:=(WT.aH 2).cell;have XJ:=(WT.aH 1).cell;have XE:=(WT.aH 0).cell;(go_wp2_with fail);clear XK XN XO XH XJ XE;clear WT;replace hS:=hS.pt 0 0 [.bool YY,.slice Yh Zk YO] Zt;refine gW hS ?_;clear hS;intro Xo hS;refine(oL T _ _ _ H W9 W WR Y WA _ (hS.aH 10) (hS.aF 6) (hS.aF 3) (hS.aF 0) Yo YR Zo aq.o ZY.o).mono ?_;rintro e Yw ⟨v_,rfl,M,F⟩;replace hS:=hS.mv F;clear F;obtain⟨Zd,YI,ZP,Zx,ZQ,YN,YX,Za,Ze,YH,Zy,ZC,rfl,WW,WY,WZ⟩:=M;replace hS:=hS.aU WW;clear WW;replace hS:=hS.aU WY;clear WY;replace hS:=hS.aU WZ;clear WZ;have Yb:=(hS.aH 7).cell;have Yc:=(hS.aH 7).frozen;go_wp2;replace hS:=hS.pt 7 0 [.bool Zd,.slice YI ZP Zx,.bool ZQ,.slice YN YX Za,.bool Ze,.slice YH Zy ZC] YL;exact dh rfl rfl rfl (hS.aH 7) ⟨_,rfl,RG.mk (hS.aF 2) (hS.aF 1) (hS.aF 0),hS.ext⟩
theorem bC{z:Int}{n}(h:z.natAbs<2^n)(hn:n<=12800):z.natAbs<lim:=by
 refine Nat.lt_of_lt_of_le h ?_;have e:lim=2^(32*M5):=by unfold lim;rw[Nat.pow_mul]
 rw[e];exact Nat.pow_le_pow_right aa (by unfold M5;omega)
def xk{z a:Int}{n}(ha:a≠0)(h:z∣a)(hn:a.natAbs<2^n):z.natAbs<2^n:=
 Nat.lt_of_le_of_lt (Nat.le_of_dvd aa (Int.natAbs_dvd_natAbs.2 h)) hn
def fJ{a z q:Int}{n}(j:z≠0)(h:a=z*q)(hn:a.natAbs<2^n):q.natAbs<2^n:=by
 rw[h,Int.natAbs_mul] at hn;exact Nat.lt_of_le_of_lt (Nat.le_mul_of_pos_left _ aa) hn
def fC{a z q:Int}(j:z≠0)(h:a=z*q):q=a/z:=by rw[h,Int.mul_ediv_cancel_left _ j]
def rz{a b}(hb:b≠0):∃z p q:Int,z=(fA [a,b]:Nat)/\z≠0/\a=z*p/\b=z*q:=by
 have e:fA [a,b]=Nat.gcd a.natAbs b.natAbs:=by simp[fA]
 have j:((fA [a,b]:Nat):Int)∣a:=by rw[e];exact Int.ofNat_dvd_left.2 (Nat.gcd_dvd_left _ _)
 have l:((fA [a,b]:Nat):Int)∣b:=by rw[e];exact Int.ofNat_dvd_left.2 (Nat.gcd_dvd_right _ _)
 have B:0<fA [a,b]:=by rw[e];exact Nat.gcd_pos_of_pos_right _ aa
 obtain⟨p,hp⟩:=j;obtain⟨q,hq⟩:=l;exact⟨_,p,q,rfl,aa,hp,hq⟩
def qV{a b c}(ha:a≠0):∃z p q r:Int,z=(fA [a,b,c]:Nat)/\z≠0/\a=z*p/\b=z*q/\c=z*r:=by
 have e:fA [a,b,c]=Nat.gcd (Nat.gcd a.natAbs b.natAbs) c.natAbs:=by simp[fA]
 have j:((fA [a,b,c]:Nat):Int)∣a:=by rw[e];exact Int.ofNat_dvd_left.2 (Nat.dvd_trans (Nat.gcd_dvd_left _ _) (Nat.gcd_dvd_left _ _))
 have B:((fA [a,b,c]:Nat):Int)∣b:=by rw[e];exact Int.ofNat_dvd_left.2 (Nat.dvd_trans (Nat.gcd_dvd_left _ _) (Nat.gcd_dvd_right _ _))
 have d3:((fA [a,b,c]:Nat):Int)∣c:=by rw[e];exact Int.ofNat_dvd_left.2 (Nat.gcd_dvd_right _ _)
 have C:0<fA [a,b,c]:=by rw[e];exact Nat.gcd_pos_of_pos_left _ (Nat.gcd_pos_of_pos_left _ aa)
 obtain⟨p,hp⟩:=j;obtain⟨q,hq⟩:=B;obtain⟨r,l⟩:=d3;exact⟨_,p,q,r,rfl,aa,hp,hq,l⟩
def jh{A B D a b d n}(j:D≠0)(E:(a,b,d)=nf A B D)(ha:A.natAbs<2^n)(hb:B.natAbs<2^n)(hd:D.natAbs<2^n):Sz n a b d:=by
 have h:=Lc (a:=A) (b:=B) j;rw[<-E] at h;exact⟨Nat.lt_of_le_of_lt h.1 ha,Nat.lt_of_le_of_lt h.2.1 hb,Nat.lt_of_le_of_lt h.2.2 hd⟩
def Sz.pW{n a b d}(h:Sz n a b d)(hn:n<=12800):a.natAbs<lim/\b.natAbs<lim/\d.natAbs<lim:=⟨bC h.a hn,bC h.b hn,bC h.d hn⟩
def Bw{m}(l: -9223372036854775808<=m)(j:m<=9223372036854775807):m.natAbs<2^64:=by
 have:(2:Nat)^64=18446744073709551616:=aj;omega
def Mj(T v1 v3 a b d j a' b' d' k m u v t n w)(hc:Calm w T)(L:RG w v1 a b d)(l:RG w v3 a' b' d')(sx:Sz n a b d)(sy:Sz n a' b' d')(hn:n+n+65<=12800)(hd:d≠0)(hd':d'≠0)(hm:m≠0)(F: -9223372036854775808<=j)(C:j<=9223372036854775807)(k1: -9223372036854775808<=k)(k2:k<=9223372036854775807)(m1: -9223372036854775808<=m)(m2:m<=9223372036854775807)(E:(u,v,t)=nf (j*a*d'+k*a'*d) (j*b*d'+k*b'*d) (d*d'*m)):
  CV 128 #[.pointer (some ⟨T,0,none⟩),v1,.int .i64 j,v3,.int .i64 k,.int .i64 m] w fun x w'=>RG w' x u v t:=by
 obtain⟨g,r,p,hg,N,J,V⟩:=rz (a:=d) (b:=d') hd';have Z:p.natAbs<2^n:=fJ N V sy.d;have br:r.natAbs<2^n:=fJ N J sx.d;have bg:g.natAbs<2^n:=xk hd ⟨r,J⟩ sx.d;have U:=Bw F C;have bk:=Bw k1 k2;have W:=Bw m1 m2;have B:=bG Z U;have H:=bG br bk;have Q:=iU (bG sx.a B) (n:=n+n+64) aa;have P:=iU (bG sy.a H) (n:=n+n+64) aa;have S:=iU (bG sx.b B) (n:=n+n+64) aa;have I:=iU (bG sy.b H) (n:=n+n+64) aa;have O:=ja Q P;have K:=ja S I;have R:=bG sx.d Z;have M:=bG R W;have G:d*p*m≠0:=Int.mul_ne_zero (Int.mul_ne_zero hd (by intro h;rw[h] at V;simp at V;exact hd' V)) hm;have E':(u,v,t)=nf (a*(p*j)+a'*(r*k)) (b*(p*j)+b'*(r*k)) (d*p*m):=by
  rw[E];refine nS (Int.mul_ne_zero (Int.mul_ne_zero hd hd') hm) G ?_ ?_
  .rw[V];generalize hD:d=D at*;subst J;grind
  .rw[V];generalize hD:d=D at*;subst J;grind
 have sz:=jh (n:=n+n+65) G E' O K (iU M aa);obtain⟨x1,x2,Y⟩:=sx.pW aa;obtain⟨y1,y2,y3⟩:=sy.pW aa;obtain⟨s1,s2,s3⟩:=sz.pW hn;exact NN T v1 a b d j v3 a' b' d' k m w hc L x1 x2 Y F C l y1 y2 y3 k1 k2 m1 m2 g (aJ hg) (bC bg aa)
  p (aJ (fC N V)) (bC Z aa) (aJ N) (aJ ⟨p,V⟩) _ (aJ rfl) (bC B aa)
  r (aJ (fC N J)) (bC br aa) (aJ N) (aJ ⟨r,J⟩) _ (aJ rfl) (bC H aa)
  _ (aJ rfl) (bC Q aa) _ (aJ rfl) (bC P aa) _ (aJ rfl) (bC O aa)
  _ (aJ rfl) (bC S aa) _ (aJ rfl) (bC I aa) _ (aJ rfl) (bC K aa)
  p (aJ (fC N V)) (bC Z aa) (aJ N) (aJ ⟨p,V⟩) _ (aJ rfl) (bC R aa) _ (aJ rfl) (bC M aa) (aJ G) u v t (aJ E') s1 s2 s3
def Ap(T v1)(WN WO WL:Int)(v2)(Xm Xk Xl:Int)(w)(hc:Calm w T)(J:RG w v1 WN WO WL)(XI:WN.natAbs<lim)(XD:WO.natAbs<lim)(V:WL.natAbs<lim)(WR:RG w v2 Xm Xk Xl)(YG:Xm.natAbs<lim)(YA:Xk.natAbs<lim)(YC:Xl.natAbs<lim)(S:Int)(Yr:Hid (S=(fA [Xl,WN,WO]:Nat)))(Yu:S.natAbs<lim)(C:Int)(YT:Hid (C=(fA [WL,Xm,Xk]:Nat)))(X5:C.natAbs<lim)(Z:Int)(ba:Hid (Z=WN/S))(Zv:Z.natAbs<lim)(cb:Hid (S≠0))(ZG:Hid (S∣WN))(X4:Int)(cA:Hid (X4=WO/S))(ZA:X4.natAbs<lim)(b0:Hid (S≠0))(ZF:Hid (S∣WO))(W:Int)(bh:Hid (W=Xm/C))(ZY:W.natAbs<lim)(bq:Hid (C≠0))(am:Hid (C∣Xm))(H:Int)(YV:Hid (H=Xk/C))(Yo:H.natAbs<lim)(bi:Hid (C≠0))(av:Hid (C∣Xk))(Yh:Int)(cp:Hid (Yh=Z*W))(Z7:Yh.natAbs<lim)(D:Int)(a4:Hid (D=X4*H))(Zx:D.natAbs<lim)(Yl:Int)(a1:Hid (Yl=Yh-D))(aP:Yl.natAbs<lim)(Yn:Int)(bn:Hid (Yn=Z*H))(aG:Yn.natAbs<lim)(Ym:Int)(cx:Hid (Ym=X4*W))(Zo:Ym.natAbs<lim)(Yk:Int)(bb:Hid (Yk=Yn+Ym))(ZH:Yk.natAbs<lim)(Xc:Int)(cg:Hid (Xc=WL/C))(a6:Xc.natAbs<lim)(bg:Hid (C≠0))(Ze:Hid (C∣WL))(Yj:Int)(bj:Hid (Yj=Xl/S))(cr:Yj.natAbs<lim)(bk:Hid (S≠0))(ZM:Hid (S∣Xl))(L:Int)(cd:Hid (L=Xc*Yj))(ZR:L.natAbs<lim)(bl:Hid (L≠0))(X8 Yf Yg:Int)(ck:Hid ((X8,Yf,Yg)=nf Yl Yk L))(cH:X8.natAbs<lim)(cJ:Yf.natAbs<lim)(cI:Yg.natAbs<lim):
  CV 142 #[.pointer (some ⟨T,0,none⟩),v1,v2] w fun v w'=>RG w' v X8 Yf Yg:=by
 have hS:=St.start w;obtain⟨Wv,Ws,Wq,Wt,Wy,Wu,Ww,Wx,Wp,Q,Wo,O,rfl,WE,WF,WG⟩:=J;replace hS:=hS.aU WE;clear WE;replace hS:=hS.aU WF;clear WF;replace hS:=hS.aU WG;clear WG;obtain⟨WV,W9,WX,Xh,Xg,WZ,Xj,Xi,Xa,WY,WW,K,rfl,Xq,Xp,Xr⟩:=WR;replace hS:=hS.aU Xq;clear Xq;replace hS:=hS.aU Xp;clear Xp;replace hS:=hS.aU Xr;clear Xr;replace hS:=hS.vk hc trivial;clear hc;go_enter Tryz.func142,Tryz.ntmps142;(go_wp2_with fail);refine gA3 hS 42 #[.bool Wv,.slice Ws Wq Wt,.bool Wy,.slice Wu Ww Wx,.bool Wp,.slice Q Wo O] 42 #[.bool WV,.slice W9 WX Xh,.bool Xg,.slice WZ Xj Xi,.bool Xa,.slice WY WW K] 42 #[.bool false,.slice none 0 0,.bool false,.slice none 0 0,.bool false,.slice none 0 0] ?_;clear hS;intro w1 g4 o4 g5 o5 g6 o6 hS;have Y5:=aK.blk (hS.aH 1);have Y4:=aK.blk (hS.aH 2);have B:=hS.ext;refine tF 20 [(7,.sl 40 3 #[.bool Xa,.slice WY WW K,.bool Wv,.slice Ws Wq Wt,.bool Wy,.slice Wu Ww Wx]),(8,.ri (S)),(16,.sl 40 3 #[.bool Wp,.slice Q Wo O,.bool WV,.slice W9 WX Xh,.bool Xg,.slice WZ Xj Xi]),(17,.ri (C)),(18,.box 40 #[.bool false,.slice none 0 0]),(19,.box 40 #[.bool false,.slice none 0 0])] ?_;refine Qs ?_;refine Eb ?_;intro Za YQ X3;refine Ei (fun R I=>sj T Za Xl WN WO S _ (Blk.ext (hS.aH 3) I.1) ((I.2 7 _ rf ah).2.2) (hS.aD 0 I.1) (hS.aD 5 I.1) (hS.aD 4 I.1) YC XI XD Yr) ?_;intro Xy WS XL Xx YH Yv;refine Qs ?_;refine Eb ?_;intro YY ZC Ya;refine Ei (fun R I=>sj T YY WL Xm Xk C _ (Blk.ext (hS.aH 3) I.1) ((I.2 16 _ rf ah).2.2) (hS.aD 3 I.1) (hS.aD 2 I.1) (hS.aD 1 I.1) V YG YA YT) ?_;intro YJ X6 YP YK Zm Zf;refine Eb ?_;intro g7 WI WH;refine Eb ?_;intro g8 XU WA;refine bE ?_;intro w2 I;have j:=hS.lt;replace hS:=hS.mv I.ext;replace hS:=hS.aI I 8;replace hS:=hS.aI I 17;have Yt:=I.lw 7;have cS:Own w Za:=Own.of B Yt;replace hS:=hS.aB I 7 Za (apF j Yt);have YI:=I.lw 16;have cT:Own w YY:=Own.of B YI;replace hS:=hS.aB I 16 YY ⟨I.nn 7 16 X3 Ya,(apF j YI)⟩;have WJ:=I.lw 18;have o7:Own w g7:=Own.of B WJ;replace hS:=hS.aB I 18 g7 ⟨I.nn 16 18 Ya WH,⟨I.nn 7 18 X3 WH,(apF j WJ)⟩⟩;have XW:=I.lw 19;have o8:Own w g8:=Own.of B XW;replace hS:=hS.aB I 19 g8 ⟨I.nn 18 19 WH WA,⟨I.nn 16 19 Ya WA,⟨I.nn 7 19 X3 WA,(apF j XW)⟩⟩⟩;clear I j B Y5 Y4;clear Yt X3 YQ;clear YI Ya ZC;clear WJ WH WI;clear XW WA XU;have WC:=(hS.aH 1).cell;have WB:=(hS.aH 1).frozen;have l:=hS.pt 1 0 [.bool Xy,.slice WS XL Xx] o7;have WK:=(l.aH 0).cell;have WM:=(l.aH 0).frozen;(go_wp2_with fail);clear WC WB WK WM;clear l;replace hS:=(hS.pt 1 0 [.bool Xy,.slice WS XL Xx] o7).pt 0 0 [.bool YJ,.slice X6 YP YK] o8;refine gW hS ?_;clear hS;intro w3 hS;have Y7:=aK.blk (hS.aH 1);have Y4:=aK.blk (hS.aH 6);have B:=hS.ext;refine tF 12 [(4,.ri (Z)),(9,.ri (X4)),(10,.box 40 #[.bool false,.slice none 0 0]),(11,.box 40 #[.bool false,.slice none 0 0])] ?_;refine Qs ?_;refine Ei (fun R I=>fG T _ _ WN S Z _ (Blk.ext (hS.aH 7) I.1) (hS.aD 7 I.1) (hS.aD 1 I.1) XI Yu cb.o ZG.o ba.o) ?_;intro a0 YR Zt Zp cL cC;refine Qs ?_;refine Ei (fun R I=>fG T _ _ WO S X4 _ (Blk.ext (hS.aH 7) I.1) (hS.aD 6 I.1) (hS.aD 1 I.1) XD Yu b0.o ZF.o cA.o) ?_;intro bo Zk cn bA cN cG;refine Eb ?_;intro g9 Zy XV;refine Eb ?_;intro g10 Y U;refine bE ?_;intro w4 I;have j:=hS.lt;replace hS:=hS.mv I.ext;replace hS:=hS.aI I 4;replace hS:=hS.aI I 9;have YN:=I.lw 10;have o9:Own w g9:=Own.of B YN;replace hS:=hS.aB I 10 g9 (apF j YN);have XT:=I.lw 11;have Xu:Own w g10:=Own.of B XT;replace hS:=hS.aB I 11 g10 ⟨I.nn 10 11 XV U,(apF j XT)⟩;clear I j B Y7 Y4;clear YN XV Zy;clear XT U Y;have WQ:=(hS.aH 1).cell;have Xb:=(hS.aH 1).frozen;have Wz:=hS.pt 1 0 [.bool a0,.slice YR Zt Zp] o9;have Xd:=(Wz.aH 0).cell;have XF:=(Wz.aH 0).frozen;(go_wp2_with fail);clear WQ Xb Xd XF;clear Wz;replace hS:=(hS.pt 1 0 [.bool a0,.slice YR Zt Zp] o9).pt 0 0 [.bool bo,.slice Zk cn bA] Xu;refine gW hS ?_;clear hS;intro w5 hS;have Y8:=aK.blk (hS.aH 2);have Y5:=aK.blk (hS.aH 7);have B:=hS.ext;refine tF 12 [(4,.ri (W)),(9,.ri (H)),(10,.box 40 #[.bool false,.slice none 0 0]),(11,.box 40 #[.bool false,.slice none 0 0])] ?_;refine Qs ?_;refine Ei (fun R I=>fG T _ _ Xm C W _ (Blk.ext (hS.aH 9) I.1) (hS.aD 6 I.1) (hS.aD 2 I.1) YG X5 bq.o am.o bh.o) ?_;intro Zg YM Zn N ZU ZV;refine Qs ?_;refine Ei (fun R I=>fG T _ _ Xk C H _ (Blk.ext (hS.aH 9) I.1) (hS.aD 5 I.1) (hS.aD 2 I.1) YA X5 bi.o av.o YV.o) ?_;intro YS Yp YU YW Zz ZB;refine Eb ?_;intro Xf XC YF;refine Eb ?_;intro g12 YB XQ;refine bE ?_;intro w6 I;have j:=hS.lt;replace hS:=hS.mv I.ext;replace hS:=hS.aI I 4;replace hS:=hS.aI I 9;have XZ:=I.lw 10;have YD:Own w Xf:=Own.of B XZ;replace hS:=hS.aB I 10 Xf (apF j XZ);have XX:=I.lw 11;have YL:Own w g12:=Own.of B XX;replace hS:=hS.aB I 11 g12 ⟨I.nn 10 11 YF XQ,(apF j XX)⟩;clear I j B Y8 Y5;clear XZ YF XC;clear XX XQ YB;have XG:=(hS.aH 1).cell;have Xn:=(hS.aH 1).frozen;have WP:=hS.pt 1 0 [.bool Zg,.slice YM Zn N] YD;have Xw:=(WP.aH 0).cell;have Xv:=(WP.aH 0).frozen;(go_wp2_with fail);clear XG Xn Xw Xv;clear WP;replace hS:=(hS.pt 1 0 [.bool Zg,.slice YM Zn N] YD).pt 0 0 [.bool YS,.slice Yp YU YW] YL;refine gW hS ?_;clear hS;intro w7 hS;have XY:=aK.blk (hS.aH 0);have XP:=aK.blk (hS.aH 1);have YO:=aK.blk (hS.aH 2);have Y9:=aK.blk (hS.aH 3);have B:=hS.ext;refine tF 11 [(4,.ri (Yh)),(8,.ri (D)),(9,.ri (Yl)),(10,.box 40 #[.bool false,.slice none 0 0])] ?_;refine Qs ?_;refine Ei (fun R I=>iG T _ _ Z W Yh _ (Blk.ext (hS.aH 11) I.1) (hS.aD 3 I.1) (hS.aD 1 I.1) Zv ZY cp.o Z7) ?_;intro a5 ac cy a9 ZW Z9;refine Qs ?_;refine Ei (fun R I=>iG T _ _ X4 H D _ (Blk.ext (hS.aH 11) I.1) (hS.aD 2 I.1) (hS.aD 0 I.1) ZA Yo a4.o Zx) ?_;intro cl ZT a3 cc ar Zl;refine Ei (fun R I=>KQ T _ _ Yh D Yl _ (Blk.ext (hS.aH 11) I.1) (I.f 4 ((iv a5 ac cy a9),ZW,Z9)) (I.f 8 ((iv cl ZT a3 cc),ar,Zl)) Z7 Zx a1.o aP) ?_;intro bt ZK cw a7 cM cE;refine Eb ?_;intro XR Yx ai;refine bE ?_;intro w8 I;have j:=hS.lt;replace hS:=hS.mv I.ext;replace hS:=hS.aI I 4;replace hS:=hS.aI I 8;replace hS:=hS.aI I 9;have Yq:=I.lw 10;have Zw:Own w XR:=Own.of B Yq;replace hS:=hS.aB I 10 XR (apF j Yq);clear I j B XY XP YO Y9;clear Yq ai Yx;have XK:=(hS.aH 0).cell;have XN:=(hS.aH 0).frozen;(go_wp2_with fail);clear XK XN;replace hS:=hS.pt 0 0 [.bool bt,.slice ZK cw a7] Zw;refine gW hS ?_;clear hS;intro w9 hS;have XY:=aK.blk (hS.aH 1);have XP:=aK.blk (hS.aH 2);have YO:=aK.blk (hS.aH 3);have Y9:=aK.blk (hS.aH 4);have B:=hS.ext;refine tF 11 [(4,.ri (Yn)),(8,.ri (Ym)),(9,.ri (Yk)),(10,.box 40 #[.bool false,.slice none 0 0])] ?_;refine Qs ?_;refine Ei (fun R I=>iG T _ _ Z H Yn _ (Blk.ext (hS.aH 12) I.1) (hS.aD 6 I.1) (hS.aD 3 I.1) Zv Yo bn.o aG) ?_;intro bw ZI a2 ce XA Xz;refine Qs ?_;refine Ei (fun R I=>iG T _ _ X4 W Ym _ (Blk.ext (hS.aH 12) I.1) (hS.aD 5 I.1) (hS.aD 4 I.1) ZA ZY cx.o Zo) ?_;intro ci ZN cv ch ZZ af;refine Ei (fun R I=>vW T _ _ Yn Ym Yk _ (Blk.ext (hS.aH 12) I.1) (I.f 4 ((iv bw ZI a2 ce),XA,Xz)) (I.f 8 ((iv ci ZN cv ch),ZZ,af)) aG Zo bb.o ZH) ?_;intro bm aq a8 cj cB cF;refine Eb ?_;intro WU XB Xe;refine bE ?_;intro Xt I;have j:=hS.lt;replace hS:=hS.mv I.ext;replace hS:=hS.aI I 4;replace hS:=hS.aI I 8;replace hS:=hS.aI I 9;have G:=I.lw 10;have Yi:Own w WU:=Own.of B G;replace hS:=hS.aB I 10 WU (apF j G);clear I j B XY XP YO Y9;clear G Xe XB;have XO:=(hS.aH 0).cell;have XH:=(hS.aH 0).frozen;(go_wp2_with fail);clear XO XH;replace hS:=hS.pt 0 0 [.bool bm,.slice aq a8 cj] Yi;refine gW hS ?_;clear hS;intro Xo hS;have Y8:=aK.blk (hS.aH 6);have Y7:=aK.blk (hS.aH 7);have Y5:=aK.blk (hS.aH 11);have Y4:=aK.blk (hS.aH 12);have B:=hS.ext;refine tF 13 [(5,.ri (Xc)),(10,.ri (Yj)),(11,.ri (L)),(12,.box 40 #[.bool false,.slice none 0 0])] ?_;refine Qs ?_;refine Ei (fun R I=>fG T _ _ WL C Xc _ (Blk.ext (hS.aH 13) I.1) (hS.aD 15 I.1) (hS.aD 10 I.1) V X5 bg.o Ze.o cg.o) ?_;intro bp ZO be bV ZP ZQ;refine Qs ?_;refine Ei (fun R I=>fG T _ _ Xl S Yj _ (Blk.ext (hS.aH 13) I.1) (hS.aD 12 I.1) (hS.aD 11 I.1) YC Yu bk.o ZM.o bj.o) ?_;intro bx Z8 ca cf ad ap;refine Ei (fun R I=>iG T _ _ Xc Yj L _ (Blk.ext (hS.aH 13) I.1) (I.f 5 ((iv bp ZO be bV),ZP,ZQ)) (I.f 10 ((iv bx Z8 ca cf),ad,ap)) a6 cr cd.o ZR) ?_;intro az Zj ay aE cD cP;refine Eb ?_;intro XM Yy Ye;refine bE ?_;intro Yw I;have j:=hS.lt;replace hS:=hS.mv I.ext;replace hS:=hS.aI I 5;replace hS:=hS.aI I 10;replace hS:=hS.aI I 11;have P:=I.lw 12;have Zr:Own w XM:=Own.of B P;replace hS:=hS.aB I 12 XM (apF j P);clear I j B Y8 Y7 Y5 Y4;clear P Ye Yy;have XJ:=(hS.aH 0).cell;have XE:=(hS.aH 0).frozen;have WT:=hS.pt 0 0 [.bool az,.slice Zj ay aE] Zr;have Yb:=(WT.aH 14).cell;have Yc:=(WT.aH 2).cell;have YE:=(WT.aH 1).cell;have Yz:=(WT.aH 0).cell;(go_wp2_with fail);clear XJ XE Yb Yc YE Yz;clear WT;replace hS:=hS.pt 0 0 [.bool az,.slice Zj ay aE] Zr;refine gW hS ?_;clear hS;intro cQ hS;refine(oL T _ _ _ Yl Yk L X8 Yf Yg _ (hS.aH 14) (hS.aF 6) (hS.aF 3) (hS.aF 0) aP ZH ZR bl.o ck.o).mono ?_;rintro e cR ⟨v_,rfl,M,F⟩;replace hS:=hS.mv F;clear F;obtain⟨Zd,YZ,ZE,Zq,ax,YX,ao,ZX,ZL,Zc,ZJ,aw,rfl,Yd,X7,X9⟩:=M;replace hS:=hS.aU Yd;clear Yd;replace hS:=hS.aU X7;clear X7;replace hS:=hS.aU X9;clear X9;have Zi:=(hS.aH 11).cell;have Zh:=(hS.aH 11).frozen;go_wp2;replace hS:=hS.pt 11 0 [.bool Zd,.slice YZ ZE Zq,.bool ax,.slice YX ao ZX,.bool ZL,.slice Zc ZJ aw] o6;exact dh rfl rfl rfl (hS.aH 11) ⟨_,rfl,RG.mk (hS.aF 2) (hS.aF 1) (hS.aF 0),hS.ext⟩
def yh(T v1 V a b d a' b' d' u v t n w)(hc:Calm w T)(L:RG w v1 a b d)(l:RG w V a' b' d')(sx:Sz n a b d)(sy:Sz n a' b' d')(hn:n+n+1<=12800)(hd:d≠0)(hd':d'≠0)(E:(u,v,t)=nf (a*a'-b*b') (a*b'+b*a') (d*d')):
  CV 142 #[.pointer (some ⟨T,0,none⟩),v1,V] w fun x w'=>RG w' x u v t:=by
 obtain⟨g,P,M,b1,hg,N,D,S,J⟩:=qV (a:=d') (b:=a) (c:=b) hd';obtain⟨h,W,K,Q,hh,j,Z,C,B⟩:=qV (a:=d) (b:=a') (c:=b') hd;have R:=fJ N S sx.a;have F:=fJ N J sx.b;have I:=fJ N D sy.d;have G:=fJ j C sy.a;have H:=fJ j B sy.b;have O:=fJ j Z sx.d;have bg:g.natAbs<2^n:=xk hd' ⟨_,D⟩ sy.d;have bh:h.natAbs<2^n:=xk hd ⟨_,Z⟩ sx.d;have p1:=bG R G;have p2:=bG F H;have p3:=bG R H;have p4:=bG F G;have p5:=bG O I;have q1:=sJ p1 p2;have q2:=ja p3 p4;have U:W*P≠0:=Int.mul_ne_zero (by intro e;rw[e] at Z;simp at Z;exact hd Z) (by intro e;rw[e] at D;simp at D;exact hd' D);have E':(u,v,t)=nf (M*K-b1*Q) (M*Q+b1*K) (W*P):=by
  rw[E];refine nS (Int.mul_ne_zero hd hd') U ?_ ?_
  .rw[S,J,Z,C,B,D];grind
  .rw[S,J,Z,C,B,D];grind
 have sz:=jh (n:=n+n+1) U E' q1 q2 (iU p5 aa);obtain⟨x1,x2,Y⟩:=sx.pW aa;obtain⟨y1,y2,y3⟩:=sy.pW aa;obtain⟨s1,s2,s3⟩:=sz.pW hn;exact Ap T v1 a b d V a' b' d' w hc L x1 x2 Y l y1 y2 y3 g (aJ hg) (bC bg aa) h (aJ hh) (bC bh aa)
  M (aJ (fC N S)) (bC R aa) (aJ N) (aJ ⟨_,S⟩) b1 (aJ (fC N J)) (bC F aa) (aJ N) (aJ ⟨_,J⟩)
  K (aJ (fC j C)) (bC G aa) (aJ j) (aJ ⟨_,C⟩) Q (aJ (fC j B)) (bC H aa) (aJ j) (aJ ⟨_,B⟩)
  _ (aJ rfl) (bC p1 aa) _ (aJ rfl) (bC p2 aa) _ (aJ rfl) (bC q1 aa)
  _ (aJ rfl) (bC p3 aa) _ (aJ rfl) (bC p4 aa) _ (aJ rfl) (bC q2 aa)
  W (aJ (fC j Z)) (bC O aa) (aJ j) (aJ ⟨_,Z⟩) P (aJ (fC N D)) (bC I aa) (aJ N) (aJ ⟨_,D⟩)
  _ (aJ rfl) (bC p5 aa) (aJ U) u v t (aJ E') s1 s2 s3
def equotient_g(T:Nat)(v1:Value)(WN WO WL:Int)(v2:Value)(Xm Xk Xl:Int)(w:World)(hc:Calm w T)(J:RG w v1 WN WO WL)(XI:WN.natAbs<lim)(XD:WO.natAbs<lim)(V:WL.natAbs<lim)(WR:RG w v2 Xm Xk Xl)(YG:Xm.natAbs<lim)(YA:Xk.natAbs<lim)(YC:Xl.natAbs<lim)(C:Int)(f8:Hid (C=(fA [WN,WO,Xm,Xk]:Nat)))(bV:C.natAbs<lim)(Xx:Int)(e1:Hid (Xx=(fA [WL,Xl]:Nat)))(d9:Xx.natAbs<lim)(YJ:Int)(f6:Hid (YJ=WN/C))(dv:YJ.natAbs<lim)(e9:Hid (C≠0))(cU:Hid (C∣WN))(S:Int)(e4:Hid (S=WO/C))(ZF:S.natAbs<lim)(fk:Hid (C≠0))(cQ:Hid (C∣WO))(N:Int)(fN:Hid (N=Xm/C))(ZG:N.natAbs<lim)(e6:Hid (C≠0))(cA:Hid (C∣Xm))(Yn:Int)(e2:Hid (Yn=Xk/C))(dT:Yn.natAbs<lim)(eM:Hid (C≠0))(c7:Hid (C∣Xk))(D:Int)(eA:Hid (D=(fA [N,Yn]:Nat)))(Zx:D.natAbs<lim)(Xz:Int)(f7:Hid (Xz=N/D))(bx:Xz.natAbs<lim)(fi:Hid (D≠0))(db:Hid (D∣N))(Xy:Int)(gg:Hid (Xy=Yn/D))(bA:Xy.natAbs<lim)(fx:Hid (D≠0))(cH:Hid (D∣Yn))(Z:Int)(fL:Hid (Z=YJ*Xz))(ZJ:Z.natAbs<lim)(Xc:Int)(fW:Hid (Xc=S*Xy))(dp:Xc.natAbs<lim)(ZB:Int)(eJ:Hid (ZB=Z+Xc))(dr:ZB.natAbs<lim)(L:Int)(fR:Hid (L=S*Xz))(ZR:L.natAbs<lim)(ZE:Int)(ga:Hid (ZE=YJ*Xy))(d4:ZE.natAbs<lim)(ZA:Int)(fS:Hid (ZA=L-ZE))(d1:ZA.natAbs<lim)(ZC:Int)(eE:Hid (ZC=Xz*Xz))(ds:ZC.natAbs<lim)(Zz:Int)(f1:Hid (Zz=Xy*Xy))(d8:Zz.natAbs<lim)(X8:Int)(cP:Hid (X8=ZC+Zz))(a1:X8.natAbs<lim)(cL:Hid (X8≠0))(Yk Yv Ym:Int)(cY:Hid ((Yk,Yv,Ym)=nf ZB ZA X8))(eb:Yk.natAbs<lim)(ei:Yv.natAbs<lim)(et:Ym.natAbs<lim)(Yg:Int)(cf:Hid (Yg=Xl/Xx))(cJ:Yg.natAbs<lim)(cM:Hid (Xx≠0))(bq:Hid (Xx∣Xl))(Yh:Int)(cW:Hid (Yh=WL/Xx))(cG:Yh.natAbs<lim)(c6:Hid (Xx≠0))(a4:Hid (Xx∣WL))(X3:Int)(cn:Hid (X3=D*Yh))(a2:X3.natAbs<lim)(cD:Hid (X3≠0))(X6 X7 X5:Int)(df:Hid ((X6,X7,X5)=nf Yg 0 X3))(ej:X6.natAbs<lim)(ep:X7.natAbs<lim)(ee:X5.natAbs<lim)(Yt Yo Yr:Int)(HP:Hid (∀(v H:Value) (W:World),Calm W T->RG W v Yk Yv Ym->RG W H X6 X7 X5->CV 142 #[.pointer (some ⟨T,0,none⟩),v,H] W fun x w'=>RG w' x Yt Yo Yr))(ef:Yt.natAbs<lim)(ed:Yo.natAbs<lim)(eo:Yr.natAbs<lim):
  CV 173 #[.pointer (some ⟨T,0,none⟩),v1,v2] w fun v w'=>RG w' v Yt Yo Yr:=by
 have hS:=St.start w;obtain⟨Wv,Ws,Wq,Wt,Wy,Wu,Ww,Wx,Wp,Q,Wo,O,rfl,WE,WF,WG⟩:=J;replace hS:=hS.aU WE;clear WE;replace hS:=hS.aU WF;clear WF;replace hS:=hS.aU WG;clear WG;obtain⟨WV,W9,WX,Xh,Xg,WZ,Xj,Xi,Xa,WY,WW,K,rfl,Xq,Xp,Xr⟩:=WR;replace hS:=hS.aU Xq;clear Xq;replace hS:=hS.aU Xp;clear Xp;replace hS:=hS.aU Xr;clear Xr;replace hS:=hS.vk hc trivial;clear hc;go_enter Tryz.func173,Tryz.ntmps173;(go_wp2_with fail);refine gA3 hS 42 #[.bool Wv,.slice Ws Wq Wt,.bool Wy,.slice Wu Ww Wx,.bool Wp,.slice Q Wo O] 42 #[.bool WV,.slice W9 WX Xh,.bool Xg,.slice WZ Xj Xi,.bool Xa,.slice WY WW K] 42 #[.bool false,.slice none 0 0,.bool false,.slice none 0 0,.bool false,.slice none 0 0] ?_;clear hS;intro w1 g4 o4 g5 o5 g6 o6 hS;have Y5:=aK.blk (hS.aH 1);have Y4:=aK.blk (hS.aH 2);have B:=hS.ext;refine tF 20 [(9,.sl 40 4 #[.bool Wv,.slice Ws Wq Wt,.bool Wy,.slice Wu Ww Wx,.bool WV,.slice W9 WX Xh,.bool Xg,.slice WZ Xj Xi]),(10,.ri (C)),(16,.sl 40 2 #[.bool Wp,.slice Q Wo O,.bool Xa,.slice WY WW K]),(17,.ri (Xx)),(18,.box 40 #[.bool false,.slice none 0 0]),(19,.box 40 #[.bool false,.slice none 0 0])] ?_;refine Qs ?_;refine Eb ?_;intro b0 cE Zm;refine Ei (fun R I=>OW T b0 WN WO Xm Xk C _ (Blk.ext (hS.aH 3) I.1) ((I.2 9 _ rf ah).2.2) (hS.aD 5 I.1) (hS.aD 4 I.1) (hS.aD 2 I.1) (hS.aD 1 I.1) XI XD YG YA f8) ?_;intro d6 av d2 dt gq gy;refine Qs ?_;refine Eb ?_;intro cd cl Zo;refine Ei (fun R I=>AZ T cd WL Xl Xx _ (Blk.ext (hS.aH 3) I.1) ((I.2 16 _ rf ah).2.2) (hS.aD 3 I.1) (hS.aD 0 I.1) V YC e1) ?_;intro gb cx fY fh go gH;refine Eb ?_;intro g7 WI WH;refine Eb ?_;intro g8 XU WA;refine bE ?_;intro w2 I;have j:=hS.lt;replace hS:=hS.mv I.ext;replace hS:=hS.aI I 10;replace hS:=hS.aI I 17;have Z7:=I.lw 9;have hh:Own w b0:=Own.of B Z7;replace hS:=hS.aB I 9 b0 (apF j Z7);have ZU:=I.lw 16;have g0:Own w cd:=Own.of B ZU;replace hS:=hS.aB I 16 cd ⟨I.nn 9 16 Zm Zo,(apF j ZU)⟩;have WJ:=I.lw 18;have o7:Own w g7:=Own.of B WJ;replace hS:=hS.aB I 18 g7 ⟨I.nn 16 18 Zo WH,⟨I.nn 9 18 Zm WH,(apF j WJ)⟩⟩;have XW:=I.lw 19;have o8:Own w g8:=Own.of B XW;replace hS:=hS.aB I 19 g8 ⟨I.nn 18 19 WH WA,⟨I.nn 16 19 Zo WA,⟨I.nn 9 19 Zm WA,(apF j XW)⟩⟩⟩;clear I j B Y5 Y4;clear Z7 Zm cE;clear ZU Zo cl;clear WJ WH WI;clear XW WA XU;have WC:=(hS.aH 1).cell;have WB:=(hS.aH 1).frozen;have l:=hS.pt 1 0 [.bool d6,.slice av d2 dt] o7;have WK:=(l.aH 0).cell;have WM:=(l.aH 0).frozen;(go_wp2_with fail);clear WC WB WK WM;clear l;replace hS:=(hS.pt 1 0 [.bool d6,.slice av d2 dt] o7).pt 0 0 [.bool gb,.slice cx fY fh] o8;refine gW hS ?_;clear hS;intro w3 hS;have Y7:=aK.blk (hS.aH 1);have Y4:=aK.blk (hS.aH 6);have B:=hS.ext;refine tF 12 [(4,.ri (YJ)),(9,.ri (S)),(10,.box 40 #[.bool false,.slice none 0 0]),(11,.box 40 #[.bool false,.slice none 0 0])] ?_;refine Qs ?_;refine Ei (fun R I=>fG T _ _ WN C YJ _ (Blk.ext (hS.aH 7) I.1) (hS.aD 7 I.1) (hS.aD 1 I.1) XI bV e9.o cU.o f6.o) ?_;intro du aE dw dq gC gw;refine Qs ?_;refine Ei (fun R I=>fG T _ _ WO C S _ (Blk.ext (hS.aH 7) I.1) (hS.aD 6 I.1) (hS.aD 1 I.1) XD bV fk.o cQ.o e4.o) ?_;intro e5 ZL eS ew Yf Yd;refine Eb ?_;intro g9 Zy XV;refine Eb ?_;intro g10 Y U;refine bE ?_;intro w4 I;have j:=hS.lt;replace hS:=hS.mv I.ext;replace hS:=hS.aI I 4;replace hS:=hS.aI I 9;have YN:=I.lw 10;have o9:Own w g9:=Own.of B YN;replace hS:=hS.aB I 10 g9 (apF j YN);have XT:=I.lw 11;have Xu:Own w g10:=Own.of B XT;replace hS:=hS.aB I 11 g10 ⟨I.nn 10 11 XV U,(apF j XT)⟩;clear I j B Y7 Y4;clear YN XV Zy;clear XT U Y;have WQ:=(hS.aH 1).cell;have Xb:=(hS.aH 1).frozen;have Wz:=hS.pt 1 0 [.bool du,.slice aE dw dq] o9;have Xd:=(Wz.aH 0).cell;have XF:=(Wz.aH 0).frozen;(go_wp2_with fail);clear WQ Xb Xd XF;clear Wz;replace hS:=(hS.pt 1 0 [.bool du,.slice aE dw dq] o9).pt 0 0 [.bool e5,.slice ZL eS ew] Xu;refine gW hS ?_;clear hS;intro w5 hS;have Y7:=aK.blk (hS.aH 3);have Y5:=aK.blk (hS.aH 7);have B:=hS.ext;refine tF 12 [(4,.ri (N)),(9,.ri (Yn)),(10,.box 40 #[.bool false,.slice none 0 0]),(11,.box 40 #[.bool false,.slice none 0 0])] ?_;refine Qs ?_;refine Ei (fun R I=>fG T _ _ Xm C N _ (Blk.ext (hS.aH 9) I.1) (hS.aD 6 I.1) (hS.aD 3 I.1) YG bV e6.o cA.o fN.o) ?_;intro Zp X9 Zv Zq gi gO;refine Qs ?_;refine Ei (fun R I=>fG T _ _ Xk C Yn _ (Blk.ext (hS.aH 9) I.1) (hS.aD 5 I.1) (hS.aD 3 I.1) YA bV eM.o c7.o e2.o) ?_;intro cc Z8 ca cb gE gt;refine Eb ?_;intro Xf XC YF;refine Eb ?_;intro g12 YB XQ;refine bE ?_;intro w6 I;have j:=hS.lt;replace hS:=hS.mv I.ext;replace hS:=hS.aI I 4;replace hS:=hS.aI I 9;have XZ:=I.lw 10;have YD:Own w Xf:=Own.of B XZ;replace hS:=hS.aB I 10 Xf (apF j XZ);have XX:=I.lw 11;have YL:Own w g12:=Own.of B XX;replace hS:=hS.aB I 11 g12 ⟨I.nn 10 11 YF XQ,(apF j XX)⟩;clear I j B Y7 Y5;clear XZ YF XC;clear XX XQ YB;have XG:=(hS.aH 1).cell;have Xn:=(hS.aH 1).frozen;have WP:=hS.pt 1 0 [.bool Zp,.slice X9 Zv Zq] YD;have Xw:=(WP.aH 0).cell;have Xv:=(WP.aH 0).frozen;have WT:=(hS.pt 1 0 [.bool Zp,.slice X9 Zv Zq] YD).pt 0 0 [.bool cc,.slice Z8 ca cb] YL;have XK:=(WT.aH 1).cell;have XN:=(WT.aH 0).cell;have e7:Own w w6.heap.size:=Own.of hS.ext ag;(go_wp2_with fail);clear XG Xn Xw Xv XK XN;clear WP WT;replace hS:=St.al ((hS.pt 1 0 [.bool Zp,.slice X9 Zv Zq] YD).pt 0 0 [.bool cc,.slice Z8 ca cb] YL) 40 #[.bool Zp,.slice X9 Zv Zq,.bool cc,.slice Z8 ca cb] (g:=w6.heap.size) ag;refine gW hS ?_;clear hS;intro w7 hS;generalize w6.heap.size=eL at hS e7⊢;refine(AZ T eL N Yn D _ (hS.aH 12) (hS.aH 0) (hS.aF 1) (hS.aF 0) ZG dT eA).mono ?_;rintro e w8 ⟨v_,rfl,M,F⟩;replace hS:=hS.mv F;clear F;obtain⟨f4,ZT,ez,fB,rfl,ZY⟩:=RI.opn M;clear M;replace hS:=hS.aU ZY;clear ZY;have YP:=(St.al hS 40 #[.bool false,.slice none 0 0] (g:=w8.heap.size) ag);have XO:=(YP.aH 0).cell;have XH:=(YP.aH 0).frozen;(go_wp2_with fail);clear XO XH;clear YP;refine gA1 hS 40 #[.bool f4,.slice ZT ez fB] ?_;clear hS;intro w9 XR Zw hS;have YM:=aK.blk (hS.aH 0);have XY:=aK.blk (hS.aH 2);have XP:=aK.blk (hS.aH 3);have B:=hS.ext;refine tF 8 [(3,.ri (Xz)),(7,.ri (Xy))] ?_;refine Qs ?_;refine Ei (fun R I=>fG T _ _ N D Xz _ (Blk.ext (hS.aH 13) I.1) (hS.aD 2 I.1) (hS.aD 0 I.1) ZG Zx fi.o db.o f7.o) ?_;intro dx ax d5 d0 gR gh;refine Qs ?_;refine Ei (fun R I=>fG T _ _ Yn D Xy _ (Blk.ext (hS.aH 13) I.1) (hS.aD 1 I.1) (hS.aD 0 I.1) dT Zx fx.o cH.o gg.o) ?_;intro eC ce eT gd gA gB;refine bE ?_;intro Xt I;have j:=hS.lt;replace hS:=hS.mv I.ext;replace hS:=hS.aI I 3;replace hS:=hS.aI I 7;clear I j B YM XY XP;have XJ:=(hS.aH 3).cell;have XE:=(hS.aH 3).frozen;have Zc:=hS.pt 3 0 [.bool dx,.slice ax d5 d0] YD;have Yb:=(Zc.aH 2).cell;have Yc:=(Zc.aH 2).frozen;(go_wp2_with fail);clear XJ XE Yb Yc;clear Zc;replace hS:=(hS.pt 3 0 [.bool dx,.slice ax d5 d0] YD).pt 2 0 [.bool eC,.slice ce eT gd] YL;refine gW hS ?_;clear hS;intro Xo hS;have XY:=aK.blk (hS.aH 2);have XP:=aK.blk (hS.aH 3);have YO:=aK.blk (hS.aH 4);have Y9:=aK.blk (hS.aH 5);have B:=hS.ext;refine tF 11 [(4,.ri (Z)),(8,.ri (Xc)),(9,.ri (ZB)),(10,.box 40 #[.bool false,.slice none 0 0])] ?_;refine Qs ?_;refine Ei (fun R I=>iG T _ _ YJ Xz Z _ (Blk.ext (hS.aH 13) I.1) (hS.aD 6 I.1) (hS.aD 1 I.1) dv bx fL.o ZJ) ?_;intro ey ZI f3 fj ZN ZH;refine Qs ?_;refine Ei (fun R I=>iG T _ _ S Xy Xc _ (Blk.ext (hS.aH 13) I.1) (hS.aD 5 I.1) (hS.aD 0 I.1) ZF bA fW.o dp) ?_;intro fa ZO eN fn ZP ZQ;refine Ei (fun R I=>vW T _ _ Z Xc ZB _ (Blk.ext (hS.aH 13) I.1) (I.f 4 ((iv ey ZI f3 fj),ZN,ZH)) (I.f 8 ((iv fa ZO eN fn),ZP,ZQ)) ZJ dp eJ.o dr) ?_;intro fd cV f2 eI gn gr;refine Eb ?_;intro WU XB Xe;refine bE ?_;intro Yw I;have j:=hS.lt;replace hS:=hS.mv I.ext;replace hS:=hS.aI I 4;replace hS:=hS.aI I 8;replace hS:=hS.aI I 9;have G:=I.lw 10;have Yi:Own w WU:=Own.of B G;replace hS:=hS.aB I 10 WU (apF j G);clear I j B XY XP YO Y9;clear G Xe XB;have YE:=(hS.aH 0).cell;have Yz:=(hS.aH 0).frozen;(go_wp2_with fail);clear YE Yz;replace hS:=hS.pt 0 0 [.bool fd,.slice cV f2 eI] Yi;refine gW hS ?_;clear hS;intro gS hS;have XY:=aK.blk (hS.aH 3);have XP:=aK.blk (hS.aH 4);have YO:=aK.blk (hS.aH 5);have Y9:=aK.blk (hS.aH 6);have B:=hS.ext;refine tF 11 [(4,.ri (L)),(8,.ri (ZE)),(9,.ri (ZA)),(10,.box 40 #[.bool false,.slice none 0 0])] ?_;refine Qs ?_;refine Ei (fun R I=>iG T _ _ S Xz L _ (Blk.ext (hS.aH 14) I.1) (hS.aD 8 I.1) (hS.aD 4 I.1) ZF bx fR.o ZR) ?_;intro fg Zj eR fm cp dc;refine Qs ?_;refine Ei (fun R I=>iG T _ _ YJ Xy ZE _ (Blk.ext (hS.aH 14) I.1) (hS.aD 9 I.1) (hS.aD 3 I.1) dv bA ga.o d4) ?_;intro eB cr e3 eW cN cB;refine Ei (fun R I=>KQ T _ _ L ZE ZA _ (Blk.ext (hS.aH 14) I.1) (I.f 4 ((iv fg Zj eR fm),cp,dc)) (I.f 8 ((iv eB cr e3 eW),cN,cB)) ZR d4 fS.o d1) ?_;intro ff dl e8 fy gj gp;refine Eb ?_;intro XM Yy Ye;refine bE ?_;intro g2 I;have j:=hS.lt;replace hS:=hS.mv I.ext;replace hS:=hS.aI I 4;replace hS:=hS.aI I 8;replace hS:=hS.aI I 9;have P:=I.lw 10;have Zr:Own w XM:=Own.of B P;replace hS:=hS.aB I 10 XM (apF j P);clear I j B XY XP YO Y9;clear P Ye Yy;have Zi:=(hS.aH 0).cell;have Zh:=(hS.aH 0).frozen;(go_wp2_with fail);clear Zi Zh;replace hS:=hS.pt 0 0 [.bool ff,.slice dl e8 fy] Zr;refine gW hS ?_;clear hS;intro hk hS;have XY:=aK.blk (hS.aH 4);have XP:=aK.blk (hS.aH 5);have B:=hS.ext;refine tF 11 [(4,.ri (ZC)),(8,.ri (Zz)),(9,.ri (X8)),(10,.box 40 #[.bool false,.slice none 0 0])] ?_;refine Qs ?_;refine Ei (fun R I=>iG T _ _ Xz Xz ZC _ (Blk.ext (hS.aH 15) I.1) (hS.aD 7 I.1) (hS.aD 7 I.1) bx bx eE.o ds) ?_;intro f0 cS eK eV cR dk;refine Qs ?_;refine Ei (fun R I=>iG T _ _ Xy Xy Zz _ (Blk.ext (hS.aH 15) I.1) (hS.aD 6 I.1) (hS.aD 6 I.1) bA bA f1.o d8) ?_;intro gf cw fb e0 cC cT;refine Ei (fun R I=>vW T _ _ ZC Zz X8 _ (Blk.ext (hS.aH 15) I.1) (I.f 4 ((iv f0 cS eK eV),cR,dk)) (I.f 8 ((iv gf cw fb e0),cC,cT)) ds d8 cP.o a1) ?_;intro az ac ay ar eg er;refine Eb ?_;intro Yj Yx ZM;refine bE ?_;intro hg I;have j:=hS.lt;replace hS:=hS.mv I.ext;replace hS:=hS.aI I 4;replace hS:=hS.aI I 8;replace hS:=hS.aI I 9;have XL:=I.lw 10;have d7:Own w Yj:=Own.of B XL;replace hS:=hS.aB I 10 Yj (apF j XL);clear I j B XY XP;clear XL ZM Yx;have c8:=(hS.aH 0).cell;have ck:=(hS.aH 0).frozen;have Yp:=hS.pt 0 0 [.bool az,.slice ac ay ar] d7;have cX:=(Yp.aH 16).cell;have cI:=(Yp.aH 2).cell;have ch:=(Yp.aH 1).cell;have Zl:=(Yp.aH 0).cell;(go_wp2_with fail);clear c8 ck cX cI ch Zl;clear Yp;replace hS:=hS.pt 0 0 [.bool az,.slice ac ay ar] d7;refine gW hS ?_;clear hS;intro he hS;refine(oL T _ _ _ ZB ZA X8 Yk Yv Ym _ (hS.aH 16) (hS.aF 6) (hS.aF 3) (hS.aF 0) dr d1 a1 cL.o cY.o).mono ?_;rintro e f9 ⟨v_,rfl,M,F⟩;replace hS:=hS.mv F;clear F;obtain⟨a3,ap,bo,a9,ba,ao,a8,a7,bl,am,be,bt,rfl,YK,YH,YI⟩:=M;replace hS:=hS.aU YK;clear YK;replace hS:=hS.aU YH;clear YH;replace hS:=hS.aU YI;clear YI;have YU:=(St.al hS 42 #[.bool false,.slice none 0 0,.bool false,.slice none 0 0,.bool false,.slice none 0 0] (g:=f9.heap.size) ag);have Zn:=(YU.aH 0).cell;have ci:=(YU.aH 0).frozen;(go_wp2_with fail);clear Zn ci;clear YU;refine gA1 hS 42 #[.bool a3,.slice ap bo a9,.bool ba,.slice ao a8 a7,.bool bl,.slice am be bt] ?_;clear hS;intro gT WS g1 hS;have YM:=aK.blk (hS.aH 4);have Y8:=aK.blk (hS.aH 10);have Y5:=aK.blk (hS.aH 15);have Y4:=aK.blk (hS.aH 16);have B:=hS.ext;refine tF 15 [(4,.ri (Yg)),(11,.ri (Yh)),(12,.ri (X3)),(13,.box 40 #[.bool false,.slice none 0 0]),(14,.box 40 #[.bool false,.slice none 0 0])] ?_;refine Qs ?_;refine Ei (fun R I=>fG T _ _ Xl Xx Yg _ (Blk.ext (hS.aH 17) I.1) (hS.aD 21 I.1) (hS.aD 19 I.1) YC d9 cM.o bq.o cf.o) ?_;intro ZV Zd ZW ZX ek ec;refine Qs ?_;refine Ei (fun R I=>fG T _ _ WL Xx Yh _ (Blk.ext (hS.aH 17) I.1) (hS.aD 24 I.1) (hS.aD 19 I.1) V d9 c6.o a4.o cW.o) ?_;intro cg a6 cF cj bi bh;refine Ei (fun R I=>iG T _ _ D Yh X3 _ (Blk.ext (hS.aH 17) I.1) (hS.aD 14 I.1) (I.f 11 ((iv cg a6 cF cj),bi,bh)) Zx cG cn.o a2) ?_;intro aq Z9 a0 aw ev ea;refine Eb ?_;intro ZK Zg Ya;refine Eb ?_;intro dy Zk aP;refine bE ?_;intro gU I;have j:=hS.lt;replace hS:=hS.mv I.ext;replace hS:=hS.aI I 4;replace hS:=hS.aI I 11;replace hS:=hS.aI I 12;have XA:=I.lw 13;have Zt:Own w ZK:=Own.of B XA;replace hS:=hS.aB I 13 ZK (apF j XA);have ZZ:=I.lw 14;have dn:Own w dy:=Own.of B ZZ;replace hS:=hS.aB I 14 dy ⟨I.nn 13 14 Ya aP,(apF j ZZ)⟩;clear I j B YM Y8 Y5 Y4;clear XA Ya Zg;clear ZZ aP Zk;have di:=(hS.aH 1).cell;have cy:=(hS.aH 1).frozen;have YV:=hS.pt 1 0 [.bool ZV,.slice Zd ZW ZX] Zt;have da:=(YV.aH 0).cell;have cv:=(YV.aH 0).frozen;have X4:=(hS.pt 1 0 [.bool ZV,.slice Zd ZW ZX] Zt).pt 0 0 [.bool aq,.slice Z9 a0 aw] dn;have de:=(X4.aH 19).cell;(go_wp2_with fail);clear di cy da cv de;clear YV X4;replace hS:=(hS.pt 1 0 [.bool ZV,.slice Zd ZW ZX] Zt).pt 0 0 [.bool aq,.slice Z9 a0 aw] dn;refine gW hS ?_;clear hS;intro hf hS;have fX:=aK.blk (hS.aH 0);have f5:=aK.blk (hS.aH 1);have fr:=aK.blk (hS.aH 2);have B:=hS.ext;refine tF 8 [(6,.rg (X6) (X7) (X5)),(7,.rg (Yt) (Yo) (Yr))] ?_;refine Qs ?_;refine Eg (fun R I=>oL T _ _ _ Yg 0 X3 X6 X7 X5 _ (Blk.ext (hS.aH 19) I.1) (hS.aD 2 I.1) (RI.zero _) (hS.aD 0 I.1) cJ VS a2 cD.o df.o) ?_;intro Ze Yl YQ YT Zf Yu YW YY Za Yq YZ YS YR YX;refine Eg (fun R I=>HP.o _ _ _ (Blk.ext (hS.aH 19) I.1) (RG.mk (hS.aD 5 I.1) (hS.aD 4 I.1) (hS.aD 3 I.1)) (RG.mk (RG.at1 (I.f 6 ((gv Ze Yl YQ YT Zf Yu YW YY Za Yq YZ YS),YR,YX))) (RG.at2 (I.f 6 ((gv Ze Yl YQ YT Zf Yu YW YY Za Yq YZ YS),YR,YX))) (RG.at3 (I.f 6 ((gv Ze Yl YQ YT Zf Yu YW YY Za Yq YZ YS),YR,YX))))) ?_;intro bm ai bg bp bn ad bk bj bw af a5 bb es eh;refine bE ?_;intro hj I;have j:=hS.lt;replace hS:=hS.mv I.ext;replace hS:=hS.aG I 6;replace hS:=hS.aG I 7;clear I j B fX f5 fr;have gs:=(hS.aH 16).cell;have gk:=(hS.aH 16).frozen;go_wp2;replace hS:=hS.pt 16 0 [.bool bm,.slice ai bg bp,.bool bn,.slice ad bk bj,.bool bw,.slice af a5 bb] o6;exact dh rfl rfl rfl (hS.aH 16) ⟨_,rfl,RG.mk (hS.aF 2) (hS.aF 1) (hS.aF 0),hS.ext⟩
def Le3 (k y:Int):Prop:=if 0<=y then (k<=0\/k*k<=3*(y*y)) else (k<0/\3*(y*y)<=k*k)
instance (k y:Int):Decidable (Le3 k y):=by unfold Le3;infer_instance
def oh(x:Int):0<=x*x:=by
 rcases Int.le_total 0 x with h|h
 .exact Int.mul_nonneg h h
 .have:=Int.mul_nonneg (a:= -x) (b:= -x) aa aa;grind
def KE{x:Int}(h:x≠0):0<x*x:=by
 have j:=oh x;have l:x*x≠0:=Int.mul_ne_zero h h;omega
def cm (x y:Int):Int:=if x<y then-1 else if y<x then 1 else 0
def zz{a b c e}(h:c≠0\/e≠0):∃z p q r s:Int,z=(fA [a,b,c,e]:Nat)/\z≠0/\a=z*p/\b=z*q/\c=z*r/\e=z*s:=by
 have eq:fA [a,b,c,e]=Nat.gcd (Nat.gcd (Nat.gcd a.natAbs b.natAbs) c.natAbs) e.natAbs:=by simp[fA]
 have B:((fA [a,b,c,e]:Nat):Int)∣a:=by rw[eq];exact Int.ofNat_dvd_left.2 (Nat.dvd_trans (Nat.gcd_dvd_left _ _) (Nat.dvd_trans (Nat.gcd_dvd_left _ _) (Nat.gcd_dvd_left _ _)))
 have l:((fA [a,b,c,e]:Nat):Int)∣b:=by rw[eq];exact Int.ofNat_dvd_left.2 (Nat.dvd_trans (Nat.gcd_dvd_left _ _) (Nat.dvd_trans (Nat.gcd_dvd_left _ _) (Nat.gcd_dvd_right _ _)))
 have d3:((fA [a,b,c,e]:Nat):Int)∣c:=by rw[eq];exact Int.ofNat_dvd_left.2 (Nat.dvd_trans (Nat.gcd_dvd_left _ _) (Nat.gcd_dvd_right _ _))
 have j:((fA [a,b,c,e]:Nat):Int)∣e:=by rw[eq];exact Int.ofNat_dvd_left.2 (Nat.gcd_dvd_right _ _)
 have C:((fA [a,b,c,e]:Nat):Int)≠0:=by
  intro F;rw[F] at d3 j;have:=Int.zero_dvd.1 d3;have:=Int.zero_dvd.1 j;omega
 obtain⟨p,hp⟩:=B;obtain⟨q,hq⟩:=l;obtain⟨r,D⟩:=d3;obtain⟨s,hs⟩:=j;exact⟨_,p,q,r,s,rfl,C,hp,hq,D,hs⟩
def xV{a b}(h:a≠0\/b≠0):∃z p q:Int,z=(fA [a,b]:Nat)/\z≠0/\a=z*p/\b=z*q:=by
 by_cases hb:b=0
 .have e:fA [a,b]=Nat.gcd a.natAbs b.natAbs:=by simp[fA]
  subst hb;have j:fA [a,0]=a.natAbs:=by rw[e];simp
  rw[j];rcases Int.natAbs_eq a with l|l
  .exact⟨_,1,0,rfl,aa,aa,ag⟩
  .exact⟨_,-1,0,rfl,aa,aa,ag⟩
 .exact rz hb
def pY{a z q:Int}{n}(hq:a≠0)(h:a=z*q)(hn:a.natAbs<2^n):z.natAbs<2^n:=xk hq ⟨q,h⟩ hn
def pR{p q:Int}(h:p≠0\/q≠0):p*p+q*q≠0:=by
 have l:=oh p;have j:=oh q;rcases h with h|h
 .have:=KE h;omega
 .have:=KE h;omega
def zl{a b d a' b' d' g M b1 p q i p1 q1 h o c1 G P j S H sa D:Int}(I:a=g*M)(J:b=g*b1)(C:a'=g*p)(B:b'=g*q)(V:p=i*p1)(eq:q=i*q1)(L:d'=h*o)(ec:d=h*c1)(Q:M*p1+b1*q1=G*P)(O:b1*p1-M*q1=G*j)(N:p1*p1+q1*q1=G*S)(K:o=H*sa)(F:i*c1=H*D):
  ((a*a'+b*b')*d')*(S*D)=(P*sa)*(d*(a'*a'+b'*b'))/\((b*a'-a*b')*d')*(S*D)=(j*sa)*(d*(a'*a'+b'*b')):=by
 subst I J C B L ec K V eq;have n1:g*(i*p1)*(g*(i*p1))+g*(i*q1)*(g*(i*q1))=g*g*i*i*(G*S):=by rw[<-N];grind
 have n2:g*M*(g*(i*p1))+g*b1*(g*(i*q1))=g*g*i*(G*P):=by rw[<-Q];grind
 have n3:g*b1*(g*(i*p1))-g*M*(g*(i*q1))=g*g*i*(G*j):=by rw[<-O];grind
 rw[n1,n2,n3];constructor
 .have l:g*g*i*(G*P)*(h*(H*sa))*(S*D)=g*g*i*G*P*h*sa*S*(H*D):=ak;rw[l,<-F];grind
 .have l:g*g*i*(G*j)*(h*(H*sa))*(S*D)=g*g*i*G*j*h*sa*S*(H*D):=ak;rw[l,<-F];grind
def DT{A B D a b d}(j:D≠0)(E:(a,b,d)=nf A B D):∃G:Int,G≠0/\A=G*a/\B=G*b/\D=G*d/\0<d:=by
 obtain⟨K,L,N,C,l,J,Z,hp,M⟩:=tH (a:=A) (b:=B) j;rw[C] at E;injection E with I E;injection E with H F;subst I H F;exact⟨_,Dj j,l,J,Z,hp⟩
def Gz(A B D):∃a b d:Int,(a,b,d)=nf A B D:=⟨_,_,_,rfl⟩
def Ev(T v1 v2 a b d a' b' d' u v t n w)(hc:Calm w T)(L:RG w v1 a b d)(l:RG w v2 a' b' d')(sx:Sz n a b d)(sy:Sz n a' b' d')(hn:4*n+3<=12800)(hd:d≠0)(hd':d'≠0)(R:a'≠0\/b'≠0)(E:(u,v,t)=nf ((a*a'+b*b')*d') ((b*a'-a*b')*d') (d*(a'*a'+b'*b'))):
  CV 173 #[.pointer (some ⟨T,0,none⟩),v1,v2] w fun x w'=>RG w' x u v t:=by
 obtain⟨g,M,b1,p,q,hg,N,ea,J,C,B⟩:=zz (a:=a) (b:=b) R;have O:p≠0\/q≠0:=by
  exact Ach
 obtain⟨h,c1,o,hh,j,ec,eo⟩:=rz (a:=d) (b:=d') hd';obtain⟨i,p1,q1,hi,U,V,eq⟩:=xV O;have Ws:p1≠0\/q1≠0:=by
  exact Abe
 have bg:g.natAbs<2^n:=by
  rcases R with h|h
  .exact pY h C sy.a
  .exact pY h B sy.b
 have Wo:=fJ N ea sx.a;have F:=fJ N J sx.b;have bp:=fJ N C sy.a;have bq:=fJ N B sy.b;have Q:i.natAbs<2^n:=by
  rcases O with h|h
  .exact pY h V bp
  .exact pY h eq bq
 have I:=fJ U V bp;have K:=fJ U eq bq;have bh:=pY hd ec sx.d;have Wu:=fJ j ec sx.d;have bo:=fJ j eo sy.d;have m1:=bG Wo I;have m2:=bG F K;have m3:=bG F I;have m4:=bG Wo K;have m5:=bG I I;have m6:=bG K K;have m7:=ja m1 m2;have m8:=sJ m3 m4;have m9:=ja m5 m6;have Wt:=bG Q Wu;have hN:=pR Ws;have Z:i*c1≠0:=Int.mul_ne_zero U (by intro e;rw[e] at ec;simp at ec;exact hd ec);obtain⟨P,fb,S,Ef⟩:=Gz (M*p1+b1*q1) (b1*p1-M*q1) (p1*p1+q1*q1);obtain⟨sa,sb,D,Es⟩:=Gz o 0 (i*c1);obtain⟨G,WA,e1,e2,e3,Yp⟩:=DT hN Ef;obtain⟨H,Wx,e4,e6,e5,Yw⟩:=DT Z Es;have XG:sb=0:=by
  exact AcW
 subst XG;have sf:=jh (n:=n+n+1) hN Ef m7 m8 m9;have ss:=jh (n:=n+n+1) Z Es (iU bo aa) (show(0:Int).natAbs<2^(n+n+1) from Nat.pow_pos aa) (iU Wt aa);have Wv:d*(a'*a'+b'*b')≠0:=Int.mul_ne_zero hd (pR R);have Wz:S*D≠0:=Int.mul_ne_zero aa aa;obtain⟨Ww,Wy⟩:=zl ea J C B V eq eo ec e1 e2 e3 e4 e5;have E':(u,v,t)=nf (P*sa-fb*0) (P*0+fb*sa) (S*D):=by
  rw[E];refine nS Wv Wz ?_ ?_
  .rw[Ww];grind
  .rw[Wy];grind
 have k1:=bG (ja (bG sx.a sy.a) (bG sx.b sy.b)) sy.d;have k2:=bG (sJ (bG sx.b sy.a) (bG sx.a sy.b)) sy.d;have k3:=bG sx.d (ja (bG sy.a sy.a) (bG sy.b sy.b));have sz:=jh (n:=n+(n+n+1)) Wv E (iU k1 aa) (iU k2 aa) k3;obtain⟨x1,x2,Y⟩:=sx.pW aa;obtain⟨y1,y2,y3⟩:=sy.pW aa;obtain⟨f1,f2,f3⟩:=sf.pW aa;obtain⟨t1,t2,t3⟩:=ss.pW aa;obtain⟨s1,s2,s3⟩:=sz.pW aa;exact equotient_g T v1 a b d v2 a' b' d' w hc L x1 x2 Y l y1 y2 y3 g (aJ hg) (bC bg aa) h (aJ hh) (bC bh aa)
  M (aJ (fC N ea)) (bC Wo aa) (aJ N) (aJ ⟨_,ea⟩) b1 (aJ (fC N J)) (bC F aa) (aJ N) (aJ ⟨_,J⟩)
  p (aJ (fC N C)) (bC bp aa) (aJ N) (aJ ⟨_,C⟩) q (aJ (fC N B)) (bC bq aa) (aJ N) (aJ ⟨_,B⟩)
  i (aJ hi) (bC Q aa) p1 (aJ (fC U V)) (bC I aa) (aJ U) (aJ ⟨_,V⟩) q1 (aJ (fC U eq)) (bC K aa) (aJ U) (aJ ⟨_,eq⟩)
  _ (aJ rfl) (bC m1 aa) _ (aJ rfl) (bC m2 aa) _ (aJ rfl) (bC m7 aa)
  _ (aJ rfl) (bC m3 aa) _ (aJ rfl) (bC m4 aa) _ (aJ rfl) (bC m8 aa)
  _ (aJ rfl) (bC m5 aa) _ (aJ rfl) (bC m6 aa) _ (aJ rfl) (bC m9 aa) (aJ hN)
  P fb S (aJ Ef) f1 f2 f3 o (aJ (fC j eo)) (bC bo aa) (aJ j) (aJ ⟨_,eo⟩)
  c1 (aJ (fC j ec)) (bC Wu aa) (aJ j) (aJ ⟨_,ec⟩) _ (aJ rfl) (bC Wt aa) (aJ Z)
  sa 0 D (aJ Es) t1 t2 t3 u v t (aJ fun _ _ W h1 h2 h3=>yh T _ _ P fb S sa 0 D u v t (n+n+1) W h1 h2 h3 sf ss aa aa aa E') s1 s2 s3
def Pn(v s l b w)(L:RX w v s l)(h:kG s l=b):
  CE 96 #[v] w (.bool b):=by
 obtain⟨A,n,c,rfl,J⟩:=L;have:=gK s A n c l w J;rwa[h] at this
def xH(v z w)(L:RI w v z)(C:z.natAbs<lim):
  CE 96 #[v] w (.bool true):=Pn v _ _ true w L (RI.valid L C)
def Qb(v0)(T Q O:Int)(w)(WA:RG w v0 T Q O)(J:T.natAbs<lim)(I:Q.natAbs<lim)(B:O.natAbs<lim)(H1:Hid (0<O))(R:Int)(Xg:Hid (R=(fA [O,T,Q]:Nat)))(X7:R.natAbs<lim)(H2:Hid (R=1)):
  CE 95 #[v0] w (.bool true):=by
 have hS:=St.start w;obtain⟨C,L,Z,P,D,W,U,Y,G,H,S,V,rfl,WJ,WH,WI⟩:=WA;replace hS:=hS.aU WJ;clear WJ;replace hS:=hS.aU WH;clear WH;replace hS:=hS.aU WI;clear WI;have l:=(St.al hS 42 #[.bool C,.slice L Z P,.bool D,.slice W U Y,.bool G,.slice H S V] (g:=w.heap.size) ag);have WC:=(l.aH 0).cell;go_enter Tryz.func95,Tryz.ntmps95;(go_wp2_with fail);clear WC;clear l;refine gA1 hS 42 #[.bool C,.slice L Z P,.bool D,.slice W U Y,.bool G,.slice H S V] ?_;clear hS;intro w1 g1 o1 hS;refine(xH _ T _ (hS.aF 2) J).mono ?_;rintro e w2 ⟨rfl,F⟩;replace hS:=hS.mv F;clear F;have WB:=(hS.aH 0).cell;(go_wp2_with fail);clear WB;refine(xH _ Q _ (hS.aF 1) I).mono ?_;rintro e w3 ⟨rfl,F⟩;replace hS:=hS.mv F;clear F;have WK:=(hS.aH 0).cell;(go_wp2_with fail);clear WK;refine(xH _ O _ (hS.aF 0) B).mono ?_;rintro e w4 ⟨rfl,F⟩;replace hS:=hS.mv F;clear F;have WM:=(hS.aH 0).cell;(go_wp2_with fail);clear WM;refine(EH _ O (1) _ (hS.aF 0) B (vT H1.o)).mono ?_;rintro e w5 ⟨rfl,F⟩;replace hS:=hS.mv F;clear F;have Wz:=(St.al hS 197 #[.int .i64 0] (g:=w5.heap.size) ag);have WQ:=(Wz.aH 1).cell;(go_wp2_with fail);clear WQ;clear Wz;refine gA2 hS 197 #[.int .i64 0] 40 #[.bool G,.slice H S V,.bool C,.slice L Z P,.bool D,.slice W U Y] ?_;clear hS;intro w6 g3 o3 K N hS;refine(sj g3 K O T Q R _ (hS.aH 1) (hS.aH 0) (hS.aF 0) (hS.aF 2) (hS.aF 1) B J I Xg).mono ?_;rintro e w7 ⟨v_,rfl,M,F⟩;replace hS:=hS.mv F;clear F;obtain⟨Xj,WX,Xi,Xh,rfl,j⟩:=RI.opn M;clear M;replace hS:=hS.aU j;clear j;(go_wp2_with fail);refine(Lx _ R _ (hS.aF 0) H2.o).mono ?_;rintro e w8 ⟨rfl,F⟩;exact AaL
def Wn:(1:Int).natAbs<lim:=iO aa aa
def SF(v u x y z w)(L:RI w v x)(l:RI w u y)(M:x.natAbs<lim)(O:y.natAbs<lim)(j:z=x-y)(C:z.natAbs<lim):
  CV 148 #[v,u] w fun v w'=>mY (z,0) v w':=by
 have:=RY v u x y w L l M O;rwa[<-j,kW C] at this
def RQ(v u)(x y z:Int)(w)(L:RI w v x)(l:RI w u y)(M:x.natAbs<lim)(O:y.natAbs<lim)(j:z=(Nat.gcd x.natAbs y.natAbs:Nat)):
  CV 146 #[v,u] w fun v w'=>mY (z,0) v w':=by
 subst j;exact Q6 v u x y w L l M O
def Im(v u x y q r w)(L:RI w v x)(l:RI w u y)(M:x.natAbs<lim)(O:y.natAbs<lim)(j:y≠0)(hq:q=x/y)(B:r=x%y):
  CV 182 #[v,u] w fun v w'=>NB q r 0 v w':=by
 subst hq B;exact I8 v u x y w L l M O j
def NV{x y:Int}(M:x.natAbs<lim)(O:y.natAbs<lim):Nat.gcd x.natAbs y.natAbs<lim:=by
 rcases Nat.eq_zero_or_pos x.natAbs with h|h
 .rw[h,Nat.gcd_zero_left];exact O
 .exact Nat.lt_of_le_of_lt (Nat.gcd_le_left _ h) M
def wP(m0 w)(l0: -9223372036854775808<=m0)(u0:m0<=9223372036854775807):
  CV 55 #[.int .i64 m0] w fun v w'=>RI w' v m0:=by
 have hS:=St.start w;go_enter Tryz.func55,Tryz.ntmps55;(go_wp2_with fail);refine gA1 hS 40 #[.bool false,.slice none 0 0] ?_;clear hS;intro w1 g2 B hS;refine(Rj (m0) _ l0 u0).mono ?_;rintro e w2 ⟨G,rfl,M,F⟩;replace hS:=hS.mv F;clear F;obtain⟨s4,l,n4,c4,rfl,j⟩:=RI.opn M;clear M;replace hS:=hS.aU j;clear j;have D:=(hS.aH 0).cell;have C:=(hS.aH 0).frozen;go_wp2;replace hS:=hS.pt 0 0 [.bool s4,.slice l n4 c4] B;exact AaT
def Qq(v0 x0 v1 Y w)(T:RI w v0 x0)(WF:x0.natAbs<lim)(J:RI w v1 Y)(Wo:Y.natAbs<lim)(L)(WN:Hid (L=x0-Y))(Ws:L.natAbs<lim):
  CV 100 #[v0,v1] w fun v w'=>RI w' v L:=by
 have hS:=St.start w;obtain⟨Q,K,P,N,rfl,S⟩:=T.opn;replace hS:=hS.aU S;clear T S;obtain⟨D,H,C,G,rfl,O⟩:=J.opn;replace hS:=hS.aU O;clear J O;have l:=(St.al (St.al (St.al hS 40 #[.bool Q,.slice K P N] (g:=w.heap.size) ag) 40 #[.bool D,.slice H C G] (g:=(w.heap.size+1)) ag) 40 #[.bool false,.slice none 0 0] (g:=(w.heap.size+2)) ag);have WC:=(l.aH 2).cell;have WB:=(l.aH 1).cell;go_enter Tryz.func100,Tryz.ntmps100;(go_wp2_with fail);clear WC WB;clear l;refine gA3 hS 40 #[.bool Q,.slice K P N] 40 #[.bool D,.slice H C G] 40 #[.bool false,.slice none 0 0] ?_;clear hS;intro w1 g2 o2 g3 o3 g4 o4 hS;refine(SF _ _ x0 Y L _ (hS.aF 1) (hS.aF 0) WF Wo WN.o Ws).mono ?_;exact Aax
def xu(v u x y z w)(L:RI w v x)(l:RI w u y)(M:x.natAbs<lim)(O:y.natAbs<lim)(j:z=x-y)(C:z.natAbs<lim):
  CV 100 #[v,u] w fun v w'=>RI w' v z:=Qq v x u y w L M l O z (aJ j) C
def Ut(v0)(x0:Int)(v1)(Y:Int)(w)(T:RI w v0 x0)(WF:x0.natAbs<lim)(J:RI w v1 Y)(Wo:Y.natAbs<lim)(L:Int)(WN:Hid (L=(Nat.gcd x0.natAbs Y.natAbs:Nat)))(Ws:L.natAbs<lim):
  CV 98 #[v0,v1] w fun v w'=>RI w' v L:=by
 have hS:=St.start w;obtain⟨Q,K,P,N,rfl,S⟩:=T.opn;replace hS:=hS.aU S;clear T S;obtain⟨D,H,C,G,rfl,O⟩:=J.opn;replace hS:=hS.aU O;clear J O;have l:=(St.al (St.al (St.al hS 40 #[.bool Q,.slice K P N] (g:=w.heap.size) ag) 40 #[.bool D,.slice H C G] (g:=(w.heap.size+1)) ag) 40 #[.bool false,.slice none 0 0] (g:=(w.heap.size+2)) ag);have WC:=(l.aH 2).cell;have WB:=(l.aH 1).cell;go_enter Tryz.func98,Tryz.ntmps98;(go_wp2_with fail);clear WC WB;clear l;refine gA3 hS 40 #[.bool Q,.slice K P N] 40 #[.bool D,.slice H C G] 40 #[.bool false,.slice none 0 0] ?_;clear hS;intro w1 g2 o2 g3 o3 g4 o4 hS;refine(RQ _ _ x0 Y L _ (hS.aF 1) (hS.aF 0) WF Wo WN.o).mono ?_;exact Aax
def yK(v u)(x y z:Int)(w)(L:RI w v x)(l:RI w u y)(M:x.natAbs<lim)(O:y.natAbs<lim)(j:z=(Nat.gcd x.natAbs y.natAbs:Nat)):
  CV 98 #[v,u] w fun v w'=>RI w' v z:=Ut v x u y w L M l O z (aJ j) (by rw[j];exact NV M O)
def Vg(v0 x0 v1 x1 w)(WA:RI w v0 x0)(WF:x0.natAbs<lim)(J:RI w v1 x1)(Wo:x1.natAbs<lim)(L)(Y:Hid (L=x0/x1))(Ws:L.natAbs<lim)(U)(Z:Hid (U=x0%x1))(Wp:Hid (x1≠0)):
  CV 149 #[v0,v1] w fun v w'=>RI w' v L:=by
 have hS:=St.start w;obtain⟨Wx,Wu,Ww,Wv,rfl,Wq⟩:=WA.opn;replace hS:=hS.aU Wq;clear WA Wq;obtain⟨D,H,C,G,rfl,O⟩:=J.opn;replace hS:=hS.aU O;clear J O;have l:=(St.al (St.al (St.al hS 40 #[.bool Wx,.slice Wu Ww Wv] (g:=w.heap.size) ag) 40 #[.bool D,.slice H C G] (g:=(w.heap.size+1)) ag) 40 #[.bool false,.slice none 0 0] (g:=(w.heap.size+2)) ag);have WC:=(l.aH 2).cell;have WB:=(l.aH 1).cell;go_enter Tryz.func149,Tryz.ntmps149;(go_wp2_with fail);clear WC WB;clear l;refine gA3 hS 40 #[.bool Wx,.slice Wu Ww Wv] 40 #[.bool D,.slice H C G] 40 #[.bool false,.slice none 0 0] ?_;clear hS;intro w1 g2 o2 g3 o3 g4 o4 hS;refine(Im _ _ x0 x1 L U _ (hS.aF 1) (hS.aF 0) WF Wo Wp.o Y.o Z.o).mono ?_;rintro e w2 ⟨v_,rfl,M,F⟩;replace hS:=hS.mv F;clear F;obtain⟨_,_,rfl,j,I⟩:=M;obtain⟨K,B,Q,N,rfl,P⟩:=RI.opn j;obtain⟨W,S,T,V,rfl,R⟩:=RI.opn I;clear j I;replace hS:=hS.aU P;clear P;replace hS:=hS.aU R;clear R;have o5:Own w w2.heap.size:=Own.of hS.ext ag;have o6:Own w (w2.heap.size+1):=Own.of hS.ext ag;have Wz:=(St.al (St.al hS 40 #[.bool false,.slice none 0 0] (g:=w2.heap.size) ag) 40 #[.bool false,.slice none 0 0] (g:=(w2.heap.size+1)) ag);have WK:=(Wz.aH 1).cell;have WM:=(Wz.aH 1).frozen;have WP:=(St.al (St.al hS 40 #[.bool K,.slice B Q N] (g:=w2.heap.size) ag) 40 #[.bool false,.slice none 0 0] (g:=(w2.heap.size+1)) ag);have WQ:=(WP.aH 0).cell;have Xb:=(WP.aH 0).frozen;have WT:=(St.al (St.al hS 40 #[.bool K,.slice B Q N] (g:=w2.heap.size) ag) 40 #[.bool W,.slice S T V] (g:=(w2.heap.size+1)) ag);have Xd:=(WT.aH 1).cell;have XF:=(WT.aH 2).cell;have XG:=(WT.aH 2).frozen;go_wp2;replace hS:=(St.al (St.al hS 40 #[.bool K,.slice B Q N] (g:=w2.heap.size) ag) 40 #[.bool W,.slice S T V] (g:=w2.heap.size+1) ag).pt 2 0 [.bool K,.slice B Q N] o4;exact fu rfl rfl rfl (hS.aH 2) ⟨_,rfl,(hS.aF 1),hS.ext⟩
def PY(v u x y z w)(L:RI w v x)(l:RI w u y)(M:x.natAbs<lim)(O:y.natAbs<lim)(R:y≠0)(j:z=x/y)(C:z.natAbs<lim):
  CV 149 #[v,u] w fun v w'=>RI w' v z:=Vg v x u y w L M l O z (aJ j) C _ (aJ rfl) (aJ R)
def FE(v0 W v1 K w)(U:RI w v0 W)(WF:W.natAbs<lim)(J:RI w v1 K)(V:K.natAbs<lim)(H1:Hid (0<K))(I)(B:Hid (I=W/K))(j:I.natAbs<lim)(Y:Hid (K≠0)):
  CV 101 #[v0,v1] w fun v w'=>RI w' v I:=by
 have hS:=St.start w;obtain⟨S,L,R,N,rfl,T⟩:=U.opn;replace hS:=hS.aU T;clear U T;obtain⟨D,H,C,G,rfl,O⟩:=J.opn;replace hS:=hS.aU O;clear J O;have l:=(St.al (St.al (St.al hS 40 #[.bool S,.slice L R N] (g:=w.heap.size) ag) 40 #[.bool D,.slice H C G] (g:=(w.heap.size+1)) ag) 40 #[.bool false,.slice none 0 0] (g:=(w.heap.size+2)) ag);have WC:=(l.aH 1).cell;go_enter Tryz.func101,Tryz.ntmps101;(go_wp2_with fail);clear WC;clear l;refine gA3 hS 40 #[.bool S,.slice L R N] 40 #[.bool D,.slice H C G] 40 #[.bool false,.slice none 0 0] ?_;clear hS;intro w1 g2 o2 g3 o3 g4 o4 hS;refine(vI _ K (1) _ (hS.aF 0) V (vT H1.o)).mono ?_;rintro e w2 ⟨rfl,F⟩;replace hS:=hS.mv F;clear F;have WB:=(hS.aH 2).cell;have WK:=(hS.aH 1).cell;(go_wp2_with fail);clear WB WK;refine(PY _ _ W K I _ (hS.aF 1) (hS.aF 0) WF V Y.o B.o j).mono ?_;rintro e w3 ⟨v_,rfl,M,F⟩;replace hS:=hS.mv F;clear F;obtain⟨WE,Q,Z,WI,rfl,P⟩:=RI.opn M;clear M;replace hS:=hS.aU P;clear P;have WM:=(hS.aH 0).cell;have WQ:=(hS.aH 0).frozen;go_wp2;replace hS:=hS.pt 0 0 [.bool WE,.slice Q Z WI] o4;exact AaT
def Fj(v0 x0 v1 x1 w)(WA:RI w v0 x0)(WF:x0.natAbs<lim)(J:RI w v1 x1)(Wo:x1.natAbs<lim)(H1:Hid (x1<0))(L)(WN:Hid (L=(0)-x0))(Ws:L.natAbs<lim)(K)(WG:Hid (K=(0)-x1))(WJ:K.natAbs<lim)(Q)(Wy:Hid (Q=L/K))(WM:Q.natAbs<lim)(WE:Hid (K≠0)):
  CV 101 #[v0,v1] w fun v w'=>RI w' v Q:=by
 have hS:=St.start w;obtain⟨Wx,Wu,Ww,Wv,rfl,Wq⟩:=WA.opn;replace hS:=hS.aU Wq;clear WA Wq;obtain⟨D,H,C,G,rfl,O⟩:=J.opn;replace hS:=hS.aU O;clear J O;have l:=(St.al (St.al (St.al hS 40 #[.bool Wx,.slice Wu Ww Wv] (g:=w.heap.size) ag) 40 #[.bool D,.slice H C G] (g:=(w.heap.size+1)) ag) 40 #[.bool false,.slice none 0 0] (g:=(w.heap.size+2)) ag);have WC:=(l.aH 1).cell;go_enter Tryz.func101,Tryz.ntmps101;(go_wp2_with fail);clear WC;clear l;refine gA3 hS 40 #[.bool Wx,.slice Wu Ww Wv] 40 #[.bool D,.slice H C G] 40 #[.bool false,.slice none 0 0] ?_;clear hS;intro w1 g2 o2 g3 o3 g4 o4 hS;refine(vI _ x1 (-1) _ (hS.aF 0) Wo (Af H1.o)).mono ?_;rintro e w2 ⟨rfl,F⟩;replace hS:=hS.mv F;clear F;(go_wp2_with fail);have Y3:=aK.blk (hS.aH 1);have Y2:=aK.blk (hS.aH 2);have B:=hS.ext;refine tF 7 [(0,.ri ((0))),(2,.ri (L)),(3,.ri ((0))),(5,.ri (K)),(6,.ri (Q))] ?_;refine Ei (fun R I=>wP (0) _ aa aa) ?_;intro s8 T n8 c8 WY XU;refine Qs ?_;refine Ei (fun R I=>xu _ _ (0) x0 L _ (I.f 0 ((iv s8 T n8 c8),WY,XU)) (hS.aD 1 I.1) (iO aa aa) WF WN.o Ws) ?_;intro W Z U V WU Y;refine Ei (fun R I=>wP (0) _ aa aa) ?_;intro S M N P WX XC;refine Qs ?_;refine Ei (fun R I=>xu _ _ (0) x1 K _ (I.f 3 ((iv S M N P),WX,XC)) (hS.aD 0 I.1) (iO aa aa) Wo WG.o WJ) ?_;intro Wp Wz WH c13 Wt Yx;refine Ei (fun R I=>PY _ _ L K Q _ (I.f 2 ((iv W Z U V),WU,Y)) (I.f 5 ((iv Wp Wz WH c13),Wt,Yx)) Ws WJ WE.o Wy.o WM) ?_;intro WR WS WP c14 W9 XB;refine bE ?_;intro w3 I;have j:=hS.lt;replace hS:=hS.mv I.ext;replace hS:=hS.aI I 0;replace hS:=hS.aI I 2;replace hS:=hS.aI I 3;replace hS:=hS.aI I 5;replace hS:=hS.aI I 6;clear I j B Y3 Y2;have WB:=(hS.aH 0).cell;have WK:=(hS.aH 0).frozen;go_wp2;replace hS:=hS.pt 0 0 [.bool WR,.slice WS WP c14] o4;exact AaT
def jU(v u x y z w)(L:RI w v x)(l:RI w u y)(M:x.natAbs<lim)(O:y.natAbs<lim)(R:y≠0)(hd:y∣x)(j:z=x/y):
  CV 101 #[v,u] w fun v w'=>RI w' v z:=by
 have Z:z.natAbs<lim:=by rw[j];exact jA M hd
 by_cases h:y<0
 .refine Fj v x u y w L M l O (aJ h) (0-x) (aJ rfl) aa (0-y) (aJ rfl) aa z (aJ ?_) Z (aJ aa);rw[j];obtain⟨k,rfl⟩:=hd;have e:0-y*k=(0-y)*k:=ak;rw[e,Int.mul_ediv_cancel_left _ R,Int.mul_ediv_cancel_left _ aa]
 .exact FE v x u y w L M l O (aJ aa) z (aJ j) Z (aJ R)
def SK(v0)(x0:Int)(v1)(x1:Int)(v2)(x2:Int)(w)(WA:RI w v0 x0)(WF:x0.natAbs<lim)(J:RI w v1 x1)(Wo:x1.natAbs<lim)(WR:RI w v2 x2)(WE:x2.natAbs<lim)(H1:Hid (x2<0))(L:Int)(WN:Hid (L=(Nat.gcd x0.natAbs x1.natAbs:Nat)))(Ws:L.natAbs<lim)(M:Int)(Xr:Hid (M=(Nat.gcd L.natAbs x2.natAbs:Nat)))(WG:M.natAbs<lim)(T:Int)(Xz:Hid (T=(0)-M))(WV:T.natAbs<lim)(Wp:Int)(Xe:Hid (Wp=x0/T))(Xa:Wp.natAbs<lim)(Xt:Hid (T≠0))(Xc:Hid (T∣x0))(S:Int)(Yr:Hid (S=x1/T))(Yu:S.natAbs<lim)(Xw:Hid (T≠0))(Xg:Hid (T∣x1))(WO:Int)(Xv:Hid (WO=x2/T))(XG:WO.natAbs<lim)(Xu:Hid (T≠0))(Xi:Hid (T∣x2)):
  CV 54 #[v0,v1,v2] w fun v w'=>RG w' v Wp S WO:=by
 have hS:=St.start w;obtain⟨Wx,Wu,Ww,Wv,rfl,Wq⟩:=WA.opn;replace hS:=hS.aU Wq;clear WA Wq;obtain⟨D,H,C,G,rfl,O⟩:=J.opn;replace hS:=hS.aU O;clear J O;obtain⟨K,N,P,Q,rfl,Wy⟩:=WR.opn;replace hS:=hS.aU Wy;clear WR Wy;go_enter Tryz.func54,Tryz.ntmps54;(go_wp2_with fail);refine gA4 hS 40 #[.bool Wx,.slice Wu Ww Wv] 40 #[.bool D,.slice H C G] 40 #[.bool K,.slice N P Q] 42 #[.bool false,.slice none 0 0,.bool false,.slice none 0 0,.bool false,.slice none 0 0] ?_;clear hS;intro w1 g3 o3 g4 o4 g5 o5 g6 o6 hS;have Y5:=aK.blk (hS.aH 1);have Y4:=aK.blk (hS.aH 2);have Y3:=aK.blk (hS.aH 3);have B:=hS.ext;refine tF 6 [(2,.ri (L)),(4,.ri (M)),(5,.box 40 #[.bool false,.slice none 0 0])] ?_;refine Qs ?_;refine Ei (fun R I=>yK _ _ x0 x1 L _ (hS.aD 2 I.1) (hS.aD 1 I.1) WF Wo WN.o) ?_;intro W Z U V WU Y;refine Qs ?_;refine Ei (fun R I=>yK _ _ L x2 M _ (I.f 2 ((iv W Z U V),WU,Y)) (hS.aD 0 I.1) Ws WE Xr.o) ?_;intro WL WP Wt Wz XD YB;refine Eb ?_;intro g7 WI WH;refine bE ?_;intro w2 I;have j:=hS.lt;replace hS:=hS.mv I.ext;replace hS:=hS.aI I 2;replace hS:=hS.aI I 4;have WJ:=I.lw 5;have o7:Own w g7:=Own.of B WJ;replace hS:=hS.aB I 5 g7 (apF j WJ);clear I j B Y5 Y4 Y3;clear WJ WH WI;have WC:=(hS.aH 0).cell;have WB:=(hS.aH 0).frozen;have l:=hS.pt 0 0 [.bool WL,.slice WP Wt Wz] o7;have WK:=(l.aH 2).cell;(go_wp2_with fail);clear WC WB WK;clear l;replace hS:=hS.pt 0 0 [.bool WL,.slice WP Wt Wz] o7;refine gW hS ?_;clear hS;intro w3 hS;refine(vI _ x2 (-1) _ (hS.aF 2) WE (Af H1.o)).mono ?_;rintro e w4 ⟨rfl,F⟩;replace hS:=hS.mv F;clear F;(go_wp2_with fail);have Y7:=aK.blk (hS.aH 0);have B:=hS.ext;refine tF 3 [(0,.ri ((0))),(2,.ri (T))] ?_;refine Ei (fun R I=>wP (0) _ aa aa) ?_;intro Xj XA Xn WX XF Yx;refine Qs ?_;refine Ei (fun R I=>xu _ _ (0) M T _ (I.f 0 ((iv Xj XA Xn WX),XF,Yx)) (hS.aD 0 I.1) (iO aa aa) WG Xz.o WV) ?_;intro Xk XE Xl Xh XH Zg;refine bE ?_;intro w5 I;have j:=hS.lt;replace hS:=hS.mv I.ext;replace hS:=hS.aI I 0;replace hS:=hS.aI I 2;clear I j B Y7;have WM:=(hS.aH 0).cell;have WQ:=(hS.aH 0).frozen;(go_wp2_with fail);clear WM WQ;replace hS:=hS.pt 0 0 [.bool Xk,.slice XE Xl Xh] o7;refine gW hS ?_;clear hS;intro w6 hS;have Y7:=aK.blk (hS.aH 0);have Y5:=aK.blk (hS.aH 2);have Y4:=aK.blk (hS.aH 3);have Y3:=aK.blk (hS.aH 4);have B:=hS.ext;refine tF 10 [(2,.ri (Wp)),(5,.ri (S)),(8,.ri (WO))] ?_;refine Qs ?_;refine Ei (fun R I=>jU _ _ x0 T Wp _ (hS.aD 6 I.1) (hS.aD 0 I.1) WF WV Xt.o Xc.o Xe.o) ?_;intro WY WW WZ W9 XB XC;refine Qs ?_;refine Ei (fun R I=>jU _ _ x1 T S _ (hS.aD 5 I.1) (hS.aD 0 I.1) Wo WV Xw.o Xg.o Yr.o) ?_;intro Xy WS XL Xx YH Yv;refine Qs ?_;refine Ei (fun R I=>jU _ _ x2 T WO _ (hS.aD 4 I.1) (hS.aD 0 I.1) WE WV Xu.o Xi.o Xv.o) ?_;intro Xf WT Xo Xm Xq Xp;refine Qs ?_;refine bE ?_;intro w7 I;have j:=hS.lt;replace hS:=hS.mv I.ext;replace hS:=hS.aI I 2;replace hS:=hS.aI I 5;replace hS:=hS.aI I 8;clear I j B Y7 Y5 Y4 Y3;have Xb:=(hS.aH 1).cell;have Xd:=(hS.aH 1).frozen;exact AaY
def Tm(v0)(x0:Int)(v1)(x1:Int)(v2)(x2:Int)(w)(WA:RI w v0 x0)(WF:x0.natAbs<lim)(J:RI w v1 x1)(Wo:x1.natAbs<lim)(WR:RI w v2 x2)(WE:x2.natAbs<lim)(H1:Hid (0<x2))(L:Int)(WN:Hid (L=(Nat.gcd x0.natAbs x1.natAbs:Nat)))(Ws:L.natAbs<lim)(M:Int)(Xr:Hid (M=(Nat.gcd L.natAbs x2.natAbs:Nat)))(WG:M.natAbs<lim)(Wp:Int)(Xe:Hid (Wp=x0/M))(Xa:Wp.natAbs<lim)(Xt:Hid (M≠0))(Xc:Hid (M∣x0))(S:Int)(Yr:Hid (S=x1/M))(Yu:S.natAbs<lim)(Xw:Hid (M≠0))(Xg:Hid (M∣x1))(T:Int)(Xv:Hid (T=x2/M))(XG:T.natAbs<lim)(Xu:Hid (M≠0))(Xi:Hid (M∣x2)):
  CV 54 #[v0,v1,v2] w fun v w'=>RG w' v Wp S T:=by
 have hS:=St.start w;obtain⟨Wx,Wu,Ww,Wv,rfl,Wq⟩:=WA.opn;replace hS:=hS.aU Wq;clear WA Wq;obtain⟨D,H,C,G,rfl,O⟩:=J.opn;replace hS:=hS.aU O;clear J O;obtain⟨K,N,P,Q,rfl,Wy⟩:=WR.opn;replace hS:=hS.aU Wy;clear WR Wy;go_enter Tryz.func54,Tryz.ntmps54;(go_wp2_with fail);refine gA4 hS 40 #[.bool Wx,.slice Wu Ww Wv] 40 #[.bool D,.slice H C G] 40 #[.bool K,.slice N P Q] 42 #[.bool false,.slice none 0 0,.bool false,.slice none 0 0,.bool false,.slice none 0 0] ?_;clear hS;intro w1 g3 o3 g4 o4 g5 o5 g6 o6 hS;have Y5:=aK.blk (hS.aH 1);have Y4:=aK.blk (hS.aH 2);have Y3:=aK.blk (hS.aH 3);have B:=hS.ext;refine tF 6 [(2,.ri (L)),(4,.ri (M)),(5,.box 40 #[.bool false,.slice none 0 0])] ?_;refine Qs ?_;refine Ei (fun R I=>yK _ _ x0 x1 L _ (hS.aD 2 I.1) (hS.aD 1 I.1) WF Wo WN.o) ?_;intro W Z U V WU Y;refine Qs ?_;refine Ei (fun R I=>yK _ _ L x2 M _ (I.f 2 ((iv W Z U V),WU,Y)) (hS.aD 0 I.1) Ws WE Xr.o) ?_;intro WL WP Wt Wz XD YB;refine Eb ?_;intro g7 WI WH;refine bE ?_;intro w2 I;have j:=hS.lt;replace hS:=hS.mv I.ext;replace hS:=hS.aI I 2;replace hS:=hS.aI I 4;have WJ:=I.lw 5;have o7:Own w g7:=Own.of B WJ;replace hS:=hS.aB I 5 g7 (apF j WJ);clear I j B Y5 Y4 Y3;clear WJ WH WI;have WC:=(hS.aH 0).cell;have WB:=(hS.aH 0).frozen;have l:=hS.pt 0 0 [.bool WL,.slice WP Wt Wz] o7;have WK:=(l.aH 2).cell;(go_wp2_with fail);clear WC WB WK;clear l;replace hS:=hS.pt 0 0 [.bool WL,.slice WP Wt Wz] o7;refine gW hS ?_;clear hS;intro w3 hS;refine(vI _ x2 (1) _ (hS.aF 2) WE (vT H1.o)).mono ?_;rintro e w4 ⟨rfl,F⟩;replace hS:=hS.mv F;clear F;(go_wp2_with fail);have Y7:=aK.blk (hS.aH 0);have Y5:=aK.blk (hS.aH 2);have Y4:=aK.blk (hS.aH 3);have Y3:=aK.blk (hS.aH 4);have B:=hS.ext;refine tF 10 [(2,.ri (Wp)),(5,.ri (S)),(8,.ri (T))] ?_;refine Qs ?_;refine Ei (fun R I=>jU _ _ x0 M Wp _ (hS.aD 4 I.1) (hS.aD 0 I.1) WF WG Xt.o Xc.o Xe.o) ?_;intro WY WW WZ W9 XB XC;refine Qs ?_;refine Ei (fun R I=>jU _ _ x1 M S _ (hS.aD 3 I.1) (hS.aD 0 I.1) Wo WG Xw.o Xg.o Yr.o) ?_;intro Xy WS XL Xx YH Yv;refine Qs ?_;refine Ei (fun R I=>jU _ _ x2 M T _ (hS.aD 2 I.1) (hS.aD 0 I.1) WE WG Xu.o Xi.o Xv.o) ?_;intro Xf WT Xo Xm Xq Xp;refine Qs ?_;refine bE ?_;intro w5 I;have j:=hS.lt;replace hS:=hS.mv I.ext;replace hS:=hS.aI I 2;replace hS:=hS.aI I 5;replace hS:=hS.aI I 8;clear I j B Y7 Y5 Y4 Y3;have WM:=(hS.aH 1).cell;have WQ:=(hS.aH 1).frozen;exact AaY
theorem QB(v1 G H j l Y a b d w)(R:RI w v1 j)(P:RI w G l)(L:RI w H Y)(M:j.natAbs<lim)(B:l.natAbs<lim)(C:Y.natAbs<lim)(hd:Y≠0)(E:(a,b,d)=nf j l Y):
  CV 54 #[v1,G,H] w fun v w'=>RG w' v a b d:=by
 obtain⟨K,I,d3⟩:=JM j l Y;have N:=EX (a:=j) (b:=l) hd;have F:=TG M B C;have Q:((Nat.gcd (Nat.gcd j.natAbs l.natAbs:Int).natAbs Y.natAbs:Nat):Int)=g3 j l Y:=by rw[Int.natAbs_natCast,UW]
 have g1:=NV M B;unfold nf gZ sgZ at E;by_cases hn:Y<0
 .rw[if_pos hn] at E;have S:(-1:Int)*(g3 j l Y:Int)=0-(g3 j l Y:Int):=aa;rw[S] at E;injection E with D E;injection E with J Z;have n1:0-(g3 j l Y:Int)≠0:=aa;have q1:0-(g3 j l Y:Int)∣j:=by rw[Int.zero_sub];exact Int.neg_dvd.2 K
  have q2:0-(g3 j l Y:Int)∣l:=by rw[Int.zero_sub];exact Int.neg_dvd.2 I
  have O:0-(g3 j l Y:Int)∣Y:=by rw[Int.zero_sub];exact Int.neg_dvd.2 d3
  exact SK v1 j G l H Y w R M P B L C (aJ hn) _ (aJ rfl) (by simpa using g1) _ (aJ Q.symm) (by simpa using F) _ (aJ rfl) aa a (aJ D) (by rw[D];exact jA M q1) (aJ n1) (aJ q1) b (aJ J) (by rw[J];exact jA B q2) (aJ n1) (aJ q2) d (aJ Z) (by rw[Z];exact jA C O) (aJ n1) (aJ O)
 .rw[if_neg hn,Int.one_mul] at E;injection E with D E;injection E with J Z;have n1:(g3 j l Y:Int)≠0:=aa;exact Tm v1 j G l H Y w R M P B L C (aJ aa) _ (aJ rfl) (by simpa using g1) _ (aJ Q.symm) (by simpa using F) a (aJ D) (by rw[D];exact jA M K) (aJ n1) (aJ K) b (aJ J) (by rw[J];exact jA B I) (aJ n1) (aJ I) d (aJ Z) (by rw[Z];exact jA C d3) (aJ n1) (aJ d3)
def Ul(m0 m1 w)(l0: -9223372036854775808<=m0)(u0:m0<=9223372036854775807)(l1: -9223372036854775808<=m1)(u1:m1<=9223372036854775807)(Z:Hid ((1:Int)≠0))(C j l)(WN:Hid ((C,j,l)=nf (m0) (m1) (1:Int)))(Wp:C.natAbs<lim)(Wq:j.natAbs<lim)(Wo:l.natAbs<lim):
  CV 18 #[.int .i64 m0,.int .i64 m1] w fun v w'=>RG w' v C j l:=by
 have hS:=St.start w;go_enter Tryz.func18,Tryz.ntmps18;(go_wp2_with fail);refine gA1 hS 42 #[.bool false,.slice none 0 0,.bool false,.slice none 0 0,.bool false,.slice none 0 0] ?_;clear hS;intro w1 g4 o4 hS;refine(wP (m0) _ l0 u0).mono ?_;rintro e w2 ⟨v_,rfl,M,F⟩;replace hS:=hS.mv F;clear F;obtain⟨s6,Ws,n6,c6,rfl,I⟩:=RI.opn M;clear M;replace hS:=hS.aU I;clear I;(go_wp2_with fail);refine(wP (m1) _ l1 u1).mono ?_;rintro e w3 ⟨v_,rfl,M,F⟩;replace hS:=hS.mv F;clear F;obtain⟨s8,T,n8,c8,rfl,H⟩:=RI.opn M;clear M;replace hS:=hS.aU H;clear H;(go_wp2_with fail);refine(wP (1) _ aa aa).mono ?_;rintro e w4 ⟨v_,rfl,M,F⟩;replace hS:=hS.mv F;clear F;obtain⟨s9,Wt,n9,c9,rfl,J⟩:=RI.opn M;clear M;replace hS:=hS.aU J;clear J;(go_wp2_with fail);refine(QB _ _ _ (m0) (m1) (1:Int) C j l _ (hS.aF 2) (hS.aF 1) (hS.aF 0) (iO l0 u0) (iO l1 u1) (iO aa aa) Z.o WN.o).mono ?_;rintro e w5 ⟨v_,rfl,M,F⟩;replace hS:=hS.mv F;clear F;obtain⟨Y,K,P,S,U,N,V,Q,W,L,R,O,rfl,B,D,G⟩:=M;replace hS:=hS.aU B;clear B;replace hS:=hS.aU D;clear D;replace hS:=hS.aU G;clear G;have WC:=(hS.aH 0).cell;have WB:=(hS.aH 0).frozen;go_wp2;replace hS:=hS.pt 0 0 [.bool Y,.slice K P S,.bool U,.slice N V Q,.bool W,.slice L R O] o4;exact dh rfl rfl rfl (hS.aH 0) ⟨_,rfl,RG.mk (hS.aF 2) (hS.aF 1) (hS.aF 0),hS.ext⟩
theorem Vo(a b):Low a b 1:=⟨aa,by unfold g3;simp⟩
def LD(m n w)(l0: -9223372036854775808<=m)(u0:m<=9223372036854775807)(l1: -9223372036854775808<=n)(u1:n<=9223372036854775807):
  CV 18 #[.int .i64 m,.int .i64 n] w fun v w'=>RG w' v m n 1:=
 Ul m n w l0 u0 l1 u1 (aJ aa) m n 1 (aJ (zM (Vo m n)).symm) (iO l0 u0) (iO l1 u1) Wn
structure G8 (m n:Nat) (a b d a' b' d' u v t:Int):Prop where
 sx:Sz m a b d
 sy:Sz n a' b' d'
 hn:m+n+1<=12800
 hd:d≠0
 hd':d'≠0
 E:(u,v,t)=nf (a*a'-b*b') (a*b'+b*a') (d*d')
def G8.size{m n a b d a' b' d' u v t}(h:G8 m n a b d a' b' d' u v t):Sz (m+n+1) u v t:=
 jh (Int.mul_ne_zero h.hd h.hd') h.E (sJ (bG h.sx.a h.sy.a) (bG h.sx.b h.sy.b)) (ja (bG h.sx.a h.sy.b) (bG h.sx.b h.sy.a)) (iU (bG h.sx.d h.sy.d) aa)
def G8.of{x y m n a b d a' b' d' u v t}(J:Is x a b d)(sx:Sz m a b d)(R:Is y a' b' d')(sy:Sz n a' b' d')(h:Is (x*y) u v t)(hn:m+n+1<=12800):G8 m n a b d a' b' d' u v t:=by
 have l:=gm J.dne;have j:=gm R.dne;refine⟨sx,sy,hn,J.dne,R.dne,(h.FZ (Int.mul_ne_zero J.dne R.dne) ?_ ?_).symm⟩
 .exact Acx
 .rw[GQ.aX,J.re,R.re,J.im,R.im];exact AaM
def fV(q):∃a b d:Int,Is q a b d:=by
 have l:((q.re.den:Nat):Int)≠0:=by have:=q.re.den_nz;omega
 have j:((q.im.den:Nat):Int)≠0:=by have:=q.im.den_nz;omega
 have C:q.re=((q.re.num:Int):Rat)/(((q.re.den:Nat):Int):Rat):=by
  rw[<-Rat.divInt_eq_div];exact(Rat.num_divInt_den q.re).symm
 have B:q.im=((q.im.num:Int):Rat)/(((q.im.den:Nat):Int):Rat):=by
  rw[<-Rat.divInt_eq_div];exact(Rat.num_divInt_den q.im).symm
 generalize q.re.num=a at*
 generalize ((q.re.den:Nat):Int)=d at*
 generalize q.im.num=b at*
 generalize ((q.im.den:Nat):Int)=f at*
 have D:=gm l;have F:=gm j;have h:=NE (a:=a*f) (b:=b*d) (d:=d*f) (Int.mul_ne_zero l j);refine⟨_,_,_,⟨h.low,?_,?_⟩⟩
 .rw[<-h.re,C];simp only[Rat.intCast_mul];grind
 .rw[<-h.im,B];simp only[Rat.intCast_mul];grind
def VM{a b}(l1: -9223372036854775808<=a)(u1:a<=9223372036854775807)(l2: -9223372036854775808<=b)(u2:b<=9223372036854775807):Sz 64 a b 1:=⟨Bw l1 u1,Bw l2 u2,aj⟩
def GV (w:World) (v:Value) (q:GQ) (n:Nat):Prop:=∃a b d:Int,RG w v a b d/\Is q a b d/\Sz n a b d
def GV.ext{w w' v q n}(h:GV w v q n)(x:Ext w w'):GV w' v q n:=by
 obtain⟨a,b,d,j,l,B⟩:=h;exact⟨a,b,d,j.ext x,l,B⟩
def PV (w:World) (v:Value) (p:PQ) (n:Nat):Prop:=∃a b d x y z:Int,RP w v a b d x y z/\Is p.u a b d/\Sz n a b d/\Is p.v x y z/\Sz n x y z
def PV.ext{w w' v p n}(h:PV w v p n)(e:Ext w w'):PV w' v p n:=by
 obtain⟨a,b,d,x,y,z,j,l⟩:=h;exact⟨a,b,d,x,y,z,j.ext e,l⟩
def SL{n}(hn:1<=n):Sz n 0 0 1:=Sz.mono (m:=1) ⟨aj,aj,aj⟩ hn
def MP(v0 q0 n0 w)(WA:GV w v0 q0 n0)(hn:1<=n0):
  CV 36 #[v0] w fun v w'=>PV w' v (PQ.plain q0) (n0):=by
 have hS:=St.start w;obtain⟨Xf,Xe,Xc,WA,I0,S0⟩:=WA;obtain⟨C,L,Z,P,D,W,U,Y,G,H,S,V,rfl,WJ,WH,WI⟩:=WA;replace hS:=hS.aU WJ;clear WJ;replace hS:=hS.aU WH;clear WH;replace hS:=hS.aU WI;clear WI;go_enter Tryz.func36,Tryz.ntmps36;(go_wp2_with fail);refine gA2 hS 42 #[.bool C,.slice L Z P,.bool D,.slice W U Y,.bool G,.slice H S V] 44 #[.bool false,.slice none 0 0,.bool false,.slice none 0 0,.bool false,.slice none 0 0,.bool false,.slice none 0 0,.bool false,.slice none 0 0,.bool false,.slice none 0 0] ?_;clear hS;intro w1 g1 o1 g2 o2 hS;have Y1:=aK.blk (hS.aH 1);have B:=hS.ext;refine tF 3 [(1,.rg ((0:Int)) ((0:Int)) ((1:Int)))] ?_;refine Qs ?_;refine Eg (fun R I=>LD (0) (0) _ aa aa aa aa) ?_;intro N F Wo K O J Q T Wq l Wt Ws M Wp;refine Qs ?_;refine bE ?_;intro w2 I;have j:=hS.lt;replace hS:=hS.mv I.ext;replace hS:=hS.aG I 1;clear I j B Y1;have WC:=(hS.aH 0).cell;have WB:=(hS.aH 0).frozen;go_wp2;replace hS:=hS.pt 0 0 [.bool C,.slice L Z P,.bool D,.slice W U Y,.bool G,.slice H S V,.bool N,.slice F Wo K,.bool O,.slice J Q T,.bool Wq,.slice l Wt Ws] o2;exact JG rfl rfl rfl (hS.aH 0) ⟨_,rfl,⟨_,_,_,_,_,_,RP.mk (hS.aF 5) (hS.aF 4) (hS.aF 3) (hS.aF 2) (hS.aF 1) (hS.aF 0),I0,S0,(Jk 0 0),(SL hn)⟩,hS.ext⟩
def GV.at_{w v q n a b d}(h:GV w v q n)(I:Is q a b d):RG w v a b d:=by
 obtain⟨M,b1,B,l,j,_⟩:=h;obtain⟨rfl,rfl,rfl⟩:=j.unique I;exact l
def PV.at_{w v p n a b d x y z}(h:PV w v p n)(I:Is p.u a b d)(J:Is p.v x y z):RP w v a b d x y z:=by
 obtain⟨M,b1,F,C,D,z1,B,l,_,j,_⟩:=h;obtain⟨rfl,rfl,rfl⟩:=l.unique I;obtain⟨rfl,rfl,rfl⟩:=j.unique J;exact B
def Bd (q:GQ) (n:Nat):Prop:=∃a b d:Int,Is q a b d/\Sz n a b d
def Bd.sz{q n a b d}(h:Bd q n)(I:Is q a b d):Sz n a b d:=by
 obtain⟨M,b1,B,l,j⟩:=h;obtain⟨rfl,rfl,rfl⟩:=l.unique I;exact j
def Bd.mono{q m n}(h:Bd q m)(N:m<=n):Bd q n:=by
 obtain⟨a,b,d,l,j⟩:=h;exact⟨a,b,d,l,j.mono N⟩
def Bd.add{x y m n}(J:Bd x m)(R:Bd y n):Bd (x+y) (m+n+1):=by
 obtain⟨a,b,d,D,B⟩:=J;obtain⟨a',b',d',l,C⟩:=R;obtain⟨u,v,t,j⟩:=fV (x+y);exact⟨u,v,t,j,D.Om B l C j⟩
def Bd.mul{x y m n}(J:Bd x m)(R:Bd y n):Bd (x*y) (m+n+1):=by
 obtain⟨a,b,d,D,B⟩:=J;obtain⟨a',b',d',l,C⟩:=R;obtain⟨u,v,t,j⟩:=fV (x*y);exact⟨u,v,t,j,D.PG B l C j⟩
def Bd.of{q:GQ}{a b d:Int}{n:Nat}(hd:d≠0)(j:q.re=(a:Rat)/(d:Rat))(hi:q.im=(b:Rat)/(d:Rat))(s:Sz n a b d):Bd q n:=by
 obtain⟨u,v,t,h⟩:=fV q;exact⟨u,v,t,h,h.size hd j hi s⟩
def GQ.ip:Nat->GQ
 |0=>GQ.i 1 0
 |n+1=>GQ.ip n*GQ.i 0 1
def GQ.PR(q):q*GQ.i 1 0=q:=by
 ext<;>simp only[GQ.aZ,GQ.aX,GQ.dE,GQ.dB]<;>grind
theorem Is.turn{q a b d k}(h:Is (q*GQ.ip k) a b d):Is (q*GQ.ip (k+1)) (-b) a d:=by
 have e:q*GQ.ip (k+1)=(q*GQ.ip k)*GQ.i 0 1:=(GQ.bW q (GQ.ip k) (GQ.i 0 1)).symm;rw[e];have hd:=gm h.dne;refine⟨⟨h.low.1,?_⟩,?_,?_⟩
 .have:=h.low.2;unfold g3 at*
  rw[Int.natAbs_neg,Nat.gcd_assoc,Nat.gcd_comm b.natAbs,<-Nat.gcd_assoc];exact this
 .rw[GQ.aZ,h.re,h.im];simp only[GQ.dE,GQ.dB,Rat.intCast_neg];grind
 .rw[GQ.aX,h.re,h.im];simp only[GQ.dE,GQ.dB];grind
def Sz.turn{n a b d}(h:Sz n a b d):Sz n (-b) a d:=⟨by rw[Int.natAbs_neg];exact h.b,h.a,h.d⟩
def M7(T:Nat)(v1 q1)(n1:Nat)(K:Nat)(w)(hc:Calm w T)(J:GV w v1 q1 n1)(hn:n1<=12800)(I:K<=100):
  CV 130 #[.pointer (some ⟨T,0,none⟩),v1,.int .i64 ((K:Int))] w fun v w'=>GV w' v (q1*GQ.ip K) (n1):=by
 have hS:=St.start w;obtain⟨WN,WO,WL,J,I1,S1⟩:=J;obtain⟨Wv,Ws,Wq,Wt,Wy,Wu,Ww,Wx,Wp,Q,Wo,O,rfl,WE,WF,WG⟩:=J;replace hS:=hS.aU WE;clear WE;replace hS:=hS.aU WF;clear WF;replace hS:=hS.aU WG;clear WG;replace hS:=hS.vk hc trivial;clear hc;go_enter Tryz.func130,Tryz.ntmps130;(go_wp2_with fail);refine gA2 hS 42 #[.bool Wv,.slice Ws Wq Wt,.bool Wy,.slice Wu Ww Wx,.bool Wp,.slice Q Wo O] 42 #[.bool false,.slice none 0 0,.bool false,.slice none 0 0,.bool false,.slice none 0 0] ?_;clear hS;intro w1 g4 o4 g6 o6 hS;have Y4:=aK.blk (hS.aH 1);have B:=hS.ext;refine tF 8 [(2,.ri (WN)),(5,.ri (WO)),(6,.box 40 #[.bool false,.slice none 0 0]),(7,.box 40 #[.bool false,.slice none 0 0])] ?_;refine Qs ?_;refine Ei (fun R I=>mf _ WN _ (hS.aD 2 I.1) (bC S1.a aa)) ?_;intro S M N P WX XC;refine Qs ?_;refine Ei (fun R I=>mf _ WO _ (hS.aD 1 I.1) (bC S1.b aa)) ?_;intro WR WS WP c14 W9 XB;refine Eb ?_;intro g7 WI WH;refine Eb ?_;intro g8 XU WA;refine bE ?_;intro w2 I;have j:=hS.lt;replace hS:=hS.mv I.ext;replace hS:=hS.aI I 2;replace hS:=hS.aI I 5;have WJ:=I.lw 6;have o7:Own w g7:=Own.of B WJ;replace hS:=hS.aB I 6 g7 (apF j WJ);have XW:=I.lw 7;have o8:Own w g8:=Own.of B XW;replace hS:=hS.aB I 7 g8 ⟨I.nn 6 7 WH WA,(apF j XW)⟩;clear I j B Y4;clear WJ WH WI;clear XW WA XU;have WC:=(hS.aH 1).cell;have WB:=(hS.aH 1).frozen;have l:=hS.pt 1 0 [.bool S,.slice M N P] o7;have WK:=(l.aH 0).cell;have WM:=(l.aH 0).frozen;(go_wp2_with fail);clear WC WB WK WM;clear l;replace hS:=(hS.pt 1 0 [.bool S,.slice M N P] o7).pt 0 0 [.bool WR,.slice WS WP c14] o8;refine gW hS ?_;clear hS;intro w3 hS;go_loopw [16] (fun i wr=>∃k:Nat,k<=K/\i=.int .i64 (k:Int)/\∃(V D:Int) (H Z:Bool) (C U:Option Addr) (G L Y W:Nat),(Is (q1*GQ.ip k) V D WL/\Sz n1 V D WL)/\St w wr [(g8,40,#[.bool Z,.slice U Y W]),(g7,40,#[.bool H,.slice C G L]),(g6,42,#[.bool false,.slice none 0 0,.bool false,.slice none 0 0,.bool false,.slice none 0 0]),(g4,42,#[.bool Wv,.slice Ws Wq Wt,.bool Wy,.slice Wu Ww Wx,.bool Wp,.slice Q Wo O]),(T,197,#[.int .i64 0])] [nz (iv H C G L) (V),nz (iv Z U Y W) (D),nz (iv Wv Ws Wq Wt) (WN),nz (iv Wy Wu Ww Wx) (WO),nz (iv Wp Q Wo O) (WL)]) (fun i _=>K-(intOf i).toNat)
 case atStart=>exact⟨0,aa,rfl,WN,WO,S,WR,M,WS,N,P,WP,c14,⟨by rw[show GQ.ip 0=GQ.i 1 0 from rfl,GQ.PR];exact I1,S1⟩,hS.sel [1,0,4,3,2] rfl⟩
 case round=>
  clear hS;obtain⟨k,hk,rfl,V,D,H,Z,C,U,G,L,Y,W,F,hS⟩:=hrel;by_cases WZ:k<K
  .skip;(go_wp2_with fail);have Y8:=aK.blk (hS.aH 0);have Y7:=aK.blk (hS.aH 1);have B:=hS.ext;refine tF 4 [(2,.ri ((-D)))] ?_;refine Qs ?_;refine Ei (fun R I=>Md T _ D (-D) _ (Blk.ext (hS.aH 4) I.1) (hS.aD 1 I.1) (bC F.2.b aa) rfl) ?_;intro WV WY WW WU Xc Xa;refine Qs ?_;refine bE ?_;intro w4 I;have j:=hS.lt;replace hS:=hS.mv I.ext;replace hS:=hS.aI I 2;clear I j B Y8 Y7;have WQ:=(hS.aH 1).cell;have Xb:=(hS.aH 1).frozen;have Wz:=hS.pt 1 0 [.bool WV,.slice WY WW WU] o7;have Xd:=(Wz.aH 0).cell;have XF:=(Wz.aH 0).frozen;go_wp2;replace hS:=(hS.pt 1 0 [.bool WV,.slice WY WW WU] o7).pt 0 0 [.bool H,.slice C G L] o8;go_roundw
   case rel=>exact⟨k+1,aa,au,(-D),V,WV,H,WY,C,WW,WU,G,L,⟨F.1.turn,F.2.turn⟩,St.sel hS [0,1,3,4,5] rfl⟩
   case measure=>simp[intOf]<;>omega
  .obtain rfl:k=K:=aa;(go_wp2_with fail);have Y8:=aK.blk (hS.aH 0);have Y7:=aK.blk (hS.aH 1);have Y4:=aK.blk (hS.aH 3);have B:=hS.ext;refine tF 6 [(4,.ri (WL))] ?_;refine Qs ?_;refine Ei (fun R I=>mf _ WL _ (hS.aD 4 I.1) (bC S1.d aa)) ?_;intro Xf WT Xo Xm Xq Xp;refine Qs ?_;refine bE ?_;intro w5 I;have j:=hS.lt;replace hS:=hS.mv I.ext;replace hS:=hS.aI I 4;clear I j B Y8 Y7 Y4;have XG:=(hS.aH 2).cell;have Xn:=(hS.aH 2).frozen;go_wp2;replace hS:=hS.pt 2 0 [.bool H,.slice C G L,.bool Z,.slice U Y W,.bool Xf,.slice WT Xo Xm] o6;exact dh rfl rfl rfl (hS.aH 2) ⟨_,rfl,⟨_,_,_,RG.mk (hS.aF 1) (hS.aF 2) (hS.aF 0),F.1,F.2⟩,hS.ext⟩
def J9(T:Nat)(v1 q1)(n1 K:Nat)(w)(hc:Calm w T)(J:GV w v1 q1 n1)(hn:n1<=12800)(I:K<=100):
  CV 130 #[.pointer (some ⟨T,0,none⟩),v1,.int .i64 (K:Int)] w fun v w'=>GV w' v (q1*GQ.ip K) n1:=M7 T v1 q1 n1 K w hc J hn I
def mi{f args w q n a b d}(h:CV f args w fun v w'=>GV w' v q n)(I:Is q a b d):
  CV f args w fun v w'=>RG w' v a b d:=h.mono fun e w' ⟨v,O,j,J⟩=>⟨v,O,j.at_ I,J⟩
def Vf{m:Int}{K:Nat}(h:m%12=(K:Int)):(m.tmod 12+12).tmod 12=(K:Int):=by
 have l: -12<m.tmod 12/\m.tmod 12<12:=⟨by have:=Int.lt_tmod_of_pos m (b:=12) aa;omega,Int.tmod_lt_of_pos m aa⟩;have j:m.tmod 12%12=m%12:=by
  have:=Int.mul_tdiv_add_tmod m 12;omega
 rw[Int.tmod_eq_emod_of_nonneg aa];omega
theorem Jn{m:Int}{K:Nat}(h:m%12=(K:Int)):(wrap64 (m.tmod 12+12)).tmod 12=(K:Int):=by
 have j: -12<m.tmod 12/\m.tmod 12<12:=⟨by have:=Int.lt_tmod_of_pos m (b:=12) aa;omega,Int.tmod_lt_of_pos m aa⟩;have e:wrap64 (m.tmod 12+12)=m.tmod 12+12:=by
  generalize m.tmod 12=t at*
  first|(unfold wrap64;omega)|go_num|(simp[wrap64];omega)
 rw[e];exact Vf h
def wW(v u x y w)(L:RI w v x)(l:RI w u y)(h:x=y):
  CE 69 #[v,u] w (.bool true):=by
 have:=MB v u x y w L l;rwa[show decide (x=y)=true by simpa using h] at this
def QS(v0 Xf Xe Xc v1 WN WO WL w)(WA:RG w v0 Xf Xe Xc)(J:RG w v1 WN WO WL)(B:Hid (Xf=WN))(j:Hid (Xe=WO))(Hd:Hid (Xc=WL)):
  CE 37 #[v0,v1] w (.bool true):=by
 have hS:=St.start w;obtain⟨C,L,Z,P,D,W,U,Y,G,H,S,V,rfl,WJ,T,WI⟩:=WA;replace hS:=hS.aU WJ;clear WJ;replace hS:=hS.aU T;clear T;replace hS:=hS.aU WI;clear WI;obtain⟨Wv,Ws,M,Wt,R,I,Ww,Wx,Wp,Q,K,O,rfl,WE,N,WG⟩:=J;replace hS:=hS.aU WE;clear WE;replace hS:=hS.aU N;clear N;replace hS:=hS.aU WG;clear WG;have l:=(St.al (St.al hS 42 #[.bool C,.slice L Z P,.bool D,.slice W U Y,.bool G,.slice H S V] (g:=w.heap.size) ag) 42 #[.bool Wv,.slice Ws M Wt,.bool R,.slice I Ww Wx,.bool Wp,.slice Q K O] (g:=(w.heap.size+1)) ag);have WC:=(l.aH 1).cell;have WB:=(l.aH 0).cell;go_enter Tryz.func37,Tryz.ntmps37;(go_wp2_with fail);clear WC WB;clear l;refine gA2 hS 42 #[.bool C,.slice L Z P,.bool D,.slice W U Y,.bool G,.slice H S V] 42 #[.bool Wv,.slice Ws M Wt,.bool R,.slice I Ww Wx,.bool Wp,.slice Q K O] ?_;clear hS;intro w1 g2 o2 g3 o3 hS;refine(wW _ _ Xf WN _ (hS.aF 5) (hS.aF 2) B.o).mono ?_;rintro e w2 ⟨rfl,F⟩;replace hS:=hS.mv F;clear F;have WK:=(hS.aH 1).cell;have WM:=(hS.aH 0).cell;(go_wp2_with fail);clear WK WM;refine(wW _ _ Xe WO _ (hS.aF 4) (hS.aF 1) j.o).mono ?_;rintro e w3 ⟨rfl,F⟩;replace hS:=hS.mv F;clear F;have WQ:=(hS.aH 1).cell;have Xb:=(hS.aH 0).cell;(go_wp2_with fail);clear WQ Xb;refine(wW _ _ Xc WL _ (hS.aF 3) (hS.aF 0) Hd.o).mono ?_;rintro e w4 ⟨rfl,F⟩;exact AaL
def Df(v u a b d a' b' d' w)(L:RG w v a b d)(l:RG w u a' b' d')(h:a=a'/\b=b'/\d=d'):
  CE 37 #[v,u] w (.bool true):=QS v a b d u a' b' d' w L l (aJ h.1) (aJ h.2.1) (aJ h.2.2)
def Ck(v0 Xf Xe Xc YV YP YU v1 WN WO WL Xj Xk Xl w)(WA:RP w v0 Xf Xe Xc YV YP YU)(J:RP w v1 WN WO WL Xj Xk Xl)(Hu:Hid (Xf=WN/\Xe=WO/\Xc=WL))(Hv:Hid (YV=Xj/\YP=Xk/\YU=Xl)):
  CE 21 #[v0,v1] w (.bool true):=by
 have hS:=St.start w;obtain⟨C,L,Z,P,D,W,U,Y,G,H,S,V,WR,Xa,WV,WT,WX,WU,WS,WZ,N,WY,WW,W9,rfl,WJ,WH,WI,XC,XB,XD⟩:=WA;replace hS:=hS.aU WJ;clear WJ;replace hS:=hS.aU WH;clear WH;replace hS:=hS.aU WI;clear WI;replace hS:=hS.aU XC;clear XC;replace hS:=hS.aU XB;clear XB;replace hS:=hS.aU XD;clear XD;obtain⟨Wv,Ws,Wq,Wt,Wy,Wu,Ww,Wx,Wp,Q,Wo,O,j,WP,M,WQ,Xg,I,T,B,Xh,Wz,R,Xi,rfl,WE,WF,WG,Xb,K,Xd⟩:=J;replace hS:=hS.aU WE;clear WE;replace hS:=hS.aU WF;clear WF;replace hS:=hS.aU WG;clear WG;replace hS:=hS.aU Xb;clear Xb;replace hS:=hS.aU K;clear K;replace hS:=hS.aU Xd;clear Xd;have l:=(St.al (St.al hS 44 #[.bool C,.slice L Z P,.bool D,.slice W U Y,.bool G,.slice H S V,.bool WR,.slice Xa WV WT,.bool WX,.slice WU WS WZ,.bool N,.slice WY WW W9] (g:=w.heap.size) ag) 44 #[.bool Wv,.slice Ws Wq Wt,.bool Wy,.slice Wu Ww Wx,.bool Wp,.slice Q Wo O,.bool j,.slice WP M WQ,.bool Xg,.slice I T B,.bool Xh,.slice Wz R Xi] (g:=(w.heap.size+1)) ag);have WC:=(l.aH 1).cell;have WB:=(l.aH 0).cell;go_enter Tryz.func21,Tryz.ntmps21;(go_wp2_with fail);clear WC WB;clear l;refine gA2 hS 44 #[.bool C,.slice L Z P,.bool D,.slice W U Y,.bool G,.slice H S V,.bool WR,.slice Xa WV WT,.bool WX,.slice WU WS WZ,.bool N,.slice WY WW W9] 44 #[.bool Wv,.slice Ws Wq Wt,.bool Wy,.slice Wu Ww Wx,.bool Wp,.slice Q Wo O,.bool j,.slice WP M WQ,.bool Xg,.slice I T B,.bool Xh,.slice Wz R Xi] ?_;clear hS;intro w1 g2 o2 g3 o3 hS;refine(Df _ _ Xf Xe Xc WN WO WL _ (RG.mk (hS.aF 11) (hS.aF 10) (hS.aF 9)) (RG.mk (hS.aF 5) (hS.aF 4) (hS.aF 3)) Hu.o).mono ?_;rintro e w2 ⟨rfl,F⟩;replace hS:=hS.mv F;clear F;have WK:=(hS.aH 1).cell;have WM:=(hS.aH 0).cell;(go_wp2_with fail);clear WK WM;refine(Df _ _ YV YP YU Xj Xk Xl _ (RG.mk (hS.aF 8) (hS.aF 7) (hS.aF 6)) (RG.mk (hS.aF 2) (hS.aF 1) (hS.aF 0)) Hv.o).mono ?_;rintro e w3 ⟨rfl,F⟩;exact AaL
def Bc(v u p m n w)(L:PV w v p m)(l:PV w u p n):
  CE 21 #[v,u] w (.bool true):=by
 obtain⟨a,b,d,x,y,z,C,B,_,j,_⟩:=L;exact Ck v a b d x y z u a b d x y z w C (l.at_ B j) (aJ ⟨rfl,rfl,rfl⟩) (aJ ⟨rfl,rfl,rfl⟩)
def BC(V L)(F:List Bool)(cs w)(hb:Blk w V 42 cs)(W:F.length=L)(I:L<=100)(J:∀j b,F[j]? =some b->∃s1 A1 n1 c1 s2 A2 n2 c2 s3 A3 n3 c3,cs[j*6]? =some (.bool s1)/\cs[j*6+1]? =some (.slice A1 n1 c1)/\cs[j*6+2]? =some (.bool s2)/\cs[j*6+3]? =some (.slice A2 n2 c2)/\cs[j*6+4]? =some (.bool s3)/\cs[j*6+5]? =some (.slice A3 n3 c3)/\∀w',Ext w w'->CE 95 #[gv s1 A1 n1 c1 s2 A2 n2 c2 s3 A3 n3 c3] w' (.bool b)):
  CE 51 #[.slice (some ⟨V,0,none⟩) L L] w (.bool (F.all id)):=by
 have HL:=aJ W;have HZ:=aJ J;clear W J;go_enter Tryz.func51,Tryz.ntmps51;go_wp2_with fail
 go_loopw [7] (fun i wr=>∃k:Nat,k<=L/\i=.int .i64 (k:Int)/\(F.take k).all id=true/\Ext w wr) (fun i _=>L-(intOf i).toNat)
 case atStart=>exact⟨0,aa,rfl,ag,Ext.refl w⟩
 case round=>
  obtain⟨k,hk,rfl,ht,C⟩:=hrel;have S:=aJ ht;clear ht;by_cases K:k<L
  .have hq:=List.getElem?_eq_getElem (l:=F) (i:=k) (by rw[HL.o];exact K);obtain⟨b,J⟩:∃b,F[k]? =some b:=⟨_,hq⟩;clear hq;obtain⟨s1,A1,n1,c1,s2,A2,n2,c2,s3,A3,n3,c3,r0,r1,r2,r3,Z,R,hV⟩:=HZ.o k b J;have B:=(hb.ext C).cell;have Y:=(B (k*6)).trans r0;have Q:=(B (k*6+1)).trans r1;have O:=(B (k*6+2)).trans r2;have N:=(B (k*6+3)).trans r3;have G:=(B (k*6+4)).trans Z;have H:=(B (k*6+5)).trans R;clear B r0 r1 r2 r3 Z R;have T:=aJ J;clear J;have U:=aJ hV;clear hV;have e1:((k:Int)*6).toNat=k*6:=aa;have M:=Blk.new wr 42 #[.bool false,.slice none 0 0,.bool false,.slice none 0 0,.bool false,.slice none 0 0];have k1:=M.cell;have k2:=M.frozen;have b1:=Blk.new wr 42 #[.bool s1,.slice A1 n1 c1,.bool s2,.slice A2 n2 c2,.bool s3,.slice A3 n3 c3];have k3:=b1.cell;clear M b1;(go_wp2_with fail);clear k1 k2 k3 Y Q O N G H;refine(U.o _ (C.alloc _)).mono ?_;rintro e w2 ⟨rfl,P⟩;have D:=(C.alloc _).trans P;clear P;cases b
   .go_wp2;go_ret;refine⟨aQ ?_,D⟩;symm;rw[Bool.eq_false_iff];intro h;have:=List.all_eq_true.1 h false (List.mem_of_getElem? T.o);simp at this
   .go_wp2;go_roundw
    case rel=>
     refine⟨k+1,aa,au,?_,D⟩;rw[List.take_add_one,T.o,List.all_append,S.o];rfl
    case measure=>simp[intOf]<;>omega
  .obtain rfl:k=L:=aa;go_wp2;go_ret;refine⟨aQ ?_,C⟩;rw[<-S.o,List.take_of_length_le (by rw[HL.o];exact Nat.le_refl _)]
def Vl:(1:Int).natAbs<lim:=iO aa aa
def nU(v q n w)(L:GV w v q n)(hn:n<=12800):
  CE 95 #[v] w (.bool true):=by
 obtain⟨a,b,d,l,j,B⟩:=L;obtain⟨l1,l2,l3⟩:=B.pW hn;have e:((fA [d,a,b]:Nat):Int)=1:=by rw[Fe,j.low.2];rfl
 exact Qb v a b d w l l1 l2 l3 (aJ j.low.1) 1 (aJ e.symm) Vl (aJ rfl)
def jI(gs q0 q1 m0 m1 w){I H l B G D O K C M L Q W Y U V S F N P WL Z Wt T}(hb:Blk w gs 42 #[.bool I,.slice H l B,.bool G,.slice D O K,.bool C,.slice M L Q,.bool W,.slice Y U V,.bool S,.slice F N P,.bool WL,.slice Z Wt T])(h0:GV w (gv I H l B G D O K C M L Q) q0 m0)(l0:m0<=12800)(h1:GV w (gv W Y U V S F N P WL Z Wt T) q1 m1)(l1:m1<=12800):
  CE 51 #[.slice (some ⟨gs,0,none⟩) 2 2] w (.bool true):=by
 refine BC gs 2 [true,true] _ w hb rfl aa (fun j b R=> ?_)
 match j,R with
 |0,R=>injection R with R;subst R;exact⟨_,_,_,_,_,_,_,_,_,_,_,_,rfl,rfl,rfl,rfl,rfl,rfl,fun w' J=>nU _ q0 m0 w' (h0.ext J) l0⟩
 |1,R=>injection R with R;subst R;exact⟨_,_,_,_,_,_,_,_,_,_,_,_,rfl,rfl,rfl,rfl,rfl,rfl,fun w' J=>nU _ q1 m1 w' (h1.ext J) l1⟩
def JK(gs q0 q1 q2 m0 m1 m2 w){I H l B G D O K C M L Q W Ws U V S F N P WL WG Wt Wz WV T WW WU WY Xa WZ W9 Wo Y Z R}(hb:Blk w gs 42 #[.bool I,.slice H l B,.bool G,.slice D O K,.bool C,.slice M L Q,.bool W,.slice Ws U V,.bool S,.slice F N P,.bool WL,.slice WG Wt Wz,.bool WV,.slice T WW WU,.bool WY,.slice Xa WZ W9,.bool Wo,.slice Y Z R])(h0:GV w (gv I H l B G D O K C M L Q) q0 m0)(l0:m0<=12800)(h1:GV w (gv W Ws U V S F N P WL WG Wt Wz) q1 m1)(l1:m1<=12800)(h2:GV w (gv WV T WW WU WY Xa WZ W9 Wo Y Z R) q2 m2)(l2:m2<=12800):
  CE 51 #[.slice (some ⟨gs,0,none⟩) 3 3] w (.bool true):=by
 refine BC gs 3 [true,true,true] _ w hb rfl aa (fun j b hj=> ?_)
 match j,hj with
 |0,hj=>injection hj with hj;subst hj;exact⟨_,_,_,_,_,_,_,_,_,_,_,_,rfl,rfl,rfl,rfl,rfl,rfl,fun w' J=>nU _ q0 m0 w' (h0.ext J) l0⟩
 |1,hj=>injection hj with hj;subst hj;exact⟨_,_,_,_,_,_,_,_,_,_,_,_,rfl,rfl,rfl,rfl,rfl,rfl,fun w' J=>nU _ q1 m1 w' (h1.ext J) l1⟩
 |2,hj=>injection hj with hj;subst hj;exact⟨_,_,_,_,_,_,_,_,_,_,_,_,rfl,rfl,rfl,rfl,rfl,rfl,fun w' J=>nU _ q2 m2 w' (h2.ext J) l2⟩
def GQ.bM (j:Int) (x:GQ) (k:Int) (y:GQ) (m:Int):GQ:=⟨((j:Rat)*x.re+(k:Rat)*y.re)/(m:Rat),((j:Rat)*x.im+(k:Rat)*y.im)/(m:Rat)⟩
def Is.GJ{x y a b d a' b' d' u v t j k m}(J:Is x a b d)(R:Is y a' b' d')(l:m≠0)(h:Is (GQ.bM j x k y m) u v t):(u,v,t)=nf (j*a*d'+k*a'*d) (j*b*d'+k*b'*d) (d*d'*m):=by
 have D:=gm J.dne;have C:=gm R.dne;have B:=gm l;refine(h.FZ (Int.mul_ne_zero (Int.mul_ne_zero J.dne R.dne) l) ?_ ?_).symm
 .show((j:Rat)*x.re+(k:Rat)*y.re)/(m:Rat)=_;rw[J.re,R.re];exact AaM
 .show((j:Rat)*x.im+(k:Rat)*y.im)/(m:Rat)=_;rw[J.im,R.im];exact AaM
def Bd.bM{x y n1 n2 j k m}(J:Bd x n1)(R:Bd y n2)(l:m≠0)(F: -9223372036854775808<=j)(C:j<=9223372036854775807)(G: -9223372036854775808<=k)(D:k<=9223372036854775807)(m1: -9223372036854775808<=m)(m2:m<=9223372036854775807):Bd (GQ.bM j x k y m) (n1+n2+65):=by
 obtain⟨a,b,d,J,sx⟩:=J;obtain⟨a',b',d',R,sy⟩:=R;obtain⟨u,v,t,h⟩:=fV (GQ.bM j x k y m);have U:=Bw F C;have B:=Bw G D;have W:=Bw m1 m2;have E:=J.GJ R l h;refine⟨u,v,t,h,jh (Int.mul_ne_zero (Int.mul_ne_zero J.dne R.dne) l) E ?_ ?_ ?_⟩
 .exact ja (m:=n1+n2+64) (iU (bG (bG U sx.a) sy.d) aa) (iU (bG (bG B sy.a) sx.d) aa)
 .exact ja (m:=n1+n2+64) (iU (bG (bG U sx.b) sy.d) aa) (iU (bG (bG B sy.b) sx.d) aa)
 .exact iU (bG (bG sx.d sy.d) W) aa
def ji(T v1 D x y j k m n1 n2 w)(hc:Calm w T)(L:GV w v1 x n1)(l:GV w D y n2)(hn:2*max n1 n2+65<=12800)(B:m≠0)(F: -9223372036854775808<=j)(C:j<=9223372036854775807)(H: -9223372036854775808<=k)(G:k<=9223372036854775807)(m1: -9223372036854775808<=m)(m2:m<=9223372036854775807):
  CV 128 #[.pointer (some ⟨T,0,none⟩),v1,.int .i64 j,D,.int .i64 k,.int .i64 m] w fun v w'=>GV w' v (GQ.bM j x k y m) (n1+n2+65):=by
 obtain⟨a,b,d,K,i1,s1⟩:=L;obtain⟨a',b',d',I,Q,s2⟩:=l;obtain⟨u,v,t,h⟩:=fV (GQ.bM j x k y m);have sz:=(Bd.bM (m:=m) ⟨_,_,_,i1,s1⟩ ⟨_,_,_,Q,s2⟩ B F C H G m1 m2).sz h;exact(Mj T v1 D a b d j a' b' d' k m u v t (max n1 n2) w hc K I (s1.mono aa) (s2.mono aa) aa i1.dne Q.dne B F C H G m1 m2 (i1.GJ Q B h)).mono fun e w' ⟨z,O,M,J⟩=>⟨z,O,⟨u,v,t,M,h,sz⟩,J⟩
def IK(T v1 j x y n1 n2 w)(hc:Calm w T)(L:GV w v1 x n1)(l:GV w j y n2)(hn:2*max n1 n2+1<=12800):
  CV 142 #[.pointer (some ⟨T,0,none⟩),v1,j] w fun v w'=>GV w' v (x*y) (n1+n2+1):=by
 obtain⟨a,b,d,D,i1,s1⟩:=L;obtain⟨a',b',d',B,Q,s2⟩:=l;obtain⟨u,v,t,h⟩:=fV (x*y);have K:=G8.of i1 s1 Q s2 h aa;exact(yh T v1 j a b d a' b' d' u v t (max n1 n2) w hc D B (s1.mono aa) (s2.mono aa) aa i1.dne Q.dne K.E).mono fun e w' ⟨z,O,C,J⟩=>⟨z,O,⟨u,v,t,C,h,K.size⟩,J⟩
def Is.JB{x y a b d a' b' d' u v t}(J:Is x a b d)(R:Is y a' b' d')(j:a'≠0\/b'≠0)(h:Is (x/y) u v t):(u,v,t)=nf ((a*a'+b*b')*d') ((b*a'-a*b')*d') (d*(a'*a'+b'*b')):=by
 have C:=gm J.dne;have B:=gm R.dne;have l:=gm (pR j);simp only[Rat.intCast_mul,Rat.intCast_add] at l;refine(h.FZ (Int.mul_ne_zero J.dne (pR j)) ?_ ?_).symm
 .rw[GQ.zH,GQ.nrm,J.re,R.re,J.im,R.im];exact AaM
 .rw[GQ.uC,GQ.nrm,J.re,R.re,J.im,R.im];simp only[Rat.intCast_mul,Rat.intCast_add,Rat.intCast_sub];grind
def Is.ne0{y a b d}(h:Is y a b d)(R:y≠GQ.i 0 0):a≠0\/b≠0:=by
 by_cases ha:a=0
 .by_cases hb:b=0
  .exfalso;apply R;ext
   .rw[h.re,ha];simp only[GQ.dE];grind
   .rw[h.im,hb];simp only[GQ.dB];grind
  .exact .inr hb
 .exact .inl ha
def Fs(T v1 B x y n1 n2 w)(hc:Calm w T)(L:GV w v1 x n1)(l:GV w B y n2)(hn:4*max n1 n2+3<=12800)(R:y≠GQ.i 0 0):
  CV 173 #[.pointer (some ⟨T,0,none⟩),v1,B] w fun v w'=>GV w' v (x/y) (n1+(n2+n2+1)):=by
 obtain⟨a,b,d,G,i1,s1⟩:=L;obtain⟨a',b',d',D,Q,s2⟩:=l;obtain⟨u,v,t,h⟩:=fV (x/y);have j:=Q.ne0 R;have E:=i1.JB Q j h;have H:=bG (ja (bG s1.a s2.a) (bG s1.b s2.b)) s2.d;have F:=bG (sJ (bG s1.b s2.a) (bG s1.a s2.b)) s2.d;have C:=bG s1.d (ja (bG s2.a s2.a) (bG s2.b s2.b));have sz:=jh (n:=n1+(n2+n2+1)) (Int.mul_ne_zero i1.dne (pR j)) E (iU H aa) (iU F aa) C;exact(Ev T v1 B a b d a' b' d' u v t (max n1 n2) w hc G D (s1.mono aa) (s2.mono aa) hn i1.dne Q.dne j E).mono fun e w' ⟨z,O,I,J⟩=>⟨z,O,⟨u,v,t,I,h,sz⟩,J⟩
def Bd.rot{q n}(h:Bd q n):∀K,Bd (q*GQ.ip K) n
 |0=>by rw[show GQ.ip 0=GQ.i 1 0 from rfl,GQ.PR];exact h
 |K+1=>by
  obtain⟨a,b,d,l,j⟩:=Bd.rot h K;exact⟨_,_,_,l.turn,j.turn⟩
def gV(T:Nat)(v1 q1)(n1 K:Nat)(k:Int)(w)(j:k=(K:Int))(hc:Calm w T)(J:GV w v1 q1 n1)(hn:n1<=12800)(I:K<=100):
  CV 130 #[.pointer (some ⟨T,0,none⟩),v1,.int .i64 k] w fun v w'=>GV w' v (q1*GQ.ip K) n1:=by
 subst j;exact J9 T v1 q1 n1 K w hc J hn I
def nW(T v1 S R U w)(hc:Calm w T)(J:RG w v1 S R U):
  CV 138 #[.pointer (some ⟨T,0,none⟩),v1] w fun v w'=>(∃u,v=.tuple #[u,.int .i64 0]/\RG w' u S R U):=by
 have hS:=St.start w;obtain⟨G,F,C,K,D,j,L,H,I,Q,B,O,rfl,N,M,P⟩:=J;replace hS:=hS.aU N;clear N;replace hS:=hS.aU M;clear M;replace hS:=hS.aU P;clear P;replace hS:=hS.vk hc trivial;clear hc;have o3:Own w w.heap.size:=Own.of hS.ext ag;have o4:Own w (w.heap.size+1):=Own.of hS.ext ag;have l:=(St.al (St.al hS 42 #[.bool G,.slice F C K,.bool D,.slice j L H,.bool I,.slice Q B O] (g:=w.heap.size) ag) 42 #[.bool false,.slice none 0 0,.bool false,.slice none 0 0,.bool false,.slice none 0 0] (g:=(w.heap.size+1)) ag);have Z:=(l.aH 2).cell;have V:=(l.aH 1).cell;have Y:=(l.aH 0).cell;have W:=(l.aH 0).frozen;go_enter Tryz.func138,Tryz.ntmps138;go_wp2;replace hS:=(St.al (St.al hS 42 #[.bool G,.slice F C K,.bool D,.slice j L H,.bool I,.slice Q B O] (g:=w.heap.size) ag) 42 #[.bool G,.slice F C K,.bool D,.slice j L H,.bool I,.slice Q B O] (g:=(w.heap.size+1)) ag);exact mo rfl rfl rfl (hS.aH 0) ⟨_,rfl,⟨_,rfl,RG.mk (hS.aF 2) (hS.aF 1) (hS.aF 0)⟩,hS.ext⟩
def wZ(T v1 WN WO WL v2 Xm Xk Xl w)(hc:Calm w T)(J:RG w v1 WN WO WL)(WR:RG w v2 Xm Xk Xl):
  CV 141 #[.pointer (some ⟨T,0,none⟩),v1,v2] w fun v w'=>(∃u,v=.tuple #[u,.int .i64 0]/\RP w' u WN WO WL Xm Xk Xl):=by
 have hS:=St.start w;obtain⟨R,P,H,Y,M,C,Ww,S,U,Q,D,O,rfl,WE,WF,WG⟩:=J;replace hS:=hS.aU WE;clear WE;replace hS:=hS.aU WF;clear WF;replace hS:=hS.aU WG;clear WG;obtain⟨B,F,Z,I,W,j,V,N,G,WY,L,K,rfl,Xq,Xp,Xr⟩:=WR;replace hS:=hS.aU Xq;clear Xq;replace hS:=hS.aU Xp;clear Xp;replace hS:=hS.aU Xr;clear Xr;replace hS:=hS.vk hc trivial;clear hc;have o4:Own w w.heap.size:=Own.of hS.ext ag;have o5:Own w (w.heap.size+1):=Own.of hS.ext ag;have o6:Own w (w.heap.size+2):=Own.of hS.ext ag;have l:=(St.al (St.al (St.al hS 42 #[.bool R,.slice P H Y,.bool M,.slice C Ww S,.bool U,.slice Q D O] (g:=w.heap.size) ag) 42 #[.bool B,.slice F Z I,.bool W,.slice j V N,.bool G,.slice WY L K] (g:=(w.heap.size+1)) ag) 44 #[.bool false,.slice none 0 0,.bool false,.slice none 0 0,.bool false,.slice none 0 0,.bool false,.slice none 0 0,.bool false,.slice none 0 0,.bool false,.slice none 0 0] (g:=(w.heap.size+2)) ag);have WC:=(l.aH 3).cell;have WB:=(l.aH 2).cell;have WK:=(l.aH 1).cell;have WM:=(l.aH 0).cell;have WQ:=(l.aH 0).frozen;go_enter Tryz.func141,Tryz.ntmps141;go_wp2;replace hS:=(St.al (St.al (St.al hS 42 #[.bool R,.slice P H Y,.bool M,.slice C Ww S,.bool U,.slice Q D O] (g:=w.heap.size) ag) 42 #[.bool B,.slice F Z I,.bool W,.slice j V N,.bool G,.slice WY L K] (g:=(w.heap.size+1)) ag) 44 #[.bool R,.slice P H Y,.bool M,.slice C Ww S,.bool U,.slice Q D O,.bool B,.slice F Z I,.bool W,.slice j V N,.bool G,.slice WY L K] (g:=(w.heap.size+2)) ag);exact qO rfl rfl rfl (hS.aH 0) ⟨_,rfl,⟨_,rfl,RP.mk (hS.aF 5) (hS.aF 4) (hS.aF 3) (hS.aF 2) (hS.aF 1) (hS.aF 0)⟩,hS.ext⟩
def Ir(w):
  CV 129 #[] w fun v w'=>RG w' v 0 0 1:=by
 have hS:=St.start w;go_enter Tryz.func129,Tryz.ntmps129;(go_wp2_with fail);refine gA1 hS 42 #[.bool false,.slice none 0 0,.bool false,.slice none 0 0,.bool false,.slice none 0 0] ?_;clear hS;intro w1 G o0 hS;refine(AA (1) _ aa aa).mono ?_;rintro e w2 ⟨D,rfl,M,F⟩;replace hS:=hS.mv F;clear F;obtain⟨s1,l,n1,c1,rfl,j⟩:=RI.opn M;clear M;replace hS:=hS.aU j;clear j;have C:=(hS.aH 0).cell;have B:=(hS.aH 0).frozen;go_wp2;replace hS:=hS.pt 0 0 [.bool false,.slice none 0 0,.bool false,.slice none 0 0,.bool s1,.slice l n1 c1] o0;exact dh rfl rfl rfl (hS.aH 0) ⟨_,rfl,RG.mk (RI.zero _) (RI.zero _) (hS.aF 0),hS.ext⟩
def UV(v0 q0 n0 v1 q1 n1 w)(WA:GV w v0 q0 n0)(J:GV w v1 q1 n1)(hn:2*max n0 n1+65<=12800):
  CV 194 #[v0,v1] w fun v w'=>(∃u,v=.tuple #[u,.int .i64 0]/\GV w' u (GQ.bM 1 q0 1 q1 1) (n0+n1+65)):=by
 have hS:=St.start w;obtain⟨Xf,Xe,Xc,WA,I0,S0⟩:=WA;obtain⟨C,L,Z,P,D,W,U,Y,G,H,S,V,rfl,WJ,WH,WI⟩:=WA;replace hS:=hS.aU WJ;clear WJ;replace hS:=hS.aU WH;clear WH;replace hS:=hS.aU WI;clear WI;obtain⟨WN,WO,WL,J,I1,S1⟩:=J;obtain⟨Wv,Ws,Wq,Wt,Wy,Wu,Ww,Wx,Wp,Q,Wo,O,rfl,WE,WF,WG⟩:=J;replace hS:=hS.aU WE;clear WE;replace hS:=hS.aU WF;clear WF;replace hS:=hS.aU WG;clear WG;have l:=(St.al (St.al (St.al hS 42 #[.bool C,.slice L Z P,.bool D,.slice W U Y,.bool G,.slice H S V] (g:=w.heap.size) ag) 42 #[.bool Wv,.slice Ws Wq Wt,.bool Wy,.slice Wu Ww Wx,.bool Wp,.slice Q Wo O] (g:=(w.heap.size+1)) ag) 42 #[.bool false,.slice none 0 0,.bool false,.slice none 0 0,.bool false,.slice none 0 0] (g:=(w.heap.size+2)) ag);have WC:=(l.aH 2).cell;have WB:=(l.aH 1).cell;go_enter Tryz.func194,Tryz.ntmps194;(go_wp2_with fail);clear WC WB;clear l;refine gA4 hS 42 #[.bool C,.slice L Z P,.bool D,.slice W U Y,.bool G,.slice H S V] 42 #[.bool Wv,.slice Ws Wq Wt,.bool Wy,.slice Wu Ww Wx,.bool Wp,.slice Q Wo O] 42 #[.bool false,.slice none 0 0,.bool false,.slice none 0 0,.bool false,.slice none 0 0] 42 #[.bool C,.slice L Z P,.bool D,.slice W U Y,.bool G,.slice H S V,.bool Wv,.slice Ws Wq Wt,.bool Wy,.slice Wu Ww Wx,.bool Wp,.slice Q Wo O] ?_;clear hS;intro w1 g2 o2 g3 o3 g4 o4 g9 o9 hS;refine(jI g9 q0 q1 n0 n1 _ (hS.aH 0) ⟨_,_,_,RG.mk (hS.aF 5) (hS.aF 4) (hS.aF 3),I0,S0⟩ aa ⟨_,_,_,RG.mk (hS.aF 2) (hS.aF 1) (hS.aF 0),I1,S1⟩ aa).mono ?_;rintro e w2 ⟨rfl,F⟩;replace hS:=hS.mv F;clear F;have Wz:=(St.al hS 197 #[.int .i64 0] (g:=w2.heap.size) ag);have WK:=(Wz.aH 4).cell;have WM:=(Wz.aH 3).cell;(go_wp2_with fail);clear WK WM;clear Wz;refine gA1 hS 197 #[.int .i64 0] ?_;clear hS;intro w3 g6 o6 hS;obtain⟨WR,T,WP,WT⟩:=fV (GQ.bM (1) q0 (1) q1 (1));have Xk:Sz (n0+n1+65) WR T WP:=(Bd.bM (m:=1) ⟨_,_,_,I0,S0⟩ ⟨_,_,_,I1,S1⟩ aa aa aa aa aa aa aa).sz WT;refine(mi (ji g6 _ _ q0 q1 (1) (1) (1) _ _ _ (hS.aH 0) ⟨_,_,_,RG.mk (hS.aF 5) (hS.aF 4) (hS.aF 3),I0,S0⟩ ⟨_,_,_,RG.mk (hS.aF 2) (hS.aF 1) (hS.aF 0),I1,S1⟩ aa aa aa aa aa aa aa aa) WT).mono ?_;exact Aam
def Uq(v0 q0 n0 v1 q1 n1 w)(WA:GV w v0 q0 n0)(J:GV w v1 q1 n1)(hn:2*max n0 n1+65<=12800):
  CV 135 #[v0,v1] w fun v w'=>(∃u,v=.tuple #[u,.int .i64 0]/\GV w' u (GQ.bM 1 q0 (-1) q1 1) (n0+n1+65)):=by
 have hS:=St.start w;obtain⟨Xf,Xe,Xc,WA,I0,S0⟩:=WA;obtain⟨C,L,Z,P,D,W,U,Y,G,H,S,V,rfl,WJ,WH,WI⟩:=WA;replace hS:=hS.aU WJ;clear WJ;replace hS:=hS.aU WH;clear WH;replace hS:=hS.aU WI;clear WI;obtain⟨WN,WO,WL,J,I1,S1⟩:=J;obtain⟨Wv,Ws,Wq,Wt,Wy,Wu,Ww,Wx,Wp,Q,Wo,O,rfl,WE,WF,WG⟩:=J;replace hS:=hS.aU WE;clear WE;replace hS:=hS.aU WF;clear WF;replace hS:=hS.aU WG;clear WG;have l:=(St.al (St.al (St.al hS 42 #[.bool C,.slice L Z P,.bool D,.slice W U Y,.bool G,.slice H S V] (g:=w.heap.size) ag) 42 #[.bool Wv,.slice Ws Wq Wt,.bool Wy,.slice Wu Ww Wx,.bool Wp,.slice Q Wo O] (g:=(w.heap.size+1)) ag) 42 #[.bool false,.slice none 0 0,.bool false,.slice none 0 0,.bool false,.slice none 0 0] (g:=(w.heap.size+2)) ag);have WC:=(l.aH 2).cell;have WB:=(l.aH 1).cell;go_enter Tryz.func135,Tryz.ntmps135;(go_wp2_with fail);clear WC WB;clear l;refine gA4 hS 42 #[.bool C,.slice L Z P,.bool D,.slice W U Y,.bool G,.slice H S V] 42 #[.bool Wv,.slice Ws Wq Wt,.bool Wy,.slice Wu Ww Wx,.bool Wp,.slice Q Wo O] 42 #[.bool false,.slice none 0 0,.bool false,.slice none 0 0,.bool false,.slice none 0 0] 42 #[.bool C,.slice L Z P,.bool D,.slice W U Y,.bool G,.slice H S V,.bool Wv,.slice Ws Wq Wt,.bool Wy,.slice Wu Ww Wx,.bool Wp,.slice Q Wo O] ?_;clear hS;intro w1 g2 o2 g3 o3 g4 o4 g9 o9 hS;refine(jI g9 q0 q1 n0 n1 _ (hS.aH 0) ⟨_,_,_,RG.mk (hS.aF 5) (hS.aF 4) (hS.aF 3),I0,S0⟩ aa ⟨_,_,_,RG.mk (hS.aF 2) (hS.aF 1) (hS.aF 0),I1,S1⟩ aa).mono ?_;rintro e w2 ⟨rfl,F⟩;replace hS:=hS.mv F;clear F;have Wz:=(St.al hS 197 #[.int .i64 0] (g:=w2.heap.size) ag);have WK:=(Wz.aH 4).cell;have WM:=(Wz.aH 3).cell;(go_wp2_with fail);clear WK WM;clear Wz;refine gA1 hS 197 #[.int .i64 0] ?_;clear hS;intro w3 g6 o6 hS;obtain⟨WR,T,WP,WT⟩:=fV (GQ.bM (1) q0 (-1) q1 (1));have Xk:Sz (n0+n1+65) WR T WP:=(Bd.bM (m:=1) ⟨_,_,_,I0,S0⟩ ⟨_,_,_,I1,S1⟩ aa aa aa aa aa aa aa).sz WT;refine(mi (ji g6 _ _ q0 q1 (1) (-1) (1) _ _ _ (hS.aH 0) ⟨_,_,_,RG.mk (hS.aF 5) (hS.aF 4) (hS.aF 3),I0,S0⟩ ⟨_,_,_,RG.mk (hS.aF 2) (hS.aF 1) (hS.aF 0),I1,S1⟩ aa aa aa aa aa aa aa aa) WT).mono ?_;exact Aam
def Ps(v0 q0 n0 v1 q1 n1 w)(WA:GV w v0 q0 n0)(J:GV w v1 q1 n1)(hn:2*max n0 n1+1<=12800):
  CV 164 #[v0,v1] w fun v w'=>(∃u,v=.tuple #[u,.int .i64 0]/\GV w' u (q0*q1) (n0+n1+1)):=by
 have hS:=St.start w;obtain⟨Xf,Xe,Xc,WA,I0,S0⟩:=WA;obtain⟨C,L,Z,P,D,W,U,Y,G,H,S,V,rfl,WJ,WH,WI⟩:=WA;replace hS:=hS.aU WJ;clear WJ;replace hS:=hS.aU WH;clear WH;replace hS:=hS.aU WI;clear WI;obtain⟨WN,WO,WL,J,I1,S1⟩:=J;obtain⟨Wv,Ws,Wq,Wt,Wy,Wu,Ww,Wx,Wp,Q,Wo,O,rfl,WE,WF,WG⟩:=J;replace hS:=hS.aU WE;clear WE;replace hS:=hS.aU WF;clear WF;replace hS:=hS.aU WG;clear WG;have l:=(St.al (St.al (St.al hS 42 #[.bool C,.slice L Z P,.bool D,.slice W U Y,.bool G,.slice H S V] (g:=w.heap.size) ag) 42 #[.bool Wv,.slice Ws Wq Wt,.bool Wy,.slice Wu Ww Wx,.bool Wp,.slice Q Wo O] (g:=(w.heap.size+1)) ag) 42 #[.bool false,.slice none 0 0,.bool false,.slice none 0 0,.bool false,.slice none 0 0] (g:=(w.heap.size+2)) ag);have WC:=(l.aH 2).cell;have WB:=(l.aH 1).cell;go_enter Tryz.func164,Tryz.ntmps164;(go_wp2_with fail);clear WC WB;clear l;refine gA4 hS 42 #[.bool C,.slice L Z P,.bool D,.slice W U Y,.bool G,.slice H S V] 42 #[.bool Wv,.slice Ws Wq Wt,.bool Wy,.slice Wu Ww Wx,.bool Wp,.slice Q Wo O] 42 #[.bool false,.slice none 0 0,.bool false,.slice none 0 0,.bool false,.slice none 0 0] 42 #[.bool C,.slice L Z P,.bool D,.slice W U Y,.bool G,.slice H S V,.bool Wv,.slice Ws Wq Wt,.bool Wy,.slice Wu Ww Wx,.bool Wp,.slice Q Wo O] ?_;clear hS;intro w1 g2 o2 g3 o3 g4 o4 g9 o9 hS;refine(jI g9 q0 q1 n0 n1 _ (hS.aH 0) ⟨_,_,_,RG.mk (hS.aF 5) (hS.aF 4) (hS.aF 3),I0,S0⟩ aa ⟨_,_,_,RG.mk (hS.aF 2) (hS.aF 1) (hS.aF 0),I1,S1⟩ aa).mono ?_;rintro e w2 ⟨rfl,F⟩;replace hS:=hS.mv F;clear F;have Wz:=(St.al hS 197 #[.int .i64 0] (g:=w2.heap.size) ag);have WK:=(Wz.aH 4).cell;have WM:=(Wz.aH 3).cell;(go_wp2_with fail);clear WK WM;clear Wz;refine gA1 hS 197 #[.int .i64 0] ?_;clear hS;intro w3 g6 o6 hS;obtain⟨WR,T,WP,WT⟩:=fV (q0*q1);have Xk:Sz (n0+n1+1) WR T WP:=(Bd.mul ⟨_,_,_,I0,S0⟩ ⟨_,_,_,I1,S1⟩).sz WT;refine(mi (IK g6 _ _ q0 q1 _ _ _ (hS.aH 0) ⟨_,_,_,RG.mk (hS.aF 5) (hS.aF 4) (hS.aF 3),I0,S0⟩ ⟨_,_,_,RG.mk (hS.aF 2) (hS.aF 1) (hS.aF 0),I1,S1⟩ aa) WT).mono ?_;exact Aam
def RI.le{w s A n c k z}(h:RI w (iv s A n c) z)(j:z.natAbs<2^(32*k)):n<=k:=by
 obtain⟨A',n',c',e,I⟩:=h;simp[iv] at e;obtain⟨_,_,rfl,_⟩:=e;rw[<-I.len];exact dX (by rw[show(4294967296:Nat)=2^32 from rfl,<-Nat.pow_mul];exact j)
def VB (w:World) (v:Value) (b:Bool):Prop:=∀w',Ext w w'->(CE 95 #[v] w' (.bool b))/\True
def VB.ext{w w' v b}(h:VB w v b)(x:Ext w w'):VB w' v b:=fun w'' x'=>h w'' (x.trans x')
def VB.e{w v b}(h:VB w v b):CE 95 #[v] w (.bool b):=(h w (Ext.refl w)).1
def GV.vb{w v q n}(h:GV w v q n)(hn:n<=12800):VB w v true:=fun w' x=>⟨nU v q n w' (h.ext x) hn,trivial⟩
def RI.Vt{w s A n c z}(h:RI w (iv s A n c) z)(j:z≠0):((n:Int)==0)=false:=by
 obtain⟨A',n',c',e,I⟩:=h;simp[iv] at e;obtain⟨_,_,rfl,_⟩:=e;have:=(kL I.len).2 aa;simp;omega
def RI.Wj{w s A n c z}(h:RI w (iv s A n c) z)(j:z=0):((n:Int)==0)=true:=by
 obtain⟨A',n',c',e,I⟩:=h;simp[iv] at e;obtain⟨_,_,rfl,_⟩:=e;have:=(kL I.len);simp;omega
def RZ (a d b e r n:Int):Prop:=Le3 ((2*n-1)*r*(d*e)-2*(a*e)) (2*(b*d))
def Nv(s1 A1 n1 c1 s2 A2 n2 c2 s3 A3 n3 c3 w):
  CE 136 #[gv s1 A1 n1 c1 s2 A2 n2 c2 s3 A3 n3 c3] w (.bool (decide (n1=0)&&decide (n2=0))):=by
 have D:=Blk.new w 42 #[.bool s1,.slice A1 n1 c1,.bool s2,.slice A2 n2 c2,.bool s3,.slice A3 n3 c3];have k0:=D.cell;by_cases l:n1=0
 .have G:((n1:Int)==0)=true:=ae;have C:=aJ l;clear l;by_cases j:n2=0
  .have F:((n2:Int)==0)=true:=ae;have B:=aJ j;clear j;go_enter Tryz.func136,Tryz.ntmps136;go_wp2;go_ret;exact⟨aQ (by simp[C.o,B.o]),Ext.new _ _⟩
  .have F:((n2:Int)==0)=false:=ae;have B:=aJ j;clear j;go_enter Tryz.func136,Tryz.ntmps136;go_wp2;go_ret;exact⟨aQ (by simp[B.o]),Ext.new _ _⟩
 .have G:((n1:Int)==0)=false:=ae;have C:=aJ l;clear l;go_enter Tryz.func136,Tryz.ntmps136;go_wp2;go_ret;exact⟨aQ (by simp[C.o]),Ext.new _ _⟩
def Bp(s1 A1 n1 c1 s2 A2 n2 c2 s3 A3 n3 c3 r w)(h:(decide (n1=0)&&decide (n2=0))=r):
  CE 136 #[gv s1 A1 n1 c1 s2 A2 n2 c2 s3 A3 n3 c3] w (.bool r):=by
 have:=Nv s1 A1 n1 c1 s2 A2 n2 c2 s3 A3 n3 c3 w;rwa[h] at this
def RI.n0{w s A n c z}(h:RI w (iv s A n c) z):decide (n=0)=decide (z=0):=by
 by_cases j:z=0
 .have:=RI.Wj h j;simp at this;simp[this,j]
 .have:=RI.Vt h j;simp at this;simp[this,j]
def Is.Qe{q a b d}(h:Is q a b d):q=GQ.i 0 0↔a=0/\b=0:=by
 have hd:=gm h.dne;constructor
 .intro e;have l:=h.re;have j:=h.im;rw[e] at l j;simp only[GQ.dE,GQ.dB] at l j;have C:(a:Rat)=0:=ak;have B:(b:Rat)=0:=ak;exact⟨by exact_mod_cast C,by exact_mod_cast B⟩
 .rintro⟨rfl,rfl⟩;ext
  .rw[h.re];simp only[GQ.dE];grind
  .rw[h.im];simp only[GQ.dB];grind
def GV.zero{w q n n1 c1 n2 c2 n3 c3 s1 s2 s3 A1 A2 A3}(h:GV w (gv s1 A1 n1 c1 s2 A2 n2 c2 s3 A3 n3 c3) q n):(decide (n1=0)&&decide (n2=0))=true↔q=GQ.i 0 0:=by
 obtain⟨a,b,d,l,j,_⟩:=h;obtain⟨r1,r2,B⟩:=RG.inj l;rw[RI.n0 r1,RI.n0 r2,j.Qe];simp
def GV.opn{w v q n}(h:GV w v q n):∃s1 A1 n1 c1 s2 A2 n2 c2 s3 A3 n3 c3,v=gv s1 A1 n1 c1 s2 A2 n2 c2 s3 A3 n3 c3:=by
 obtain⟨a,b,d,⟨s1,A1,n1,c1,s2,A2,n2,c2,s3,A3,n3,c3,e,_⟩,_⟩:=h;exact⟨s1,A1,n1,c1,s2,A2,n2,c2,s3,A3,n3,c3,e⟩
def Gr(v q n w)(L:GV w v q n)(h:q≠GQ.i 0 0):
  CE 136 #[v] w (.bool false):=by
 obtain⟨s1,A1,n1,c1,s2,A2,n2,c2,s3,A3,n3,c3,rfl⟩:=L.opn;exact Bp _ _ _ _ _ _ _ _ _ _ _ _ _ w AbJ
def Bd.div{x y n1 n2}(J:Bd x n1)(R:Bd y n2)(h:y≠GQ.i 0 0):Bd (x/y) (n1+(n2+n2+1)):=by
 obtain⟨a,b,d,i1,s1⟩:=J;obtain⟨a',b',d',Q,s2⟩:=R;obtain⟨u,v,t,j⟩:=fV (x/y);have l:=Q.ne0 h;have E:=i1.JB Q l j;have D:=bG (ja (bG s1.a s2.a) (bG s1.b s2.b)) s2.d;have C:=bG (sJ (bG s1.b s2.a) (bG s1.a s2.b)) s2.d;have B:=bG s1.d (ja (bG s2.a s2.a) (bG s2.b s2.b));exact⟨u,v,t,j,jh (n:=n1+(n2+n2+1)) (Int.mul_ne_zero i1.dne (pR l)) E (iU D aa) (iU C aa) B⟩
def Tj(J N B G D C j K M L I H R w)(O:VB w (gv J N B G D C j K M L I H) R)(S:Hid ((decide (B=0)&&decide (j=0))=true)):
  CE 90 #[gv J N B G D C j K M L I H] w (.bool R):=by
 have hS:=St.start w;have l:=(St.al hS 42 #[.bool J,.slice N B G,.bool D,.slice C j K,.bool M,.slice L I H] (g:=w.heap.size) ag);have Q:=(l.aH 0).cell;go_enter Tryz.func90,Tryz.ntmps90;(go_wp2_with fail);clear Q;clear l;refine gA1 hS 42 #[.bool J,.slice N B G,.bool D,.slice C j K,.bool M,.slice L I H] ?_;clear hS;intro w1 g1 o1 hS;refine(Bp J N B G D C j K M L I H true _ S.o).mono ?_;rintro e w2 ⟨rfl,F⟩;replace hS:=hS.mv F;clear F;have P:=(hS.aH 0).cell;(go_wp2_with fail);clear P;refine(VB.e (O.ext hS.ext)).mono ?_;rintro e T ⟨rfl,F⟩;exact AaL
def QV(J N B G D C j K M L I H Q w)(O:VB w (gv J N B G D C j K M L I H) Q)(R:Hid ((decide (B=0)&&decide (j=0))=false)):
  CE 90 #[gv J N B G D C j K M L I H] w (.bool false):=by
 have hS:=St.start w;have l:=(St.al hS 42 #[.bool J,.slice N B G,.bool D,.slice C j K,.bool M,.slice L I H] (g:=w.heap.size) ag);have P:=(l.aH 0).cell;go_enter Tryz.func90,Tryz.ntmps90;(go_wp2_with fail);clear P;clear l;refine gA1 hS 42 #[.bool J,.slice N B G,.bool D,.slice C j K,.bool M,.slice L I H] ?_;clear hS;intro w1 g1 o1 hS;refine(Bp J N B G D C j K M L I H false _ R.o).mono ?_;rintro e w2 ⟨rfl,F⟩;exact AaL
def xM(v q n w)(L:GV w v q n)(hn:n<=12800)(h:q=GQ.i 0 0):
  CE 90 #[v] w (.bool true):=by
 obtain⟨s1,A1,n1,c1,s2,A2,n2,c2,s3,A3,n3,c3,rfl⟩:=L.opn;exact Tj _ _ _ _ _ _ _ _ _ _ _ _ _ w (L.vb hn) (aJ (L.zero.2 h))
def BU(v q n w)(L:GV w v q n)(hn:n<=12800)(h:q≠GQ.i 0 0):
  CE 90 #[v] w (.bool false):=by
 obtain⟨s1,A1,n1,c1,s2,A2,n2,c2,s3,A3,n3,c3,rfl⟩:=L.opn;exact QV _ _ _ _ _ _ _ _ _ _ _ _ _ w (L.vb hn) (aJ AbJ)
def U8(v0 q0 n0 v1 q1 n1 w)(WA:GV w v0 q0 n0)(J:GV w v1 q1 n1)(H0:Hid (q1≠GQ.i 0 0))(hn:4*max n0 n1+3<=12800):
  CV 137 #[v0,v1] w fun v w'=>(∃u,v=.tuple #[u,.int .i64 0]/\GV w' u (q0/q1) (n0+(n1+n1+1))):=by
 have hS:=St.start w;obtain⟨Xf,Xe,Xc,WA,I0,S0⟩:=WA;obtain⟨C,L,Z,P,D,W,U,Y,G,H,S,V,rfl,WJ,WH,WI⟩:=WA;replace hS:=hS.aU WJ;clear WJ;replace hS:=hS.aU WH;clear WH;replace hS:=hS.aU WI;clear WI;obtain⟨WN,WO,WL,J,I1,S1⟩:=J;obtain⟨Wv,Ws,Wq,Wt,Wy,Wu,Ww,Wx,Wp,Q,Wo,O,rfl,WE,WF,WG⟩:=J;replace hS:=hS.aU WE;clear WE;replace hS:=hS.aU WF;clear WF;replace hS:=hS.aU WG;clear WG;have l:=(St.al (St.al (St.al hS 42 #[.bool C,.slice L Z P,.bool D,.slice W U Y,.bool G,.slice H S V] (g:=w.heap.size) ag) 42 #[.bool Wv,.slice Ws Wq Wt,.bool Wy,.slice Wu Ww Wx,.bool Wp,.slice Q Wo O] (g:=(w.heap.size+1)) ag) 42 #[.bool false,.slice none 0 0,.bool false,.slice none 0 0,.bool false,.slice none 0 0] (g:=(w.heap.size+2)) ag);have WC:=(l.aH 2).cell;have WB:=(l.aH 1).cell;go_enter Tryz.func137,Tryz.ntmps137;(go_wp2_with fail);clear WC WB;clear l;refine gA4 hS 42 #[.bool C,.slice L Z P,.bool D,.slice W U Y,.bool G,.slice H S V] 42 #[.bool Wv,.slice Ws Wq Wt,.bool Wy,.slice Wu Ww Wx,.bool Wp,.slice Q Wo O] 42 #[.bool false,.slice none 0 0,.bool false,.slice none 0 0,.bool false,.slice none 0 0] 42 #[.bool C,.slice L Z P,.bool D,.slice W U Y,.bool G,.slice H S V,.bool Wv,.slice Ws Wq Wt,.bool Wy,.slice Wu Ww Wx,.bool Wp,.slice Q Wo O] ?_;clear hS;intro w1 g2 o2 g3 o3 g4 o4 g9 o9 hS;refine(jI g9 q0 q1 n0 n1 _ (hS.aH 0) ⟨_,_,_,RG.mk (hS.aF 5) (hS.aF 4) (hS.aF 3),I0,S0⟩ aa ⟨_,_,_,RG.mk (hS.aF 2) (hS.aF 1) (hS.aF 0),I1,S1⟩ aa).mono ?_;rintro e w2 ⟨rfl,F⟩;replace hS:=hS.mv F;clear F;have WK:=(hS.aH 2).cell;(go_wp2_with fail);clear WK;refine(Gr _ q1 (n1) _ ⟨_,_,_,RG.mk (hS.aF 2) (hS.aF 1) (hS.aF 0),I1,S1⟩ H0.o).mono ?_;rintro e w3 ⟨rfl,F⟩;replace hS:=hS.mv F;clear F;have Wz:=(St.al hS 197 #[.int .i64 0] (g:=w3.heap.size) ag);have WM:=(Wz.aH 4).cell;have WQ:=(Wz.aH 3).cell;(go_wp2_with fail);clear WM WQ;clear Wz;refine gA1 hS 197 #[.int .i64 0] ?_;clear hS;intro w4 g6 o6 hS;obtain⟨T,WR,WS,Xj⟩:=fV (q0/q1);have Xx:Sz (n0+(n1+n1+1)) T WR WS:=(Bd.div ⟨_,_,_,I0,S0⟩ ⟨_,_,_,I1,S1⟩ H0.o).sz Xj;refine(mi (Fs g6 _ _ q0 q1 _ _ _ (hS.aH 0) ⟨_,_,_,RG.mk (hS.aF 5) (hS.aF 4) (hS.aF 3),I0,S0⟩ ⟨_,_,_,RG.mk (hS.aF 2) (hS.aF 1) (hS.aF 0),I1,S1⟩ aa H0.o) Xj).mono ?_;exact Aar
structure Mod (S:Nat->Prop) (w w':World):Prop where
 os:w'.os=w.os
 tape:w'.tape=w.tape
 output:w'.output=w.output
 size:w.heap.size<=w'.heap.size
 block:∀k,k<w.heap.size->¬S k->w'.heap[k]? =w.heap[k]?
section
variable {S T:Nat->Prop} {w w' w'':World}
def Mod.refl(S w):Mod S w w:=⟨rfl,rfl,rfl,Nat.le_refl _,fun _ _ _=>rfl⟩
def Mod.trans(h:Mod S w w')(k:Mod S w' w''):Mod S w w'':=
 ⟨k.os.trans h.os,k.tape.trans h.tape,k.output.trans h.output,Nat.le_trans h.size k.size,fun i hi hs=>(k.block i (Nat.lt_of_lt_of_le hi h.size) hs).trans (h.block i hi hs)⟩
def Mod.of(h:Ext w w'):Mod S w w':=⟨h.os,h.tape,h.output,h.size,fun k j _=>h.block k j⟩
def Mod.mono(h:Mod S w w')(hs:∀k,S k->T k):Mod T w w':=⟨h.os,h.tape,h.output,h.size,fun k j hn=>h.block k j (fun e=>hn (hs k e))⟩
def Mod.only{g}(h:Only g w w')(j:S g):Mod S w w':=
 ⟨h.os,h.tape,h.output,h.size,fun k l hn=>h.block k l (fun e=>hn (by first|(injection e with e;exact e ▸ j)|exact e ▸ j))⟩
def Blk.mod{g t cs}(h:Blk w g t cs)(m:Mod S w w')(j:¬S g):Blk w' g t cs:=(m.block g h.lt j).trans h
def Far (S:Nat->Prop) (w:World):Prop:=∀g,S g->g<w.heap.size->∃t cs,Blk w g t cs/\kz cs=true
def RM.mod{A n c l}(h:RM w A n c l)(m:Mod S w w')(hS:Far S w):RM w' A n c l:=by
 refine⟨⟨h.rd.1,fun hn=> ?_⟩,h.dg,h.nc,h.cm⟩;obtain⟨b,o,rfl,B,hc⟩:=h.rd.plain hn;obtain⟨I,x,e,_,J,_,_⟩:=h.at_ hn;have D:¬S b:=by
  intro hs;obtain⟨t,cs,hb,C⟩:=hS b hs B;have:=hc 0 _ (oz J);rw[hb.cell] at this;exact su C _ _ _ this
 exact Aa3
def RI.mod{v z}(h:RI w v z)(m:Mod S w w')(hS:Far S w):RI w' v z:=by
 obtain⟨A,n,c,e,h⟩:=h;exact⟨A,n,c,e,h.mod m hS⟩
def GV.mod{v q n}(h:GV w v q n)(m:Mod S w w')(hS:Far S w):GV w' v q n:=by
 obtain⟨a,b,d,⟨s1,A1,n1,c1,s2,A2,n2,c2,s3,A3,n3,c3,e,B,l,j⟩,I,Z⟩:=h;exact⟨a,b,d,⟨s1,A1,n1,c1,s2,A2,n2,c2,s3,A3,n3,c3,e,B.mod m hS,l.mod m hS,j.mod m hS⟩,I,Z⟩
end
def GV.to{w v q m n}(h:GV w v q m)(hb:Bd q n):GV w v q n:=by
 obtain⟨a,b,d,j,I,Z⟩:=h;exact⟨a,b,d,j,I,hb.sz I⟩
def GV.up{w v q m n}(h:GV w v q m)(hn:m<=n):GV w v q n:=by
 obtain⟨a,b,d,j,I,Z⟩:=h;exact⟨a,b,d,j,I,Z.mono hn⟩
structure En where
 s1:Bool
 A1:Option Addr
 n1:Nat
 c1:Nat
 s2:Bool
 A2:Option Addr
 n2:Nat
 c2:Nat
 s3:Bool
 A3:Option Addr
 n3:Nat
 c3:Nat
def En.v (e:En):Value:=gv e.s1 e.A1 e.n1 e.c1 e.s2 e.A2 e.n2 e.c2 e.s3 e.A3 e.n3 e.c3
def En.cells (e:En):List Value:=[.bool e.s1,.slice e.A1 e.n1 e.c1,.bool e.s2,.slice e.A2 e.n2 e.c2,.bool e.s3,.slice e.A3 e.n3 e.c3]
def GV.en{w v q n}(h:GV w v q n):∃e:En,v=e.v:=by
 obtain⟨s1,A1,n1,c1,s2,A2,n2,c2,s3,A3,n3,c3,e⟩:=h.opn;exact⟨⟨s1,A1,n1,c1,s2,A2,n2,c2,s3,A3,n3,c3⟩,e⟩
def aN (n:Nat) (f:Nat->En):List Value:=(List.range n).flatMap fun j=>(f j).cells
theorem iL(n f):aN (n+1) f=aN n f++(f n).cells:=by
 unfold aN;exact Abz
def aW:∀(n:Nat) (f:Nat->En),(aN n f).length=n*6
 |0,_=>rfl
 |n+1,f=>by
  rw[iL,List.length_append,aW n f];simp[En.cells];omega
def dM{f j t}(l:t<6):∀{n:Nat},j<n->(aN n f)[j*6+t]? =(f j).cells[t]?
 |0,h=>aa
 |n+1,h=>by
  rw[iL];by_cases e:j=n
  .subst e;rw[List.getElem?_append_right Ab8,aW];congr 1;omega
  .rw[List.getElem?_append_left Ab8];exact dM l aa
theorem AL{n f f'}(h:∀j,j<n->f j=f' j):aN n f=aN n f':=by
 unfold aN;have:∀(L:List Nat),(∀j∈L,f j=f' j)->L.flatMap (fun j=>(f j).cells)=L.flatMap (fun j=>(f' j).cells):=by
  intro L
  induction L with
  |nil=>intro _;rfl
  |cons a L ih=>
   intro h;simp only[List.flatMap_cons];rw[h a (List.mem_cons_self),ih (fun j l=>h j (List.mem_cons_of_mem _ l))]
 exact this _ (fun j l=>h j (List.mem_range.1 l))
def upd {α:Type} (f:Nat->α) (j:Nat) (e:α):Nat->α:=fun i=>if i=j then e else f i
theorem upd_same{α:Type}(f:Nat->α)(j)(e:α):upd f j e j=e:=by unfold upd;rw[if_pos rfl]
theorem upd_ne{α:Type}{f:Nat->α}{i j}{e:α}(h:i≠j):upd f j e i=f i:=by unfold upd;rw[if_neg h]
def jE:∀(B:List Value) (l:List Value) (k:Nat),fD l.toArray k B=((l.take k)++(B.take (l.length-k))++l.drop (k+B.length)).toArray
 |[],l,k=>by simp[fD]
 |v::B,l,k=>by
  show fD (l.toArray.setIfInBounds k v) (k+1) B=_;rw[List.setIfInBounds_toArray,jE B];congr 1;by_cases h:k<l.length
  .rw[List.length_set,List.take_set,List.drop_set_of_lt aa];have C:((l.take (k+1)).set k v)=l.take k++[v]:=by
    rw[List.take_succ_eq_append_getElem h,List.set_append_right _ _ ae];simp[Nat.min_eq_left (Nat.le_of_lt h)]
   rw[C];have j:(v::B).take (l.length-k)=v::B.take (l.length-(k+1)):=by
    rw[show l.length-k=(l.length-(k+1))+1 by omega,List.take_succ_cons]
   rw[j];simp only[List.length_cons,List.append_assoc,List.cons_append,List.nil_append];rw[show k+1+B.length=k+(B.length+1) by omega]
  .rw[List.set_eq_of_length_le aa];rw[List.take_of_length_le (i:=k+1) aa,List.take_of_length_le (i:=k) aa,show l.length-k=0 by omega,show l.length-(k+1)=0 by omega];simp only[List.take_zero,List.append_nil];rw[List.drop_eq_nil_of_le aa,List.drop_eq_nil_of_le (by simp only[List.length_cons];omega)]
def mO{f j n}(e)(F:j<n):fD (aN n f).toArray (j*6) e.cells=(aN n (upd f j e)).toArray:=by
 rw[jE];congr 1;apply List.ext_getElem?;intro t;have T:e.cells.length=6:=rfl;rw[aW,T,List.take_of_length_le (l:=e.cells) (by rw[T];omega)];have S:((aN n f).take (j*6)).length=j*6:=by rw[List.length_take,aW];omega
 by_cases B:t<j*6
 .rw[List.append_assoc,List.getElem?_append_left (by rw[S];exact B),List.getElem?_take_of_lt B];have C:t=(t/6)*6+t%6:=aa;rw[C,dM (Nat.mod_lt _ aa) aa,dM (Nat.mod_lt _ aa) aa,upd_ne aa]
 .by_cases C:t<j*6+6
  .rw[List.append_assoc,List.getElem?_append_right (by rw[S];omega),S,List.getElem?_append_left (by rw[T];omega)];have D:t=j*6+(t-j*6):=aa
   conv=>rhs;rw[D]
   rw[dM aa F,upd_same]
  .rw[List.getElem?_append_right (by rw[List.length_append,S,T];omega),List.length_append,S,T,List.getElem?_drop];rw[show j*6+6+(t-(j*6+6))=t by omega];by_cases D:t<n*6
   .have G:t=(t/6)*6+t%6:=aa;rw[G,dM (Nat.mod_lt _ aa) aa,dM (Nat.mod_lt _ aa) aa,upd_ne aa]
   .rw[List.getElem?_eq_none Ab8,List.getElem?_eq_none Ab8]
theorem cu(n f):kz (aN n f).toArray=true:=by
 unfold kz;simp only[List.all_eq_true];intro v hv;unfold aN at hv;obtain⟨j,_,hv⟩:=List.mem_flatMap.1 hv;unfold En.cells at hv;simp only[List.mem_cons,List.not_mem_nil,or_false] at hv;rcases hv with rfl|rfl|rfl|rfl|rfl|rfl<;>rfl
def dm (w:World) (g n:Nat) (x:Nat->GQ):Prop:=∃f:Nat->En,Blk w g 42 (aN n f).toArray/\∀j,j<n->GV w (f j).v (x j) 12800
def dm.ext{w w' g n x}(h:dm w g n x)(e:Ext w w'):dm w' g n x:=by
 obtain⟨f,l,B⟩:=h;exact⟨f,l.ext e,fun j C=>(B j C).ext e⟩
def dm.mod{S w w' g n x}(h:dm w g n x)(m:Mod S w w')(hS:Far S w)(D:¬S g):dm w' g n x:=by
 obtain⟨f,l,B⟩:=h;exact⟨f,l.mod m D,fun j C=>(B j C).mod m hS⟩
def dm.congr{w g n x y}(h:dm w g n x)(e:∀j,j<n->x j=y j):dm w g n y:=by
 obtain⟨f,B,C⟩:=h;exact⟨f,B,fun j l=>e j l ▸ C j l⟩
def dm.put{w g n j f x}{e:En}{q}(hb:Blk w g 42 (aN n f).toArray)(J:∀j,j<n->GV w (f j).v (x j) 12800)(B:j<n)(O:GV w e.v q 12800):
  dm (puts w g (j*6) e.cells) g n (upd x j q)/\Mod (fun k=>k=g) w (puts w g (j*6) e.cells):=by
 have l:Mod (fun k=>k=g) w (puts w g (j*6) e.cells):=Mod.only (fK _ _ _ _) rfl;have hS:Far (fun k=>k=g) w:=fun k C _=>by subst C;exact⟨_,_,hb,cu _ _⟩
 refine⟨⟨upd f j e,?_,fun i hi=> ?_⟩,l⟩
 .rw[<-mO e B];exact bY _ _ hb
 .by_cases h:i=j
  .subst h;rw[upd_same,upd_same];exact O.mod l hS
  .rw[upd_ne h,upd_ne h];exact(J i hi).mod l hS
def Si{A B C S T g h A1 J I G j:Nat}(R:Nat.gcd (Nat.gcd C A) B=1)(hs:Nat.gcd T S=1)(W:g=Nat.gcd (Nat.gcd T A) B)(U:h=Nat.gcd C S)(N:0<g)(V:0<h)(D:T=g*j)(L:A=g*A1)(F:B=g*J)(l:C=h*I)(H:S=h*G):Nat.gcd (Nat.gcd (I*j) (A1*G)) (J*G)=1:=by
 have c1:Nat.gcd (Nat.gcd j A1) J=1:=by
  have e:Nat.gcd (Nat.gcd T A) B=g*Nat.gcd (Nat.gcd j A1) J:=by rw[D,L,F,Nat.gcd_mul_left,Nat.gcd_mul_left]
  rw[e] at W;exact Nat.eq_of_mul_eq_mul_left N aa
 have c2:Nat.gcd I G=1:=by
  have e:Nat.gcd C S=h*Nat.gcd I G:=by rw[l,H,Nat.gcd_mul_left]
  rw[e] at U;exact Nat.eq_of_mul_eq_mul_left V aa
 have M:Nat.Coprime (Nat.gcd A1 J) j:=by
  show Nat.gcd (Nat.gcd A1 J) j=1;rw[Nat.gcd_comm,<-Nat.gcd_assoc];exact c1
 have O:Nat.Coprime (Nat.gcd A1 J) I:=by
  have K:Nat.gcd (Nat.gcd A1 J) I∣Nat.gcd (Nat.gcd C A) B:=by
   refine Nat.dvd_gcd (Nat.dvd_gcd ?_ ?_) ?_
   .rw[l];exact Nat.dvd_trans (Nat.gcd_dvd_right _ _) ⟨h,Nat.mul_comm _ _⟩
   .rw[L];exact Nat.dvd_trans (Nat.dvd_trans (Nat.gcd_dvd_left _ _) (Nat.gcd_dvd_left _ _)) ⟨g,Nat.mul_comm _ _⟩
   .rw[F];exact Nat.dvd_trans (Nat.dvd_trans (Nat.gcd_dvd_left _ _) (Nat.gcd_dvd_right _ _)) ⟨g,Nat.mul_comm _ _⟩
  rw[R] at K;exact Nat.dvd_one.1 K
 have P:Nat.Coprime G I:=by show Nat.gcd G I=1;rw[Nat.gcd_comm];exact c2
 have Q:Nat.Coprime G j:=by
  have K:Nat.gcd G j∣Nat.gcd T S:=by
   refine Nat.dvd_gcd ?_ ?_
   .rw[D];exact Nat.dvd_trans (Nat.gcd_dvd_right _ _) ⟨g,Nat.mul_comm _ _⟩
   .rw[H];exact Nat.dvd_trans (Nat.gcd_dvd_left _ _) ⟨h,Nat.mul_comm _ _⟩
  rw[hs] at K;exact Nat.dvd_one.1 K
 have k:Nat.Coprime (Nat.gcd A1 J*G) (I*j):=Nat.Coprime.mul_left (Nat.Coprime.mul_right O M) (Nat.Coprime.mul_right P Q);rw[Nat.gcd_assoc,Nat.gcd_mul_right,Nat.gcd_comm];exact k
def nat_eq{x y z:Int}(h:x=y*z):x.natAbs=y.natAbs*z.natAbs:=by rw[h,Int.natAbs_mul]
def K9{x y z:Int}(h:x=y*z)(J:0<x)(R:0<y):0<z:=by
 rcases Int.lt_trichotomy z 0 with j|j|j
 .have:=Int.mul_neg_of_pos_of_neg R j;omega
 .subst j;simp at h;omega
 .exact j
theorem JE(T v1 v2 P fb S sa D u v t K)(I:K<=12800)(w)(hc:Calm w T)(L:RG w v1 P fb S)(l:RG w v2 sa 0 D)(lf:Low P fb S)(B:Low sa 0 D)(sx:Sz K P fb S)(sy:Sz K sa 0 D)(E:(u,v,t)=nf (P*sa) (fb*sa) (S*D))(sz:Sz K u v t):
  CV 142 #[.pointer (some ⟨T,0,none⟩),v1,v2] w fun x w'=>RG w' x u v t:=by
 have hd:S≠0:=by have:=lf.1;omega
 have hd':D≠0:=by have:=B.1;omega
 obtain⟨g,t1,M,b1,hg,N,es,ea,J⟩:=qV (a:=D) (b:=P) (c:=fb) hd';obtain⟨h,d1,s1,z1,hh,j,Z,H,ez⟩:=qV (a:=S) (b:=sa) (c:=0) hd;have Wy:z1=0:=by
  rcases Int.mul_eq_zero.1 ez.symm with h|h
  .exact absurd h j
  .exact h
 subst Wy;have Q:g.natAbs=Nat.gcd (Nat.gcd D.natAbs P.natAbs) fb.natAbs:=by rw[hg];simp[fA]
 have U:h.natAbs=Nat.gcd S.natAbs sa.natAbs:=by rw[hh];simp[fA]
 have Wv:0<g:=by
  have:0<=g:=by rw[hg];omega
  omega
 have Wq:0<h:=by
  have:0<=h:=by rw[hh];omega
  omega
 have Ws:Nat.gcd (Nat.gcd S.natAbs P.natAbs) fb.natAbs=1:=lf.2;have Wt:Nat.gcd D.natAbs sa.natAbs=1:=by have:=B.2;unfold g3 at this;simpa using this
 have R:=Si Ws Wt Q U aa aa (nat_eq es) (nat_eq ea) (nat_eq J) (nat_eq Z) (nat_eq H);have C:=K9 Z lf.1 Wq;have YH:=K9 es B.1 Wv;have Wp:Low (M*s1) (b1*s1) (d1*t1):=⟨Int.mul_pos C YH,by unfold g3;rw[Int.natAbs_mul,Int.natAbs_mul,Int.natAbs_mul];exact R⟩;have hD:d1*t1≠0:=by have:=Wp.1;omega
 have E2:nf (P*sa) (fb*sa) (S*D)=nf (M*s1) (b1*s1) (d1*t1):=by
  refine nS (Int.mul_ne_zero hd hd') hD ?_ ?_
  .rw[ea,es,Z,H];grind
  .rw[J,es,Z,H];grind
 rw[E2,zM Wp] at E;injection E with e1 E;injection E with e2 e3;obtain⟨x1,x2,Y⟩:=sx.pW I;obtain⟨y1,y2,y3⟩:=sy.pW I;obtain⟨z1,z2,G⟩:=sz.pW I;have Wo:=fJ N ea sx.a;have F:=fJ N J sx.b;have W:=fJ N es sy.d;have V:=fJ j H sy.a;have O:=fJ j Z sx.d;have bg:g.natAbs<2^K:=xk hd' ⟨_,es⟩ sy.d;have bh:h.natAbs<2^K:=xk hd ⟨_,Z⟩ sx.d;have l0:(0:Int).natAbs<lim:=y2;exact Ap T v1 P fb S v2 sa 0 D w hc L x1 x2 Y l y1 y2 y3 g (aJ hg) (bC bg aa) h (aJ hh) (bC bh aa)
  M (aJ (fC N ea)) (bC Wo aa) (aJ N) (aJ ⟨_,ea⟩) b1 (aJ (fC N J)) (bC F aa) (aJ N) (aJ ⟨_,J⟩)
  s1 (aJ (fC j H)) (bC V aa) (aJ j) (aJ ⟨_,H⟩) 0 (aJ ag) l0 (aJ j) (aJ ⟨0,ag⟩)
  u (aJ e1) z1 0 (aJ ag) l0 u (aJ ag) z1
  0 (aJ ag) l0 v (aJ e2) z2 v (aJ ag) z2
  d1 (aJ (fC j Z)) (bC O aa) (aJ j) (aJ ⟨_,Z⟩) t1 (aJ (fC N es)) (bC W aa) (aJ N) (aJ ⟨_,es⟩)
  t (aJ e3) G (aJ (by rw[e3];exact hD)) u v t (aJ (by rw[e1,e2,e3,zM Wp])) z1 z2 G
namespace GQ
def Dy(x y:GQ):x+y=y+x:=by ext<;>simp only[bQ,bN]<;>grind
def Jy(x y z:GQ):x+y+z=x+(y+z):=by ext<;>simp only[bQ,bN]<;>grind
def oG(x y z:GQ):x*(y+z)=x*y+x*z:=by ext<;>simp only[bQ,bN,aZ,aX]<;>grind
def lD(x y z:GQ):x*(y-z)=x*y-x*z:=by ext<;>simp only[dI,dJ,aZ,aX]<;>grind
def eH(x):i 0 0*x=i 0 0:=by ext<;>simp only[dE,dB,aZ,aX]<;>grind
def bI(x):x*i 0 0=i 0 0:=by ext<;>simp only[dE,dB,aZ,aX]<;>grind
def jH(x):i 1 0*x=x:=by ext<;>simp only[dE,dB,aZ,aX]<;>grind
def nY(x):x*i 1 0=x:=by ext<;>simp only[dE,dB,aZ,aX]<;>grind
def eu(x):x-i 0 0=x:=by ext<;>simp only[dE,dB,dI,dJ]<;>grind
def Mq(x):i 0 0-x= -x:=by ext<;>simp only[dE,dB,dI,dJ,ky,ku]<;>grind
def qx(x):x-x=i 0 0:=by ext<;>simp only[dE,dB,dI,dJ]<;>grind
def add_zero'(x):x+i 0 0=x:=by ext<;>simp only[dE,dB,bQ,bN]<;>grind
def Il{x y}(h:x+y=i 0 0):x= -y:=by
 have l:=congrArg GQ.re h;have j:=congrArg GQ.im h;simp only[bQ,bN,dE,dB] at l j;ext<;>simp only[ky,ku]<;>grind
def GX{x}(h:x+x=i 0 0):x=i 0 0:=by
 have j:=congrArg GQ.re h;have l:=congrArg GQ.im h;simp only[bQ,bN,dE,dB] at j l;ext<;>simp only[dE,dB]<;>grind
theorem QQ(x y:GQ):(x*y).nrm=x.nrm*y.nrm:=by unfold nrm;simp only[aZ,aX];grind
theorem iK{x y}(J:x≠i 0 0)(R:y≠i 0 0):x*y≠i 0 0:=by
 intro h;have j:=QQ x y;rw[h] at j;have l:(i 0 0).nrm=0:=by unfold nrm;simp only[dE,dB];grind
 rw[l] at j;rcases Rat.mul_eq_zero.1 j.symm with h|h
 .exact Ay J h
 .exact Ay R h
end GQ
def bU (v:Nat->GQ) (D:List Nat->GQ):List Nat->GQ
 |[]=>GQ.i 0 0
 |c::cs=>v c*D cs-bU v (fun l=>D (c::l)) cs
def det:List (Nat->GQ)->List Nat->GQ
 |[],_=>GQ.i 1 0
 |v::R,cs=>bU v (det R) cs
def Bo(v a):∀(cs:List Nat) (D E:List Nat->GQ),bU v (fun l=>a*D l-E l) cs=a*bU v D cs-bU v E cs
 |[],D,E=>by simp only[bU,GQ.bI,GQ.eu]
 |c::cs,D,E=>by
  simp only[bU,Bo v a cs];ext<;>simp only[GQ.dI,GQ.dJ,GQ.aZ,GQ.aX]<;>grind
def vz(v u f):∀(cs:List Nat) (D:List Nat->GQ),bU (fun c=>v c-f*u c) D cs=bU v D cs-f*bU u D cs
 |[],D=>by simp only[bU,GQ.bI,GQ.eu]
 |c::cs,D=>by
  simp only[bU,vz v u f cs];ext<;>simp only[GQ.dI,GQ.dJ,GQ.aZ,GQ.aX]<;>grind
def mq(v):∀(cs:List Nat),bU v (fun _=>GQ.i 0 0) cs=GQ.i 0 0
 |[]=>rfl
 |c::cs=>by simp only[bU,mq v cs,GQ.bI,GQ.eu]
def qA(v u):∀(cs:List Nat) (D:List Nat->GQ),bU v (bU u D) cs+bU u (bU v D) cs=GQ.i 0 0
 |[],D=>by simp only[bU,GQ.add_zero']
 |c::cs,D=>by
  have B:=qA v u cs (fun l=>D (c::l));have G:bU v (fun l=>bU u D (c::l)) cs=u c*bU v D cs-bU v (bU u (fun l=>D (c::l))) cs:=by
   rw[<-Bo];rfl
  have C:bU u (fun l=>bU v D (c::l)) cs=v c*bU u D cs-bU u (bU v (fun l=>D (c::l))) cs:=by
   rw[<-Bo];rfl
  have F:bU v (bU u D) (c::cs)=v c*bU u D cs-bU v (fun l=>bU u D (c::l)) cs:=rfl;have j:bU u (bU v D) (c::cs)=u c*bU v D cs-bU u (fun l=>bU v D (c::l)) cs:=rfl;rw[F,j,G,C];have i1:=congrArg GQ.re B;have Q:=congrArg GQ.im B;simp only[GQ.bQ,GQ.bN,GQ.dE,GQ.dB] at i1 Q;ext<;>simp only[GQ.bQ,GQ.bN,GQ.dI,GQ.dJ,GQ.aZ,GQ.aX,GQ.dE,GQ.dB]<;>grind
def vg(v u R cs):det (v::u::R) cs= -det (u::v::R) cs:=by
 have h:=qA v u cs (det R);exact GQ.Il h
def qD(v):∀(R:List (Nat->GQ)) (cs:List Nat),v∈R->det (v::R) cs=GQ.i 0 0
 |[],_,h=>by cases h
 |u::R,cs,h=>by
  by_cases e:v=u
  .subst e;apply GQ.GX;exact qA v v cs (det R)
  .have B:v∈R:=by
    rcases List.mem_cons.1 h with h|h
    .exact absurd h e
    .exact h
   rw[vg];have j:det (v::R)=fun _=>GQ.i 0 0:=funext fun l=>qD v R l B;show-bU u (det (v::R)) cs=_;rw[j,mq];ext<;>simp only[GQ.ky,GQ.ku,GQ.dE,GQ.dB]<;>grind
def Says (x a:Nat->GQ) (P:List (Nat->GQ)):Prop:=∀cs,det (x::P) cs=det (a::P) cs
def Says.refl(a P):Says a a P:=fun _=>rfl
def Says.more{x a b P}(h:Says x a P):Says x a (b::P):=by
 intro cs;rw[vg,vg a];have:det (x::P)=det (a::P):=funext h;show-bU b (det (x::P)) cs= -bU b (det (a::P)) cs;rw[this]
def Says.step{x y a b P}(J:Says x a P)(R:Says y b P)(f):Says (fun c=>x c-f*y c) a (b::P):=by
 intro cs;have j:det ((fun c=>x c-f*y c)::b::P) cs=det (x::b::P) cs-f*det (y::b::P) cs:=vz x y f cs (det (b::P));rw[j,J.more cs,R.more cs,qD b (b::P) cs (List.mem_cons_self),GQ.bI,GQ.eu]
def lW{x}:∀(cs:List Nat) (D:List Nat->GQ),(∀c∈cs,x c=GQ.i 0 0)->bU x D cs=GQ.i 0 0
 |[],_,_=>rfl
 |c::cs,D,h=>by
  show x c*D cs-bU x (fun l=>D (c::l)) cs=_;rw[h c (List.mem_cons_self),lW cs _ (fun d hd=>h d (List.mem_cons_of_mem _ hd)),GQ.eH,GQ.eu]
def Says.entry{x a P q}(h:Says x a P)(C:∀c∈q,x c=GQ.i 0 0)(j):det (a::P) (j::q)=x j*det P q:=by
 rw[<-h];show x j*det P q-bU x _ q=_;rw[lW q _ C,GQ.eu]

def Wh (x:GQ) (B:Nat):Prop:=∃a b:Int,x=GQ.i a b/\a.natAbs+b.natAbs<=B
def Wh.mono{x B C}(h:Wh x B)(l:B<=C):Wh x C:=by
 obtain⟨a,b,e,h⟩:=h;exact⟨a,b,e,aa⟩
def Wh.mul{x y B C}(J:Wh x B)(R:Wh y C):Wh (x*y) (B*C):=by
 obtain⟨a,b,rfl,h⟩:=J;obtain⟨c,d,rfl,k⟩:=R;refine⟨a*c-b*d,a*d+b*c,?_,?_⟩
 .ext<;>simp only[GQ.aZ,GQ.aX,GQ.dE,GQ.dB,Rat.intCast_sub,Rat.intCast_add,Rat.intCast_mul]
 .have l:=Int.natAbs_sub_le (a*c) (b*d);have j:=Int.natAbs_add_le (a*d) (b*c);have D:(a.natAbs+b.natAbs)*(c.natAbs+d.natAbs)<=B*C:=Nat.mul_le_mul h k;have F:(a.natAbs+b.natAbs)*(c.natAbs+d.natAbs)=a.natAbs*c.natAbs+b.natAbs*d.natAbs+(a.natAbs*d.natAbs+b.natAbs*c.natAbs):=by
   exact Acv
  rw[Int.natAbs_mul,Int.natAbs_mul] at l j;omega
def Wh.sub{x y B C}(J:Wh x B)(R:Wh y C):Wh (x-y) (B+C):=by
 obtain⟨a,b,rfl,h⟩:=J;obtain⟨c,d,rfl,k⟩:=R;refine⟨a-c,b-d,?_,?_⟩
 .ext<;>simp only[GQ.dI,GQ.dJ,GQ.dE,GQ.dB,Rat.intCast_sub]
 .have l:=Int.natAbs_sub_le a c;have j:=Int.natAbs_sub_le b d;omega
def uJ:Wh (GQ.i 1 0) 1:=⟨1,0,rfl,ag⟩
def gL(B):Wh (GQ.i 0 0) B:=⟨0,0,rfl,ag⟩
def fct:Nat->Nat
 |0=>1
 |n+1=>(n+1)*fct n
def qW{x}(s):∀(cs:List Nat) (D:List Nat->GQ),bU (fun c=>s*x c) D cs=s*bU x D cs
 |[],_=>(GQ.bI s).symm
 |c::cs,D=>by
  show s*x c*D cs-bU (fun c=>s*x c) (fun l=>D (c::l)) cs=s*(x c*D cs-bU x (fun l=>D (c::l)) cs);rw[qW s cs,GQ.lD,GQ.bW]
def jM{x}(s):∀(cs:List Nat) (D:List Nat->GQ),bU x (fun l=>s*D l) cs=s*bU x D cs
 |[],_=>(GQ.bI s).symm
 |c::cs,D=>by
  show x c*(s*D cs)-bU x (fun l=>s*D (c::l)) cs=s*(x c*D cs-bU x (fun l=>D (c::l)) cs);rw[jM s cs,GQ.lD,<-GQ.bW,GQ.dW (x c) s,GQ.bW]
def St.swap{w W a b bs fs}(h:St w W (a::b::bs) fs):St w W (b::a::bs) fs:=
 ⟨h.ext,fun p hp=>h.blks p (by simp at hp⊢;rcases hp with e|e|e<;>simp[e]),⟨⟨fun e=>h.nd.1.1 e.symm,h.nd.2.1⟩,h.nd.1.2,h.nd.2.2⟩,h.nums⟩
def QH(v0)(q0:PQ)(n0:Nat)(m1:Int)(K r:Nat)(w)(WA:PV w v0 q0 n0)(l1: -9223372036854775808<=m1)(u1:m1<=9223372036854775807)(T:Hid (m1%12=(K:Int)))(Q:Hid (K=3*r+0))(hr:r<=3)(hn:2*n0+65<=12800):
  CV 132 #[v0,.int .i64 m1] w fun v w'=>(∃u,v=.tuple #[u,.int .i64 0]/\PV w' u (⟨q0.u*GQ.ip r,q0.v*GQ.ip r⟩) (n0)):=by
 have hS:=St.start w;obtain⟨Xf,Xe,Xc,YV,YP,YU,WA,XJ,XH,XK,XI⟩:=WA;obtain⟨C,L,Z,P,D,W,U,Y,G,H,S,V,WR,Xa,WV,WT,WX,WU,WS,WZ,N,WY,WW,W9,rfl,WJ,WH,WI,XC,XB,XD⟩:=WA;replace hS:=hS.aU WJ;clear WJ;replace hS:=hS.aU WH;clear WH;replace hS:=hS.aU WI;clear WI;replace hS:=hS.aU XC;clear XC;replace hS:=hS.aU XB;clear XB;replace hS:=hS.aU XD;clear XD;have ZP:=Jn T.o;have e3:(K:Int).tmod 3=0:=by rw[Q.o,Int.tmod_eq_emod_of_nonneg aa];omega
 have e4:(K:Int).tdiv 3=(r:Int):=by rw[Q.o,Int.tdiv_eq_ediv_of_nonneg aa];omega
 have l:=(St.al (St.al hS 44 #[.bool C,.slice L Z P,.bool D,.slice W U Y,.bool G,.slice H S V,.bool WR,.slice Xa WV WT,.bool WX,.slice WU WS WZ,.bool N,.slice WY WW W9] (g:=w.heap.size) ag) 44 #[.bool false,.slice none 0 0,.bool false,.slice none 0 0,.bool false,.slice none 0 0,.bool false,.slice none 0 0,.bool false,.slice none 0 0,.bool false,.slice none 0 0] (g:=(w.heap.size+1)) ag);have WC:=(l.aH 1).cell;go_enter Tryz.func132,Tryz.ntmps132;(go_wp2_with fail);clear WC;clear l;refine gA3 hS 44 #[.bool C,.slice L Z P,.bool D,.slice W U Y,.bool G,.slice H S V,.bool WR,.slice Xa WV WT,.bool WX,.slice WU WS WZ,.bool N,.slice WY WW W9] 44 #[.bool false,.slice none 0 0,.bool false,.slice none 0 0,.bool false,.slice none 0 0,.bool false,.slice none 0 0,.bool false,.slice none 0 0,.bool false,.slice none 0 0] 42 #[.bool C,.slice L Z P,.bool D,.slice W U Y,.bool G,.slice H S V,.bool WR,.slice Xa WV WT,.bool WX,.slice WU WS WZ,.bool N,.slice WY WW W9] ?_;clear hS;intro w1 g2 o2 g4 o4 XR Zw hS;refine(jI XR q0.u q0.v n0 n0 _ (hS.aH 0) ⟨_,_,_,RG.mk (hS.aF 5) (hS.aF 4) (hS.aF 3),XJ,XH⟩ aa ⟨_,_,_,RG.mk (hS.aF 2) (hS.aF 1) (hS.aF 0),XK,XI⟩ aa).mono ?_;rintro e w2 ⟨rfl,F⟩;replace hS:=hS.mv F;clear F;(go_wp2_with fail);refine gA1 hS 197 #[.int .i64 0] ?_;clear hS;intro w3 g6 o6 hS;have WB:=(hS.aH 3).cell;have XE:=(hS.aH 3).lt;go_region;clear WB XE;have o7:Own w w3.heap.size:=Own.of hS.ext ag;have o8:Own w (w3.heap.size+1):=Own.of hS.ext ag;replace hS:=((hS.al 42 #[.bool C,.slice L Z P,.bool D,.slice W U Y,.bool G,.slice H S V] (g:=w3.heap.size) rfl).al 42 #[.bool WR,.slice Xa WV WT,.bool WX,.slice WU WS WZ,.bool N,.slice WY WW W9] (g:=w3.heap.size+1) ag).mv ((Ext.refl _).drew);generalize ((w3.alloc (.cells #[.bool C,.slice L Z P,.bool D,.slice W U Y,.bool G,.slice H S V] 42)).alloc (.cells #[.bool WR,.slice Xa WV WT,.bool WX,.slice WU WS WZ,.bool N,.slice WY WW W9] 42)).drew=w4 at hS⊢;generalize w3.heap.size+1=g8 at hS o8⊢;generalize w3.heap.size=g7 at hS o7⊢
 rotate_left 1
 clear WB XE;have o8:Own w w3.heap.size:=Own.of hS.ext ag;have o7:Own w (w3.heap.size+1):=Own.of hS.ext ag;replace hS:=((hS.al 42 #[.bool WR,.slice Xa WV WT,.bool WX,.slice WU WS WZ,.bool N,.slice WY WW W9] (g:=w3.heap.size) rfl).al 42 #[.bool C,.slice L Z P,.bool D,.slice W U Y,.bool G,.slice H S V] (g:=w3.heap.size+1) ag).mv ((Ext.refl _).drew);replace hS:=St.swap hS;generalize ((w3.alloc (.cells #[.bool WR,.slice Xa WV WT,.bool WX,.slice WU WS WZ,.bool N,.slice WY WW W9] 42)).alloc (.cells #[.bool C,.slice L Z P,.bool D,.slice W U Y,.bool G,.slice H S V] 42)).drew=w4 at hS⊢;generalize w3.heap.size+1=g7 at hS o7⊢;generalize w3.heap.size=g8 at hS o8⊢
 rotate_left 1
 all_goals
  have WK:=(hS.aH 2).cell;(go_wp2_with fail);clear WK;obtain⟨Wu,Wq,Wt,X3⟩:=fV (q0.u*GQ.ip r);have YW:Sz (n0) Wu Wq Wt:=(Bd.rot ⟨_,_,_,XJ,XH⟩ r).sz X3;obtain⟨Ws,Wo,Wp,X5⟩:=fV (q0.v*GQ.ip r);have YX:Sz (n0) Ws Wo Wp:=(Bd.rot ⟨_,_,_,XK,XI⟩ r).sz X5;have Y8:=aK.blk (hS.aH 0);have Y7:=aK.blk (hS.aH 1);have B:=hS.ext;refine tF 11 [(3,.rg (Wu) (Wq) (Wt)),(7,.rg (Ws) (Wo) (Wp)),(8,.retp (Wu) (Wq) (Wt) (Ws) (Wo) (Wp) 0)] ?_;refine Qs ?_;refine Eg (fun R I=>mi (gV g6 _ q0.u (n0) r ((r:Int)) _ rfl (Blk.ext (hS.aH 2) I.1) ⟨_,_,_,RG.mk (hS.aD 5 I.1) (hS.aD 4 I.1) (hS.aD 3 I.1),XJ,XH⟩ aa aa) X3) ?_;intro Xh Wv WO Xi Xg WG Xr Xu Xk WL Xp WN Xy Xx;refine Qs ?_;refine Eg (fun R I=>mi (gV g6 _ q0.v (n0) r ((r:Int)) _ rfl (Blk.ext (hS.aH 2) I.1) ⟨_,_,_,RG.mk (hS.aD 2 I.1) (hS.aD 1 I.1) (hS.aD 0 I.1),XK,XI⟩ aa aa) X5) ?_;intro Xt Ww Xw Xv Xm Wy Xn Xo Xl WF Xq Xj XA Xz;refine eQ rf rf rf ?_ ?_
  .intro R I;have hW:=I.1;have XO:RI R (iv Xh Wv WO Xi) Wu:=RG.at1 (I.2 3 ((gv Xh Wv WO Xi Xg WG Xr Xu Xk WL Xp WN),Xy,Xx) rf ah);have XL:RI R (iv Xg WG Xr Xu) Wq:=RG.at2 (I.2 3 ((gv Xh Wv WO Xi Xg WG Xr Xu Xk WL Xp WN),Xy,Xx) rf ah);have XP:RI R (iv Xk WL Xp WN) Wt:=RG.at3 (I.2 3 ((gv Xh Wv WO Xi Xg WG Xr Xu Xk WL Xp WN),Xy,Xx) rf ah);have XQ:RI R (iv Xt Ww Xw Xv) Ws:=RG.at1 (I.2 7 ((gv Xt Ww Xw Xv Xm Wy Xn Xo Xl WF Xq Xj),XA,Xz) rf ah);have XM:RI R (iv Xm Wy Xn Xo) Wo:=RG.at2 (I.2 7 ((gv Xt Ww Xw Xv Xm Wy Xn Xo Xl WF Xq Xj),XA,Xz) rf ah);have XN:RI R (iv Xl WF Xq Xj) Wp:=RG.at3 (I.2 7 ((gv Xt Ww Xw Xv Xm Wy Xn Xo Xl WF Xq Xj),XA,Xz) rf ah);clear I;go_simp;exact⟨rfl,(wZ g6 _ Wu Wq Wt _ Ws Wo Wp _ (Blk.ext (hS.aH 2) hW) (RG.mk XO XL XP) (RG.mk XQ XM XN)).mono fun e w' ⟨v,O,hR,J⟩=>⟨v,O,J,hR⟩⟩
  intro v_ Ye Yi WE;obtain⟨R,Wx⟩:=WE;have M:Fc.holds (.retp (Wu) (Wq) (Wt) (Ws) (Wo) (Wp) 0) Ye Yi v_ R:=Wx.get;clear Wx;obtain⟨_,rfl,Yn,X7,Yb,Yt,Yu,XX,Yj,Yh,Yk,X4,Yl,Yg,Yc,XY,Yp,Yv,X9,X6,Yq,Ym,Ya,XZ,Yo,Yr,rfl,-,-,-,-,-,-⟩:=M;clear R;refine Qp ?_;refine Qs ?_;refine bE ?_;intro w5 I;have j:=hS.lt;replace hS:=hS.mv I.ext;replace hS:=hS.aG I 3;replace hS:=hS.aG I 7;replace hS:=hS.aP I 8;clear I j B Y8 Y7;have WM:=(hS.aH 4).cell;have WQ:=(hS.aH 4).frozen;go_wp2;replace hS:=hS.pt 4 0 [.bool Yn,.slice X7 Yb Yt,.bool Yu,.slice XX Yj Yh,.bool Yk,.slice X4 Yl Yg,.bool Yc,.slice XY Yp Yv,.bool X9,.slice X6 Yq Ym,.bool Ya,.slice XZ Yo Yr] o4;exact qO rfl rfl rfl (hS.aH 4) ⟨_,rfl,⟨_,rfl,⟨_,_,_,_,_,_,RP.mk (hS.aF 5) (hS.aF 4) (hS.aF 3) (hS.aF 2) (hS.aF 1) (hS.aF 0),X3,YW,X5,YX⟩⟩,hS.ext⟩
def SY(v0)(q0:PQ)(n0:Nat)(m1:Int)(K r:Nat)(w)(WA:PV w v0 q0 n0)(l1: -9223372036854775808<=m1)(u1:m1<=9223372036854775807)(T:Hid (m1%12=(K:Int)))(Q:Hid (K=3*r+1))(hr:r<=3)(hn:2*n0+65<=12800):
  CV 132 #[v0,.int .i64 m1] w fun v w'=>(∃u,v=.tuple #[u,.int .i64 0]/\PV w' u (⟨GQ.bM 1 (q0.u*GQ.ip 1) 3 q0.v 2*GQ.ip r,GQ.bM 1 q0.u 1 (q0.v*GQ.ip 1) 2*GQ.ip r⟩) (n0+n0+65)):=by
 have hS:=St.start w;obtain⟨Xf,Xe,Xc,YV,YP,YU,WA,XJ,XH,XK,XI⟩:=WA;obtain⟨C,L,Z,P,D,W,U,Y,G,H,S,V,WR,Xa,WV,WT,WX,WU,WS,WZ,N,WY,WW,W9,rfl,WJ,WH,WI,XC,XB,XD⟩:=WA;replace hS:=hS.aU WJ;clear WJ;replace hS:=hS.aU WH;clear WH;replace hS:=hS.aU WI;clear WI;replace hS:=hS.aU XC;clear XC;replace hS:=hS.aU XB;clear XB;replace hS:=hS.aU XD;clear XD;have ZP:=Jn T.o;have e3:(K:Int).tmod 3=1:=by rw[Q.o,Int.tmod_eq_emod_of_nonneg aa];omega
 have e4:(K:Int).tdiv 3=(r:Int):=by rw[Q.o,Int.tdiv_eq_ediv_of_nonneg aa];omega
 have l:=(St.al (St.al hS 44 #[.bool C,.slice L Z P,.bool D,.slice W U Y,.bool G,.slice H S V,.bool WR,.slice Xa WV WT,.bool WX,.slice WU WS WZ,.bool N,.slice WY WW W9] (g:=w.heap.size) ag) 44 #[.bool false,.slice none 0 0,.bool false,.slice none 0 0,.bool false,.slice none 0 0,.bool false,.slice none 0 0,.bool false,.slice none 0 0,.bool false,.slice none 0 0] (g:=(w.heap.size+1)) ag);have WC:=(l.aH 1).cell;go_enter Tryz.func132,Tryz.ntmps132;(go_wp2_with fail);clear WC;clear l;refine gA3 hS 44 #[.bool C,.slice L Z P,.bool D,.slice W U Y,.bool G,.slice H S V,.bool WR,.slice Xa WV WT,.bool WX,.slice WU WS WZ,.bool N,.slice WY WW W9] 44 #[.bool false,.slice none 0 0,.bool false,.slice none 0 0,.bool false,.slice none 0 0,.bool false,.slice none 0 0,.bool false,.slice none 0 0,.bool false,.slice none 0 0] 42 #[.bool C,.slice L Z P,.bool D,.slice W U Y,.bool G,.slice H S V,.bool WR,.slice Xa WV WT,.bool WX,.slice WU WS WZ,.bool N,.slice WY WW W9] ?_;clear hS;intro w1 g2 o2 g4 o4 XR Zw hS;refine(jI XR q0.u q0.v n0 n0 _ (hS.aH 0) ⟨_,_,_,RG.mk (hS.aF 5) (hS.aF 4) (hS.aF 3),XJ,XH⟩ aa ⟨_,_,_,RG.mk (hS.aF 2) (hS.aF 1) (hS.aF 0),XK,XI⟩ aa).mono ?_;rintro e w2 ⟨rfl,F⟩;replace hS:=hS.mv F;clear F;(go_wp2_with fail);refine gA1 hS 197 #[.int .i64 0] ?_;clear hS;intro w3 g6 o6 hS;have WB:=(hS.aH 3).cell;have XE:=(hS.aH 3).lt;go_region;clear WB XE;have o7:Own w w3.heap.size:=Own.of hS.ext ag;have o8:Own w (w3.heap.size+1):=Own.of hS.ext ag;replace hS:=((hS.al 42 #[.bool C,.slice L Z P,.bool D,.slice W U Y,.bool G,.slice H S V] (g:=w3.heap.size) rfl).al 42 #[.bool WR,.slice Xa WV WT,.bool WX,.slice WU WS WZ,.bool N,.slice WY WW W9] (g:=w3.heap.size+1) ag).mv ((Ext.refl _).drew);generalize ((w3.alloc (.cells #[.bool C,.slice L Z P,.bool D,.slice W U Y,.bool G,.slice H S V] 42)).alloc (.cells #[.bool WR,.slice Xa WV WT,.bool WX,.slice WU WS WZ,.bool N,.slice WY WW W9] 42)).drew=w4 at hS⊢;generalize w3.heap.size+1=g8 at hS o8⊢;generalize w3.heap.size=g7 at hS o7⊢
 rotate_left 1
 clear WB XE;have o8:Own w w3.heap.size:=Own.of hS.ext ag;have o7:Own w (w3.heap.size+1):=Own.of hS.ext ag;replace hS:=((hS.al 42 #[.bool WR,.slice Xa WV WT,.bool WX,.slice WU WS WZ,.bool N,.slice WY WW W9] (g:=w3.heap.size) rfl).al 42 #[.bool C,.slice L Z P,.bool D,.slice W U Y,.bool G,.slice H S V] (g:=w3.heap.size+1) ag).mv ((Ext.refl _).drew);replace hS:=St.swap hS;generalize ((w3.alloc (.cells #[.bool WR,.slice Xa WV WT,.bool WX,.slice WU WS WZ,.bool N,.slice WY WW W9] 42)).alloc (.cells #[.bool C,.slice L Z P,.bool D,.slice W U Y,.bool G,.slice H S V] 42)).drew=w4 at hS⊢;generalize w3.heap.size+1=g7 at hS o7⊢;generalize w3.heap.size=g8 at hS o8⊢
 rotate_left 1
 all_goals
  (go_wp2_with fail);obtain⟨ZB,ZC,Zv,Zq⟩:=fV (q0.u*GQ.ip 1);have ZI:Sz (n0) ZB ZC Zv:=(Bd.rot ⟨_,_,_,XJ,XH⟩ 1).sz Zq;obtain⟨ZA,ZF,Zz,Zt⟩:=fV (GQ.bM (1) (q0.u*GQ.ip 1) (3) q0.v (2));have ZG:Sz (n0+n0+65) ZA ZF Zz:=(Bd.bM (m:=2) ⟨_,_,_,Zq,ZI⟩ ⟨_,_,_,XK,XI⟩ aa aa aa aa aa aa aa).sz Zt;obtain⟨Zy,Zx,ZE,Zr⟩:=fV (q0.v*GQ.ip 1);have ZH:Sz (n0) Zy Zx ZE:=(Bd.rot ⟨_,_,_,XK,XI⟩ 1).sz Zr;obtain⟨YI,YG,YH,X8⟩:=fV (GQ.bM (1) q0.u (1) (q0.v*GQ.ip 1) (2));have av:Sz (n0+n0+65) YI YG YH:=(Bd.bM (m:=2) ⟨_,_,_,XJ,XH⟩ ⟨_,_,_,Zr,ZH⟩ aa aa aa aa aa aa aa).sz X8;have Y2:=aK.blk (hS.aH 5);have B:=hS.ext;refine tF 12 [(2,.rg (ZB) (ZC) (Zv)),(5,.rg (ZA) (ZF) (Zz)),(10,.rg (Zy) (Zx) (ZE)),(11,.rg (YI) (YG) (YH))] ?_;refine Qs ?_;refine Eg (fun R I=>mi (gV g6 _ q0.u (n0) 1 (1) _ rfl (Blk.ext (hS.aH 2) I.1) ⟨_,_,_,RG.mk (hS.aD 5 I.1) (hS.aD 4 I.1) (hS.aD 3 I.1),XJ,XH⟩ aa aa) Zq) ?_;intro YO Yw Zp Zg Zc YB Zl YN YY YE YJ Zi XV XW;refine Qs ?_;refine Eg (fun R I=>mi (ji g6 _ _ (q0.u*GQ.ip 1) q0.v (1) (3) (2) _ _ _ (Blk.ext (hS.aH 2) I.1) ⟨_,_,_,RG.mk (RG.at1 (I.f 2 ((gv YO Yw Zp Zg Zc YB Zl YN YY YE YJ Zi),XV,XW))) (RG.at2 (I.f 2 ((gv YO Yw Zp Zg Zc YB Zl YN YY YE YJ Zi),XV,XW))) (RG.at3 (I.f 2 ((gv YO Yw Zp Zg Zc YB Zl YN YY YE YJ Zi),XV,XW))),Zq,ZI⟩ ⟨_,_,_,RG.mk (hS.aD 2 I.1) (hS.aD 1 I.1) (hS.aD 0 I.1),XK,XI⟩ aa aa aa aa aa aa aa aa) Zt) ?_;intro Zj Yx YR Zn Zd YA YT Zm YM Yz YZ Zh ZL ZM;refine Qs ?_;refine Eg (fun R I=>mi (gV g6 _ q0.v (n0) 1 (1) _ rfl (Blk.ext (hS.aH 2) I.1) ⟨_,_,_,RG.mk (hS.aD 2 I.1) (hS.aD 1 I.1) (hS.aD 0 I.1),XK,XI⟩ aa aa) Zr) ?_;intro YQ Yy YS Zk Zf Yf Ze Za Zo YD YL YK XT XU;refine Eg (fun R I=>mi (ji g6 _ _ q0.u (q0.v*GQ.ip 1) (1) (1) (2) _ _ _ (Blk.ext (hS.aH 2) I.1) ⟨_,_,_,RG.mk (hS.aD 5 I.1) (hS.aD 4 I.1) (hS.aD 3 I.1),XJ,XH⟩ ⟨_,_,_,RG.mk (RG.at1 (I.f 10 ((gv YQ Yy YS Zk Zf Yf Ze Za Zo YD YL YK),XT,XU))) (RG.at2 (I.f 10 ((gv YQ Yy YS Zk Zf Yf Ze Za Zo YD YL YK),XT,XU))) (RG.at3 (I.f 10 ((gv YQ Yy YS Zk Zf Yf Ze Za Zo YD YL YK),XT,XU))),Zr,ZH⟩ aa aa aa aa aa aa aa aa) X8) ?_;intro aq YF ac af ai YC am ao ad Yd ar ap ZK ZJ;refine bE ?_;intro w5 I;have j:=hS.lt;replace hS:=hS.mv I.ext;replace hS:=hS.aG I 2;replace hS:=hS.aG I 5;replace hS:=hS.aG I 10;replace hS:=hS.aG I 11;clear I j B Y2;have WK:=(hS.aH 1).cell;have WM:=(hS.aH 1).frozen;have Wz:=hS.pt 1 0 [.bool Zj,.slice Yx YR Zn,.bool Zd,.slice YA YT Zm,.bool YM,.slice Yz YZ Zh] o7;have WQ:=(Wz.aH 0).cell;have Xb:=(Wz.aH 0).frozen;have WP:=(hS.pt 1 0 [.bool Zj,.slice Yx YR Zn,.bool Zd,.slice YA YT Zm,.bool YM,.slice Yz YZ Zh] o7).pt 0 0 [.bool aq,.slice YF ac af,.bool ai,.slice YC am ao,.bool ad,.slice Yd ar ap] o8;have Xd:=(WP.aH 2).cell;(go_wp2_with fail);clear WK WM WQ Xb Xd;clear Wz WP;replace hS:=(hS.pt 1 0 [.bool Zj,.slice Yx YR Zn,.bool Zd,.slice YA YT Zm,.bool YM,.slice Yz YZ Zh] o7).pt 0 0 [.bool aq,.slice YF ac af,.bool ai,.slice YC am ao,.bool ad,.slice Yd ar ap] o8;refine gW hS ?_;clear hS;intro w6 hS;obtain⟨Wu,Wq,Wt,X3⟩:=fV ((GQ.bM (1) (q0.u*GQ.ip 1) (3) q0.v (2))*GQ.ip r);have YW:Sz (n0+n0+65) Wu Wq Wt:=(Bd.rot ⟨_,_,_,Zt,ZG⟩ r).sz X3;obtain⟨Ws,Wo,Wp,X5⟩:=fV ((GQ.bM (1) q0.u (1) (q0.v*GQ.ip 1) (2))*GQ.ip r);have YX:Sz (n0+n0+65) Ws Wo Wp:=(Bd.rot ⟨_,_,_,X8,av⟩ r).sz X5;have Y8:=aK.blk (hS.aH 0);have Y7:=aK.blk (hS.aH 1);have B:=hS.ext;refine tF 11 [(3,.rg (Wu) (Wq) (Wt)),(7,.rg (Ws) (Wo) (Wp)),(8,.retp (Wu) (Wq) (Wt) (Ws) (Wo) (Wp) 0)] ?_;refine Qs ?_;refine Eg (fun R I=>mi (gV g6 _ (GQ.bM (1) (q0.u*GQ.ip 1) (3) q0.v (2)) (n0+n0+65) r ((r:Int)) _ rfl (Blk.ext (hS.aH 2) I.1) ⟨_,_,_,RG.mk (hS.aD 8 I.1) (hS.aD 7 I.1) (hS.aD 6 I.1),Zt,ZG⟩ aa aa) X3) ?_;intro Xh Wv WO Xi Xg WG Xr Xu Xk WL Xp WN Xy Xx;refine Qs ?_;refine Eg (fun R I=>mi (gV g6 _ (GQ.bM (1) q0.u (1) (q0.v*GQ.ip 1) (2)) (n0+n0+65) r ((r:Int)) _ rfl (Blk.ext (hS.aH 2) I.1) ⟨_,_,_,RG.mk (hS.aD 2 I.1) (hS.aD 1 I.1) (hS.aD 0 I.1),X8,av⟩ aa aa) X5) ?_;exact Aal
def RV(v0)(q0:PQ)(n0:Nat)(m1:Int)(K r:Nat)(w)(WA:PV w v0 q0 n0)(l1: -9223372036854775808<=m1)(u1:m1<=9223372036854775807)(T:Hid (m1%12=(K:Int)))(Q:Hid (K=3*r+2))(hr:r<=3)(hn:2*n0+65<=12800):
  CV 132 #[v0,.int .i64 m1] w fun v w'=>(∃u,v=.tuple #[u,.int .i64 0]/\PV w' u (⟨GQ.bM 1 q0.u 3 (q0.v*GQ.ip 1) 2*GQ.ip r,GQ.bM 1 (q0.u*GQ.ip 1) 1 q0.v 2*GQ.ip r⟩) (n0+n0+65)):=by
 have hS:=St.start w;obtain⟨Xf,Xe,Xc,YV,YP,YU,WA,XJ,XH,XK,XI⟩:=WA;obtain⟨C,L,Z,P,D,W,U,Y,G,H,S,V,WR,Xa,WV,WT,WX,WU,WS,WZ,N,WY,WW,W9,rfl,WJ,WH,WI,XC,XB,XD⟩:=WA;replace hS:=hS.aU WJ;clear WJ;replace hS:=hS.aU WH;clear WH;replace hS:=hS.aU WI;clear WI;replace hS:=hS.aU XC;clear XC;replace hS:=hS.aU XB;clear XB;replace hS:=hS.aU XD;clear XD;have ZP:=Jn T.o;have e3:(K:Int).tmod 3=2:=by rw[Q.o,Int.tmod_eq_emod_of_nonneg aa];omega
 have e4:(K:Int).tdiv 3=(r:Int):=by rw[Q.o,Int.tdiv_eq_ediv_of_nonneg aa];omega
 have l:=(St.al (St.al hS 44 #[.bool C,.slice L Z P,.bool D,.slice W U Y,.bool G,.slice H S V,.bool WR,.slice Xa WV WT,.bool WX,.slice WU WS WZ,.bool N,.slice WY WW W9] (g:=w.heap.size) ag) 44 #[.bool false,.slice none 0 0,.bool false,.slice none 0 0,.bool false,.slice none 0 0,.bool false,.slice none 0 0,.bool false,.slice none 0 0,.bool false,.slice none 0 0] (g:=(w.heap.size+1)) ag);have WC:=(l.aH 1).cell;go_enter Tryz.func132,Tryz.ntmps132;(go_wp2_with fail);clear WC;clear l;refine gA3 hS 44 #[.bool C,.slice L Z P,.bool D,.slice W U Y,.bool G,.slice H S V,.bool WR,.slice Xa WV WT,.bool WX,.slice WU WS WZ,.bool N,.slice WY WW W9] 44 #[.bool false,.slice none 0 0,.bool false,.slice none 0 0,.bool false,.slice none 0 0,.bool false,.slice none 0 0,.bool false,.slice none 0 0,.bool false,.slice none 0 0] 42 #[.bool C,.slice L Z P,.bool D,.slice W U Y,.bool G,.slice H S V,.bool WR,.slice Xa WV WT,.bool WX,.slice WU WS WZ,.bool N,.slice WY WW W9] ?_;clear hS;intro w1 g2 o2 g4 o4 XR Zw hS;refine(jI XR q0.u q0.v n0 n0 _ (hS.aH 0) ⟨_,_,_,RG.mk (hS.aF 5) (hS.aF 4) (hS.aF 3),XJ,XH⟩ aa ⟨_,_,_,RG.mk (hS.aF 2) (hS.aF 1) (hS.aF 0),XK,XI⟩ aa).mono ?_;rintro e w2 ⟨rfl,F⟩;replace hS:=hS.mv F;clear F;(go_wp2_with fail);refine gA1 hS 197 #[.int .i64 0] ?_;clear hS;intro w3 g6 o6 hS;have WB:=(hS.aH 3).cell;have XE:=(hS.aH 3).lt;go_region;clear WB XE;have o7:Own w w3.heap.size:=Own.of hS.ext ag;have o8:Own w (w3.heap.size+1):=Own.of hS.ext ag;replace hS:=((hS.al 42 #[.bool C,.slice L Z P,.bool D,.slice W U Y,.bool G,.slice H S V] (g:=w3.heap.size) rfl).al 42 #[.bool WR,.slice Xa WV WT,.bool WX,.slice WU WS WZ,.bool N,.slice WY WW W9] (g:=w3.heap.size+1) ag).mv ((Ext.refl _).drew);generalize ((w3.alloc (.cells #[.bool C,.slice L Z P,.bool D,.slice W U Y,.bool G,.slice H S V] 42)).alloc (.cells #[.bool WR,.slice Xa WV WT,.bool WX,.slice WU WS WZ,.bool N,.slice WY WW W9] 42)).drew=w4 at hS⊢;generalize w3.heap.size+1=g8 at hS o8⊢;generalize w3.heap.size=g7 at hS o7⊢
 rotate_left 1
 clear WB XE;have o8:Own w w3.heap.size:=Own.of hS.ext ag;have o7:Own w (w3.heap.size+1):=Own.of hS.ext ag;replace hS:=((hS.al 42 #[.bool WR,.slice Xa WV WT,.bool WX,.slice WU WS WZ,.bool N,.slice WY WW W9] (g:=w3.heap.size) rfl).al 42 #[.bool C,.slice L Z P,.bool D,.slice W U Y,.bool G,.slice H S V] (g:=w3.heap.size+1) ag).mv ((Ext.refl _).drew);replace hS:=St.swap hS;generalize ((w3.alloc (.cells #[.bool WR,.slice Xa WV WT,.bool WX,.slice WU WS WZ,.bool N,.slice WY WW W9] 42)).alloc (.cells #[.bool C,.slice L Z P,.bool D,.slice W U Y,.bool G,.slice H S V] 42)).drew=w4 at hS⊢;generalize w3.heap.size+1=g7 at hS o7⊢;generalize w3.heap.size=g8 at hS o8⊢
 rotate_left 1
 all_goals
  (go_wp2_with fail);obtain⟨ZN,ZI,ZO,Zt⟩:=fV (q0.v*GQ.ip 1);have ZT:Sz (n0) ZN ZI ZO:=(Bd.rot ⟨_,_,_,XK,XI⟩ 1).sz Zt;obtain⟨ZH,ZJ,ZG,Zq⟩:=fV (GQ.bM (1) q0.u (3) (q0.v*GQ.ip 1) (2));have ZQ:Sz (n0+n0+65) ZH ZJ ZG:=(Bd.bM (m:=2) ⟨_,_,_,XJ,XH⟩ ⟨_,_,_,Zt,ZT⟩ aa aa aa aa aa aa aa).sz Zq;obtain⟨YS,YM,YL,XV⟩:=fV (q0.u*GQ.ip 1);have ac:Sz (n0) YS YM YL:=(Bd.rot ⟨_,_,_,XJ,XH⟩ 1).sz XV;obtain⟨ZC,ZA,ZM,Zr⟩:=fV (GQ.bM (1) (q0.u*GQ.ip 1) (1) q0.v (2));have ZR:Sz (n0+n0+65) ZC ZA ZM:=(Bd.bM (m:=2) ⟨_,_,_,XV,ac⟩ ⟨_,_,_,XK,XI⟩ aa aa aa aa aa aa aa).sz Zr;have Y2:=aK.blk (hS.aH 5);have B:=hS.ext;refine tF 12 [(4,.rg (ZN) (ZI) (ZO)),(5,.rg (ZH) (ZJ) (ZG)),(8,.rg (YS) (YM) (YL)),(11,.rg (ZC) (ZA) (ZM))] ?_;refine Qs ?_;refine Eg (fun R I=>mi (gV g6 _ q0.v (n0) 1 (1) _ rfl (Blk.ext (hS.aH 2) I.1) ⟨_,_,_,RG.mk (hS.aD 2 I.1) (hS.aD 1 I.1) (hS.aD 0 I.1),XK,XI⟩ aa aa) Zt) ?_;intro Zc Yy Zn YC Zg Yw Ze Zm Zp Yx Zh YG Yf Yd;refine Eg (fun R I=>mi (ji g6 _ _ q0.u (q0.v*GQ.ip 1) (1) (3) (2) _ _ _ (Blk.ext (hS.aH 2) I.1) ⟨_,_,_,RG.mk (hS.aD 5 I.1) (hS.aD 4 I.1) (hS.aD 3 I.1),XJ,XH⟩ ⟨_,_,_,RG.mk (RG.at1 (I.f 4 ((gv Zc Yy Zn YC Zg Yw Ze Zm Zp Yx Zh YG),Yf,Yd))) (RG.at2 (I.f 4 ((gv Zc Yy Zn YC Zg Yw Ze Zm Zp Yx Zh YG),Yf,Yd))) (RG.at3 (I.f 4 ((gv Zc Yy Zn YC Zg Yw Ze Zm Zp Yx Zh YG),Yf,Yd))),Zt,ZT⟩ aa aa aa aa aa aa aa aa) Zq) ?_;intro YZ YA YF Zd YY Yz Zo YI Zi X8 Zl YH ZU ZV;refine Qs ?_;refine Eg (fun R I=>mi (gV g6 _ q0.u (n0) 1 (1) _ rfl (Blk.ext (hS.aH 2) I.1) ⟨_,_,_,RG.mk (hS.aD 5 I.1) (hS.aD 4 I.1) (hS.aD 3 I.1),XJ,XH⟩ aa aa) XV) ?_;intro YO XU YD YQ YT XW YN YK YB XT YJ YR Zk YE;refine Qs ?_;refine Eg (fun R I=>mi (ji g6 _ _ (q0.u*GQ.ip 1) q0.v (1) (1) (2) _ _ _ (Blk.ext (hS.aH 2) I.1) ⟨_,_,_,RG.mk (RG.at1 (I.f 8 ((gv YO XU YD YQ YT XW YN YK YB XT YJ YR),Zk,YE))) (RG.at2 (I.f 8 ((gv YO XU YD YQ YT XW YN YK YB XT YJ YR),Zk,YE))) (RG.at3 (I.f 8 ((gv YO XU YD YQ YT XW YN YK YB XT YJ YR),Zk,YE))),XV,ac⟩ ⟨_,_,_,RG.mk (hS.aD 2 I.1) (hS.aD 1 I.1) (hS.aD 0 I.1),XK,XI⟩ aa aa aa aa aa aa aa aa) Zr) ?_;intro ZE Zf ZF Zz ZK Za Zv Zx ZL Zj Zy ZB ZW ZX;refine bE ?_;intro w5 I;have j:=hS.lt;replace hS:=hS.mv I.ext;replace hS:=hS.aG I 4;replace hS:=hS.aG I 5;replace hS:=hS.aG I 8;replace hS:=hS.aG I 11;clear I j B Y2;have WK:=(hS.aH 1).cell;have WM:=(hS.aH 1).frozen;have Wz:=hS.pt 1 0 [.bool YZ,.slice YA YF Zd,.bool YY,.slice Yz Zo YI,.bool Zi,.slice X8 Zl YH] o7;have WQ:=(Wz.aH 0).cell;have Xb:=(Wz.aH 0).frozen;have WP:=(hS.pt 1 0 [.bool YZ,.slice YA YF Zd,.bool YY,.slice Yz Zo YI,.bool Zi,.slice X8 Zl YH] o7).pt 0 0 [.bool ZE,.slice Zf ZF Zz,.bool ZK,.slice Za Zv Zx,.bool ZL,.slice Zj Zy ZB] o8;have Xd:=(WP.aH 2).cell;(go_wp2_with fail);clear WK WM WQ Xb Xd;clear Wz WP;replace hS:=(hS.pt 1 0 [.bool YZ,.slice YA YF Zd,.bool YY,.slice Yz Zo YI,.bool Zi,.slice X8 Zl YH] o7).pt 0 0 [.bool ZE,.slice Zf ZF Zz,.bool ZK,.slice Za Zv Zx,.bool ZL,.slice Zj Zy ZB] o8;refine gW hS ?_;clear hS;intro w6 hS;obtain⟨Wu,Wq,Wt,X3⟩:=fV ((GQ.bM (1) q0.u (3) (q0.v*GQ.ip 1) (2))*GQ.ip r);have YW:Sz (n0+n0+65) Wu Wq Wt:=(Bd.rot ⟨_,_,_,Zq,ZQ⟩ r).sz X3;obtain⟨Ws,Wo,Wp,X5⟩:=fV ((GQ.bM (1) (q0.u*GQ.ip 1) (1) q0.v (2))*GQ.ip r);have YX:Sz (n0+n0+65) Ws Wo Wp:=(Bd.rot ⟨_,_,_,Zr,ZR⟩ r).sz X5;have Y8:=aK.blk (hS.aH 0);have Y7:=aK.blk (hS.aH 1);have B:=hS.ext;refine tF 11 [(3,.rg (Wu) (Wq) (Wt)),(7,.rg (Ws) (Wo) (Wp)),(8,.retp (Wu) (Wq) (Wt) (Ws) (Wo) (Wp) 0)] ?_;refine Qs ?_;refine Eg (fun R I=>mi (gV g6 _ (GQ.bM (1) q0.u (3) (q0.v*GQ.ip 1) (2)) (n0+n0+65) r ((r:Int)) _ rfl (Blk.ext (hS.aH 2) I.1) ⟨_,_,_,RG.mk (hS.aD 8 I.1) (hS.aD 7 I.1) (hS.aD 6 I.1),Zq,ZQ⟩ aa aa) X3) ?_;intro Xh Wv WO Xi Xg WG Xr Xu Xk WL Xp WN Xy Xx;refine Qs ?_;refine Eg (fun R I=>mi (gV g6 _ (GQ.bM (1) (q0.u*GQ.ip 1) (1) q0.v (2)) (n0+n0+65) r ((r:Int)) _ rfl (Blk.ext (hS.aH 2) I.1) ⟨_,_,_,RG.mk (hS.aD 2 I.1) (hS.aD 1 I.1) (hS.aD 0 I.1),Zr,ZR⟩ aa aa) X5) ?_;exact Aal
def Sl:∀r:Nat,PQ.zp (3*r)=⟨GQ.ip r,GQ.i 0 0⟩
 |0=>rfl
 |r+1=>by
  rw[Nat.mul_add,PQ.Kh,Sl r,PQ.zp3];ext<;>simp only[PQ.xZ,PQ.yA,PQ.mk4,GQ.ip,GQ.aZ,GQ.aX,GQ.bQ,GQ.bN,GQ.dE,GQ.dB]<;>grind
def Vh(p r):(⟨p.u*GQ.ip r,p.v*GQ.ip r⟩:PQ)=p*PQ.zp (3*r+0):=by
 rw[Nat.add_zero,Sl];ext<;>simp only[PQ.xZ,PQ.yA,GQ.aZ,GQ.aX,GQ.bQ,GQ.bN,GQ.dE,GQ.dB]<;>grind
def Vs(p r):(⟨GQ.bM 1 (p.u*GQ.ip 1) 3 p.v 2*GQ.ip r,GQ.bM 1 p.u 1 (p.v*GQ.ip 1) 2*GQ.ip r⟩:PQ)=p*PQ.zp (3*r+1):=by
 rw[PQ.Kh,Sl,PQ.zp1];ext<;>simp only[GQ.bM,GQ.ip,PQ.mk4,PQ.xZ,PQ.yA,GQ.aZ,GQ.aX,GQ.bQ,GQ.bN,GQ.dE,GQ.dB]<;>grind
def VD(p r):(⟨GQ.bM 1 p.u 3 (p.v*GQ.ip 1) 2*GQ.ip r,GQ.bM 1 (p.u*GQ.ip 1) 1 p.v 2*GQ.ip r⟩:PQ)=p*PQ.zp (3*r+2):=by
 rw[PQ.Kh,Sl,PQ.zp2];ext<;>simp only[GQ.bM,GQ.ip,PQ.mk4,PQ.xZ,PQ.yA,GQ.aZ,GQ.aX,GQ.bQ,GQ.bN,GQ.dE,GQ.dB]<;>grind
def PV.mono{w v p m n}(h:PV w v p m)(N:m<=n):PV w v p n:=by
 obtain⟨a,b,d,x,y,z,D,l,B,C,j⟩:=h;exact⟨a,b,d,x,y,z,D,l,B.mono N,C,j.mono N⟩
def Oj(v0 q0)(n0:Nat)(m1:Int)(K:Nat)(w)(L:PV w v0 q0 n0)(l1: -9223372036854775808<=m1)(u1:m1<=9223372036854775807)(T:m1%12=(K:Int))(hn:2*n0+65<=12800):
  CV 132 #[v0,.int .i64 m1] w fun v w'=>(∃u,v=.tuple #[u,.int .i64 0]/\PV w' u (q0*PQ.zp K) (n0+n0+65)):=by
 have I:K<12:=aa;obtain⟨r,B⟩:∃r,r=K/3:=⟨_,rfl⟩;have l:K%3=0\/K%3=1\/K%3=2:=aa;rcases l with h|h|h
 .have e:K=3*r+0:=aa;have:=QH v0 q0 n0 m1 K r w L l1 u1 (aJ T) (aJ e) aa hn;rw[Vh,<-e] at this;exact this.mono fun e w' ⟨v,O,⟨u,j,hp⟩,J⟩=>⟨v,O,⟨u,j,hp.mono aa⟩,J⟩
 .have e:K=3*r+1:=aa;have:=SY v0 q0 n0 m1 K r w L l1 u1 (aJ T) (aJ e) aa hn;rw[Vs,<-e] at this;exact this
 .have e:K=3*r+2:=aa;have:=RV v0 q0 n0 m1 K r w L l1 u1 (aJ T) (aJ e) aa hn;rw[VD,<-e] at this;exact this
def VR(m0 m1 m2 w)(l0: -9223372036854775808<=m0)(u0:m0<=9223372036854775807)(l1: -9223372036854775808<=m1)(u1:m1<=9223372036854775807)(l2: -9223372036854775808<=m2)(u2:m2<=9223372036854775807)(H0:(m2==0)=false)(l:Hid ((m2)≠0))(T H J)(Xz:Hid ((T,H,J)=nf (m0) (m1) (m2)))(C:T.natAbs<lim)(G:H.natAbs<lim)(D:J.natAbs<lim):
  CV 92 #[.int .i64 m0,.int .i64 m1,.int .i64 m2] w fun v w'=>(∃u,v=.tuple #[u,.int .i64 0]/\RG w' u T H J):=by
 have hS:=St.start w;go_enter Tryz.func92,Tryz.ntmps92;(go_wp2_with fail);refine gA2 hS 42 #[.bool false,.slice none 0 0,.bool false,.slice none 0 0,.bool false,.slice none 0 0] 197 #[.int .i64 0] ?_;clear hS;intro w1 g6 o6 g8 o8 hS;refine(AA (m0) _ l0 u0).mono ?_;rintro e w2 ⟨v_,rfl,M,F⟩;replace hS:=hS.mv F;clear F;obtain⟨Wp,Wz,WH,c13,rfl,L⟩:=RI.opn M;clear M;replace hS:=hS.aU L;clear L;(go_wp2_with fail);refine(AA (m1) _ l1 u1).mono ?_;rintro e w3 ⟨v_,rfl,M,F⟩;replace hS:=hS.mv F;clear F;obtain⟨Wv,Wt,Wx,Ww,rfl,O⟩:=RI.opn M;clear M;replace hS:=hS.aU O;clear O;(go_wp2_with fail);refine(AA (m2) _ l2 u2).mono ?_;rintro e w4 ⟨v_,rfl,M,F⟩;replace hS:=hS.mv F;clear F;obtain⟨WE,Q,Wy,WI,rfl,P⟩:=RI.opn M;clear M;replace hS:=hS.aU P;clear P;(go_wp2_with fail);refine(oL g8 _ _ _ (m0) (m1) (m2) T H J _ (hS.aH 0) (hS.aF 2) (hS.aF 1) (hS.aF 0) (iO l0 u0) (iO l1 u1) (iO l2 u2) l.o Xz.o).mono ?_;rintro e w5 ⟨v_,rfl,M,F⟩;replace hS:=hS.mv F;clear F;obtain⟨Xo,Xl,Xr,Xp,Xu,Xm,Xn,Xv,Xw,Xk,Xq,Xt,rfl,N,R,I⟩:=M;replace hS:=hS.aU N;clear N;replace hS:=hS.aU R;clear R;replace hS:=hS.aU I;clear I;(go_wp2_with fail);refine(nW g8 _ T H J _ (hS.aH 0) (RG.mk (hS.aF 2) (hS.aF 1) (hS.aF 0))).mono ?_;rintro e w6 ⟨v_,rfl,M,F⟩;replace hS:=hS.mv F;clear F;obtain⟨_,rfl,Xh,U,Xi,W9,Y,S,Xa,WZ,W,V,Xg,Z,rfl,j,K,B⟩:=M;replace hS:=hS.aU j;clear j;replace hS:=hS.aU K;clear K;replace hS:=hS.aU B;clear B;have WC:=(hS.aH 1).cell;have WB:=(hS.aH 1).frozen;go_wp2;replace hS:=hS.pt 1 0 [.bool Xh,.slice U Xi W9,.bool Y,.slice S Xa WZ,.bool W,.slice V Xg Z] o6;exact mo rfl rfl rfl (hS.aH 1) ⟨_,rfl,⟨_,rfl,RG.mk (hS.aF 2) (hS.aF 1) (hS.aF 0)⟩,hS.ext⟩
def Ms(x y):GQ.bM 1 x 1 y 1=x+y:=by
 ext<;>simp only[GQ.bM,GQ.bQ,GQ.bN]<;>grind
def MC(x y):GQ.bM 1 x (-1) y 1=x-y:=by
 ext<;>simp only[GQ.bM,GQ.dI,GQ.dJ]<;>grind
def TA(re im den w)(l0: -9223372036854775808<=re)(u0:re<=9223372036854775807)(l1: -9223372036854775808<=im)(u1:im<=9223372036854775807)(l2: -9223372036854775808<=den)(u2:den<=9223372036854775807)(hd:den≠0):
  CV 92 #[.int .i64 re,.int .i64 im,.int .i64 den] w fun v w'=>(∃u,v=.tuple #[u,.int .i64 0]/\GV w' u ⟨(re:Rat)/(den:Rat),(im:Rat)/(den:Rat)⟩ 64):=by
 obtain⟨a,b,d,E⟩:=Gz re im den;have I:=NE (a:=re) (b:=im) (d:=den) hd;rw[<-E] at I;have sz:=jh (n:=64) hd E (Bw l0 u0) (Bw l1 u1) (Bw l2 u2);obtain⟨s1,s2,s3⟩:=sz.pW aa;exact(VR re im den w l0 u0 l1 u1 l2 u2 (by simpa using hd) (aJ hd) a b d (aJ E) s1 s2 s3).mono fun e w' ⟨v,O,⟨u,j,l⟩,J⟩=>⟨v,O,⟨u,j,a,b,d,l,I,sz⟩,J⟩
def nO{D B}(h:D.natAbs<=B):Wh (GQ.i D 0) B:=⟨D,0,rfl,by simpa using h⟩
def vw{x N M F B2 n}(Q:Wh N F)(H:Wh M B2)(K:M≠GQ.i 0 0)(J:x*M=N)(U:F*B2<2^n)(S:B2*B2<2^n):Bd x n:=by
 obtain⟨a,b,rfl,D⟩:=Q;obtain⟨c,d,rfl,C⟩:=H;have G:c*c+d*d≠0:=by
  intro e;apply K;have R:0<=c*c:=oh c;have T:0<=d*d:=oh d;have P:c*c=0:=aa;have O:d*d=0:=aa;rw[(Int.mul_eq_zero.1 P).elim id id,(Int.mul_eq_zero.1 O).elim id id]
 have l:((c:Rat)*c+d*d)≠0:=by
  have:=gm G;simpa only[Rat.intCast_add,Rat.intCast_mul] using this
 have r1:=congrArg GQ.re J;have r2:=congrArg GQ.im J;simp only[GQ.aZ,GQ.aX,GQ.dE,GQ.dB] at r1 r2;have j:(a.natAbs+b.natAbs)*(c.natAbs+d.natAbs)<=F*B2:=Nat.mul_le_mul D C;have B:(c.natAbs+d.natAbs)*(c.natAbs+d.natAbs)<=B2*B2:=Nat.mul_le_mul C C;have L:(a.natAbs+b.natAbs)*(c.natAbs+d.natAbs)=a.natAbs*c.natAbs+b.natAbs*d.natAbs+(a.natAbs*d.natAbs+b.natAbs*c.natAbs):=by
  exact Acv
 have I:(c.natAbs+d.natAbs)*(c.natAbs+d.natAbs)=c.natAbs*c.natAbs+d.natAbs*d.natAbs+(c.natAbs*d.natAbs+d.natAbs*c.natAbs):=by
  exact Acv
 refine Bd.of (a:=a*c+b*d) (b:=b*c-a*d) (d:=c*c+d*d) G ?_ ?_ ⟨?_,?_,?_⟩
 .simp only[Rat.intCast_add,Rat.intCast_mul];grind
 .simp only[Rat.intCast_add,Rat.intCast_sub,Rat.intCast_mul];grind
 .have:=Int.natAbs_add_le (a*c) (b*d);exact Abu
 .have:=Int.natAbs_sub_le (b*c) (a*d);exact Abu
 .have:=Int.natAbs_add_le (c*c) (d*d);exact Abu
def room (b k:Nat):Nat:=fct (k+1)*(2^(b*(k+1)+1))^(k+1)*(2^(b*(k+1))*(fct k*(2^(b*(k+1)+1))^k))
end Go.Proofs.YtbfnfkppkmpieaaGreat
