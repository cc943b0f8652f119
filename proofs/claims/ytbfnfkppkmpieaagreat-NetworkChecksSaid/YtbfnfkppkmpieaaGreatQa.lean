import Derived.WalkKit
import Derived.WalkSpells
import Derived.WalkLawsBesides
import Derived.Lib.Hide
import Derived.Deep.QuietTactic
import Derived.BigQuiet
import Derived.Deep.AppendLies
import Derived.Deep.Draws
import Derived.Laws.OwnMore
import Derived.Laws.Rows
import Derived.KernelRfl
import Derived.Laws.BytesArg
import Derived.StillTailTactics
import Derived.OrdersHeld
import Derived.Test.YtbfnfkppkmpieaaGreatProg
import Derived.Lib.EndianBits
import Derived.Deep.CutBlock
import Derived.Deep.DeepCutAuto
import Derived.Deep.LoopGhost
import Derived.Shelf.Small.Bits
import Derived.Lib.ItoaNum
import Derived.Deep.WholeRow
import Derived.WalkMore
import Derived.Laws.CopyRow
import Derived.Deep.MidRow
import Derived.Deep.AppendSrc
import Derived.Lib.Strings
import Derived.Maps.OwnOps
import Derived.Maps.Views
import Derived.StringKeys
import Derived.Test.YtbfnfkppkmpieaaGreatChecked
import GoSem.Claim
import GoSem.ClaimJoined
import GoSem.ClaimMapViews
import Derived.JoinedTies
import Derived.Test.YtbfnfkppkmpieaaGreatRows
import Derived.ProofKit
import Derived.Lib.SmallJoins
import Derived.Deep.Slices
import Derived.Deep.Fields
import Derived.ChangeSame
import Derived.Deep.Strs
import Derived.Deep.Grids
set_option linter.unusedVariables false
set_option maxHeartbeats 25600000
set_option maxRecDepth 200000
set_option linter.defProp false
namespace Go.Proofs
open Go.Shelf
def Tryz.lays128_ren : Go.Shelf.Ren := ⟨fun | 128 => 227 | n => n, fun | 51 => 208 | 3 => 3 | 4 => 4 | 46 => 236 | 5 => 5 | 9 => 9 | n => n, fun | n => n⟩
theorem Tryz.lays128 : Go.Proofs.Lays.n128 Tryz.prog Tryz.lays128_ren := {
 mixed := by kernel_rfl
 f128 := Tryz.func227.trans (congrArg some (by kernel_rfl))
 t3 := Tryz.underlying3
 a3 := Tryz.isAgg3
 z3 := Tryz.sizeOf3
 v3 := Tryz.zeroValue3
 t4 := Tryz.underlying4
 a4 := Tryz.isAgg4
 z4 := Tryz.sizeOf4
 v4 := Tryz.zeroValue4
 t5 := Tryz.underlying5
 a5 := Tryz.isAgg5
 z5 := Tryz.sizeOf5
 v5 := Tryz.zeroValue5
 t9 := Tryz.underlying9
 a9 := Tryz.isAgg9
 z9 := Tryz.sizeOf9
 v9 := Tryz.zeroValue9
 t46 := Tryz.underlying236
 a46 := Tryz.isAgg236
 z46 := Tryz.sizeOf236
 v46 := Tryz.zeroValue236
 t51 := Tryz.underlying208
 a51 := Tryz.isAgg208
 z51 := Tryz.sizeOf208
 v51 := Tryz.zeroValue208 }
theorem Tryz.bits_Len32 (x : Int) (w : World) (h0 : 0 ≤ x) (h1 : x ≤ 4294967295) :
   Calls Tryz.prog 227 #[.int .u32 x] w fun e w' => e = .returned (.int .i64 (Lib.bitLen x.toNat)) ∧ w' = w := Any.bits_Len32 Tryz.lays128 x w h0 h1
def Tryz.lays133_ren : Go.Shelf.Ren := ⟨fun | 133 => 219 | 128 => 227 | n => n, fun | 51 => 208 | 3 => 3 | 4 => 4 | 46 => 236 | 5 => 5 | 9 => 9 | n => n, fun | n => n⟩
theorem Tryz.lays133 : Go.Proofs.Lays.n133 Tryz.prog Tryz.lays133_ren := {
 mixed := by kernel_rfl
 f128 := Tryz.func227.trans (congrArg some (by kernel_rfl))
 f133 := Tryz.func219.trans (congrArg some (by kernel_rfl))
 t3 := Tryz.underlying3
 a3 := Tryz.isAgg3
 z3 := Tryz.sizeOf3
 v3 := Tryz.zeroValue3
 t4 := Tryz.underlying4
 a4 := Tryz.isAgg4
 z4 := Tryz.sizeOf4
 v4 := Tryz.zeroValue4
 t5 := Tryz.underlying5
 a5 := Tryz.isAgg5
 z5 := Tryz.sizeOf5
 v5 := Tryz.zeroValue5
 t9 := Tryz.underlying9
 a9 := Tryz.isAgg9
 z9 := Tryz.sizeOf9
 v9 := Tryz.zeroValue9
 t46 := Tryz.underlying236
 a46 := Tryz.isAgg236
 z46 := Tryz.sizeOf236
 v46 := Tryz.zeroValue236
 t51 := Tryz.underlying208
 a51 := Tryz.isAgg208
 z51 := Tryz.sizeOf208
 v51 := Tryz.zeroValue208 }
theorem Tryz.bits_LeadingZeros32 (x : Int) (w : World) (h0 : 0 ≤ x) (h1 : x ≤ 4294967295) :
   Calls Tryz.prog 219 #[.int .u32 x] w fun e w' => e = .returned (.int .i64 (32 - (Lib.bitLen x.toNat : Int))) ∧ w' = w := Any.bits_LeadingZeros32 Tryz.lays133 x w h0 h1
end Go.Proofs
namespace Go.Proofs.YtbfnfkppkmpieaaGreat
open Go.RowKit
def aJ{p:Prop}(h:p):Hid p:=Lib.hid h
def _root_.Go.RowKit.Hid.o{p:Prop}(h:Hid p):p:=h.out
def AbL{p:Prop}(t:p:=by have:=lQ (hd.take n);rwa[List.length_take,Nat.min_eq_left aa] at this):p:=t
def Abk{p:Prop}(t:p:=by rw[Int.natAbs_mul,Int.natAbs_natCast] at this;exact this):p:=t
def AaM{p:Prop}(t:p:=by simp only[Rat.intCast_mul,Rat.intCast_add];grind):p:=t
def Acx{p:Prop}(t:p:=by rw[GQ.aZ,J.re,R.re,J.im,R.im];simp only[Rat.intCast_mul,Rat.intCast_sub];grind):p:=t
def AbB{p:Prop}(t:p:=by exact h F _ _ Y (fun _ _ h=>h) D):p:=t
def Aa7{p:Prop}(t:p:=by
 subst D;exfalso;have C:j<B.size:=by
  rcases Nat.lt_or_ge j B.size with I|I
  .exact I
  .simp[Array.getElem?_eq_none I] at T
 simp[C] at l):p:=t
def AaH{p:Prop}(t:p:=by
 rcases Nat.lt_or_ge j n with h|h
 .exact h
 .exact absurd hj (tail_waits hs hc hn inv _ i rfl M T j h)):p:=t
def AbV{p:Prop}(t:p:=by
 have WL:x≠j:=by
  rintro rfl;have Wo:x<B.size:=by
   rcases Nat.lt_or_ge x B.size with I|I
   .exact I
   .simp[Array.getElem?_eq_none I] at Q
  simp[Wo] at J
 rw[getD_set_ne true (Ne.symm WL)] at J;rcases Ww with rfl|⟨e,rfl⟩
 .exact hF x J
 .rw[Book.dL _ _ WL];exact hF x J):p:=t
def AcM{p:Prop}(t:p:=by
 refine Y k ok hk Wy ?_ Wp;by_cases WV:j=k
 .subst WV;exact Q
 .rw[getD_set_ne true WV] at Wv;exact Wv):p:=t
def Ac8{p:Prop}(t:p:=by have h1:=K e O hb;rw[Wq,getD_both T] at h1;cases h1):p:=t
def Ado{p:Prop}(t:p:=by rw[h] at hr;cases hr):p:=t
def Aa9{p:Prop}(t:p:=by
 rintro rfl;have M:x<B.size:=by
  rcases Nat.lt_or_ge x B.size with I|I
  .exact I
  .simp[Array.getElem?_eq_none I] at T
 simp[M] at J):p:=t
def Acr{p:Prop}(t:p:=by
 have:k=n:=by simpa using hk
 subst this;exact⟨by simpa[Region.lexHead] using hB,h⟩):p:=t
def AaS{p:Prop}(t:p:=by rw[getD_replicate_false] at Z;cases Z):p:=t
def Acl{p:Prop}(t:p:=by cases h):p:=t
def Abg{p:Prop}(t:p:=by rw[List.all_eq_true];intro x J;have:=K (x+1) (by simp at J⊢;omega);rwa[show k+(x+1)=k+1+x by omega] at this):p:=t
def Aby{p:Prop}(t:p:=by simpa using l):p:=t
def Acn{p:Prop}(t:p:=by simpa using h):p:=t
def Abm{p:Prop}(t:p:=by
 rcases Nat.lt_or_ge j n with h|h
 .exact h
 .exact absurd J (tail_waits hs hc hn inv _ i rfl M T j h)):p:=t
def Ab9{p:Prop}(t:p:=by
 rw[T] at G;have e:n+(l.toArray.size-n)=l.toArray.size:=by simp at hn⊢;omega
 rw[e] at G;refine wp_region_any N ?_;simpa using G):p:=t
def Aca{p:Prop}(t:p:=by
 rw[T] at J;have e:n+(l.toArray.size-n)=l.toArray.size:=by simp at hn⊢;omega
 rw[e] at J;refine wp_region_any O ?_;simpa using J):p:=t
def Aao{p:Prop}(t:p:=by
 go_wp2;go_loopw [5] (fun i wr=>∃k:Nat,k<=n/\i=.int .i64 ((k:Int)-1)/\a.drop k=b.drop k/\Ext w wr) (fun i _=>(intOf i+1).toNat)
 case atStart=>exact⟨n,Nat.le_refl _,rfl,by rw[List.drop_eq_nil_of_le (by rw[N.o];omega),List.drop_eq_nil_of_le (by rw[Q.o];omega)],Ext.refl _⟩
 case round=>
  obtain⟨k,hk,rfl,hd,C⟩:=hrel;have M:=aJ hd;clear hd;by_cases Y:k=0
  .subst Y;go_wp2;go_ret;exact⟨aL (Ko (by have:=M.o;simp at this;rw[this])),C⟩
  .obtain⟨j,rfl⟩:∃j,k=j+1:=⟨k-1,aa⟩;obtain⟨ad,x,rfl,hb,J,D,K⟩:=(G.ext C).at_ (k:=j) aa;obtain⟨bd,y,rfl,W,R,I,U⟩:=(L.ext C).at_ (k:=j) aa;have S:=aJ J;clear J;have P:=aJ R;clear R;have q1:(0:Int)<=(j:Int):=aa;have q2:(j:Int)<(n:Int):=aa;rcases Nat.lt_trichotomy x y with F|F|F
   .go_wp2;go_quiet (fail);go_wp2;go_ret;exact⟨aL (yH (tq G.dg S.o P.o M.o F)),C.drewN _⟩
   .subst F;go_wp2;go_quiet (fail);go_wp2;go_quiet (fail);go_wp2;go_roundw
    case rel=>exact⟨j,aa,au,Dl S.o P.o M.o,by first|exact(C.drewN _).drewN _|exact C.drewN _⟩
    case measure=>simp[intOf]<;>omega
   .go_wp2;go_quiet (fail);go_wp2;go_quiet (fail);go_wp2;go_ret;exact⟨aL (yY (tq L.dg P.o S.o M.symm F)),by first|exact(C.drewN _).drewN _|exact C.drewN _⟩):p:=t
def Acw{p:Prop}(t:p:=by go_wp2;go_ret;exact⟨aL (yH (zg G.dg V (by rw[N.o,Q.o];exact O))),Ext.refl _⟩):p:=t
def AcV{p:Prop}(t:p:=by go_wp2;go_ret;exact⟨aL (yY (zg L.dg H (by rw[N.o,Q.o];exact l))),Ext.refl _⟩):p:=t
def Aa1{p:Prop}(t:p:=by simp[Value.ownBlock]):p:=t
def Ace{p:Prop}(t:p:=by intro v1 w1 G C;go_wp2;go_ret;exact⟨_,rfl,⟨RM.jJ G (oC _),fun g C=>(G.lt g C).1⟩,fq C (Ext.new _ _) Aa1⟩):p:=t
def AaR{p:Prop}(t:p:=by go_wp2;go_ret;exact⟨aQ (by rw[C.o]),Ext.new _ _⟩):p:=t
def Acy{p:Prop}(t:p:=by go_enter Tryz.func96,Tryz.ntmps96;exact AaR):p:=t
def Acu{p:Prop}(t:p:=by go_enter Tryz.func178,Tryz.ntmps178;exact AaR):p:=t
def Abt{p:Prop}(t:p:=by rw[j];omega):p:=t
def AbE{p:Prop}(t:p:=by rw[<-Nat.mul_add];congr 1;omega):p:=t
def Aa0{p:Prop}(t:p:=by refine(jK _ (k+1) (k+1) (o++[G]) _ (RM.blk O (S.append (Dig.one aa)) (by simp[L.o]) aa)).mono ?_;rintro e w1 ⟨v1,rfl,hR,H⟩;rw[N] at hR;go_wp2;go_ret;exact⟨_,rfl,hR,j.trans H⟩):p:=t
def Acb{p:Prop}(t:p:=by have:=U.o;rw[List.take_of_length_le (by rw[HA.o];omega),List.take_of_length_le (by rw[V.o];omega)] at this;rw[jG,L.o];exact this):p:=t
def Acz{p:Prop}(t:p:=by go_wp2;go_ret;exact⟨_,rfl,hR,C.trans H⟩):p:=t
def Aa6{p:Prop}(t:p:=by have:=C.size;simp;omega):p:=t
def AcB{p:Prop}(t:p:=by simp[Value.oneCell']):p:=t
def Aa2{p:Prop}(t:p:=by
 rintro e w1 ⟨v1,rfl,hR,H⟩;have N:val p=val a*val b:=by rw[U.o,List.take_of_length_le (by rw[HA.o];omega)]
 rw[N] at hR;go_wp2;go_ret;exact⟨_,rfl,hR,C.trans H⟩):p:=t
def Acs{p:Prop}(t:p:=by rw[show((x':Int)*(y:Int))=((x'*y:Nat):Int) by simp,<-ht];omega):p:=t
def AcO{p:Prop}(t:p:=by rw[V.o];omega):p:=t
def Aba{p:Prop}(t:p:=by go_enter Tryz.func217,Tryz.ntmps217;go_wp2;go_ret;exact⟨_,rfl,⟨_,_,_,rfl,by simpa[val,iw] using RM.nil⟩,Ext.refl _⟩):p:=t
def Acf{p:Prop}(t:p:=by go_ret;exact⟨_,rfl,World.ownsRow_nil _ _ _ _,Ext.refl _⟩):p:=t
def Aay{p:Prop}(t:p:=by rintro e w2 ⟨v2,rfl,⟨u,rfl,A2,n2,c2,rfl,M⟩,P⟩;rw[aM,aM,aM] at M;rw[aM,aM,aM];have P:=H.trans P;go_wp2;refine I _ _ ⟨⟨w2,P⟩,rfl⟩ ?_;clear I K;refine aS [8,9] [] _ ah ?_;simp only[bO,aV,List.cons_append,List.nil_append];(repeat (go_big_quiet_step (fail)));refine wpQuiet_nil ?_;have P:=F.trans P;simp only[bP,List.drop_succ_cons,List.drop_zero];have b4:=lJ P;have c4:=b4.cell;have f4:=b4.frozen;obtain⟨Q,N,L⟩:=je (fF P) aa b4 _ A2 n2 c2;have W:=aJ Q;have V:=aJ N;have R:=aJ (L _ _ _ _ M);clear Q N L;go_wp2;exact ic rfl rfl rfl V.o ⟨_,rfl,⟨_,rfl,_,_,_,rfl,R.o⟩,W.o⟩):p:=t
def AaJ{p:Prop}(t:p:=by have j:=P.trans j;have b4:=lJ j;have c4:=b4.cell;have W:=b4.frozen;obtain⟨I,G,D⟩:=je (fF j) aa b4 _ A2 n2 c2;have N:=aJ I;have V:=aJ G;have K:=aJ (D _ _ _ _ F);clear I G D;go_wp2;exact ic rfl rfl rfl V.o ⟨_,rfl,⟨_,rfl,_,_,_,rfl,K.o⟩,N.o⟩):p:=t
def AbH{p:Prop}(t:p:=by go_wp2;exact ic rfl rfl rfl V.o ⟨_,rfl,⟨_,rfl,_,_,_,rfl,W.o⟩,Y.o⟩):p:=t
def Aau{p:Prop}(t:p:=by refine aR 8 [(true,9),(true,10)] ah ?_;intro K I;simp only[aV];(go_wp2_with fail);refine(kK v4 _ _ C).mono ?_;rintro e w5 ⟨v5,rfl,⟨u,rfl,A2,n2,c2,rfl,hI⟩,j⟩;have j:=Q.trans j;go_wp2;refine I _ _ ⟨⟨w5,j⟩,rfl⟩ ?_;clear I K;refine aS [9,10] [] _ ah ?_;simp only[bO,aV,List.cons_append,List.nil_append];(repeat (go_big_quiet_step (fail)));refine wpQuiet_nil ?_;have U:=P.trans j;simp only[bP,List.drop_succ_cons,List.drop_zero];have b4:=lJ U;have c4:=b4.cell;have f4:=b4.frozen;obtain⟨k1,k2,k3⟩:=je (fF U) aa b4 _ A2 n2 c2;have K1:=aJ k1;have V:=aJ k2;have K3:=aJ (k3 _ _ _ _ hI);clear k1 k2 k3;go_wp2;exact ic rfl rfl rfl V.o ⟨_,rfl,⟨_,rfl,_,_,_,rfl,K3.o⟩,K1.o⟩):p:=t
def Abl{p:Prop}(t:p:=by rintro e I ⟨rfl,j⟩;go_wp2;go_ret;exact⟨aL (by rw[aM,aM,LA (x:=x) (y:=y) aa aa]),(nQ P).trans j⟩):p:=t
def Ack{p:Prop}(t:p:=by rintro e I ⟨rfl,j⟩;go_wp2;go_ret;exact⟨aL (by rw[aM,aM,LB (x:=x) (y:=y) aa aa]),(nQ P).trans j⟩):p:=t
def AcR{p:Prop}(t:p:=by have D:decide (y<0)=false:=decide_eq_false C;go_wp2;go_ret;exact⟨aL (LM aa aa),nQ P⟩):p:=t
def Ac9{p:Prop}(t:p:=by have D:decide (y<0)=true:=decide_eq_true C;go_wp2;go_ret;exact⟨aL (KJ aa aa),nQ P⟩):p:=t
def AbF{p:Prop}(t:p:=by rintro e w1 ⟨rfl,H⟩;go_wp2;go_ret;exact⟨rfl,(Ext.new w _).trans H⟩):p:=t
def AaE{p:Prop}(t:p:=by have j:=H.trans j;have b4:=(Blk.new w 40 _).ext j;have c4:=b4.cell;have Q:=b4.frozen;obtain⟨J,G,D⟩:=je ((Ext.new w _).trans j) aa b4 (decide (z<0)) A2 n2 c2;have L:=aJ J;have V:=aJ G;have K:=aJ (D _ _ _ _ F);clear J G D;go_wp2;exact fu rfl rfl rfl V.o ⟨_,rfl,l.subst (motive:=fun t=>RI _ (iv (decide (z<0)) A2 n2 c2) t) (show RI _ (iv (decide (z<0)) A2 n2 c2) z from ⟨_,_,_,rfl,K.o⟩),L.o⟩):p:=t
def Adm{p:Prop}(t:p:=by have:=R.o;omega):p:=t
def AaF{p:Prop}(t:p:=by refine⟨k+1,x*2^s/4294967296,o++[z+x*2^s%4294967296],aa,au,by simp[j.o],nZ D,LV j.o T.o U.o,?_,(C.setCell (Nat.le_refl _) _).setCell (Nat.le_refl _) _⟩;have V:=(Q.set (k:=k) (TE D hs H) (zB (Nat.le_of_lt hs) H)).set (k:=k+1) (TL D hs) (Nat.lt_of_lt_of_le (nZ D) (by rw[<-vS (show s<=32 by omega)];exact Nat.le_mul_of_pos_right _ (Nat.pow_pos aa)));rwa[Ic j.o M] at V):p:=t
def Acj{p:Prop}(t:p:=by rw[List.getElem?_append_right (by rw[j.o];exact Nat.le_refl _),j.o,Nat.sub_self] at O;simpa using O.symm):p:=t
def Abw{p:Prop}(t:p:=by rw[show((g:Int)*(v0:Int))=((g*v0:Nat):Int) by simp,<-H];omega):p:=t
def AcA{p:Prop}(t:p:=by
 rcases Nat.eq_zero_or_pos b with h|h
 .subst h;rw[iw] at Z;simp at Z
 .exact h):p:=t
def AaP{p:Prop}(t:p:=by
 refine⟨j,U',qd::qs,aa,au,by rw[Xv.o,l.o],by have:=XO.o;simp;omega,Xr.o,?_,?_,?_,XG.setCell Wz.size _⟩
 .exact⟨XB.o.1.far ae _,XB.o.2⟩
 .exact⟨Xf.o.1.far ae _,Xf.o.2⟩
 .have h1:=X9.set (k:=j) (d:=qd) rfl Xo;rwa[DR] at h1):p:=t
def Ab3{p:Prop}(t:p:=by rw[l.o];omega):p:=t
def AcI{p:Prop}(t:p:=by have h1:=XJ.o.2;rw[Xn.o,zh] at h1;rw[EK hU.2 Ab3,h1,Nat.mul_div_cancel _ (Nat.pow_pos aa)];have h2:=WB.o.2;rw[List.drop_zero] at h2;omega):p:=t
def Ac3{p:Prop}(t:p:=by refine lS.start WC ?_;rw[WE];exact Ht WC (dN (by rw[WY.o];exact Nat.le_refl _)) (by have:=AB Wx.o aa;simpa using this) aa aa):p:=t
def Adk{p:Prop}(t:p:=by have h1:=HN.ge;have h2:0<4294967296^(n+1):=Nat.pow_pos aa;have h3:0<2147483648*4294967296^(n+1):=Nat.mul_pos aa h2;omega):p:=t
def Adv{p:Prop}(t:p:=by
 have h1:fZ wr w3.heap.size qs:=by simpa using hq
 exact h1.rm (by have:=XO.o;omega) aa):p:=t
def AdE{p:Prop}(t:p:=by have h1:=dX (n:=b) (k:=la) (Nat.lt_of_le_of_lt Wq (dN (by have:=WY.o;omega)));omega):p:=t
def Aaj{p:Prop}(t:p:=by
 obtain⟨u6,rfl,A6,n6,c6,rfl,WB⟩:=j;have e6:=K1.trans Wo;have I:=V.ext Wo;have K:=Wq.ext Wo;have Y:=Q.ext Wo;have Xl:=I.cell;have WA:=I.frozen;have Xm:=K.cell;have WJ:=K.frozen;clear WQ f4;(go_wp2_with fail);obtain⟨m1,m2,m3⟩:=je e6 aa K (decide (zr<0)) A6 n6 c6;have m4:=(I.far (p:=⟨w.heap.size+3,0,none⟩) ag (.bool (decide (zr<0)))).far (p:=⟨w.heap.size+3,1,none⟩) ag (.slice A6 n6 c6);have m5:=m3 _ _ _ _ Y;have m6:=m3 _ _ _ _ WB;clear m3 Xl WA Xm WJ I K Y WB Q Xj Wq K1 V e6;rw[show w.heap.size+1+1+1=w.heap.size+3 from rfl];generalize (w6.setCell ⟨w.heap.size+3,0,none⟩ (.bool (decide (zr<0)))).setCell ⟨w.heap.size+3,1,none⟩ (.slice A6 n6 c6)=w7 at*
 have p4:w7.cell? ⟨w.heap.size+1+1,0,none⟩=some (.bool (decide (zq<0))):=by have:=m4.cell 0;simpa using this
 have WW:w7.cell? ⟨w.heap.size+1+1,1,none⟩=some (.slice A4 n4 c4):=by have:=m4.cell 1;simpa using this
 have p5:w7.cell? ⟨w.heap.size+3,0,none⟩=some (.bool (decide (zr<0))):=by have:=m2.cell 0;simpa using this
 have WU:w7.cell? ⟨w.heap.size+3,1,none⟩=some (.slice A6 n6 c6):=by have:=m2.cell 1;simpa using this
 have g4:w7.frozen? ⟨w.heap.size+1+1,0,none⟩=false:=m4.frozen 0;have WY:w7.frozen? ⟨w.heap.size+1+1,1,none⟩=false:=m4.frozen 1;have g5:w7.frozen? ⟨w.heap.size+3,0,none⟩=false:=m2.frozen 0;have WX:w7.frozen? ⟨w.heap.size+3,1,none⟩=false:=m2.frozen 1;go_region;go_wp2;obtain⟨n1,n2,n3⟩:=je m1 aa m4 (decide (zq<0)) A4 n4 c4;have WG:=(m2.far (p:=⟨w.heap.size+2,0,none⟩) ag (.bool (decide (zq<0)))).far (p:=⟨w.heap.size+2,1,none⟩) ag (.slice A4 n4 c4);obtain⟨o1,o2,o3⟩:=je n1 aa WG (decide (zr<0)) A6 n6 c6;have o4:=(n2.far (p:=⟨w.heap.size+3,0,none⟩) ag (.bool (decide (zr<0)))).far (p:=⟨w.heap.size+3,1,none⟩) ag (.slice A6 n6 c6);have r4:=o3 _ _ _ _ (n3 _ _ _ _ m5);have r5:=o3 _ _ _ _ (n3 _ _ _ _ m6);rw[<-Z.o,<-Wv.o];exact vG rfl rfl rfl (o4.ext (Ext.refl _).drew) rfl (o2.ext (Ext.refl _).drew) ⟨_,rfl,⟨_,_,rfl,⟨_,_,_,rfl,r4.ext (Ext.refl _).drew⟩,⟨_,_,_,rfl,r5.ext (Ext.refl _).drew⟩⟩,o1.drew⟩):p:=t
def Acd{p:Prop}(t:p:=by have h1:=hR.len;have h2:=dX (n:=x.natAbs%y.natAbs) (k:=m) (Nat.lt_trans Ws (dN (by rw[R.len];exact Nat.le_refl _)));omega):p:=t
def Aah{p:Prop}(t:p:=by
 have Q:zr=zOf false _:=Wv.trans U.o.2;(go_wp2_with fail);refine(iq _ Aq nq cq _ _ T aa).mono ?_;rintro e w4 ⟨v4,rfl,C,N⟩;rw[aM] at C;rw[<-G] at C;have WJ:=aJ Q;clear Q G;have Wo:zq.natAbs<lim:=WA.o zq Z.o;have W:=hR.ext N;have N:=Wp.trans N;clear c0 c1 T hR;(go_wp2_with fail);refine(kK _ zq _ C).mono ?_;rintro e w5 ⟨v5,rfl,j,Wt⟩;rw[kW Wo] at j;obtain⟨u5,rfl,A5,n5,c5,rfl,Y⟩:=j;have WC:=W.ext Wt;have Wt:=N.trans Wt;clear C W;(go_wp2_with fail);have Y9:=aK.blk (Blk.new w5 40 #[.bool (decide (zq<0)),.slice A5 n5 c5]);have Wq:=Wt.trans (Ext.new w5 (.cells #[.bool (decide (zq<0)),.slice A5 n5 c5] 40));have WS:=WC.ext (Ext.new w5 (.cells #[.bool (decide (zq<0)),.slice A5 n5 c5] 40));have WB:=Y.ext (Ext.new w5 (.cells #[.bool (decide (zq<0)),.slice A5 n5 c5] 40));generalize w5.alloc (.cells #[.bool (decide (zq<0)),.slice A5 n5 c5] 40)=w6 at*
 refine bz 3 [(true,0),(true,1),(false,2)] ah ah ?_;refine aS [0,1] [(false,2)] _ ah ?_;simp only[bO,aV,List.cons_append,List.nil_append];(repeat (go_big_quiet_step (fail)));refine wpQuiet_nil ?_;refine aR 2 [] ah ?_;intro K I;simp only[aV];(go_wp2_with fail);refine(iq false Ar nr cr _ _ (WS.ext (Ext.refl w6).drew) aa).mono ?_;rintro e w7 ⟨v7,rfl,⟨A7,n7,c7,rfl,WE⟩,D⟩;have D:=D.jd;go_wp2;refine I _ _ ⟨⟨w7,D⟩,rfl⟩ ?_;clear I K;simp only[bP,List.drop_succ_cons,List.drop_zero];have V:=Wq.trans D;have b4:=F5 V;have b5:=Gh V;have c4:=b4.cell;have f4:=b4.frozen;have WW:=b5.cell;have f5:=b5.frozen;obtain⟨n1,n2,n3⟩:=je (xw V) aa b4 (decide (zq<0)) A5 n5 c5;have WG:=(b5.far (p:=⟨w.heap.size+2,0,none⟩) ag (.bool (decide (zq<0)))).far (p:=⟨w.heap.size+2,1,none⟩) ag (.slice A5 n5 c5);rw[aM,<-WJ.o] at WE;rw[aM,<-WJ.o];obtain⟨o1,o2,o3⟩:=je n1 aa WG (decide (zr<0)) A7 n7 c7;have o4:=(n2.far (p:=⟨w.heap.size+3,0,none⟩) ag (.bool (decide (zr<0)))).far (p:=⟨w.heap.size+3,1,none⟩) ag (.slice A7 n7 c7);have r4:=o3 _ _ _ _ (n3 _ _ _ _ (WB.ext D));have r5:=o3 _ _ _ _ (n3 _ _ _ _ WE);have O1:=aJ o1;have O2:=aJ o2;have O4:=aJ o4;have R4:=aJ r4;have R5:=aJ r5;clear n1 n2 n3 WG o1 o2 o3 o4 r4 r5;go_wp2;rw[<-Z.o,<-Wv.o];exact vG rfl rfl rfl O4.o rfl O2.o ⟨_,rfl,⟨_,_,rfl,⟨_,_,_,rfl,R4.o⟩,⟨_,_,_,rfl,R5.o⟩⟩,O1.o⟩):p:=t
def AaG{p:Prop}(t:p:=by have K1:=aJ k1;have V:=aJ k2;have K3:=aJ (k3 _ _ _ _ hI);clear k1 k2 k3;go_wp2;rw[<-WE.o,<-HZ.o];exact ic rfl rfl rfl V.o ⟨_,rfl,⟨_,rfl,_,_,_,rfl,K3.o⟩,K1.o⟩):p:=t
def Acc{p:Prop}(t:p:=by have b4:=lJ Wp;have c4:=b4.cell;have f4:=b4.frozen;obtain⟨k1,k2,k3⟩:=je (fF Wp) aa b4 (decide (Z<0)) A2 n2 c2;exact AaG):p:=t
def AcZ{p:Prop}(t:p:=by
 rcases Nat.eq_zero_or_pos gk with h|h
 .exact h
 .exact absurd (W9.2 h) h0):p:=t
def Abj{p:Prop}(t:p:=by simp[World.setCell]):p:=t
def Abb{p:Prop}(t:p:=by have I:=aJ G;clear G hs T;go_enter Tryz.func144,Tryz.ntmps144;go_wp2;go_ret;exact⟨aQ (by simpa using I.o),Ext.new _ _⟩):p:=t
def AaD{p:Prop}(t:p:=by rintro e w1 ⟨v1,rfl,j,H⟩;rw[Q.o] at j;obtain⟨u1,rfl,S⟩:=j;(go_wp2_with fail);refine(tV g u1 z _ ((hc.ext F).ext H) S).mono ?_;rintro e w2 ⟨U,rfl,I,P⟩;obtain⟨s2,A2,n2,c2,rfl,I⟩:=I.opn;have D:=H.trans P;have b4:=lJ D;have c4:=b4.cell;have W:=b4.frozen;obtain⟨N,J,G⟩:=qM (fF D) aa b4 s2 A2 n2 c2;have T:=aJ N;have V:=aJ J;have R:=aJ (G _ _ I);clear N J G;go_wp2;exact fu rfl rfl rfl V.o ⟨_,rfl,R.o,T.o⟩):p:=t
def AaB{p:Prop}(t:p:=by obtain⟨s2,A2,n2,c2,rfl,I⟩:=I.opn;have F:=H.trans P;have b4:=lJ F;have c4:=b4.cell;have f4:=b4.frozen;obtain⟨S,R,K⟩:=qM (fF F) aa b4 s2 A2 n2 c2;have Y:=aJ S;have V:=aJ R;have W:=aJ (K _ _ I);clear S R K;go_wp2;exact fu rfl rfl rfl V.o ⟨_,rfl,W.o,Y.o⟩):p:=t
def AaT{p:Prop}(t:p:=by exact fu rfl rfl rfl (hS.aH 0) ⟨_,rfl,(hS.aF 0),hS.ext⟩):p:=t
def AaX{p:Prop}(t:p:=by go_wp2;replace hS:=hS.pt 2 0 [.bool Xj,.slice WX Xi Xh,.bool Xl,.slice WL Xk Xm,.bool Xu,.slice Xc XC Xr] o8;exact dh rfl rfl rfl (hS.aH 2) ⟨_,rfl,RG.mk (hS.aF 2) (hS.aF 1) (hS.aF 0),hS.ext⟩):p:=t
def Abe{p:Prop}(t:p:=by
 rcases O with h|h
 .left;intro e;rw[e] at V;simp at V;exact h V
 .right;intro e;rw[e] at eq;simp at eq;exact h eq):p:=t
def Ach{p:Prop}(t:p:=by
 rcases R with h|h
 .left;intro e;rw[e] at C;simp at C;exact h C
 .right;intro e;rw[e] at B;simp at B;exact h B):p:=t
def AcW{p:Prop}(t:p:=by
 have:=e6.symm;rcases Int.mul_eq_zero.1 this with h|h
 .exact absurd h Wx
 .exact h):p:=t
def AaL{p:Prop}(t:p:=by replace hS:=hS.mv F;clear F;go_wp2;go_ret;exact⟨aQ (rfl),hS.ext⟩):p:=t
def Aax{p:Prop}(t:p:=by rintro e w2 ⟨v_,rfl,M,F⟩;replace hS:=hS.mv F;clear F;obtain⟨_,rfl,j⟩:=M;obtain⟨W,Z,U,V,rfl,B⟩:=RI.opn j;clear j;replace hS:=hS.aU B;clear B;have o5:Own w w2.heap.size:=Own.of hS.ext ag;have R:=(St.al hS 40 #[.bool false,.slice none 0 0] (g:=w2.heap.size) ag);have WK:=(R.aH 0).cell;have WM:=(R.aH 0).frozen;have I:=(St.al hS 40 #[.bool W,.slice Z U V] (g:=w2.heap.size) ag);have WQ:=(I.aH 0).cell;have Xb:=(I.aH 1).cell;have Xd:=(I.aH 1).frozen;go_wp2;replace hS:=(St.al hS 40 #[.bool W,.slice Z U V] (g:=w2.heap.size) ag).pt 1 0 [.bool W,.slice Z U V] o4;exact fu rfl rfl rfl (hS.aH 1) ⟨_,rfl,(hS.aF 0),hS.ext⟩):p:=t
def AaY{p:Prop}(t:p:=by go_wp2;replace hS:=hS.pt 1 0 [.bool WY,.slice WW WZ W9,.bool Xy,.slice WS XL Xx,.bool Xf,.slice WT Xo Xm] o6;exact dh rfl rfl rfl (hS.aH 1) ⟨_,rfl,RG.mk (hS.aF 2) (hS.aF 1) (hS.aF 0),hS.ext⟩):p:=t
def Aam{p:Prop}(t:p:=by rintro e w4 ⟨v_,rfl,M,F⟩;replace hS:=hS.mv F;clear F;obtain⟨Xv,Xl,Xn,Xq,Xt,Xj,Xr,Xp,Xu,Xi,Xo,Xm,rfl,B,R,I⟩:=M;replace hS:=hS.aU B;clear B;replace hS:=hS.aU R;clear R;replace hS:=hS.aU I;clear I;(go_wp2_with fail);refine(nW g6 _ WR T WP _ (hS.aH 0) (RG.mk (hS.aF 2) (hS.aF 1) (hS.aF 0))).mono ?_;rintro e w5 ⟨v_,rfl,M,F⟩;replace hS:=hS.mv F;clear F;obtain⟨_,rfl,Xa,WV,WW,Xh,WZ,WU,Xg,WY,Xd,WS,W9,WX,rfl,j,N,K⟩:=M;replace hS:=hS.aU j;clear j;replace hS:=hS.aU N;clear N;replace hS:=hS.aU K;clear K;have WQ:=(hS.aH 2).cell;have Xb:=(hS.aH 2).frozen;go_wp2;replace hS:=hS.pt 2 0 [.bool Xa,.slice WV WW Xh,.bool WZ,.slice WU Xg WY,.bool Xd,.slice WS W9 WX] o4;exact mo rfl rfl rfl (hS.aH 2) ⟨_,rfl,⟨_,rfl,⟨_,_,_,RG.mk (hS.aF 2) (hS.aF 1) (hS.aF 0),WT,Xk⟩⟩,hS.ext⟩):p:=t
def AbJ{p:Prop}(t:p:=by rw[Bool.eq_false_iff];intro e;exact h (L.zero.1 e)):p:=t
def Aar{p:Prop}(t:p:=by rintro e w5 ⟨v_,rfl,M,F⟩;replace hS:=hS.mv F;clear F;obtain⟨Xo,Xl,Xr,Xp,Xu,Xm,Xn,Xv,Xw,Xk,Xq,Xt,rfl,N,R,I⟩:=M;replace hS:=hS.aU N;clear N;replace hS:=hS.aU R;clear R;replace hS:=hS.aU I;clear I;(go_wp2_with fail);refine(nW g6 _ T WR WS _ (hS.aH 0) (RG.mk (hS.aF 2) (hS.aF 1) (hS.aF 0))).mono ?_;rintro e w6 ⟨v_,rfl,M,F⟩;replace hS:=hS.mv F;clear F;obtain⟨_,rfl,Xh,WU,Xi,W9,WX,WT,Xa,WZ,WW,WV,Xg,WY,rfl,j,K,B⟩:=M;replace hS:=hS.aU j;clear j;replace hS:=hS.aU K;clear K;replace hS:=hS.aU B;clear B;have Xb:=(hS.aH 2).cell;have Xd:=(hS.aH 2).frozen;go_wp2;replace hS:=hS.pt 2 0 [.bool Xh,.slice WU Xi W9,.bool WX,.slice WT Xa WZ,.bool WW,.slice WV Xg WY] o4;exact mo rfl rfl rfl (hS.aH 2) ⟨_,rfl,⟨_,rfl,⟨_,_,_,RG.mk (hS.aF 2) (hS.aF 1) (hS.aF 0),Xj,Xx⟩⟩,hS.ext⟩):p:=t
theorem Aa3{p:Prop}(t:p:=by refine⟨_,rfl,Nat.lt_of_lt_of_le B m.size,fun j u G=> ?_⟩;rw[add_plain];have F:=hc j u G;unfold World.cell? at F⊢;have H:=m.block b B D;simp only[H];exact F):p:=t
def Abz{p:Prop}(t:p:=by rw[List.range_succ,List.flatMap_append];simp):p:=t
def Ab8{p:Prop}(t:p:=by rw[aW];omega):p:=t
def Acv{p:Prop}(t:p:=by rw[Nat.add_mul,Nat.mul_add,Nat.mul_add];omega):p:=t
def Aal{p:Prop}(t:p:=by
 intro Xt Ww Xw Xv Xm Wy Xn Xo Xl WF Xq Xj XA Xz;refine eQ rf rf rf ?_ ?_
 .intro R I;have hW:=I.1;have XO:RI R (iv Xh Wv WO Xi) Wu:=RG.at1 (I.2 3 ((gv Xh Wv WO Xi Xg WG Xr Xu Xk WL Xp WN),Xy,Xx) rf ah);have XL:RI R (iv Xg WG Xr Xu) Wq:=RG.at2 (I.2 3 ((gv Xh Wv WO Xi Xg WG Xr Xu Xk WL Xp WN),Xy,Xx) rf ah);have XP:RI R (iv Xk WL Xp WN) Wt:=RG.at3 (I.2 3 ((gv Xh Wv WO Xi Xg WG Xr Xu Xk WL Xp WN),Xy,Xx) rf ah);have XQ:RI R (iv Xt Ww Xw Xv) Ws:=RG.at1 (I.2 7 ((gv Xt Ww Xw Xv Xm Wy Xn Xo Xl WF Xq Xj),XA,Xz) rf ah);have XM:RI R (iv Xm Wy Xn Xo) Wo:=RG.at2 (I.2 7 ((gv Xt Ww Xw Xv Xm Wy Xn Xo Xl WF Xq Xj),XA,Xz) rf ah);have XN:RI R (iv Xl WF Xq Xj) Wp:=RG.at3 (I.2 7 ((gv Xt Ww Xw Xv Xm Wy Xn Xo Xl WF Xq Xj),XA,Xz) rf ah);clear I;go_simp;exact⟨rfl,(wZ g6 _ Wu Wq Wt _ Ws Wo Wp _ (Blk.ext (hS.aH 2) hW) (RG.mk XO XL XP) (RG.mk XQ XM XN)).mono fun e w' ⟨v,O,hR,J⟩=>⟨v,O,J,hR⟩⟩
 intro v_ Ye Yi WE;obtain⟨R,Wx⟩:=WE;have M:Fc.holds (.retp (Wu) (Wq) (Wt) (Ws) (Wo) (Wp) 0) Ye Yi v_ R:=Wx.get;clear Wx;obtain⟨_,rfl,Yn,X7,Yb,Yt,Yu,XX,Yj,Yh,Yk,X4,Yl,Yg,Yc,XY,Yp,Yv,X9,X6,Yq,Ym,Ya,XZ,Yo,Yr,rfl,-,-,-,-,-,-⟩:=M;clear R;refine Qp ?_;refine Qs ?_;refine bE ?_;intro w7 I;have j:=hS.lt;replace hS:=hS.mv I.ext;replace hS:=hS.aG I 3;replace hS:=hS.aG I 7;replace hS:=hS.aP I 8;clear I j B Y8 Y7;have XF:=(hS.aH 4).cell;have XG:=(hS.aH 4).frozen;go_wp2;replace hS:=hS.pt 4 0 [.bool Yn,.slice X7 Yb Yt,.bool Yu,.slice XX Yj Yh,.bool Yk,.slice X4 Yl Yg,.bool Yc,.slice XY Yp Yv,.bool X9,.slice X6 Yq Ym,.bool Ya,.slice XZ Yo Yr] o4;exact qO rfl rfl rfl (hS.aH 4) ⟨_,rfl,⟨_,rfl,⟨_,_,_,_,_,_,RP.mk (hS.aF 5) (hS.aF 4) (hS.aF 3) (hS.aF 2) (hS.aF 1) (hS.aF 0),X3,YW,X5,YX⟩⟩,hS.ext⟩):p:=t
def Abu{p:Prop}(t:p:=by rw[Int.natAbs_mul,Int.natAbs_mul] at this;omega):p:=t
def Aak{p:Prop}(t:p:=by obtain⟨Wz,WJ,WI,WF,Wy,Wx,WH,WG,WE,WA,WC,WB,rfl⟩:=hv.opn;have k6:=j.cell;have f6:=j.frozen;obtain⟨p1,p2,p3⟩:=eX B aa j hv;have P1:=aJ p1;have P2:=aJ p2;have P3:=aJ p3;clear p1 p2 p3 B j hv;(go_wp2_with fail);exact dh rfl rfl rfl P2.o ⟨_,rfl,P3.o,P1.o⟩):p:=t
def AbQ{p:Prop}(t:p:=by rintro e w2 ⟨v,rfl,⟨u,rfl,hu⟩,J⟩;clear k0;replace B:=B.trans J;replace j:=j.ext J;replace O:=O.ext J;clear J I F;(go_wp2_with fail);refine(rY g u _ _ _ O hu).mono ?_;rintro e w3 ⟨v,rfl,hv,J⟩;replace B:=B.trans J;replace j:=j.ext J;clear J hu O;exact Aak):p:=t
def AaN{p:Prop}(t:p:=by go_enter Tryz.func190,Tryz.ntmps190;(go_wp2_with fail);go_ret;exact⟨rfl,Ext.refl _⟩):p:=t
def Adz{p:Prop}(t:p:=by exact fun e=>Wq e.symm):p:=t
def Abx{p:Prop}(t:p:=by rintro e w' ⟨O,J⟩;exact⟨O,fun R=>absurd R aa,(Mod.of hd).trans (Mod.of J)⟩):p:=t
theorem Abc{p:Prop}(t:p:=by unfold nL;rw[if_neg aa,if_neg aa];simp only[nJ];exact Wz.o.2 aa _ _ (W.o C aa D).1 (W.o C aa D).2 G.o.1 G.o.2 WU.o):p:=t
def Acg{p:Prop}(t:p:=by
 go_roundw
 case rel=>
  refine⟨C+1,aa,aa,au,?_,WZ.o⟩;rw[<-Cm _ aa];exact B.o
 case measure=>simp[intOf];omega):p:=t
theorem AcS{p:Prop}(t:p:=by intro j hj;unfold nL;rw[if_neg aa];exact Wz.o.1 aa _ _ (W.o C aa D).1 (W.o C aa D).2 hj):p:=t
theorem Adb{p:Prop}(t:p:=by intro j hj;unfold nL;rw[if_neg aa];simp only[nJ];exact Wz.o.1 aa _ _ G.o.1 G.o.2 hj):p:=t
theorem Adp{p:Prop}(t:p:=by intro j hj;unfold nL;rw[if_neg aa];simp only[nJ];exact HZ.o _ _ G.o.1 G.o.2 hj):p:=t
def Abs{p:Prop}(t:p:=by exact⟨_,hp.1.1,hp.1.2,(Mod.of S).trans hp.2⟩):p:=t
def Aco{p:Prop}(t:p:=by subst e;rw[upd_same];exact⟨rfl,⟨f,WP.o,WJ.o⟩,by have:=WZ.o;show w.heap.size<=g;omega⟩):p:=t
def AcQ{p:Prop}(t:p:=by
 by_cases e:C=i
 .subst e;rw[upd_same];exact⟨rfl,rfl⟩
 .rw[upd_ne e];exact HD.o.len C aa):p:=t
def Abv{p:Prop}(t:p:=by rintro g ⟨i,hi,rfl⟩ ⟨j,hj,e⟩;have h1:=XE.o i hi;have h2:=(Xd.o j hj).1;omega):p:=t
def Abp{p:Prop}(t:p:=by assumption):p:=t
def Aae{p:Prop}(t:p:=by rintro e w2 ⟨v,rfl,⟨u,rfl,hu⟩,J⟩;clear k0 k4 k5;replace hE:=hE.trans J;replace j:=j.ext J;replace O:=O.ext J;have WT:=J.size;clear J I F;obtain⟨WL,WM,WW,WR,WO,WS,WK,WQ,WU,WN,WY,WV,rfl⟩:=hu.opn;obtain⟨B,WX⟩:=an1 w2 42 #[.bool WL,.slice WM WW WR,.bool WO,.slice WS WK WQ,.bool WU,.slice WN WY WV];have HU:=aJ (hu.ext B);clear hu;replace hE:=hE.trans B;replace j:=j.ext B;replace O:=O.ext B;have k7:=WX.cell;(go_wp2_with fail);refine(qB g _ _ _ _ O HU.o).mono ?_;rintro e w3 ⟨v,rfl,hv,J⟩;replace hE:=hE.trans J;replace j:=j.ext J;clear J;obtain⟨Wz,WJ,WI,WF,Wy,Wx,WH,WG,WE,WA,WC,WB,rfl⟩:=hv.opn;have k6:=j.cell;have f6:=j.frozen;obtain⟨p1,p2,p3⟩:=eX hE aa j hv;have P1:=aJ p1;have P2:=aJ p2;have P3:=aJ p3;clear p1 p2 p3 hE j hv;(go_wp2_with fail);exact dh rfl rfl rfl P2.o ⟨_,rfl,P3.o,P1.o⟩):p:=t
def AbX{p:Prop}(t:p:=by rintro e w3 ⟨v,rfl,hv,J⟩;replace B:=B.trans J;replace j:=j.ext J;clear J;exact Aak):p:=t
def Abn{p:Prop}(t:p:=by have e:bU b.u (part r0 bs b L)=fun _=>GQ.i 0 0:=funext fun l=>xz r0 bs b L l;rw[e];exact mq _ cs):p:=t
def AbC{p:Prop}(t:p:=by rw[List.length_cons];omega):p:=t
def AaU{p:Prop}(t:p:=by refine⟨f 0,J 0 aa,fun t u j=> ?_⟩;have l:t<6:=(List.getElem?_eq_some_iff.1 j).1;have:=dM (f:=f) l (show 0<1 by omega);rw[Nat.zero_mul,Nat.zero_add] at this;rw[hb.cell,List.getElem?_toArray,this];exact j):p:=t
def AbG{p:Prop}(t:p:=by rw[l];exact Wu.o):p:=t
def AbM{p:Prop}(t:p:=by exact⟨0,0,by ext<;>simp only[GQ.dI,GQ.dJ,GQ.dE,GQ.dB]<;>grind,aj⟩):p:=t
def AbN{p:Prop}(t:p:=by have:=(hb b h).a;omega):p:=t
def Aaa{p:Prop}(t:p:=by
 obtain⟨k,hk,rfl,ht⟩:=hrel;have HT:=aJ ht;clear ht;by_cases Wo:k<s.size
 .have Wq:=KC Wo;obtain⟨l,Ws⟩:∃n,uR s k=n:=⟨_,rfl⟩;have Ww:l<256:=by rw[<-Ws];exact Cv s k
  have HF:=aJ (Kv Ws);rw[Ws] at Wq;clear Ws;by_cases Y:k=0
  .subst Y;by_cases U:l<=47
   .skip;obtain⟨W,H,O,J,T,C,F,B,R,D,V,K,N,I,P,G,M,S,L⟩:=nc0 l aa aa;have HG:Hid (iJ s 0=false):=aJ (by rw[HF.o];simp[dD,dV];omega);go_wp2;go_ret;exact⟨aQ (dA Wo HG.o).symm,rfl⟩
   have g0:47<l:=aa;clear U;by_cases Wv:l<=57
   .skip;obtain⟨W,H,O,J,T,C,F,B,R,D,V,K,N,I,P,G,M,S,L⟩:=nc1 l aa aa;have HG:Hid (iJ s 0=false):=aJ (by rw[HF.o];simp[dD,dV];omega);go_wp2;go_ret;exact⟨aQ (dA Wo HG.o).symm,rfl⟩
   have g1:57<l:=aa;clear Wv;by_cases Xf:l<=64
   .skip;obtain⟨W,H,O,J,T,C,F,B,R,D,V,K,N,I,P,G,M,S,L⟩:=nc2 l aa aa;have HG:Hid (iJ s 0=false):=aJ (by rw[HF.o];simp[dD,dV];omega);go_wp2;go_ret;exact⟨aQ (dA Wo HG.o).symm,rfl⟩
   have g2:64<l:=aa;clear Xf;by_cases WP:l<=90
   .skip;obtain⟨W,H,O,J,T,C,F,B,R,D,V,K,N,I,P,G,M,S,L⟩:=nc3 l aa aa;have HG:Hid (iJ s 0=true):=aJ (by rw[HF.o];simp[dD,dV];omega);go_wp2_with fail
    go_round
    case rel=>exact⟨1,aa,au,jk HT.o HG.o⟩
    case measure=>simp[intOf]<;>omega
   have g3:90<l:=aa;clear WP;by_cases Wp:l<=94
   .skip;have W:decide ((97:Int)<=(l:Int))=false:=ae;have H:¬(97:Int)<=(l:Int):=aa;have O:decide ((65:Int)<=(l:Int))=true:=ae;have J:(65:Int)<=(l:Int):=aa;have T:decide ((48:Int)<=(l:Int))=true:=ae;have C:(48:Int)<=(l:Int):=aa;have F:decide ((l:Int)<=122)=true:=ae;have B:(l:Int)<=122:=aa;have R:decide ((l:Int)<=90)=false:=ae;have D:¬(l:Int)<=90:=aa;have V:decide ((l:Int)<=57)=false:=ae;have K:¬(l:Int)<=57:=aa;have N:decide ((l:Int)<48)=false:=ae;have I:¬(l:Int)<48:=aa;have P:decide ((57:Int)<(l:Int))=true:=ae;have G:(57:Int)<(l:Int):=aa;have M:((l:Int)==95)=false:=ae;have S:((l:Int) !=95)=true:=ae;have L:¬(l:Int)=95:=aa;have HG:Hid (iJ s 0=false):=aJ (by rw[HF.o];simp[dD,dV];omega);go_wp2;go_ret;exact⟨aQ (dA Wo HG.o).symm,rfl⟩
   have g4:94<l:=aa;clear Wp;by_cases Z:l<=95
   .skip;obtain⟨W,H,O,J,T,C,F,B,R,D,V,K,N,I,P,G,M,S,L⟩:=nc4 l aa aa;have HG:Hid (iJ s 0=false):=aJ (by rw[HF.o];simp[dD,dV];omega);go_wp2;go_ret;exact⟨aQ (dA Wo HG.o).symm,rfl⟩
   have g5:95<l:=aa;clear Z;by_cases Wt:l<=96
   .skip;have W:decide ((97:Int)<=(l:Int))=false:=ae;have H:¬(97:Int)<=(l:Int):=aa;have O:decide ((65:Int)<=(l:Int))=true:=ae;have J:(65:Int)<=(l:Int):=aa;have T:decide ((48:Int)<=(l:Int))=true:=ae;have C:(48:Int)<=(l:Int):=aa;have F:decide ((l:Int)<=122)=true:=ae;have B:(l:Int)<=122:=aa;have R:decide ((l:Int)<=90)=false:=ae;have D:¬(l:Int)<=90:=aa;have V:decide ((l:Int)<=57)=false:=ae;have K:¬(l:Int)<=57:=aa;have N:decide ((l:Int)<48)=false:=ae;have I:¬(l:Int)<48:=aa;have P:decide ((57:Int)<(l:Int))=true:=ae;have G:(57:Int)<(l:Int):=aa;have M:((l:Int)==95)=false:=ae;have S:((l:Int) !=95)=true:=ae;have L:¬(l:Int)=95:=aa;have HG:Hid (iJ s 0=false):=aJ (by rw[HF.o];simp[dD,dV];omega);go_wp2;go_ret;exact⟨aQ (dA Wo HG.o).symm,rfl⟩
   have g6:96<l:=aa;clear Wt;by_cases WI:l<=122
   .skip;obtain⟨W,H,O,J,T,C,F,B,R,D,V,K,N,I,P,G,M,S,L⟩:=nc5 l aa aa;have HG:Hid (iJ s 0=true):=aJ (by rw[HF.o];simp[dD,dV];omega);go_wp2_with fail
    go_round
    case rel=>exact⟨1,aa,au,jk HT.o HG.o⟩
    case measure=>simp[intOf]<;>omega
   have g7:122<l:=aa;clear WI;obtain⟨W,H,O,J,T,C,F,B,R,D,V,K,N,I,P,G,M,S,L⟩:=nc6 l aa aa;have HG:Hid (iJ s 0=false):=aJ (by rw[HF.o];simp[dD,dV];omega);go_wp2;go_ret;exact⟨aQ (dA Wo HG.o).symm,rfl⟩
  .have z1:((k:Int)==0)=false:=ae;have z2:¬(k:Int)=0:=aa;by_cases U:l<=47
   .skip;obtain⟨W,H,O,J,T,C,F,B,R,D,V,K,N,I,P,G,M,S,L⟩:=nc0 l aa aa;have HG:Hid (iJ s k=false):=aJ (by rw[HF.o];simp[dD,dV];omega);go_wp2;go_ret;exact⟨aQ (dA Wo HG.o).symm,rfl⟩
   have g0:47<l:=aa;clear U;by_cases Wv:l<=57
   .skip;obtain⟨W,H,O,J,T,C,F,B,R,D,V,K,N,I,P,G,M,S,L⟩:=nc1 l aa aa;have HG:Hid (iJ s k=true):=aJ (by rw[HF.o];simp[dD,dV];omega);go_wp2_with fail
    go_round
    case rel=>exact⟨k+1,aa,au,jk HT.o HG.o⟩
    case measure=>simp[intOf]<;>omega
   have g1:57<l:=aa;clear Wv;by_cases Xf:l<=64
   .skip;obtain⟨W,H,O,J,T,C,F,B,R,D,V,K,N,I,P,G,M,S,L⟩:=nc2 l aa aa;have HG:Hid (iJ s k=false):=aJ (by rw[HF.o];simp[dD,dV];omega);go_wp2;go_ret;exact⟨aQ (dA Wo HG.o).symm,rfl⟩
   have g2:64<l:=aa;clear Xf;by_cases WP:l<=90
   .skip;obtain⟨W,H,O,J,T,C,F,B,R,D,V,K,N,I,P,G,M,S,L⟩:=nc3 l aa aa;have HG:Hid (iJ s k=true):=aJ (by rw[HF.o];simp[dD,dV];omega);go_wp2_with fail
    go_round
    case rel=>exact⟨k+1,aa,au,jk HT.o HG.o⟩
    case measure=>simp[intOf]<;>omega
   have g3:90<l:=aa;clear WP;by_cases Wp:l<=94
   .skip;have W:decide ((97:Int)<=(l:Int))=false:=ae;have H:¬(97:Int)<=(l:Int):=aa;have O:decide ((65:Int)<=(l:Int))=true:=ae;have J:(65:Int)<=(l:Int):=aa;have T:decide ((48:Int)<=(l:Int))=true:=ae;have C:(48:Int)<=(l:Int):=aa;have F:decide ((l:Int)<=122)=true:=ae;have B:(l:Int)<=122:=aa;have R:decide ((l:Int)<=90)=false:=ae;have D:¬(l:Int)<=90:=aa;have V:decide ((l:Int)<=57)=false:=ae;have K:¬(l:Int)<=57:=aa;have N:decide ((l:Int)<48)=false:=ae;have I:¬(l:Int)<48:=aa;have P:decide ((57:Int)<(l:Int))=true:=ae;have G:(57:Int)<(l:Int):=aa;have M:((l:Int)==95)=false:=ae;have S:((l:Int) !=95)=true:=ae;have L:¬(l:Int)=95:=aa;have HG:Hid (iJ s k=false):=aJ (by rw[HF.o];simp[dD,dV];omega);go_wp2;go_ret;exact⟨aQ (dA Wo HG.o).symm,rfl⟩
   have g4:94<l:=aa;clear Wp;by_cases Z:l<=95
   .skip;obtain⟨W,H,O,J,T,C,F,B,R,D,V,K,N,I,P,G,M,S,L⟩:=nc4 l aa aa;have HG:Hid (iJ s k=true):=aJ (by rw[HF.o];simp[dD,dV];omega);go_wp2_with fail
    go_round
    case rel=>exact⟨k+1,aa,au,jk HT.o HG.o⟩
    case measure=>simp[intOf]<;>omega
   have g5:95<l:=aa;clear Z;by_cases Wt:l<=96
   .skip;have W:decide ((97:Int)<=(l:Int))=false:=ae;have H:¬(97:Int)<=(l:Int):=aa;have O:decide ((65:Int)<=(l:Int))=true:=ae;have J:(65:Int)<=(l:Int):=aa;have T:decide ((48:Int)<=(l:Int))=true:=ae;have C:(48:Int)<=(l:Int):=aa;have F:decide ((l:Int)<=122)=true:=ae;have B:(l:Int)<=122:=aa;have R:decide ((l:Int)<=90)=false:=ae;have D:¬(l:Int)<=90:=aa;have V:decide ((l:Int)<=57)=false:=ae;have K:¬(l:Int)<=57:=aa;have N:decide ((l:Int)<48)=false:=ae;have I:¬(l:Int)<48:=aa;have P:decide ((57:Int)<(l:Int))=true:=ae;have G:(57:Int)<(l:Int):=aa;have M:((l:Int)==95)=false:=ae;have S:((l:Int) !=95)=true:=ae;have L:¬(l:Int)=95:=aa;have HG:Hid (iJ s k=false):=aJ (by rw[HF.o];simp[dD,dV];omega);go_wp2;go_ret;exact⟨aQ (dA Wo HG.o).symm,rfl⟩
   have g6:96<l:=aa;clear Wt;by_cases WI:l<=122
   .skip;obtain⟨W,H,O,J,T,C,F,B,R,D,V,K,N,I,P,G,M,S,L⟩:=nc5 l aa aa;have HG:Hid (iJ s k=true):=aJ (by rw[HF.o];simp[dD,dV];omega);go_wp2_with fail
    go_round
    case rel=>exact⟨k+1,aa,au,jk HT.o HG.o⟩
    case measure=>simp[intOf]<;>omega
   have g7:122<l:=aa;clear WI;obtain⟨W,H,O,J,T,C,F,B,R,D,V,K,N,I,P,G,M,S,L⟩:=nc6 l aa aa;have HG:Hid (iJ s k=false):=aJ (by rw[HF.o];simp[dD,dV];omega);go_wp2;go_ret;exact⟨aQ (dA Wo HG.o).symm,rfl⟩
 .have Wu:k=s.size:=aa;subst Wu;go_wp2;go_ret;exact⟨aQ (Dh hp hm HT.o).symm,rfl⟩):p:=t
def Acm{p:Prop}(t:p:=by go_wp2;go_ret;exact⟨aQ Q.symm,rfl⟩):p:=t
def Aa5{p:Prop}(t:p:=by go_enter Tryz.func66,Tryz.ntmps66;(go_wp2_with (go_at_call 109;refine(bf _ _ _ _).mono ?_;rintro e w1 ⟨rfl,rfl⟩));go_ret;exact⟨aQ T.symm,rfl⟩):p:=t
def Aa4{p:Prop}(t:p:=by go_enter Tryz.func115,Tryz.ntmps115;(go_wp2_with (go_at_call 116;refine(cK _ _ _ _).mono ?_;rintro e w1 ⟨rfl,rfl⟩));go_ret;exact⟨aQ T.symm,rfl⟩):p:=t
def Aag{p:Prop}(t:p:=by go_enter Tryz.func117,Tryz.ntmps117;(go_wp2_with (first|(go_at_call 116;refine(cK _ _ _ _).mono ?_;rintro e w1 ⟨rfl,rfl⟩)|(go_at_call 115;refine(bK ⟨_,_⟩ _).mono ?_;rintro e w1 ⟨rfl,rfl⟩)));go_ret;exact⟨aQ T.symm,Ext.new _ _⟩):p:=t
def AbP{p:Prop}(t:p:=by go_enter Tryz.func117,Tryz.ntmps117;(go_wp2_with (first|(go_at_call 116;refine(cK _ _ _ _).mono ?_;rintro e w1 ⟨rfl,rfl⟩)|(go_at_call 115;refine(bK ⟨_,_⟩ _).mono ?_;rintro e w1 ⟨rfl,rfl⟩)));go_ret;exact⟨aQ T.symm,(Ext.new _ _).trans (Ext.new _ _)⟩):p:=t
def AcY{p:Prop}(t:p:=by simp[bS,h,C,D,G]):p:=t
def Aac{p:Prop}(t:p:=by go_enter Tryz.func111,Tryz.ntmps111;(go_wp2_with (first|(go_at_call 109;refine(bf _ _ _ _).mono ?_;rintro e w1 ⟨rfl,rfl⟩)|(go_at_call 66;refine(bD ⟨_,_⟩ _).mono ?_;rintro e w1 ⟨rfl,rfl⟩)));go_quiet (fail);(go_wp2_with (first|(go_at_call 109;refine(bf _ _ _ _).mono ?_;rintro e w1 ⟨rfl,rfl⟩)|(go_at_call 66;refine(bD ⟨_,_⟩ _).mono ?_;rintro e w1 ⟨rfl,rfl⟩)));go_ret;exact⟨aQ T.symm,(Ext.new _ _).drewN _⟩):p:=t
def AbO{p:Prop}(t:p:=by go_enter Tryz.func111,Tryz.ntmps111;(go_wp2_with (first|(go_at_call 109;refine(bf _ _ _ _).mono ?_;rintro e w1 ⟨rfl,rfl⟩)|(go_at_call 66;refine(bD ⟨_,_⟩ _).mono ?_;rintro e w1 ⟨rfl,rfl⟩)));go_quiet (fail);(go_wp2_with (first|(go_at_call 109;refine(bf _ _ _ _).mono ?_;rintro e w1 ⟨rfl,rfl⟩)|(go_at_call 66;refine(bD ⟨_,_⟩ _).mono ?_;rintro e w1 ⟨rfl,rfl⟩)));go_ret;exact⟨aQ T.symm,((Ext.new _ _).drewN _).trans (Ext.new _ _)⟩):p:=t
def AdJ{p:Prop}(t:p:=by have:=H.o;omega):p:=t
def AaO{p:Prop}(t:p:=by clear hc;go_enter Tryz.func64,Tryz.ntmps64;(go_wp2_with (first|(go_at_call 63;refine(C _).mono ?_;rintro e w1 ⟨rfl,rfl⟩)|(go_at_call 108;refine(Bf _ _ _ _ _ _ h B).mono ?_;rintro e w1 ⟨rfl,rfl⟩)));go_ret;exact⟨aL Q.symm,rfl⟩):p:=t
def Aat{p:Prop}(t:p:=by go_enter Tryz.func110,Tryz.ntmps110;go_wp2;go_ret;exact⟨aL T.symm,(Ext.new _ _).trans (Ext.new _ _)⟩):p:=t
def Ab6{p:Prop}(t:p:=by simp[iX,btw]<;>omega):p:=t
def AcU{p:Prop}(t:p:=by have T:Hid (iX n1 n2 ⟨C,1,obj,en,⟨r,x⟩,B,l,ct,vt,sat,j⟩=9):=aJ Ab6;exact Aat):p:=t
def Ada{p:Prop}(t:p:=by have T:Hid (iX n1 n2 ⟨C,2,obj,en,⟨r,x⟩,B,l,ct,vt,sat,j⟩=9):=aJ Ab6;exact Aat):p:=t
def AaQ{p:Prop}(t:p:=by
 generalize (b.links.getD 0 default).bus=b0 at f0 B;have q5:((bus:Int)==b0)=false:=ae;clear B;go_wp2;go_quiet (fail);go_wp2;go_roundw
 case rel=>exact⟨2,aa,rfl,fM P.o C.o,(L.alloc _).drewN _⟩
 case measure=>simp[intOf];omega):p:=t
def Ab1{p:Prop}(t:p:=by go_enter Tryz.func112,Tryz.ntmps112;go_wp2;go_ret;exact⟨aL T.symm,(Ext.new _ _).trans (Ext.new _ _)⟩):p:=t
def AcH{p:Prop}(t:p:=by rw[T.o];exact cO P.o C.o aj I):p:=t
def Ac2{p:Prop}(t:p:=by rw[B] at f0;clear B;have q5:((bus:Int)==bus)=true:=ag;go_wp2;go_quiet (fail);go_wp2;go_ret;exact⟨aL AcH,((D.trans L.o).alloc _).drewN _⟩):p:=t
def Adi{p:Prop}(t:p:=by rw[eP];omega):p:=t
def Adt{p:Prop}(t:p:=by
 go_wp2;go_quiet (fail);go_wp2;go_roundw
 case rel=>exact⟨1,aa,rfl,fM P.o C.o,(L.alloc _).drewN _⟩
 case measure=>simp[intOf];omega):p:=t
def AdB{p:Prop}(t:p:=by have:=hc 0 _ rfl;rwa[Nat.zero_mul] at this):p:=t
def AdF{p:Prop}(t:p:=by have C:Hid (ik n0 b k=9):=aJ (by rw[F.o,if_neg Adi]);go_wp2;go_ret;exact⟨aL AcH,(D.trans L.o).alloc _⟩):p:=t
def AcG{p:Prop}(t:p:=by rw[List.size_toArray,aW];omega):p:=t
def AbA{p:Prop}(t:p:=by rw[iy _ _ (by rw[aW,aW])] at this;exact this):p:=t
def Aa8{p:Prop}(t:p:=by exact Bd.mono (m:=1) (EL aj aj (Nat.le_refl 1)) aa):p:=t
def Abr{p:Prop}(t:p:=by rw[qR];omega):p:=t
def AbW{p:Prop}(t:p:=by rw[List.size_toArray,aW,aW];omega):p:=t
def Abo{p:Prop}(t:p:=by intro u j;obtain⟨x,_,rfl⟩:=List.mem_map.1 j;rfl):p:=t
def Ab7{p:Prop}(t:p:=by
 go_roundw
 case rel=>exact⟨k+1,aa,au,K.o,W.o⟩
 case measure=>simp[intOf];omega):p:=t
def Ac7{p:Prop}(t:p:=by rw[N.o,<-Nat.add_assoc];simpa using D):p:=t
def Ads{p:Prop}(t:p:=by simp<;>omega):p:=t
theorem AdG{p:Prop}(t:p:=by unfold maxLen;omega):p:=t
def AaV{p:Prop}(t:p:=by (go_wp2_with fail);refine(uG nm A0 n0 c0 A1 n1 c1 A2 n2 c2 _ n3 c3 b h.A h.n h.c _ (I.ext (D.trans C.o))).mono ?_;rintro e w3 ⟨rfl,J⟩;(go_wp2_with fail);go_ret;exact⟨aL l.symm,(D.trans C.o).trans J⟩):p:=t
def Ac4{p:Prop}(t:p:=by have:=Z.o;omega):p:=t
def Aas{p:Prop}(t:p:=by go_enter Tryz.func31,Tryz.ntmps31;(go_wp2_with (first|(go_at_call 63;refine(C _).mono ?_;rintro e w1 ⟨rfl,rfl⟩)));go_quiet (fail);(go_wp2_with fail);go_ret;exact⟨aL T.symm,(Ext.new _ _).drewN _⟩):p:=t
def Ab5{p:Prop}(t:p:=by rw[<-h];exact U.o):p:=t
def AcN{p:Prop}(t:p:=by rw[M.o];rfl):p:=t
def Adc{p:Prop}(t:p:=by have d4:decide ((16:Int)<(n3:Int))=false:=ae;exact absurd ⟨aa,aa,aa,aa,aa⟩ HC.o):p:=t
def Ac1{p:Prop}(t:p:=by intro e;injection e with e;omega):p:=t
def AaA{p:Prop}(t:p:=by clear I K Y1 Y2;simp only[bP,List.drop_succ_cons,List.drop_zero];go_wp2;go_ret;have hm:=step_mod (B:=B) (i:=2) (u:=.slice (some ⟨g,0,none⟩) (m1+1) G) G2.o G3.o;refine⟨aL U.symm,W9.trans (kE R1.o Y WY hm),fun _=>⟨Y,?_,_,_,_,_,Wv.mX 2 _,⟨_,iR R0.o R1.o aj Y hm⟩,⟨_,jR R.o (Mod.only (S:=fun k=>k=B) (Only.set _ _ _ _) rfl) (fun g' Wu=>by have:=(R.lt g' Wu).1;omega)⟩,⟨_,iR R2.o R1.o aj Y hm⟩,iR R3.o R1.o aj Y hm⟩⟩;have hn:=nX (B:=B) (i:=2) (u:=.slice (some ⟨g,0,none⟩) (m1+1) G) (Nam.put D1.o D2.o D3.o WK.o) RR.o Y G3.o;simpa using hn):p:=t
def AbR{p:Prop}(t:p:=by simp at hb;rcases hb with rfl|rfl<;>first|exact WE|exact WZ):p:=t
def Adh{p:Prop}(t:p:=by (go_wp2_with fail);refine(bK x.z0 _).mono ?_;rintro e w1 ⟨rfl,rfl⟩;rw[WH.o];go_wp2;go_ret;exact⟨aL U.symm,WW.trans (((Ext.new _ _).alloc _).mono ae),fun e=>absurd (U.symm.trans e) aj⟩):p:=t
def AdA{p:Prop}(t:p:=by (go_wp2_with fail);refine(iM HB.o x.name).mono ?_;rintro e w1 ⟨rfl,rfl⟩;rw[WG.o];go_wp2;go_ret;exact⟨aL T.symm,WW.o,fun e=>absurd (T.symm.trans e) HN.o⟩):p:=t
def AdI{p:Prop}(t:p:=by go_wp2;go_ret;exact⟨aL U.symm,WW.trans ((Ext.new _ _).mono ae),fun e=>absurd (U.symm.trans e) aj⟩):p:=t
def AdM{p:Prop}(t:p:=by rw[<-HE.o,if_pos rfl]):p:=t
def Aaz{p:Prop}(t:p:=by clear I K Y1 Y2;simp only[bP,List.drop_succ_cons,List.drop_zero];go_wp2;go_ret;have hm:=step_mod (B:=B) (i:=3) (u:=.slice (some ⟨g,0,none⟩) (m2+1) G) G2.o G3.o;refine⟨aL U.symm,W9.trans (kE R2.o Y WY hm),fun _=>⟨Y,?_,_,_,_,_,Wv.mX 3 _,⟨_,iR R0.o R2.o aj Y hm⟩,⟨_,iR R1.o R2.o aj Y hm⟩,⟨_,jR WS.o (Mod.only (S:=fun k=>k=B) (Only.set _ _ _ _) rfl) (fun g' Wu=>by have:=(WS.lt g' Wu).1;omega)⟩,iR R3.o R2.o aj Y hm⟩⟩;have hn:=nX (B:=B) (i:=3) (u:=.slice (some ⟨g,0,none⟩) (m2+1) G) (Nam.put D1.o D2.o D3.o WK.o) RR.o Y G3.o;simpa using hn):p:=t
def Aap{p:Prop}(t:p:=by
 by_cases Y:k=0
 · subst Y;rw[Nat.zero_mul,Nat.add_zero] at e0 e1;(go_wp2_with fail);go_quiet ((go_at_call 116;exact Calls.quiet_of_same (HW.o _)));clear I;(go_wp2_with fail);go_ret;exact⟨aL (by rw[T.o];exact cO HZ.o HE.o aj Wo),((D.trans HX.o).alloc _).drewN _⟩
 · obtain rfl:k=1:=aa;rw[show lo+1*2=lo+2 from rfl] at e0 e1;(go_wp2_with fail);go_quiet ((go_at_call 116;exact Calls.quiet_of_same (HW.o _)));clear I;(go_wp2_with fail);go_ret;exact⟨aL (by rw[T.o];exact cO HZ.o HE.o aj Wo),((D.trans HX.o).alloc _).drewN _⟩):p:=t
def AbU{p:Prop}(t:p:=by
 generalize (b.links.getD 0 default).bus=b0 at f0 Wp;have q5:((b0:Int)==bus)=false:=ae;clear Wp;(go_wp2_with fail);go_quiet ((go_at_call 116;exact Calls.quiet_of_same (HW.o _)));clear I;(go_wp2_with fail);go_quiet (fail);go_wp2;go_roundw
 case rel=>exact⟨2,aa,rfl,fM HZ.o HE.o,(HX.alloc _).drewN _⟩
 case measure=>simp[intOf];omega):p:=t
def AcC{p:Prop}(t:p:=by rw[Wp] at f0;clear Wp;have q5:((bus:Int)==bus)=true:=ag;(go_wp2_with fail);go_quiet ((go_at_call 116;exact Calls.quiet_of_same (HW.o _)));clear I;(go_wp2_with fail);go_quiet (fail);go_wp2;go_ret;exact⟨aL (by rw[T.o];exact cO HZ.o HE.o aj Wo),(((D.trans HX.o).alloc _).drewN _).drewN _⟩):p:=t
def Ac0{p:Prop}(t:p:=by
 (go_wp2_with fail);go_quiet ((go_at_call 116;exact Calls.quiet_of_same (HW.o _)));clear I;(go_wp2_with fail);go_quiet (fail);go_wp2;go_roundw
 case rel=>exact⟨1,aa,rfl,fM HZ.o HE.o,(HX.alloc _).drewN _⟩
 case measure=>simp[intOf];omega):p:=t
def Adj{p:Prop}(t:p:=by go_enter Tryz.func118,Tryz.ntmps118;go_wp2;go_ret;exact⟨aL T.symm,Ext.new _ _⟩):p:=t
def Aav{p:Prop}(t:p:=by
 clear I K Y1 Y2;simp only[bP,List.drop_succ_cons,List.drop_zero];go_wp2;go_ret;have Ws:=step_mod (B:=B) (i:=4) (u:=.slice (some ⟨g,0,none⟩) (bs.length+1) G) G2.o G3.o;have F:=jR WS.o (Mod.only (S:=fun k=>k=B) (Only.set _ B 4 (.slice (some ⟨g,0,none⟩) (bs.length+1) G)) rfl) (fun g' Wu=>by have:=(WS.lt g' Wu).1;omega);refine⟨rfl,W9.trans (kE Xf.o Y WY Ws),⟨Y,?_,_,_,_,_,Wv.mX 4 _,⟨_,iR R0.o Xf.o aj Y Ws⟩,⟨_,iR R1.o Xf.o aj Y Ws⟩,⟨_,iR R2.o Xf.o aj Y Ws⟩,?_⟩⟩
 · have hn:=nX (B:=B) (i:=4) (u:=.slice (some ⟨g,0,none⟩) (bs.length+1) G) (Nam.put D1.o D2.o D3.o WK.o) RR.o Y G3.o;simpa using hn
 · rw[List.flatMap_append,List.length_append];exact F):p:=t
def AdD{p:Prop}(t:p:=by rintro e w1 ⟨rfl,rfl⟩;go_wp2;go_ret;exact⟨aL U.symm,WW.o,fun e=>absurd (U.symm.trans e) aj⟩):p:=t
def AdK{p:Prop}(t:p:=by simpa using q3):p:=t
def AaI{p:Prop}(t:p:=by
 go_roundw
 case rel=>exact⟨k+1,aa,au,fM HZ.o C.o,WM.o,W.o⟩
 case measure=>simp[intOf];omega):p:=t
def AbY{p:Prop}(t:p:=by (go_wp2_with fail);go_ret;exact⟨aL HF.o,W.o,fun e=>absurd (HF.trans e) HE.o⟩):p:=t
def AcF{p:Prop}(t:p:=by (go_wp2_with fail);go_ret;exact⟨aL (bX HZ.o).symm,HX.o,fun _=>HB.o⟩):p:=t
def Ady{p:Prop}(t:p:=by have:=G.o;omega):p:=t
def Aaw{p:Prop}(t:p:=by go_enter Tryz.func40,Tryz.ntmps40;(go_wp2_with fail);refine(NM.o _).mono ?_;rintro e w1 ⟨rfl,rfl⟩;go_wp2;go_ret;exact⟨aL T.symm,D.o⟩):p:=t
def Ab4{p:Prop}(t:p:=by clear W;go_wp2;go_ret;exact⟨aL U.symm,D.trans (P.mono (by rw[<-HM.o];exact Nat.le_refl _))⟩):p:=t
def AcL{p:Prop}(t:p:=by rw[HM.o];exact Nat.le_refl _):p:=t
def Aai{p:Prop}(t:p:=by go_enter Tryz.func41,Tryz.ntmps41;go_wp2;go_ret;exact⟨aL U.symm,(Ext.new _ _).trans (Ext.new _ _)⟩):p:=t
def AbT{p:Prop}(t:p:=by
 by_cases g1:f.r<0
 .have V:decide (f.r<0)=true:=ae;have U:Hid (eD n0 n1 f=2):=aJ (by rw[Q.o,if_pos (.inl g1)]);exact Aai
 have V:decide (f.r<0)=false:=ae;by_cases g2:1000<f.r
 .have F:decide (1000<f.r)=true:=ae;have U:Hid (eD n0 n1 f=2):=aJ (by rw[Q.o,if_pos (.inr g2)]);exact Aai
 have F:decide (1000<f.r)=false:=ae;have U:Hid (eD n0 n1 f=0):=aJ (by rw[Q.o,if_neg aa]);exact Aai):p:=t
def AcE{p:Prop}(t:p:=by have U:Hid (eD n0 n1 f=10):=aJ (lu D (by have:=P.o;omega));exact Aai):p:=t
def Aad{p:Prop}(t:p:=by go_enter Tryz.func16,Tryz.ntmps16;(go_wp2_with fail);refine K.mono ?_;rintro e w1 ⟨rfl,J⟩;have k1:=(P.ext J).cell;have k2:=(V.ext J).cell;have W:=aJ J;clear J;go_wp2;go_ret;exact⟨aL (by rw[H.o];exact U.symm),D.trans W.o⟩):p:=t
def AbS{p:Prop}(t:p:=by
 by_cases g1:f.r<0
 .have dr:decide (f.r<0)=true:=ae;have U:Hid (eD n0 n1 f=2):=aJ (by rw[Q.o,if_pos (.inl g1)]);exact Aad
 have dr:decide (f.r<0)=false:=ae;by_cases g2:1000<f.r
 .have F:decide (1000<f.r)=true:=ae;have U:Hid (eD n0 n1 f=2):=aJ (by rw[Q.o,if_pos (.inr g2)]);exact Aad
 have F:decide (1000<f.r)=false:=ae;have U:Hid (eD n0 n1 f=0):=aJ (by rw[Q.o,if_neg aa]);exact Aad):p:=t
def AcD{p:Prop}(t:p:=by have U:Hid (eD n0 n1 f=10):=aJ (lu hz (by have:=Z1.o;omega));exact Aad):p:=t
def Abh{p:Prop}(t:p:=by ext<;>simp only[GQ.bM,GQ.bQ,GQ.bN]<;>grind):p:=t
def Aaq{p:Prop}(t:p:=by have Xp:=aJ (L ▸ Q.s);clear L;(go_wp2_with (refine wpList_load_mid rfl 102 _ rfl g7 (0) rf (aN 3 fr) _ Ws.o Tryz.underlying102 rfl (j5 _) (Hid.o ?_)));refine aJ ?_;refine Qp ?_;refine aO rfl 102 (.tmp 6) (.tmp 46) rfl g6 (0) (aN 3 fr) rf rf N.o (j5 _) (dH 3 _) (fun we G=> ?_);refine Qp ?_;replace G:=Hid.o G;have HF:=aJ (Xp.fin G);clear G;(go_wp2_with fail);exact kD rfl rfl rf HF.o.1 Tryz.underlying102 rfl (qQ _) ⟨_,rfl,fun k hk=>HF.o.2.2 _ _ _ (WR.o k hk),HF.o.2.1⟩):p:=t
def Ab0{p:Prop}(t:p:=by
 go_roundw
 case rel=>exact⟨n+1,aa,au,_,Wt.o⟩
 case measure=>simp[intOf];omega):p:=t
def Ade{p:Prop}(t:p:=by rw[Xg];rfl):p:=t
def Adl{p:Prop}(t:p:=by intro R I;go_simp;exact⟨Ext.refl _,by show _=_;simp[XD]⟩):p:=t
def Adw{p:Prop}(t:p:=by rw[Xj];rfl):p:=t
def AbK{p:Prop}(t:p:=by go_enter Tryz.func80,Tryz.ntmps80;go_wp2;go_ret;exact⟨aL U.symm,D.o⟩):p:=t
def AcT{p:Prop}(t:p:=by intro v1 w1 D F;go_wp2;go_ret;exact⟨_,rfl,by simpa using D,fq F (Ext.new _ _) Aa1⟩):p:=t
def Adf{p:Prop}(t:p:=by
 rcases Nat.eq_zero_or_pos n with j|j
 .exact j
 .obtain⟨_,_,e,_⟩:=h j;cases e):p:=t
def Abf{p:Prop}(t:p:=by have:=Ww.o;omega):p:=t
def Aci{p:Prop}(t:p:=by
 go_roundw
 case rel=>exact⟨j+1,_,aa,au,Wq.o,by rw[HJ.o];exact Xo.o,WR.o⟩
 case measure=>simp[intOf];omega):p:=t
def Aab{p:Prop}(t:p:=by
 (go_wp2_with fail);go_quiet (fail);generalize K:we.drewN nq=wq;have Wv:Ext we wq:=by rw[<-K];exact(Ext.refl _).drewN _
 replace Wt:=Wt.aA Wv;replace J:=J.aA Wv;clear Wv K WX WW WR WU;have WX:wq.cell? ⟨WS,0,none⟩=some (.int .i64 (b.a:Int)):=(J.cell 0).trans (by rw[<-WO.o.1];rfl);have WW:wq.cell? ⟨WS,1,none⟩=some (.int .i64 (b.b:Int)):=(J.cell 1).trans (by rw[<-WO.o.2];rfl);clear hq J;(go_wp2_with fail);clear WX WW;go_loopw [2,44] (fun cv jv wx=>∃(j:Nat) (D:Bool),j<=2/\jv=.int .i64 j/\cv=.bool D/\Rv w wx gx C E bs (stp b O j)/\cnt L 18<=cnt (stp b O j) 18/\(D=false->ch=false/\stp b O j=O)/\(D=true->cnt L 18<cnt (stp b O j) 18)) (fun _ jv _=>2-(intOf jv).toNat)
 case atStart=>exact⟨0,ch,aa,rfl,rfl,Wt.o,R.le,fun h=>⟨h,rfl⟩,R.yes⟩
 case round=>
  rename World=>wx;obtain⟨j,D,hj,rfl,rfl,WE,G,Wp,WH⟩:=hrel;have V:=aJ WE;have Ww:=aJ G;have Wu:=aJ Wp;have W:=aJ WH;clear WE G Wp WH Wt;by_cases Ws:j<2
  .have WP:decide ((j:Int)<2)=true:=ae;have WQ:=SC (a:=b.a) (b:=b.b) Ws wx;obtain⟨n,hn⟩:∃n,(if j=0 then b.a else b.b)=n:=⟨_,rfl⟩;rw[hn] at WQ;have WZ:n<=17:=by rw[<-hn];split<;>omega
   have I:=wI b O Ws;rw[hn,Wx.o] at I;have l:=aJ I;have WY:=aJ hn;clear I hn;have U:n≠17->JoinD bs n:=fun B=>by
    rw[<-WY.o] at B⊢;split
    .exact II HM.o S.sub N.o Wx.o
    .rename_i h0;rw[if_neg h0] at B;exact Ik HM.o S.sub N.o Wx.o B
   have WT:=aJ U;clear U;have WL:=V.g.cell_ (k:=15+n) aa ((dY aa).trans (mH aa));have r1:(0:Int)<=(n:Int):=aa;have r2:(n:Int)<18:=aa;by_cases M:n=17
   .have W9:((n:Int)==17)=true:=by rw[M];rfl
    have T:=aJ (oF (lb:=true) (n:=n) (L:=stp b O j) (Or.inr (Or.inl M)));go_wp2_with fail
    go_roundw
    case rel=>exact⟨j+1,D,aa,au,rfl,by rw[l.o,T.o];exact V.o,by rw[l.o,T.o];exact Ww.o,fun h=>by rw[l.o,T.o];exact Wu.o h,fun h=>by rw[l.o,T.o];exact W.o h⟩
    case measure=>simp[intOf];omega
   .have W9:((n:Int) !=17)=true:=ae;have Xp:¬((n:Int)=17):=aa;cases Y:stp b O j n with
    |true=>
     rw[Y] at WL;have Z:=aJ Y;clear Y;have T:=aJ (oF (lb:=true) (n:=n) (L:=stp b O j) (Or.inr (Or.inr Z.o)));go_wp2_with fail
     go_roundw
     case rel=>exact⟨j+1,D,aa,au,rfl,by rw[l.o,T.o];exact V.o,by rw[l.o,T.o];exact Ww.o,fun h=>by rw[l.o,T.o];exact Wu.o h,fun h=>by rw[l.o,T.o];exact W.o h⟩
     case measure=>simp[intOf];omega
    |false=>
     rw[Y] at WL;have Z:=aJ Y;clear Y;have Xl:=V.g.frozen (15+n);have WI:=aJ (V.set (n:=n) aa (WT.o M));have WF:=yU Z.o 18;rw[if_pos aa] at WF;have WK:=aJ WF;clear WF;have F:=aJ M;clear M;go_wp2_with fail
     go_roundw
     case rel=>exact⟨j+1,true,aa,au,rfl,by rw[l.o,jX rfl F.o Z.o];exact WI.o,by rw[l.o,jX rfl F.o Z.o,WK.o];have:=Ww.o;omega,(fun h=>by cases h),fun _=>by rw[l.o,jX rfl F.o Z.o,WK.o];have:=Ww.o;omega⟩
     case measure=>simp[intOf];omega
  .obtain rfl:j=2:=aa;have WP:decide ((2:Int)<2)=false:=aj
   go_wp2_with fail
   go_roundw
   case rel=>exact⟨i+1,stp b O 2,D,aa,by rw[WC.o];rfl,rfl,V.o,Ep N.o 2,R.next Xf.o Ww.o (Wu.o) (W.o)⟩
   case measure=>rw[WC.o];simp[intOf];omega):p:=t
def Ac5{p:Prop}(t:p:=by rw[Xb];exact(Blk.new wz 167 zBr).there (show 0+(Bv i).cs.length<=zBr.size from Nat.le_refl 20)):p:=t
theorem AbD{p:Prop}(t:p:=by
 unfold oo at hp;split at hp
 .rename_i x J;exact(hn ⟨x,J⟩).elim
 .exact hp):p:=t
theorem Aaf{p:Prop}(t:p:=by
 clear Z;rename World=>wr;obtain⟨D,WP,rfl,hR⟩:=hrel;have Q:=aJ hR;clear hR;by_cases WQ:D<18
 .have XI:decide ((D:Int)<18)=true:=ae;have WN:=L8 (L:=lv brs) WQ wr;have q1:(0:Int)<=(D:Int):=aa;have q2:(D:Int)<18:=aa;cases hL:lv brs D with
  |false=>
   rw[hL] at WN;have HL:=aJ hL;go_wp2_with fail
   go_roundw
   case rel=>exact⟨D+1,aa,au,Q.skip HL.o⟩
   case measure=>simp[intOf];omega
  |true=>
   rw[hL] at WN;have HL:=aJ hL;have WK:∃r,rwx (lv brs) D=r:=⟨_,rfl⟩;obtain⟨r3,WM⟩:=WK;have Xn:r3<n:=by rw[<-WM,<-Xi.o];exact(Rwx.of (fun k hk=>sN HN.ok hk)).lt _ HL.o
   have Xo:wr.cell? ⟨g10,D,none⟩=some (.int .i64 (r3:Int)):=Q.b10.cell_ (k:=D) aa (by simp only[if_pos WQ,WM]);have V:=aJ WM;clear WM;have kh:=Q.hd Xn;obtain⟨e3,XC,Xr⟩:=Q.en Xn;have Xz:wr.rangeAt (RX r3).b 0 e3.cells:=fun t v hv=>(by rw[Nat.zero_add];exact Xr t v hv);have Xd:=aJ XC;have WJ:=aJ Xz;clear XC Xr Xz;have N:=aJ (Q.there WQ);have q3:(0:Int)<=(r3:Int):=aa;have q4:(r3:Int)<(n:Int):=aa;(go_wp2_with (refine wpList_load_mid rfl 42 _ rfl (RX r3).b 0 rf e3.cells _ WJ.o Tryz.underlying42 rfl bL (Hid.o ?_)));refine aJ ?_;refine Qp ?_;(go_wp2_with (refine aT rfl 42 (.tmp 143) (.tmp 142) rfl g9 (D*6) e3.cells rf rf N.o bL (dZ e3) (fun wb l=>Hid.o ?_)));refine aJ ?_;refine Qp ?_;have Wt:=aJ (Q.put WQ HL.o (by rw[V.o];exact Xd.o) (wr':=puts wr g9 (D*6) e3.cells) rfl);clear Q Xd WJ N Xo kh WN;go_wp2_with fail
   go_roundw
   case rel=>exact⟨D+1,aa,au,Wt.o⟩
   case measure=>simp[intOf];omega
 .obtain rfl:D=18:=aa;have XI:decide ((18:Int)<18)=false:=aj;obtain⟨f9,Xg,WY⟩:=Q.b9;have XF:wr.rangeAt g9 0 (aN 18 f9):=fun t v hv=>(by rw[Nat.zero_add];exact(Xg.cell t).trans (by rw[List.getElem?_toArray];exact hv));have XA:wr.there g8 0 (aN 18 f9).length:=Q.b8.there (by rw[List.size_toArray,aW,aW];omega);have Wx:=aJ Xg;have Xf:=aJ WY;have XJ:=aJ XF;have N:=aJ XA;clear Xg WY XF XA;(go_wp2_with (refine wpList_load_mid rfl 100 _ rfl g9 0 rf (aN 18 f9) _ XJ.o Tryz.underlying100 rfl (mJ f9) (Hid.o ?_)));refine aJ ?_;refine Qp ?_;refine aT rfl 100 (.tmp 8) (.tmp 145) rfl g8 0 (aN 18 f9) rf rf N.o (mJ f9) (dH 18 f9) ?_;intro wb l;refine Qp ?_;have WV:=aJ (Q.fin Wx.o Xf.o l);clear Q Wx Xf XJ N l;(go_wp2_with fail);refine kD rfl rfl rf WV.o.1 Tryz.underlying100 rfl (Cq f9) ⟨f9,rfl,fun k hk=> ?_,WV.o.2.1⟩;have h1:=WV.o.2.2 k hk;unfold p8;rw[Xi.o];(try simp only[Bool.false_eq_true,if_false,if_true]);exact h1.to (Lf HN.ok HN.l23 XG.o Xi.o (k:=k) hk)):p:=t
def Ab2{p:Prop}(t:p:=by
 go_roundw
 case rel=>exact⟨i+1,aa,by rw[WC.o];rfl,by rw[DW (by have:=Xp.o;omega) Xv.o,DV (by have:=Xp.o;omega) Xv.o];exact Q.ext ((Ext.refl _).drewN _)⟩
 case measure=>rw[WC.o];simp[intOf];omega):p:=t
def AcK{p:Prop}(t:p:=by have:=WI.o;omega):p:=t
def Adq{p:Prop}(t:p:=by rw[l];exact Blk.new _ _ _):p:=t
def AaZ{p:Prop}(t:p:=by rw[List.length_append,B,C];omega):p:=t
def AcP{p:Prop}(t:p:=by simp only[List.length_append,List.length_take,List.length_drop,D,C];omega):p:=t
theorem Abi{p:Prop}(t:p:=by unfold xN at this;rw[if_pos ⟨j,B⟩] at this;exact this):p:=t
theorem AbI{p:Prop}(t:p:=by unfold chunk;rw[if_pos aa,show(j*6+t)%6=t by omega];exact(O t B).mod l hS):p:=t
def AaW{p:Prop}(t:p:=by
 go_roundw
 case rel=>exact⟨i+1,aa,by rw[XE.o];rfl,_,_,_,Wt.o⟩
 case measure=>rw[XE.o];simp[intOf];omega):p:=t
def Adr{p:Prop}(t:p:=by have:=X4.o;omega):p:=t
def AaK{p:Prop}(t:p:=by intro R hW I;clear I;go_simp;exact⟨Ext.new _ _,fun _=>⟨ag,Blk.new _ _ _⟩,rfl,ag⟩):p:=t
theorem AbZ{p:Prop}(t:p:=by have G:=(H.o _ _ _ L.o).up (show 64<=4400 by omega);unfold xe;rw[if_neg (show ¬f.kind<=3 by have:=Wo.o;omega),if_neg (show ¬f.kind<=6 by have:=Wo.o;omega),if_neg (show ¬f.kind<=9 by have:=Wo.o;omega),if_neg aj];exact G):p:=t
def AcJ{p:Prop}(t:p:=by intro R hW I;clear I;go_simp;exact⟨Ext.refl _,fun h=>absurd h aj,rfl⟩):p:=t
def AdL{p:Prop}(t:p:=by have:=hO.o;omega):p:=t
def Abd{p:Prop}(t:p:=by have h:=(Q.ext Ww.o).g.there (e:=18+i) aa;rw[show 33+(18+i)*6=141+i*6 by omega] at h;exact h):p:=t
def Ac6{p:Prop}(t:p:=by have h:=(Q.ext Ww.o).g.there (e:=36+i) aa;rw[show 33+(36+i)*6=249+i*6 by omega] at h;exact h):p:=t
def Adu{p:Prop}(t:p:=by have h:=(Q.ext Ww.o).g.there (e:=i) aa;rw[show 33+(i)*6=33+i*6 by omega] at h;exact h):p:=t
def AdC{p:Prop}(t:p:=by
 go_roundw
 case rel=>exact⟨i+1,aa,au,_,Q.to (fun e O _=>⟨O,FX O⟩)⟩
 case measure=>simp[intOf];omega):p:=t
def AdH{p:Prop}(t:p:=by
 go_roundw
 case rel=>exact⟨i+1,aa,au,_,Q.to (fun e O hd=>Ct Wo O hd)⟩
 case measure=>simp[intOf];omega):p:=t
def AcX{p:Prop}(t:p:=by rw[G];exact((((Ext.new _ _).alloc _).alloc _).alloc _)):p:=t
def Adg{p:Prop}(t:p:=by rw[G];exact(((Blk.new _ _ _).alloc _).alloc _).alloc _):p:=t
def Adx{p:Prop}(t:p:=by rw[G];exact((Blk.new' _ _ (eY _ _)).alloc _).alloc _):p:=t
def Abq{p:Prop}(t:p:=by intro R I;go_simp;rw[KS _ (by have:=X4.o;omega)];exact⟨Ext.new _ _,rfl,ag,Blk.new _ _ _⟩):p:=t
def Acp{p:Prop}(t:p:=by rw[List.size_toArray,fP,fP];omega):p:=t
def Adn{p:Prop}(t:p:=by have:=P.o;omega):p:=t
def Aan{p:Prop}(t:p:=by refine I _ _ ⟨⟨_,P⟩,rfl⟩ ?_;clear I K;refine aR 4 [(true,5),(true,6),(true,7),(false,9)] ah ?_;intro K I;simp only[aV];(go_wp2_with fail);have B:=HP.o;rw[sw] at B;refine(uO Et (aJ zP) _ (HS.ext P) B uT one_pos EE).mono ?_;clear B;rintro _ wS ⟨GC,GV_,ec,ev,ef,rfl,l,F⟩;replace P:=P.trans F;replace WB:=WB.aA F;replace HP:=HP.aA F;have C:=aJ l;clear l F;(go_wp2_with fail);refine I _ _ ⟨⟨_,P⟩,rfl⟩ ?_;clear I K;refine aS [5,6,7] [(false,9)] _ ah ?_;simp only[bO,aV,List.cons_append,List.nil_append];(repeat (go_big_quiet_step (fail)));refine wpQuiet_nil ?_;refine aR 9 [] ah ?_;intro K I;simp only[aV];have N:Hid (World.there wS gb 0 (iC (.slice (some ⟨GC,0,none⟩) fo.bays.length fo.bays.length) (.slice (some ⟨GV_,0,none⟩) fo.bays.length fo.bays.length) ef).length):=aJ (WB.there (by rw[List.size_toArray,fP,fP];omega));refine aO rfl 47 (.tmp 2) (.tmp 11) rfl gb 0 (iC (.slice (some ⟨GC,0,none⟩) fo.bays.length fo.bays.length) (.slice (some ⟨GV_,0,none⟩) fo.bays.length fo.bays.length) ef) rf rf N.o (oI _ _ _) (vZ _ _ _ rfl rfl) (fun U G=> ?_);refine Qp ?_;replace G:=Hid.o G;have j:=EF P Xt.o WB.o C.o G;clear G N;simp only[wpList];refine⟨trivial,?_⟩;refine I _ _ ⟨⟨_,j.2.2⟩,rfl⟩ ?_;clear I K;exact⟨gb,qg PA 1 pc PB 1 qc,GC,GV_,ec,ev,ef,by simp only[Act.put,List.setIfInBounds_toArray,List.set_cons_succ,List.set_cons_zero],j.1,j.2.1,j.2.2⟩):p:=t
def AaC{p:Prop}(t:p:=by go_enter Tryz.func4,Tryz.ntmps4;(go_wp2_with fail);refine(known0 _).mono ?_;rintro _ w1 ⟨rfl,F⟩;replace B:=B.aC F;clear F;(go_wp2_with fail);go_ret;exact⟨rfl,B.o⟩):p:=t
def aa{p:Prop}(h:p:=by omega):p:=h
def ae{p:Prop}(h:p:=by simp;omega):p:=h
def ag{p:Prop}(h:p:=by simp):p:=h
def rf{p:Prop}(h:p:=by rfl):p:=h
def ah{p:Prop}(h:p:=by kernel_rfl):p:=h
def aj{p:Prop}(h:p:=by decide):p:=h
def ak{p:Prop}(h:p:=by grind):p:=h
def au{p:Prop}(h:p:=by go_num):p:=h
def Gw{p q : Prop}(h : q)(t : Hid q -> p := by intro h;go_wp2_with fail;exact h.o): p := t h
def Gm{p : Prop}{P : Program}{f : FuncId}{a : Array Value}{w : World}{G q : Ending -> World -> Prop}(c : Calls P f a w G)(h : ∀ e w', G e w' -> q e w')(t : Hid (Calls P f a w G) -> Hid (∀ e w', G e w' -> q e w') -> p := by intro c h;go_wp2_with fail;exact c.o.mono h.o): p := t c h
def val:List Nat->Nat
 |[]=>0
 |d::l=>d+4294967296*val l
def Dig (l:List Nat):Prop:=∀d∈l,d<4294967296
def Dig.nil:Dig []:=by intro d h;cases h
def Dig.cons{d l}(hd:d<4294967296)(Z:Dig l):Dig (d::l):=by
 intro x J;cases J with
 |head=>exact hd
 |tail _ h=>exact Z x h
def Dig.head{d l}(h:Dig (d::l)):d<4294967296:=h d ag
def Dig.tail{d l}(h:Dig (d::l)):Dig l:=fun x J=>h x (by simp[J])
def Dig.append{a b}(ha:Dig a)(hb:Dig b):Dig (a++b):=by
 intro x J;rcases List.mem_append.1 J with h|h
 .exact ha x h
 .exact hb x h
def Dig.one{d}(h:d<4294967296):Dig [d]:=Dig.cons h Dig.nil
def Dig.take{l}(h:Dig l)(k):Dig (l.take k):=fun x J=>h x (List.mem_of_mem_take J)
def Dig.drop{l}(h:Dig l)(k):Dig (l.drop k):=fun x J=>h x (List.mem_of_mem_drop J)
def Dig.at_{l}(h:Dig l){k x:Nat}(J:l[k]? =some x):x<4294967296:=h x (List.mem_of_getElem? J)
def Dig.replicate(k):Dig (List.replicate k 0):=by
 intro x J;rw[List.mem_replicate] at J;omega
def Dig.set{l}(h:Dig l)(k){x}(J:x<4294967296):Dig (l.set k x):=by
 intro y R;rcases List.mem_or_eq_of_mem_set R with j|j
 .exact h y j
 .omega
def val_append(a b):val (a++b)=val a+4294967296^a.length*val b:=by
 induction a with
 |nil=>simp[val]
 |cons d l ih=>simp only[List.cons_append,val,ih,List.length_cons,Nat.pow_succ,Nat.mul_add];rw[Nat.mul_comm (4294967296^l.length) 4294967296,Nat.mul_assoc];omega
def p9(k):val (List.replicate k 0)=0:=by
 induction k with
 |zero=>rfl
 |succ k ih=>simp[List.replicate_succ,val,ih]
def jG(a x):val (a++[x])=val a+4294967296^a.length*x:=by rw[val_append];simp[val]
def bF{l:List Nat}{k x}(J:l[k]? =some x):val (l.take (k+1))=val (l.take k)+4294967296^k*x:=by
 obtain⟨j,rfl⟩:=List.getElem?_eq_some_iff.1 J;rw[List.take_succ_eq_append_getElem j,jG];simp[Nat.min_eq_left (Nat.le_of_lt j)]
def jY{l k}(h:l.length<=k):val (l.take k)=val l:=by rw[List.take_of_length_le h]
def uo{l:List Nat}{k}(h:l.length<=k):val (l.take (k+1))=val (l.take k):=by rw[jY h,jY aa]
def gI(l k)(j:k<=l.length):val l=val (l.take k)+4294967296^k*val (l.drop k):=by
 have:=val_append (l.take k) (l.drop k);rw[List.take_append_drop] at this;rw[this];simp[Nat.min_eq_left j]
def lQ{l}(h:Dig l):val l<4294967296^l.length:=by
 induction l with
 |nil=>simp[val]
 |cons d l ih=>
  have j:=ih h.tail;have B:=h.head;simp only[val,List.length_cons,Nat.pow_succ];omega
def pO{l k x y}(J:l[k]? =some x):val (l.set k y)+4294967296^k*x=val l+4294967296^k*y:=by
 induction l generalizing k with
 |nil=>simp at J
 |cons d l ih=>
  cases k with
  |zero=>simp at J;subst J;simp[val];omega
  |succ k=>
   have:=ih (k:=k) (by simpa using J);simp only[List.set_cons_succ,val,Nat.pow_succ];have e:∀z,4294967296^k*4294967296*z=4294967296*(4294967296^k*z):=fun z=>by rw[Nat.mul_comm (4294967296^k) 4294967296,Nat.mul_assoc]
   rw[e,e];omega
def Canon (l:List Nat):Prop:=∀x,l.getLast? =some x->x≠0
def Canon.nil:Canon []:=by intro x h;simp at h
def ry{d l}(h:Canon (d::l)):Canon l:=by
 intro x J;cases l with
 |nil=>simp at J
 |cons e m=>exact h x (by rw[List.getLast?_cons_cons];exact J)
def LG{l}(h:Canon l)(Z:l≠[]):0<val l:=by
 induction l with
 |nil=>exact absurd rfl Z
 |cons d l ih=>
  cases l with
  |nil=>have:=h d ag;simp[val];omega
  |cons e m=>
   have:=ih (ry h) ag;simp only[val] at this⊢;omega
def I9{l}(h:Canon l)(Z:l≠[]):4294967296^(l.length-1)<=val l:=by
 induction l with
 |nil=>exact absurd rfl Z
 |cons d l ih=>
  cases l with
  |nil=>have:=h d ag;simp[val];omega
  |cons e m=>
   have:=ih (ry h) ag;simp only[val,List.length_cons,Nat.add_sub_cancel] at this⊢;rw[Nat.pow_succ];omega
def SE{a b}(ha:Dig a)(hb:Dig b)(H:Canon a)(j:Canon b)(h:val a=val b):a=b:=by
 induction a generalizing b with
 |nil=>
  cases b with
  |nil=>rfl
  |cons d l=>have:=LG j ag;rw[<-h] at this;simp[val] at this
 |cons d l ih=>
  cases b with
  |nil=>have:=LG H ag;rw[h] at this;simp[val] at this
  |cons e m=>
   simp only[val] at h;have F:=ha.head;have D:=hb.head;have B:d=e:=aa;have C:val l=val m:=aa;rw[B,ih ha.tail hb.tail (ry H) (ry j) C]
def bZ (n:Nat):List Nat:=if h:n=0 then [] else n%4294967296::bZ (n/4294967296)
termination_by n
decreasing_by omega
def iw:bZ 0=[]:=by rw[bZ];simp
def vQ{n}(h:n≠0):bZ n=n%4294967296::bZ (n/4294967296):=by rw[bZ];simp[h]
def aM(n):val (bZ n)=n:=by
 induction n using Nat.strongRecOn with
 |_ n ih=>
  by_cases h:n=0
  .subst h;rw[iw];rfl
  .rw[vQ h];have:=ih (n/4294967296) aa;simp only[val,this];omega
def oC(n):Dig (bZ n):=by
 induction n using Nat.strongRecOn with
 |_ n ih=>
  by_cases h:n=0
  .subst h;rw[iw];exact Dig.nil
  .rw[vQ h];exact Dig.cons aa (ih (n/4294967296) aa)
def Jv{d l}(h:Canon l)(hd:l=[]->d≠0):Canon (d::l):=by
 intro x J;cases l with
 |nil=>simp at J;subst J;exact hd rfl
 |cons e m=>rw[List.getLast?_cons_cons] at J;exact h x J
def mG{n}:bZ n=[]↔n=0:=by
 constructor
 .intro h;by_cases j:n=0
  .exact j
  .rw[vQ j] at h;cases h
 .rintro rfl;exact iw
def bJ(n):Canon (bZ n):=by
 induction n using Nat.strongRecOn with
 |_ n ih=>
  by_cases h:n=0
  .subst h;rw[iw];exact Canon.nil
  .rw[vQ h];refine Jv (ih (n/4294967296) aa) fun j=> ?_;have:=mG.1 j;omega
def Hl{l}(h:Dig l)(c:Canon l):bZ (val l)=l:=SE (oC _) h (bJ _) c (aM _)
def iN (l:List Nat):Nat->Nat
 |0=>0
 |k+1=>if l.getD k 0=0 then iN l k else k+1
theorem Pm(l k):iN l k<=k:=by
 induction k with
 |zero=>simp[iN]
 |succ k ih=>unfold iN;split<;>omega
theorem Hy(l k):∀j,iN l k<=j->j<k->l.getD j 0=0:=by
 induction k with
 |zero=>intro j _ h;omega
 |succ k ih=>
  intro j B F;unfold iN at B;split at B
  .rename_i C
   by_cases D:j=k
   .subst D;exact C
   .exact ih j B aa
  .omega
theorem Jm(l k)(h:0<iN l k):l.getD (iN l k-1) 0≠0:=by
 induction k with
 |zero=>simp[iN] at h
 |succ k ih=>
  unfold iN at h⊢;split
  .rename_i j
   rw[if_pos j] at h;exact ih h
  .rename_i j
   simpa using j
def Oq{l}(h:∀j,j<l.length->l.getD j 0=0):l=List.replicate l.length 0:=by
 apply List.ext_getElem?;intro i;by_cases hi:i<l.length
 .have:=h i hi;simp[hi] at this⊢;exact this
 .simp[Nat.not_lt.1 hi]
def LJ{l}(h:Dig l):l.take (iN l l.length)=bZ (val l):=by
 have G:=Pm l l.length;have B:l.drop (iN l l.length)=List.replicate (l.length-iN l l.length) 0:=by
  have:=Oq (l:=l.drop (iN l l.length)) (fun j D=>by
   have:=Hy l l.length (iN l l.length+j) aa (by simp at D;omega);simpa using this)
  simpa using this
 have hv:val l=val (l.take (iN l l.length)):=by
  have:=gI l _ G;rw[this,B,p9];simp
 rw[hv];refine(Hl (h.take _) fun x J=> ?_).symm;by_cases C:iN l l.length=0
 .rw[C] at J;simp at J
 .have:=Jm l l.length aa;rw[List.getLast?_eq_getElem?,List.length_take,Nat.min_eq_left G] at J;rw[List.getElem?_take_of_lt aa] at J;simpa[List.getD,J] using this
def dX{n k}(h:n<4294967296^k):(bZ n).length<=k:=by
 by_cases j:bZ n=[]
 .simp[j]
 .have:=I9 (bJ n) j;rw[aM] at this;rcases Nat.lt_or_ge ((bZ n).length-1) k with l|l
  .omega
  .have:=Nat.pow_le_pow_right (n:=4294967296) aa l;omega
def dN{n k}(h:(bZ n).length<=k):n<4294967296^k:=by
 have:=lQ (oC n);rw[aM] at this;exact Nat.lt_of_lt_of_le this (Nat.pow_le_pow_right aa h)
def We{l n a b c}(hd:Dig l)(D:val l<4294967296^(n+3))(ha:l[n+2]? =some a)(hb:l[n+1]? =some b)(hc:l[n]? =some c):
  ∃r,r<4294967296^n/\val l=(a*(4294967296*4294967296)+b*4294967296+c)*4294967296^n+r:=by
 have hn:n+2<l.length:=(List.getElem?_eq_some_iff.1 ha).1;have j:=gI l (n+3) aa;have B:val (l.drop (n+3))=0:=by
  rcases Nat.eq_zero_or_pos (val (l.drop (n+3))) with h|h
  .exact h
  .have:4294967296^(n+3)*1<=4294967296^(n+3)*val (l.drop (n+3)):=Nat.mul_le_mul_left _ h;omega
 rw[B,Nat.mul_zero,Nat.add_zero,bF ha,bF hb,bF hc] at j;refine⟨val (l.take n),?_,?_⟩
 .exact AbL
 .rw[j];have F:4294967296^(n+2)=4294967296^n*(4294967296*4294967296):=by rw[Nat.pow_add]
  have C:4294967296^(n+1)=4294967296^n*4294967296:=by rw[Nat.pow_succ]
  rw[F,C,Nat.add_mul,Nat.add_mul,Nat.mul_comm (a*(4294967296*4294967296)),Nat.mul_comm (b*4294967296),Nat.mul_comm c,Nat.mul_assoc,Nat.mul_assoc,Nat.mul_comm a,Nat.mul_comm b];omega
def V8{l n b c}(hd:Dig l)(Z:l.length=n+2)(hb:l[n+1]? =some b)(hc:l[n]? =some c):
  ∃r,r<4294967296^n/\val l=(b*4294967296+c)*4294967296^n+r:=by
 have j:=jY (l:=l) (k:=n+2) aa;rw[bF hb,bF hc] at j;refine⟨val (l.take n),?_,?_⟩
 .exact AbL
 .rw[<-j,Nat.pow_succ,Nat.add_mul,Nat.mul_comm (b*4294967296),Nat.mul_comm c,Nat.mul_assoc,Nat.mul_comm b];omega
section
variable {S V P u2 u1 u0 v1 v0 r s g rest:Nat}
structure qL (S V P u2 u1 u0 v1 v0:Nat):Prop where
 pos:0<P
 hS:∃r,r<P/\S=(u2*(4294967296*4294967296)+u1*4294967296+u0)*P+r
 hV:∃s,s<P/\V=(v1*4294967296+v0)*P+s
 top:2147483648<=v1
 l1:v1<4294967296
 l0:v0<4294967296
 m2:u2<4294967296
 m1:u1<4294967296
 m0:u0<4294967296
 fits:S<4294967296*V
def qL.Rh(t:qL S V P u2 u1 u0 v1 v0):0<V:=by
 rcases Nat.eq_zero_or_pos V with h|h
 .have:=t.fits;rw[h] at this;omega
 .exact h
def qL.Uc(t:qL S V P u2 u1 u0 v1 v0):S/V<4294967296:=by
 rw[Nat.div_lt_iff_lt_mul t.Rh];exact t.fits
def qL.LK(t:qL S V P u2 u1 u0 v1 v0):u2*4294967296+u1<4294967296*(v1+1):=by
 obtain⟨r,H,hS⟩:=t.hS;obtain⟨s,hs,hV⟩:=t.hV;have F:=t.fits;have C:=t.l0;rcases Nat.lt_or_ge (u2*4294967296+u1) (4294967296*(v1+1)) with h|h
 .exact h
 .exfalso;have G:4294967296*(v1+1)*(4294967296*P)<=(u2*4294967296+u1)*(4294967296*P):=Nat.mul_le_mul_right _ h;have D:(u2*4294967296+u1)*(4294967296*P)<=S:=by
   rw[hS];have:(u2*4294967296+u1)*(4294967296*P)=(u2*(4294967296*4294967296)+u1*4294967296)*P:=by rw[<-Nat.mul_assoc,Nat.add_mul (u2*4294967296) u1 4294967296,Nat.mul_assoc u2]
   rw[this];have:(u2*(4294967296*4294967296)+u1*4294967296)*P<=(u2*(4294967296*4294967296)+u1*4294967296+u0)*P:=Nat.mul_le_mul_right _ aa;omega
  have j:V<=(v1+1)*(4294967296*P):=by
   rw[hV];have e:(v1+1)*(4294967296*P)=(v1*4294967296+4294967296)*P:=by rw[<-Nat.mul_assoc,Nat.add_mul v1 1,Nat.one_mul]
   rw[e];have:(v1*4294967296+v0+1)*P<=(v1*4294967296+4294967296)*P:=Nat.mul_le_mul_right _ aa;rw[Nat.add_mul _ 1,Nat.one_mul] at this;omega
  have l:4294967296*V<=4294967296*((v1+1)*(4294967296*P)):=Nat.mul_le_mul_left _ j;rw[<-Nat.mul_assoc] at l;omega
def qL.above(t:qL S V P u2 u1 u0 v1 v0)(h:u2*(4294967296*4294967296)+u1*4294967296+u0<g*(v1*4294967296+v0)):S/V<g:=by
 obtain⟨r,B,hS⟩:=t.hS;obtain⟨s,hs,hV⟩:=t.hV;rw[Nat.div_lt_iff_lt_mul t.Rh];have j:(u2*(4294967296*4294967296)+u1*4294967296+u0+1)*P<=g*(v1*4294967296+v0)*P:=Nat.mul_le_mul_right _ h;rw[Nat.add_mul _ 1,Nat.one_mul] at j;have l:g*(v1*4294967296+v0)*P<=g*V:=by
  rw[Nat.mul_assoc];exact Nat.mul_le_mul_left _ (by rw[hV];omega)
 omega
def qL.first(t:qL S V P u2 u1 u0 v1 v0):S/V<=(u2*4294967296+u1)/v1:=by
 obtain⟨r,F,hS⟩:=t.hS;obtain⟨s,hs,hV⟩:=t.hV;have hv:=t.top;have C:=t.m0;rw[Nat.le_div_iff_mul_le aa];have D:S/V*V<=S:=Nat.div_mul_le_self S V;have l:S/V*(v1*(4294967296*P))<=S/V*V:=by
  refine Nat.mul_le_mul_left _ ?_;rw[hV];have e:v1*(4294967296*P)=v1*4294967296*P:=by rw[Nat.mul_assoc]
  have:v1*4294967296*P<=(v1*4294967296+v0)*P:=Nat.mul_le_mul_right _ aa;omega
 have B:S<(u2*4294967296+u1+1)*(4294967296*P):=by
  rw[hS];have e:(u2*4294967296+u1+1)*(4294967296*P)=(u2*(4294967296*4294967296)+u1*4294967296+4294967296)*P:=by rw[<-Nat.mul_assoc,Nat.add_mul (u2*4294967296+u1) 1 4294967296,Nat.add_mul (u2*4294967296) u1 4294967296,Nat.mul_assoc u2,Nat.one_mul]
  rw[e];have:(u2*(4294967296*4294967296)+u1*4294967296+u0+1)*P<=(u2*(4294967296*4294967296)+u1*4294967296+4294967296)*P:=Nat.mul_le_mul_right _ aa;rw[Nat.add_mul _ 1,Nat.one_mul] at this;omega
 have j:S/V*v1*(4294967296*P)<(u2*4294967296+u1+1)*(4294967296*P):=by
  rw[Nat.mul_assoc];omega
 have:=Nat.lt_of_mul_lt_mul_right j;omega
def qL.close(t:qL S V P u2 u1 u0 v1 v0)(l:g<4294967296)(h:g*(v1*4294967296+v0)<=u2*(4294967296*4294967296)+u1*4294967296+u0):g<=S/V+1:=by
 obtain⟨r,F,hS⟩:=t.hS;obtain⟨s,hs,hV⟩:=t.hV;have hv:=t.top;have G:g*V<=(u2*(4294967296*4294967296)+u1*4294967296+u0)*P+g*P:=by
  rw[hV,Nat.mul_add,<-Nat.mul_assoc];have M:g*(v1*4294967296+v0)*P<=(u2*(4294967296*4294967296)+u1*4294967296+u0)*P:=Nat.mul_le_mul_right _ h;have j:g*s<=g*P:=Nat.mul_le_mul_left _ (Nat.le_of_lt hs);omega
 have C:g*P<V:=by
  rw[hV];have M:g*P<4294967296*P:=Nat.mul_lt_mul_of_pos_right l t.pos;have j:4294967296*P<=(v1*4294967296+v0)*P:=Nat.mul_le_mul_right _ aa;omega
 have D:g*V<S+V:=aa;rcases Nat.lt_or_ge (S/V+1) g with hc|hc
 .exfalso;have M:(S/V+2)*V<=g*V:=Nat.mul_le_mul_right _ hc;have j:=Nat.lt_div_mul_add (a:=S) (b:=V) t.Rh;have B:(S/V+2)*V=S/V*V+V+V:=by rw[Nat.add_mul];omega
  omega
 .exact hc
end
def Ui{A C D R u0 X:Nat}(e:X=C+D)(j:A=C+R):D>R+u0↔A+u0<X:=by
 subst e j;constructor
 .intro l;omega
 .intro l;omega
def zI{u2 u1 u0 v1 v0 g rest}(h:g*v1+rest=u2*4294967296+u1):g*v0>rest*4294967296+u0↔u2*(4294967296*4294967296)+u1*4294967296+u0<g*(v1*4294967296+v0):=
 Ui (C:=g*v1*4294967296) (by rw[Nat.mul_add,<-Nat.mul_assoc]) aa
def g3 (a b d:Int):Nat:=Nat.gcd (Nat.gcd d.natAbs a.natAbs) b.natAbs
def sgZ (d:Int):Int:=if d<0 then-1 else 1
def gZ (a b d:Int):Int:=sgZ d*(g3 a b d:Int)
def nf (a b d:Int):Int×Int×Int:=(a/gZ a b d,b/gZ a b d,d/gZ a b d)
theorem EX{a b d}(hd:d≠0):0<g3 a b d:=by
 unfold g3;exact Nat.gcd_pos_of_pos_left _ (Nat.gcd_pos_of_pos_left _ aa)
theorem JM(a b d):(g3 a b d:Int)∣a/\(g3 a b d:Int)∣b/\(g3 a b d:Int)∣d:=by
 unfold g3;refine⟨?_,?_,?_⟩
 .exact Int.ofNat_dvd_left.2 (Nat.dvd_trans (Nat.gcd_dvd_left _ _) (Nat.gcd_dvd_right _ _))
 .exact Int.ofNat_dvd_left.2 (Nat.gcd_dvd_right _ _)
 .exact Int.ofNat_dvd_left.2 (Nat.dvd_trans (Nat.gcd_dvd_left _ _) (Nat.gcd_dvd_left _ _))
theorem UW(a b d):Nat.gcd (Nat.gcd a.natAbs b.natAbs) d.natAbs=g3 a b d:=by
 unfold g3;rw[Nat.gcd_comm,<-Nat.gcd_assoc]
theorem Dj{a b d}(hd:d≠0):gZ a b d≠0:=by
 unfold gZ sgZ;have:=EX (a:=a) (b:=b) hd;split<;>omega
theorem tH{a b d}(hd:d≠0):∃H K F:Int,nf a b d=(H,K,F)/\a=gZ a b d*H/\b=gZ a b d*K/\d=gZ a b d*F/\0<F/\g3 H K F=1:=by
 have B:=Dj (a:=a) (b:=b) hd;obtain⟨⟨M,ha⟩,⟨b1,hb⟩,⟨l,C⟩⟩:=JM a b d;have N:=EX (a:=a) (b:=b) hd;have j:sgZ d*sgZ d=1:=by unfold sgZ;split<;>rfl
 have fac:∀{x I:Int},x=(g3 a b d:Int)*I->x=gZ a b d*(sgZ d*I):=by
  intro x I h;unfold gZ;rw[h,Int.mul_assoc,Int.mul_left_comm (g3 a b d:Int),<-Int.mul_assoc,j,Int.one_mul]
 have P:=fac ha;have J:=fac hb;have S:=fac C;refine⟨sgZ d*M,sgZ d*b1,sgZ d*l,?_,P,J,S,?_,?_⟩
 .unfold nf;have R:a/gZ a b d=sgZ d*M:=by rw[Int.ediv_eq_iff_eq_mul_right B ⟨_,P⟩];exact P
  have Q:b/gZ a b d=sgZ d*b1:=by rw[Int.ediv_eq_iff_eq_mul_right B ⟨_,J⟩];exact J
  have O:d/gZ a b d=sgZ d*l:=by rw[Int.ediv_eq_iff_eq_mul_right B ⟨_,S⟩];exact S
  rw[R,Q,O]
 .have L:(0:Int)<(g3 a b d:Int):=aa;unfold sgZ;by_cases hn:d<0
  .rw[if_pos hn];have:l<0:=by
    rcases Int.lt_trichotomy l 0 with h|h|h
    .exact h
    .rw[h] at C;simp at C;exact absurd C hd
    .have:=Int.mul_pos L h;omega
   omega
  .rw[if_neg hn];have:0<l:=by
    rcases Int.lt_trichotomy l 0 with h|h|h
    .have:=Int.mul_neg_of_pos_of_neg L h;omega
    .rw[h] at C;simp at C;exact absurd C hd
    .exact h
   omega
 .have D:∀x:Int,(sgZ d*x).natAbs=x.natAbs:=by
   intro x;rw[Int.natAbs_mul];unfold sgZ;split<;>simp
  have Y:g3 (sgZ d*M) (sgZ d*b1) (sgZ d*l)=g3 M b1 l:=by unfold g3;rw[D,D,D]
  rw[Y];have V:g3 a b d=g3 a b d*g3 M b1 l:=by
   have R:a.natAbs=g3 a b d*M.natAbs:=by
    have:=congrArg Int.natAbs ha;exact Abk
   have Q:b.natAbs=g3 a b d*b1.natAbs:=by
    have:=congrArg Int.natAbs hb;exact Abk
   have O:d.natAbs=g3 a b d*l.natAbs:=by
    have:=congrArg Int.natAbs C;exact Abk
   have W:g3 a b d=Nat.gcd (Nat.gcd d.natAbs a.natAbs) b.natAbs:=rfl;generalize g3 a b d=G at*
   have U:Nat.gcd (Nat.gcd d.natAbs a.natAbs) b.natAbs=G*g3 M b1 l:=by
    rw[R,Q,O,Nat.gcd_mul_left,Nat.gcd_mul_left];rfl
   exact W.trans U
  have T:g3 a b d*1=g3 a b d*g3 M b1 l:=by rw[Nat.mul_one];exact V
  exact(Nat.eq_of_mul_eq_mul_left N T).symm
theorem wJ{a b d a' b' d'}(C:a*d'=a'*d)(j:b*d'=b'*d)(B:g3 a b d=1):d∣d':=by
 have h:(g3 (a*d') (b*d') (d*d'):Nat)=d'.natAbs:=by
  unfold g3;rw[Int.natAbs_mul,Int.natAbs_mul,Int.natAbs_mul,Nat.gcd_mul_right,Nat.gcd_mul_right];have:Nat.gcd (Nat.gcd d.natAbs a.natAbs) b.natAbs=1:=B;rw[this,Nat.one_mul]
 have ha:d.natAbs∣(a*d').natAbs:=by rw[C,Int.natAbs_mul];exact Nat.dvd_mul_left _ _
 have hb:d.natAbs∣(b*d').natAbs:=by rw[j,Int.natAbs_mul];exact Nat.dvd_mul_left _ _
 have hc:d.natAbs∣(d*d').natAbs:=by rw[Int.natAbs_mul];exact Nat.dvd_mul_right _ _
 have l:d.natAbs∣d'.natAbs:=by
  rw[<-h];unfold g3;exact Nat.dvd_gcd (Nat.dvd_gcd hc ha) hb
 exact Int.natAbs_dvd_natAbs.1 l
def nS{a b d a' b' d'}(hd:d≠0)(hd':d'≠0)(S:a*d'=a'*d)(R:b*d'=b'*d):nf a b d=nf a' b' d':=by
 obtain⟨K,L,F,U,T,J,Z,hp,W⟩:=tH (a:=a) (b:=b) hd;obtain⟨M,b1,I,e1,C,B,D,O,Q⟩:=tH (a:=a') (b:=b') hd';have Y:=Dj (a:=a) (b:=b) hd;have l:=Dj (a:=a') (b:=b') hd';generalize gZ a b d=G at*
 generalize gZ a' b' d'=H at*
 have j:G*H≠0:=Int.mul_ne_zero Y l;have c1:K*I=M*F:=by
  rw[T,D,C,Z] at S;have:(G*H)*(K*I)=(G*H)*(M*F):=by
   calc (G*H)*(K*I)=G*K*(H*I):=by rw[Int.mul_assoc,Int.mul_assoc,Int.mul_left_comm H K I]
    _=H*M*(G*F):=S
    _=(G*H)*(M*F):=by rw[Int.mul_comm G H,Int.mul_assoc,Int.mul_assoc,Int.mul_left_comm G M F]
  exact Int.eq_of_mul_eq_mul_left j this
 have c2:L*I=b1*F:=by
  rw[J,D,B,Z] at R;have:(G*H)*(L*I)=(G*H)*(b1*F):=by
   calc (G*H)*(L*I)=G*L*(H*I):=by rw[Int.mul_assoc,Int.mul_assoc,Int.mul_left_comm H L I]
    _=H*b1*(G*F):=R
    _=(G*H)*(b1*F):=by rw[Int.mul_comm G H,Int.mul_assoc,Int.mul_assoc,Int.mul_left_comm G b1 F]
  exact Int.eq_of_mul_eq_mul_left j this
 have k1:F∣I:=wJ c1 c2 W;have V:I∣F:=wJ c1.symm c2.symm Q;have P:F=I:=Int.le_antisymm (Int.le_of_dvd O k1) (Int.le_of_dvd hp V);subst P;have N:F≠0:=aa;have ha:K=M:=Int.eq_of_mul_eq_mul_right N c1;have hb:L=b1:=Int.eq_of_mul_eq_mul_right N c2;rw[U,e1,ha,hb]
def Low (a b d:Int):Prop:=0<d/\g3 a b d=1
theorem zM{a b d}(h:Low a b d):nf a b d=(a,b,d):=by
 obtain⟨l,j⟩:=h;unfold nf gZ sgZ;rw[j,if_neg aa];simp
def Uy{a b d}(hd:d≠0):Low (nf a b d).1 (nf a b d).2.1 (nf a b d).2.2:=by
 obtain⟨C,B,D,l,_,_,_,hp,j⟩:=tH (a:=a) (b:=b) hd;rw[l];exact⟨hp,j⟩

@[ext] structure GQ where
 re:Rat
 im:Rat
namespace GQ
instance:Add GQ:=⟨fun x y=>⟨x.re+y.re,x.im+y.im⟩⟩
instance:Sub GQ:=⟨fun x y=>⟨x.re-y.re,x.im-y.im⟩⟩
instance:Neg GQ:=⟨fun x=>⟨-x.re,-x.im⟩⟩
instance:Mul GQ:=⟨fun x y=>⟨x.re*y.re-x.im*y.im,x.re*y.im+x.im*y.re⟩⟩
def nrm (y:GQ):Rat:=y.re*y.re+y.im*y.im
instance:Div GQ:=⟨fun x y=>⟨(x.re*y.re+x.im*y.im)/y.nrm,(x.im*y.re-x.re*y.im)/y.nrm⟩⟩
def i (a b:Int):GQ:=⟨a,b⟩
def bQ(x y:GQ):(x+y).re=x.re+y.re:=rfl
def bN(x y:GQ):(x+y).im=x.im+y.im:=rfl
def dI(x y:GQ):(x-y).re=x.re-y.re:=rfl
def dJ(x y:GQ):(x-y).im=x.im-y.im:=rfl
def ky(x:GQ):(-x).re= -x.re:=rfl
def ku(x:GQ):(-x).im= -x.im:=rfl
def aZ(x y:GQ):(x*y).re=x.re*y.re-x.im*y.im:=rfl
def aX(x y:GQ):(x*y).im=x.re*y.im+x.im*y.re:=rfl
def zH(x y:GQ):(x/y).re=(x.re*y.re+x.im*y.im)/y.nrm:=rfl
def uC(x y:GQ):(x/y).im=(x.im*y.re-x.re*y.im)/y.nrm:=rfl
def dE(a b):(i a b).re=a:=rfl
def dB(a b):(i a b).im=b:=rfl
def dW(x y:GQ):x*y=y*x:=by ext<;>simp only[aZ,aX]<;>grind
def bW(x y z:GQ):x*y*z=x*(y*z):=by ext<;>simp only[aZ,aX]<;>grind
theorem Ay{y}(h:y≠i 0 0):y.nrm≠0:=by
 intro e;apply h;have B:0<=y.re*y.re:=by
  rcases Rat.le_total (a:=0) (b:=y.re) with h|h
  .exact Rat.mul_nonneg h h
  .have:=Rat.mul_nonneg (a:= -y.re) (b:= -y.re) ak ak;grind
 have C:0<=y.im*y.im:=by
  rcases Rat.le_total (a:=0) (b:=y.im) with h|h
  .exact Rat.mul_nonneg h h
  .have:=Rat.mul_nonneg (a:= -y.im) (b:= -y.im) ak ak;grind
 unfold nrm at e;have l:y.re*y.re=0:=ak;have j:y.im*y.im=0:=ak;ext<;>simp only[dE,dB]
 .rcases Rat.mul_eq_zero.1 l with h|h<;>simpa using h
 .rcases Rat.mul_eq_zero.1 j with h|h<;>simpa using h
theorem Kz{x y}(h:y≠i 0 0):x*y/y=x:=by
 have hn:=Ay h;unfold nrm at hn;ext<;>simp only[aZ,aX,zH,uC,nrm]<;>grind
end GQ
structure Is (q:GQ) (a b d:Int):Prop where
 low:Low a b d
 re:q.re=(a:Rat)/(d:Rat)
 im:q.im=(b:Rat)/(d:Rat)
def gm{d:Int}(h:d≠0):(d:Rat)≠0:=by exact_mod_cast h
def Lc{a b d}(hd:d≠0):(nf a b d).1.natAbs<=a.natAbs/\(nf a b d).2.1.natAbs<=b.natAbs/\(nf a b d).2.2.natAbs<=d.natAbs:=by
 obtain⟨B,C,H,l,j,J,Z,hp,D⟩:=tH (a:=a) (b:=b) hd;have F:=Dj (a:=a) (b:=b) hd;rw[l];generalize gZ a b d=G at*
 have R:∀x y:Int,x=G*y->y.natAbs<=x.natAbs:=by
  intro x y h;rw[h,Int.natAbs_mul];exact Nat.le_mul_of_pos_left _ aa
 exact⟨R _ _ j,R _ _ J,R _ _ Z⟩
def NE{a b d:Int}(hd:d≠0):Is ⟨(a:Rat)/(d:Rat),(b:Rat)/(d:Rat)⟩ (nf a b d).1 (nf a b d).2.1 (nf a b d).2.2:=by
 refine⟨Uy hd,?_,?_⟩;all_goals
  obtain⟨H,D,C,l,j,J,Z,hp,I⟩:=tH (a:=a) (b:=b) hd;have F:=gm (Dj (a:=a) (b:=b) hd);have B:(C:Rat)≠0:=gm aa;rw[l];generalize gZ a b d=G at*
  subst j J Z;simp only[Rat.intCast_mul];grind
def Is.FZ{q:GQ}{a b d a' b' d':Int}(h:Is q a' b' d')(hd:d≠0)(C:q.re=(a:Rat)/(d:Rat))(hi:q.im=(b:Rat)/(d:Rat)):nf a b d=(a',b',d'):=by
 have hd':d'≠0:=by have:=h.low.1;omega
 rw[<-zM h.low];have D:=gm hd;have l:=gm hd';have B:=h.re;have j:=h.im;apply nS hd hd'
 .have:(a:Rat)*d'=a'*d:=ak
  exact_mod_cast this
 .have:(b:Rat)*d'=b'*d:=ak
  exact_mod_cast this
def Is.unique{q a b d a' b' d'}(h:Is q a b d)(I:Is q a' b' d'):a=a'/\b=b'/\d=d':=by
 have e:=I.FZ (by have:=h.low.1;omega) h.re h.im;rw[zM h.low] at e;simpa using e
structure Sz (n:Nat) (a b d:Int):Prop where
 a:a.natAbs<2^n
 b:b.natAbs<2^n
 d:d.natAbs<2^n
def Sz.mono{m n a b d}(h:Sz m a b d)(N:m<=n):Sz n a b d:=
 ⟨Nat.lt_of_lt_of_le h.a (Nat.pow_le_pow_right aa N),Nat.lt_of_lt_of_le h.b (Nat.pow_le_pow_right aa N),Nat.lt_of_lt_of_le h.d (Nat.pow_le_pow_right aa N)⟩
def Is.size{q:GQ}{a b d A B D:Int}{n:Nat}(h:Is q a b d)(l:D≠0)(C:q.re=(A:Rat)/(D:Rat))(hi:q.im=(B:Rat)/(D:Rat))(hs:Sz n A B D):Sz n a b d:=by
 have e:=h.FZ l C hi;have j:=Lc (a:=A) (b:=B) l;rw[e] at j;exact⟨Nat.lt_of_le_of_lt j.1 hs.a,Nat.lt_of_le_of_lt j.2.1 hs.b,Nat.lt_of_le_of_lt j.2.2 hs.d⟩
def bG{x y:Int}{m n}(J:x.natAbs<2^m)(R:y.natAbs<2^n):(x*y).natAbs<2^(m+n):=by
 rw[Int.natAbs_mul,Nat.pow_add];exact Nat.mul_lt_mul'' J R
def ja{x y:Int}{m}(J:x.natAbs<2^m)(R:y.natAbs<2^m):(x+y).natAbs<2^(m+1):=by
 have:=Int.natAbs_add_le x y;rw[Nat.pow_succ];omega
def sJ{x y:Int}{m}(J:x.natAbs<2^m)(R:y.natAbs<2^m):(x-y).natAbs<2^(m+1):=by
 have:=Int.natAbs_sub_le x y;rw[Nat.pow_succ];omega
def iU{x:Int}{m n}(J:x.natAbs<2^m)(h:m<=n):x.natAbs<2^n:=Nat.lt_of_lt_of_le J (Nat.pow_le_pow_right aa h)
def Is.dne{q a b d}(h:Is q a b d):d≠0:=by have:=h.low.1;omega
section
variable {x y q:GQ} {a b d a' b' d' u v t:Int} {m n:Nat}
def Is.Om(J:Is x a b d)(sx:Sz m a b d)(R:Is y a' b' d')(sy:Sz n a' b' d')(h:Is (x+y) u v t):Sz (m+n+1) u v t:=by
 have l:=gm J.dne;have j:=gm R.dne;refine h.size (A:=a*d'+a'*d) (B:=b*d'+b'*d) (D:=d*d') (Int.mul_ne_zero J.dne R.dne) ?_ ?_ ⟨ja (bG sx.a sy.d) ?_,ja (bG sx.b sy.d) ?_,iU (bG sx.d sy.d) aa⟩
 .rw[GQ.bQ,J.re,R.re];exact AaM
 .rw[GQ.bN,J.im,R.im];exact AaM
 .rw[Nat.add_comm];exact bG sy.a sx.d
 .rw[Nat.add_comm];exact bG sy.b sx.d
def Is.PG(J:Is x a b d)(sx:Sz m a b d)(R:Is y a' b' d')(sy:Sz n a' b' d')(h:Is (x*y) u v t):Sz (m+n+1) u v t:=by
 have l:=gm J.dne;have j:=gm R.dne;refine h.size (A:=a*a'-b*b') (B:=a*b'+b*a') (D:=d*d') (Int.mul_ne_zero J.dne R.dne) ?_ ?_ ⟨sJ (bG sx.a sy.a) (bG sx.b sy.b),ja (bG sx.a sy.b) (bG sx.b sy.a),iU (bG sx.d sy.d) aa⟩
 .exact Acx
 .rw[GQ.aX,J.re,R.re,J.im,R.im];exact AaM
end
theorem Jk(a b):Is (GQ.i a b) a b 1:=by
 refine⟨⟨aa,?_⟩,?_,?_⟩
 .unfold g3;simp
 .simp only[GQ.dE];grind
 .simp only[GQ.dB];grind

@[ext] structure PQ where
 u:GQ
 v:GQ
namespace PQ
instance:Add PQ:=⟨fun x y=>⟨x.u+y.u,x.v+y.v⟩⟩
instance:Mul PQ:=⟨fun x y=>⟨x.u*y.u+GQ.i 3 0*(x.v*y.v),x.u*y.v+x.v*y.u⟩⟩
def plain (x:GQ):PQ:=⟨x,GQ.i 0 0⟩
def one:PQ:=plain (GQ.i 1 0)
def half:GQ:=⟨1/2,0⟩
def z:PQ:=⟨half*GQ.i 0 1,half⟩
def zp:Nat->PQ
 |0=>one
 |n+1=>zp n*z
def xZ(x y:PQ):(x*y).u=x.u*y.u+GQ.i 3 0*(x.v*y.v):=rfl
def yA(x y:PQ):(x*y).v=x.u*y.v+x.v*y.u:=rfl
def bW(x y z:PQ):x*y*z=x*(y*z):=by
 ext<;>simp only[xZ,yA,GQ.aZ,GQ.aX,GQ.bQ,GQ.bN,GQ.dE,GQ.dB]<;>grind
def dW(x y:PQ):x*y=y*x:=by
 ext<;>simp only[xZ,yA,GQ.aZ,GQ.aX,GQ.bQ,GQ.bN,GQ.dE,GQ.dB]<;>grind
def nY(x):x*one=x:=by
 ext<;>simp only[xZ,yA,one,plain,GQ.aZ,GQ.aX,GQ.bQ,GQ.bN,GQ.dE,GQ.dB]<;>grind
def Kh(m n):zp (m+n)=zp m*zp n:=by
 induction n with
 |zero=>exact(nY _).symm
 |succ n ih=>rw[<-Nat.add_assoc];show zp (m+n)*z=zp m*(zp n*z);rw[ih,bW]
def mk4 (a b c d:Rat):PQ:=⟨⟨a,b⟩,⟨c,d⟩⟩
def pu(a b c d:Rat):mk4 a b c d*z=mk4 (3/2*c-b/2) (a/2+3/2*d) (a/2-d/2) (b/2+c/2):=by
 ext<;>simp only[mk4,xZ,yA,z,half,GQ.aZ,GQ.aX,GQ.bQ,GQ.bN,GQ.dE,GQ.dB]<;>grind
def zp0:zp 0=mk4 1 0 0 0:=by
 ext<;>simp only[zp,one,plain,mk4,GQ.dE,GQ.dB]<;>grind
def zp1:zp 1=mk4 0 (1/2) (1/2) 0:=by rw[zp,zp0,pu];congr 1<;>grind
def zp2:zp 2=mk4 (1/2) 0 0 (1/2):=by rw[zp,zp1,pu];congr 1<;>grind
def zp3:zp 3=mk4 0 1 0 0:=by rw[zp,zp2,pu];congr 1<;>grind
def zp4:zp 4=mk4 (-1/2) 0 0 (1/2):=by rw[zp,zp3,pu];congr 1<;>grind
def zp5:zp 5=mk4 0 (1/2) (-1/2) 0:=by rw[zp,zp4,pu];congr 1<;>grind
def zp6:zp 6=mk4 (-1) 0 0 0:=by rw[zp,zp5,pu];congr 1<;>grind
def zp7:zp 7=mk4 0 (-1/2) (-1/2) 0:=by rw[zp,zp6,pu];congr 1<;>grind
def zp8:zp 8=mk4 (-1/2) 0 0 (-1/2):=by rw[zp,zp7,pu];congr 1<;>grind
end PQ
theorem Ff(a:Addr)(n:Nat):(a.add n).block=a.block:=by unfold Addr.add;split<;>rfl
abbrev Ext (w w':World):Prop:=Below w.heap.size w w'
def _root_.Go.RowKit.Hid.aA{p q r:Prop}(h:Hid p)(e:r)(t:p->r->q:=by intro h e;exact h.ext e):Hid q:=Lib.hid (t h.o e)
def _root_.Go.RowKit.Hid.aC{p q r:Prop}(h:Hid p)(e:r)(t:p->r->q:=by intro h e;exact h.trans e):Hid q:=Lib.hid (t h.o e)
def CV (f:FuncId) (a:Array Value) (w:World) (G:Value->World->Prop):Prop:=Calls Tryz.prog f a w fun e w'=>∃v,e=.returned v/\G v w'/\Ext w w'
def CE (f:FuncId) (a:Array Value) (w:World) (v:Value):Prop:=Calls Tryz.prog f a w fun e w'=>e=.returned v/\Ext w w'
def Ext.refl(w):Ext w w:=Below.refl _ _
def Ext.trans{a b c}(h:Ext a b)(k:Ext b c):Ext a c:=Below.trans h (k.mono h.size)
def Ext.alloc{a w}(h:Ext a w)(o:Obj):Ext a (w.alloc o):=Below.alloc h h.size o
def Ext.drew{a w}(h:Ext a w):Ext a w.drew:=Below.drew h
def Ext.drewN{a w}(h:Ext a w)(n):Ext a (w.drewN n):=⟨h.os,h.tape,h.output,h.size,h.block⟩
def Ext.setCell{a w}(h:Ext a w){p}(hp:a.heap.size<=p.block)(u):Ext a (w.setCell p u):=Below.setCell h hp u
def Ext.new(w)(o:Obj):Ext w (w.alloc o):=(Ext.refl w).alloc o
def Reads (w:World) (B size:Nat) (A:Option Addr) (n:Nat) (xs:List Value):Prop:=
 xs.length=n*size/\(0<n->∃l,A=some l/\l.block<B/\∀j u,xs[j]? =some u->w.cell? (l.add j)=some u)
section
variable {w w':World} {B B' size n:Nat} {A:Option Addr} {xs:List Value}
def Reads.none_:Reads w B size A 0 []:=⟨ag,fun h=>absurd h aa⟩
def Reads.at_{k}(h:Reads w B 1 A n xs)(l:k<n):∃j u,A=some j/\j.block<B/\xs[k]? =some u/\w.cell? (j.add k)=some u:=by
 obtain⟨j,e,hb,hc⟩:=h.2 aa;have Z:k<xs.length:=by have:=h.1;omega
 exact⟨j,xs[k],e,hb,List.getElem?_eq_getElem Z,hc k _ (List.getElem?_eq_getElem Z)⟩
def Reads.keep(h:Reads w B size A n xs)(l:∀p:Addr,p.block<B->w'.cell? p=w.cell? p):Reads w' B size A n xs:=
 ⟨h.1,fun hn=>by
  obtain⟨C,e,hb,hc⟩:=h.2 hn;exact⟨C,e,hb,fun j u D=>(l _ (by rw[Ff];exact hb)).trans (hc j u D)⟩⟩
def Reads.more(h:Reads w B size A n xs)(l:B<=B'):Reads w B' size A n xs:=
 ⟨h.1,fun hn=>by
  obtain⟨j,e,hb,hc⟩:=h.2 hn;exact⟨j,e,aa,hc⟩⟩
def Reads.below(h:Reads w B size A n xs)(hb:Below B w w'):Reads w' B size A n xs:=h.keep fun _ hp=>hb.cell hp
def Reads.ext(h:Reads w w.heap.size size A n xs)(hb:Ext w w'):Reads w' w'.heap.size size A n xs:=(h.below hb).more hb.size
end
def Blk (w:World) (g:Nat) (t:TypeId) (cs:Array Value):Prop:=w.heap[g]? =some (.cells cs t (0,0))
section
variable {w w':World} {g:Nat} {t:TypeId} {cs:Array Value}
theorem Blk.lt(h:Blk w g t cs):g<w.heap.size:=by
 rcases Nat.lt_or_ge g w.heap.size with j|l
 .exact j
 .unfold Blk at h;rw[Array.getElem?_eq_none l] at h;cases h
def Blk.cell(h:Blk w g t cs)(i):w.cell? ⟨g,i,none⟩=cs[i]? :=cell_of_row w g i cs t (0,0) h
theorem Blk.frozen(h:Blk w g t cs)(i):w.frozen? ⟨g,i,none⟩=false:=by
 unfold Blk at h;simp[World.frozen?,h]
def Blk.new(w:World)(t:TypeId)(cs:Array Value):Blk (w.alloc (.cells cs t)) w.heap.size t cs:=heap_alloc_new w _
def Blk.new'{w:World}{g:Nat}(t:TypeId)(cs:Array Value)(h:w.heap.size=g):Blk (w.alloc (.cells cs t)) g t cs:=by subst h;exact Blk.new w t cs
def Blk.drew(h:Blk w g t cs):Blk w.drew g t cs:=h
def Blk.drewN(h:Blk w g t cs)(n):Blk (w.drewN n) g t cs:=h
def Blk.alloc(h:Blk w g t cs)(o:Obj):Blk (w.alloc o) g t cs:=(Below.heap_alloc w o g h.lt).trans h
theorem Blk.mX(h:Blk w g t cs)(i u):Blk (w.setCell ⟨g,i,none⟩ u) g t (cs.setIfInBounds i u):=by
 unfold Blk at h⊢;simp[World.setCell,Array.getElem?_modify,h]
def Blk.far(h:Blk w g t cs){p}(hp:g≠p.block)(u):Blk (w.setCell p u) g t cs:=(Below.heap_setCell w p u g hp).trans h
def Blk.below{B}(h:Blk w g t cs)(hb:Below B w w')(j:g<B):Blk w' g t cs:=(hb.block g j).trans h
def Blk.ext(h:Blk w g t cs)(hb:Ext w w'):Blk w' g t cs:=h.below hb h.lt
theorem Blk.reads{n size}(h:Blk w g t cs)(hn:cs.size=n*size):Reads w w.heap.size size (some ⟨g,0,none⟩) n cs.toList:=
 ⟨by simpa using hn,fun _=>⟨_,rfl,h.lt,fun j u l=>by
  have e:Addr.add ⟨g,0,none⟩ j=⟨g,j,none⟩:=by unfold Addr.add;by_cases B:j=0<;>simp[B]
  rw[e,h.cell];simpa using l⟩⟩
end
def Blk.M4{w:World}{g i:Nat}{t:TypeId}{l:List Value}(h:Blk w g t l.toArray)(hi:i<l.length):∃u,w.cell? ⟨g,i,none⟩=some u:=
 ⟨l[i],by rw[h.cell];simp[hi]⟩
def Blk.Pk{w:World}{g i:Nat}{t:TypeId}{l:List Value}(h:Blk w g t l.toArray)(u:Value):Blk (w.setCell ⟨g,i,none⟩ u) g t (l.set i u).toArray:=by
 have:=h.mX i u;simpa using this
theorem um(z n):madeCells #[z] n=(List.replicate n z).toArray:=by
 unfold madeCells;apply Array.ext
 .simp
 .intro i l j;simp[Nat.mod_one]
structure aK (w:World) where
 val:World
 ext:Ext w val
instance (w:World):Nonempty (aK w):=⟨⟨w,Ext.refl w⟩⟩
def aL{k a b}(h:a=b):Ending.returned (.int k a)=.returned (.int k b):=by rw[h]
def aQ{a b}(h:a=b):Ending.returned (.bool a)=.returned (.bool b):=by rw[h]
def gM:Op->Bool
 | .move _| .assign _| .pick _ _ _| .load _ _| .build _ _| .binOp _ _ _ _ _| .unOp _ _ _| .convert _ _ _| .fieldAddr _ _ _| .field _ _ _| .indexAddr _ _ _| .index _ _ _| .extract _ _| .slice _ _ _ _ _=>true
 | .call c=>match c.callee with
  | .builtin .len| .builtin .min| .builtin .max=>true
  |_=>false
 |_=>false
def qN{s:Result Value}{f args w'}(h:s.andThen (fun x w=>Result.ok (Next.value x) w)=.ok (.enter f args) w'):False:=by
 cases s<;>simp[Result.andThen] at h
def jN{P}{ev:Operand->Value}{o w w' f args}(hp:gM o.op=true)(h:(execOp ev o).run P w=.ok (.enter f args) w'):False:=by
 obtain⟨l,op,F,pos,D,G⟩:=o;cases op<;>simp only[gM,Bool.false_eq_true] at hp<;>simp only[execOp,Sem.run_bind,Sem.run_pure] at h
 case call c=>
  obtain⟨j,C,B⟩:=c;cases j<;>simp only[Bool.false_eq_true] at hp
  case builtin b=>
   cases b<;>simp only[Bool.false_eq_true] at hp<;>simp only[resolve,Sem.run_bind,Sem.run_pure,Result.andThen_ok,invoke,builtin] at h<;>exact qN h
 case pick c x y=>cases hb:(asBool (ev c)).run P w<;>simp[hb,Result.andThen] at h
 all_goals first
  |exact qN h
  |(simp at h;done)
def Book:Type:=Nat->Option (Value×Nat×Nat)
def Book.none:Book:=fun _=>Option.none
def Book.set (F:Book) (i:Nat) (e:Value×Nat×Nat):Book:=fun x=>if x=i then some e else F x
theorem Book.Hf(F:Book){i j:Nat}(h:i≠j)(e f:Value×Nat×Nat):(F.set i e).set j f=(F.set j f).set i e:=by
 funext x;unfold Book.set;by_cases B:x=i<;>by_cases C:x=j<;>simp[B,C]
 .subst B;exact absurd C h
 .intro l;exact absurd l h
 .intro l;exact absurd l.symm h
def Book.set_self(F:Book)(i:Nat)(e:Value×Nat×Nat):(F.set i e) i=some e:=by simp[Book.set]
def Book.dL(F:Book){i j:Nat}(e:Value×Nat×Nat)(h:j≠i):(F.set i e) j=F j:=by simp[Book.set,h]
def anc (ops:Array Oper):Nat->Nat->Nat->Bool
 |0,_,_=>false
 |f+1,k,p=>match ops[k]? with
  |Option.none=>false
  |some o=>o.after.any fun e=>Region.binds .any e&&(e.on==p||anc ops f e.on p)
section
variable {P:Program} {ops:Array Oper} {w0:World} {E:Nat->Bool} {Φ:Nat->Nat->Nat->Value->World->Prop}
structure dO (w0:World) (Φ:Nat->Nat->Nat->Value->World->Prop) (F:Book) (w:World):Prop where
 ext:Ext w0 w
 fact:∀i e,F i=some e->Φ i e.2.1 e.2.2 e.1 w
 size:∀i e,F i=some e->e.2.2<=w.heap.size
 low:∀i e,F i=some e->w0.heap.size<=e.2.1
 disj:∀i j e f,i≠j->F i=some e->F j=some f->e.2.2<=f.2.1\/f.2.2<=e.2.1
def Kn (ops:Array Oper) (w0:World) (Φ:Nat->Nat->Nat->Value->World->Prop) (k:Nat) (F:Book) (w:World):Prop:=
 Ext w0 w/\∀i e,F i=some e->anc ops ops.size k i=true->Φ i e.2.1 e.2.2 e.1 w
def mr (P:Program) (Ψ:Nat->Nat->Value->World->Prop) (w:World):Result Next->Prop
 | .ok (.value v) w'=>Ext w w'/\Ψ w.heap.size w'.heap.size v w'
 | .ok (.enter f args) w1=>w1=w/\Calls P f args w (fun e w'=>∃v,e=.returned v/\Ext w w'/\Ψ w.heap.size w'.heap.size v w')
 |_=>False
def tOp (P:Program) (ops:Array Oper) (w0:World) (E:Nat->Bool) (Φ:Nat->Nat->Nat->Value->World->Prop) (k:Nat) (K:Book->Act->Prop) (F:Book) (a:Act):Prop:=
 match ops[k]? with
 |Option.none=>K F a
 |some o=>
  if Region.wanted o (yielded ops a.tmps) then
   if E k then
    (∀w,Kn ops w0 Φ k F w->mr P (Φ k) w ((execOp a.eval o).run P w))/\
    (∀v lo hi,(∃w,dO w0 Φ (F.set k (v,lo,hi)) w)->K (F.set k (v,lo,hi)) (a.put o.dst v))
   else gM o.op=true/\∃v,(∀w,Ext w0 w->o.quietAt P a (fun w'=>w'=w) w v)/\K F (a.put o.dst v)
  else K F (a.put o.dst undef)
def wpT (P:Program) (ops:Array Oper) (w0:World) (E:Nat->Bool) (Φ:Nat->Nat->Nat->Value->World->Prop) (Q:Book->Act->Prop):List Oper->Nat->Book->Act->Prop
 |[],_,F,a=>Q F a
 |_::rest,k,F,a=>tOp P ops w0 E Φ k (wpT P ops w0 E Φ Q rest (k+1)) F a
theorem Qk{k}{K R:Book->Act->Prop}{F a}(h:∀F a,K F a->R F a)(j:tOp P ops w0 E Φ k K F a):tOp P ops w0 E Φ k R F a:=by
 unfold tOp at*
 split
 .rename_i l;simp only[l] at j;exact h _ _ j
 .rename_i o l
  simp only[l] at j;split
  .rename_i Y
   simp only[Y,if_true] at j;split
   .rename_i B
    simp only[B,if_true] at j;exact⟨j.1,fun v lo hi J=>h _ _ (j.2 v lo hi J)⟩
   .rename_i B
    simp only[B] at j;obtain⟨hp,v,D,C⟩:=j;exact⟨hp,v,D,h _ _ C⟩
  .rename_i Y
   simp only[Y] at j;exact h _ _ j
def xg (P:Program) (ops:Array Oper) (w0:World) (E:Nat->Bool) (Φ:Nat->Nat->Nat->Value->World->Prop) (n:Nat) (L:Array Bool->Book->Act->Prop):Nat->Array Bool->Book->Act->Prop
 |0,listed,F,a=>L listed F a
 |f+1,listed,F,a=>Region.ready .any ops listed≠[]/\∀i∈Region.ready .any ops listed,i<n/\tOp P ops w0 E Φ i (xg P ops w0 E Φ n L f (listed.setIfInBounds i true)) F a
def dO.put{F w w' k v}(G:∀i lo hi v w w',Φ i lo hi v w->Ext w w'->Φ i lo hi v w')(hF:F k=Option.none)(h:dO w0 Φ F w)(J:Ext w w')(hv:Φ k w.heap.size w'.heap.size v w'):
  dO w0 Φ (F.set k (v,w.heap.size,w'.heap.size)) w':=by
 refine⟨h.ext.trans J,fun i e O=> ?_,fun i e O=> ?_,fun i e O=> ?_,fun i j e f L O l=> ?_⟩
 .by_cases hi:i=k
  .subst hi;rw[Book.set_self] at O;cases O;exact hv
  .rw[Book.dL _ _ hi] at O;exact G _ _ _ _ _ _ (h.fact i e O) J
 .by_cases hi:i=k
  .subst hi;rw[Book.set_self] at O;cases O;exact Nat.le_refl _
  .rw[Book.dL _ _ hi] at O;exact Nat.le_trans (h.size i e O) J.size
 .by_cases hi:i=k
  .subst hi;rw[Book.set_self] at O;cases O;exact h.ext.size
  .rw[Book.dL _ _ hi] at O;exact h.low i e O
 .by_cases hi:i=k
  .subst hi;rw[Book.set_self] at O;cases O;rw[Book.dL _ _ (Ne.symm L)] at l;exact .inr (h.size j f l)
  .rw[Book.dL _ _ hi] at O;by_cases B:j=k
   .subst B;rw[Book.set_self] at l;cases l;exact .inl (h.size i e O)
   .rw[Book.dL _ _ B] at l;exact h.disj i j e f L O l
theorem Hg{k F a w}{K:Book->Act->Prop}{R:Act->World->Prop}{Q'}(G:∀i lo hi v w w',Φ i lo hi v w->Ext w w'->Φ i lo hi v w')(hF:F k=Option.none)(Y:dO w0 Φ F w)(h:∀Z a' w',dO w0 Φ Z w'->(∀j,j≠k->F j=Option.none->Z j=Option.none)->K Z a'->R a' w')(D:tOp P ops w0 E Φ k K F a):wpOp P ops Q' k R a w:=by
 unfold tOp at D;unfold wpOp;split
 .rename_i I;simp only[I] at D;exact AbB
 .rename_i o I
  simp only[I] at D;split
  .rename_i l
   simp only[l,if_true] at D;refine .inl ?_;by_cases N:E k=true
   .simp only[N,if_true] at D;obtain⟨M,H⟩:=D;have C:=M w ⟨Y.ext,fun i e O _=>Y.fact i e O⟩;unfold Oper.wp;generalize (execOp a.eval o).run P w=r at*
    cases r with
    |ok nx w'=>
     cases nx<;>simp only[mr] at C<;>simp only[Oper.upon]
     case value v=>
      exact h _ _ _ (Y.put G hF C.1 C.2) (fun j L hn=>by rw[Book.dL _ _ L];exact hn) (H v _ _ ⟨w',Y.put G hF C.1 C.2⟩)
     case enter f args=>
      obtain⟨rfl,hc⟩:=C;refine hc.mono fun e w'' ⟨v,O,J,hv⟩=> ?_;subst O;exact h _ _ _ (Y.put G hF J hv) (fun j L hn=>by rw[Book.dL _ _ L];exact hn) (H v _ _ ⟨w'',Y.put G hF J hv⟩)
    |halt x w'=>simp only[mr] at C
   .simp only[N] at D;obtain⟨_,v,M,H⟩:=D;have C:=M w Y.ext;unfold Oper.quietAt at C;unfold Oper.wp;generalize (execOp a.eval o).run P w=r at*
    cases r with
    |ok nx w'=>
     cases nx<;>simp only[Oper.quietUpon] at C<;>simp only[Oper.upon]
     case value u=>obtain⟨rfl,rfl⟩:=C;exact h F _ _ Y (fun _ _ h=>h) H
     case skip=>obtain⟨rfl,rfl⟩:=C;exact h F _ _ Y (fun _ _ h=>h) H
     case enter f args=>
      obtain⟨rfl,hc⟩:=C;exact hc.mono fun e w'' ⟨O,B⟩=>by subst O;subst B;exact h F _ _ Y (fun _ _ h=>h) H
    |halt x w'=>simp only[Oper.quietUpon] at C
  .rename_i l
   simp only[l] at D;exact AbB
def sM{n g}{L:Array Bool->Book->Act->Prop}{Q'}(G:∀i lo hi v w w',Φ i lo hi v w->Ext w w'->Φ i lo hi v w')(J:∀B F a w,dO w0 Φ F w->L B F a->wpAny P .any ops Q' g B a w):
  ∀(f:Nat) (B:Array Bool) (F:Book) (a:Act) (w:World),dO w0 Φ F w->(∀j,B.getD j true=false->F j=Option.none)->xg P ops w0 E Φ n L f B F a->wpAny P .any ops Q' (f+g) B a w
 |0,B,F,a,w,hw,_,h=>by rw[Nat.zero_add];exact J _ _ _ _ hw h
 |f+1,B,F,a,w,hw,hF,h=>by
  rw[show f+1+g=(f+g)+1 by omega];refine⟨fun K=>absurd K h.1,fun i hi=> ?_⟩;have T:=(mem_ready.1 hi).1;refine Hg G (hF i T) hw (fun Z a' w' M H I=>sM G J f _ Z a' w' M (fun j l=> ?_) I) (h.2 i hi).2;by_cases D:j=i
  .exact Aa7
  .rw[getD_set_ne true (Ne.symm D)] at l;exact H j D (hF j l)
theorem C8{k}{K R:Book->Act->Prop}{F a}(C:∃w,dO w0 Φ F w)(h:∀Z a',(Z=F\/∃e,Z=F.set k e)->(∃w,dO w0 Φ Z w)->K Z a'->R Z a')(j:tOp P ops w0 E Φ k K F a):tOp P ops w0 E Φ k R F a:=by
 unfold tOp at*
 split
 .rename_i l;simp only[l] at j;exact h _ _ (.inl rfl) C j
 .rename_i o l
  simp only[l] at j;split
  .rename_i Y
   simp only[Y,if_true] at j;split
   .rename_i B
    simp only[B,if_true] at j;exact⟨j.1,fun v lo hi J=>h _ _ (.inr ⟨_,rfl⟩) J (j.2 v lo hi J)⟩
   .rename_i B
    simp only[B] at j;obtain⟨hp,v,G,D⟩:=j;exact⟨hp,v,G,h _ _ (.inl rfl) C D⟩
  .rename_i Y
   simp only[Y] at j;exact h _ _ (.inl rfl) C j
def dO.sub{F G w}(h:dO w0 Φ G w)(hs:∀i e,F i=some e->G i=some e):dO w0 Φ F w:=
 ⟨h.ext,fun i e O=>h.fact i e (hs i e O),fun i e O=>h.size i e (hs i e O),fun i e O=>h.low i e (hs i e O),fun i j e f L O l=>h.disj i j e f L (hs i e O) (hs j f l)⟩
def Book.zf{F:Book}{i:Nat}{e:Value×Nat×Nat}(hF:F i=Option.none):∀x f,F x=some f->(F.set i e) x=some f:=by
 intro x f J;by_cases h:x=i
 .subst h;rw[hF] at J;cases J
 .rw[Book.dL _ _ h];exact J
def Book.K7{F G:Book}(h:∀x f,F x=some f->G x=some f){i:Nat}{e:Value×Nat×Nat}:∀x f,(F.set i e) x=some f->(G.set i e) x=some f:=by
 intro x f J;by_cases B:x=i
 .subst B;rw[Book.set_self] at*;exact J
 .rw[Book.dL _ _ B] at*;exact h x f J
def Kn.kZ{F w k i}{e:Value×Nat×Nat}(hF:F i=Option.none)(l:anc ops ops.size k i=false):Kn ops w0 Φ k (F.set i e) w↔Kn ops w0 Φ k F w:=by
 constructor
 .exact fun h=>⟨h.1,fun x f J ha=>h.2 x f (Book.zf hF x f J) ha⟩
 .refine fun h=>⟨h.1,fun x f J ha=> ?_⟩;by_cases B:x=i
  .subst B;rw[l] at ha;cases ha
  .rw[Book.dL _ _ B] at J;exact h.2 x f J ha
def FJ{F:Book}{i:Nat}{a:Act}{o:Oper}(G:∀i lo hi v w w',Φ i lo hi v w->Ext w w'->Φ i lo hi v w')(hF:F i=Option.none)(l:∃w,dO w0 Φ F w)(B:∀w,Kn ops w0 Φ i F w->mr P (Φ i) w ((execOp a.eval o).run P w)):∃v lo hi,∃w,dO w0 Φ (F.set i (v,lo,hi)) w:=by
 obtain⟨w,Y⟩:=l;have j:=B w ⟨Y.ext,fun x e O _=>Y.fact x e O⟩;generalize (execOp a.eval o).run P w=r at*
 cases r with
 |ok nx w'=>
  cases nx<;>simp only[mr] at j
  case value v=>exact⟨v,_,_,w',Y.put G hF j.1 j.2⟩
  case enter f args=>
   obtain⟨_,hc⟩:=j;obtain⟨e,w',C,⟨v,_,J,hv⟩,_⟩:=hc [];exact⟨v,_,_,w',Y.put G hF J hv⟩
 |halt x w'=>simp only[mr] at j
theorem ww{o:Oper}{a:Act}{u v:Value}{w:World}(hp:gM o.op=true)(j:o.quietAt P a (fun w'=>w'=w) w u)(l:o.quietAt P a (fun w'=>w'=w) w v):u=v:=by
 unfold Oper.quietAt at*
 generalize B:(execOp a.eval o).run P w=r at*
 cases r with
 |ok nx w'=>
  cases nx<;>simp only[Oper.quietUpon] at j l
  case value x=>rw[<-j.2,<-l.2]
  case skip=>rw[j.2,l.2]
  case enter f args=>exact(jN hp B).elim
 |halt x w'=>simp only[Oper.quietUpon] at j
theorem QD{i j l V}{K:Book->Act->Prop}{F a}(G:∀i lo hi v w w',Φ i lo hi v w->Ext w w'->Φ i lo hi v w')(hi:ops[i]? =some l)(hj:ops[j]? =some V)(L:i≠j)(Z:l.apart ops V=true)(Wq:∀cs b,l.op≠ .select cs b)(Wo:∀cs b,V.op≠ .select cs b)(R:F i=Option.none)(T:F j=Option.none)(M:anc ops ops.size i j=false)(a2:anc ops ops.size j i=false)(hr:∃w,dO w0 Φ F w)(h:tOp P ops w0 E Φ i (tOp P ops w0 E Φ j K) F a):
  tOp P ops w0 E Φ j (tOp P ops w0 E Φ i K) F a:=by
 obtain⟨p1,p2,p3⟩:=Oper.apart_spec Z;have x1:∀(a:Act) v,execOp (a.put l.dst v).eval V=execOp a.eval V:=fun a v=>execOp_put V Wo a l.dst v p1;have x2:∀(a:Act) v,execOp (a.put V.dst v).eval l=execOp a.eval l:=fun a v=>execOp_put l Wq a V.dst v p3;have y1:∀(a:Act) v,Region.wanted V (yielded ops (a.put l.dst v).tmps)=Region.wanted V (yielded ops a.tmps):=fun a v=>wanted_put V a l.dst v p1;have y2:∀(a:Act) v,Region.wanted l (yielded ops (a.put V.dst v).tmps)=Region.wanted l (yielded ops a.tmps):=fun a v=>wanted_put l a V.dst v p3;have z:∀(a:Act) v u,(a.put V.dst u).put l.dst v=(a.put l.dst v).put V.dst u:=fun a v u=>(Act.put_comm a v u p2).symm;have q1:∀(a:Act) v w u,V.quietAt P (a.put l.dst v) (fun w'=>w'=w) w u↔V.quietAt P a (fun w'=>w'=w) w u:=fun a v w u=>by unfold Oper.quietAt;rw[x1]
 have q2:∀(a:Act) v w u,l.quietAt P (a.put V.dst v) (fun w'=>w'=w) w u↔l.quietAt P a (fun w'=>w'=w) w u:=fun a v w u=>by unfold Oper.quietAt;rw[x2]
 unfold tOp at h⊢;simp only[hi,hj] at h⊢;simp only[y1,x1,q1] at h;simp only[y2,x2,q2,z];by_cases wi:Region.wanted l (yielded ops a.tmps)=true
 .simp only[wi,if_true] at h⊢;by_cases Ei:E i=true
  .simp only[Ei,if_true] at h⊢;obtain⟨h1,H⟩:=h;obtain⟨v0,Q,U,Wz⟩:=FJ G R hr h1;by_cases S:Region.wanted V (yielded ops a.tmps)=true
   .simp only[S,if_true] at H⊢;by_cases D:E j=true
    .simp only[D,if_true] at H⊢;refine⟨fun w Y=>(H v0 Q U Wz).1 w ((Kn.kZ R a2).2 Y),fun u lo hi C=>⟨fun w Y=>h1 w ((Kn.kZ T M).1 Y),fun v N Wu B=> ?_⟩⟩;obtain⟨w,Y⟩:=B;have Wp:dO w0 Φ (F.set i (v,N,Wu)) w:=Y.sub (Book.K7 (Book.zf T));rw[Book.Hf _ (Ne.symm L)] at Y⊢;exact(H v N Wu ⟨w,Wp⟩).2 u lo hi ⟨w,Y⟩
    .simp only[D] at H⊢;obtain⟨hp,u,W,_⟩:=H v0 Q U Wz;refine⟨hp,u,W,h1,fun v lo hi B=> ?_⟩;obtain⟨_,u',J,I⟩:=H v lo hi B;obtain⟨w,Y⟩:=hr;rw[ww hp (W w Y.ext) (J w Y.ext)];exact I
   .simp only[S] at H⊢;exact⟨h1,fun v lo hi B=>H v lo hi B⟩
  .simp only[Ei] at h⊢;obtain⟨hp,v,hv,H⟩:=h;by_cases S:Region.wanted V (yielded ops a.tmps)=true
   .simp only[S,if_true] at H⊢;by_cases D:E j=true
    .simp only[D,if_true] at H⊢;exact⟨H.1,fun u lo hi C=>⟨hp,v,hv,H.2 u lo hi C⟩⟩
    .simp only[D] at H⊢;obtain⟨O,u,W,I⟩:=H;exact⟨O,u,W,hp,v,hv,I⟩
   .simp only[S] at H⊢;exact⟨hp,v,hv,H⟩
 .simp only[wi] at h⊢;by_cases S:Region.wanted V (yielded ops a.tmps)=true
  .simp only[S,if_true] at h⊢;by_cases D:E j=true
   .simp only[D,if_true] at h⊢;exact⟨h.1,fun u lo hi C=>h.2 u lo hi C⟩
   .simp only[D] at h⊢;obtain⟨O,u,W,I⟩:=h;exact⟨O,u,W,I⟩
  .simp only[S] at h⊢;exact h
theorem AX{n B}(inv:HeadInv .any ops n B):∀(f k p:Nat),anc ops f k p=true->(∀o,ops[k]? =some o->∀e∈o.after,Region.binds .any e=true->B.getD e.on false=true)->B.getD p false=true
 |0,_,_,h,_=>by simp[anc] at h
 |f+1,k,p,h,hk=>by
  unfold anc at h;split at h
  .cases h
  .rename_i o G
   obtain⟨e,O,hb⟩:=Array.any_eq_true'.1 h;simp only[Bool.and_eq_true,Bool.or_eq_true,beq_iff_eq] at hb;have F:=hk o G e O hb.1;rcases hb.2 with C|C
   .rw[<-C];exact F
   .exact AX inv f e.on p C (fun H l I j D=>inv.closed e.on H l F I j D)
def tJ{n B}(inv:HeadInv .any ops n B){i j}(F:j∈Region.ready .any ops B)(hi:B.getD i true=false):anc ops ops.size j i=false:=by
 cases h:anc ops ops.size j i with
 |false=>rfl
 |true=>
  obtain⟨_,V,C,K⟩:=mem_ready.1 F;have D:=AX inv _ _ _ h (fun o l e O hb=>by rw[C] at l;injection l with l;subst l;exact K e O hb);rw[getD_both hi] at D;cases D
theorem D8{n i l}{L:Array Bool->Book->Act->Prop}(G:∀i lo hi v w w',Φ i lo hi v w->Ext w w'->Φ i lo hi v w')(hi:ops[i]? =some l)(C:∀(j:Nat) (o:Oper) cs b,ops[j]? =some o->o.op≠ .select cs b)(hs:Region.sinkB .any ops n=true)(hc:Region.chainB .any ops n=true)(hn:n<ops.size)(M:i<n)(W:∀B F a,L B F a->∀j∈Region.ready .any ops B,n<=j):
  ∀(f:Nat) (B:Array Bool) (F:Book) (a:Act),HeadInv .any ops n B->(∀j,B.getD j true=false->F j=Option.none)->(∃w,dO w0 Φ F w)->
   (∀j V,ops[j]? =some V->j≠i->B.getD j true=false->(∀e∈V.after,Region.binds .any e=true->e.on≠i)->l.apart ops V=true)->
   i∈Region.ready .any ops B->tOp P ops w0 E Φ i (xg P ops w0 E Φ n L f (B.setIfInBounds i true)) F a->xg P ops w0 E Φ n L (f+1) B F a:=by
 intro f
 induction f with
 |zero=>
  intro B F a inv hF Wz _ hr H;have T:=(mem_ready.1 hr).1;refine⟨fun h=>Ado,fun j hj=> ?_⟩;have U:j<n:=by
   exact AaH
  refine⟨U,?_⟩;by_cases D:j=i
  .subst D;exact H
  .exfalso;have R:∀Z a',xg P ops w0 E Φ n L 0 (B.setIfInBounds i true) Z a'->False:=fun Z a' h=>by
    have:=W _ _ _ h j (ready_mono hj D);omega
   unfold tOp at H;simp only[hi] at H;split at H
   .split at H
    .obtain⟨v,lo,Wu,WK⟩:=FJ G (hF i T) Wz H.1;exact R _ _ (H.2 v lo Wu WK)
    .obtain⟨_,v,_,h2⟩:=H;exact R _ _ h2
   .exact R _ _ H
 |succ f ih=>
  intro B F a inv hF Wz Y hr H;have T:=(mem_ready.1 hr).1;refine⟨fun h=>Ado,fun j hj=> ?_⟩;have U:j<n:=by
   exact AaH
  refine⟨U,?_⟩;by_cases D:j=i
  .subst D;exact H
  .obtain⟨Q,V,Wt,K⟩:=mem_ready.1 hj;have Wx:∀e∈V.after,Region.binds .any e=true->e.on≠i:=fun e O hb Wq=>by
    exact Ac8
   have H1:=Qk (fun Z a' h=>(h.2 j (ready_mono hj D)).2) H;have H2:=QD G hi Wt (Ne.symm D) (Y j V Wt D Q Wx) (fun cs b=>C i l cs b hi) (fun cs b=>C j V cs b Wt) (hF i T) (hF j Q) (tJ inv hr Q) (tJ inv hj T) Wz H1;have S:∀k ok,ops[k]? =some ok->k≠i->(B.setIfInBounds j true).getD k true=false->
     (∀e∈ok.after,Region.binds .any e=true->e.on≠i)->l.apart ops ok=true:=fun k ok hk Wy Wv Wp=>by
    exact AcM
   refine C8 Wz (fun Z a' Ww N h3=>ih (B.setIfInBounds j true) Z a' (inv.set hj U) (fun x J=> ?_) N S (ready_mono hr (Ne.symm D)) ?_) H2
   .exact AbV
   .rw[Array.setIfInBounds_comm _ _ D];exact h3
def BQ{n g}{L:Book->Act->Prop}(G:∀i lo hi v w w',Φ i lo hi v w->Ext w w'->Φ i lo hi v w')(C:Region.noSelect ops=true)(hs:Region.sinkB .any ops n=true)(hc:Region.chainB .any ops n=true)(hn:n<ops.size):
  ∀(l:List Oper) (k:Nat) (B:Array Bool) (F:Book) (a:Act),(∀j,j<l.length->l[j]? =ops[k+j]?)->k+l.length=n->HeadInv .any ops n B->(∀j,B.getD j true=false->F j=Option.none)->(∃w,dO w0 Φ F w)->
  Region.lexHead .any ops g l.length k B=true->wpT P ops w0 E Φ L l k F a->
  xg P ops w0 E Φ n (fun D Z a'=>Region.seqB .any ops g n D=true/\L Z a') l.length B F a
 |[],k,B,F,a,_,hk,_,_,_,hB,h=>by
  exact Acr
 |o::l,k,B,F,a,hl,hk,inv,hF,hr0,hB,h=>by
  have R:ops[k]? =some o:=by simpa using(hl 0 ag).symm
  simp only[List.length_cons,Region.lexHead,Bool.and_eq_true] at hB;obtain⟨⟨V,S⟩,K⟩:=hB;have Y:k<n:=by simp only[List.length_cons] at hk;omega
  have N:k∈Region.ready .any ops B:=by simpa using V
  have T:=(mem_ready.1 N).1;refine D8 G R (Region.noSelect_spec C) hs hc hn Y (fun D Z a' U=>seqB_ready U.1) l.length B F a inv hF hr0 (Region.free_spec R S) N ?_;refine C8 hr0 (fun Z a' O Q I=>BQ G C hs hc hn l (k+1) _ Z a' (fun j W=>by have:=hl (j+1) ae;simpa[Nat.add_assoc,Nat.add_comm 1 j] using this) (by simp only[List.length_cons] at hk;omega) (inv.set N Y) (fun x J=> ?_) Q K I) h;have H:x≠k:=by
   exact Aa9
  rw[getD_set_ne true (Ne.symm H)] at J;rcases O with rfl|⟨e,rfl⟩
  .exact hF x J
  .rw[Book.dL _ _ H];exact hF x J
end
def bR{P:Program}{K:Nat}{Q:Exit->Act->World->Prop}{a:Act}{w:World}{l:List Oper}(n:Nat)(E:Nat->Bool)(Φ:Nat->Nat->Nat->Value->World->Prop)(G:∀i lo hi v w w',Φ i lo hi v w->Ext w w'->Φ i lo hi v w')(W:P.follows .mixedOrders=true)(U:Region.lexTailB .any l.toArray n=true)(h:wpT P l.toArray w E Φ (fun F a'=>∀w',dO w Φ F w'->wpList P l.toArray Q (l.drop n) a' w') (l.take n) 0 Book.none a):(Code.region K l.toArray true).wp P Q a w:=by
 simp only[Region.lexTailB,Bool.and_eq_true,decide_eq_true_eq] at U;obtain⟨⟨⟨⟨C,hn⟩,hs⟩,hc⟩,L⟩:=U;have WL:n<l.length:=by simpa using hn
 have J:(l.take n).length=n:=ae;have D:(l.drop n).length=l.toArray.size-n:=ag;have I:HeadInv .any l.toArray n (Array.replicate l.toArray.size false):=
  ⟨ag,fun j V _ Z=>AaS,fun t _ ht=>getD_in (by simpa using ht) (getD_replicate_false _ _)⟩
 have Y:dO w Φ Book.none {w with drawn:=w.drawn+1}:=⟨(Ext.refl w).drew,fun _ _ h=>Acl,fun _ _ h=>Acl,fun _ _ h=>Acl,fun _ _ _ _ _ h=>Acl⟩;have H:=BQ (P:=P) (E:=E) (g:=l.toArray.size-n) G C hs hc hn (l.take n) 0 _ Book.none a (fun j S=>by
  have R:j<n:=by rw[J] at S;exact S
  simp[R]) (by simpa using J) I (fun _ _=>rfl) ⟨_,Y⟩ (by rw[J];exact L) h
 refine wp_region_any W ?_;have O:=sM (P:=P) (n:=n) (g:=l.toArray.size-n) (Q':=Q) G (fun B F a' w' M T=>by
  have:=wpAny_of_seq (P:=P) (ops:=l.toArray) (md:=.any) (Q':=Q) (l.drop n) n B a' w' (fun j=>ag) (by rw[D];exact T.1) (T.2 w' M);rwa[D] at this) _ _ _ _ _ Y (fun _ _=>rfl) H
 rw[J] at O;have e:n+(l.toArray.size-n)=l.toArray.size:=by simp at hn⊢;omega
 rw[e] at O;exact O
section
variable {P:Program} {ops:Array Oper} {w0:World} {E:Nat->Bool} {Φ:Nat->Nat->Nat->Value->World->Prop} {Q:Book->Act->Prop}
theorem AU(m){l k F a}(B:∀j,j<m->l[j]? =ops[k+j]?)(O:(List.range m).all (fun j=> !E (k+j)&&((ops[k+j]?).map fun o=>gM o.op).getD false)=true)(h:wpQuiet P ops (fun w'=>∃x:aK w0,w'=x.val) (fun a'=>wpT P ops w0 E Φ Q (l.drop m) (k+m) F a') (l.take m) a):wpT P ops w0 E Φ Q l k F a:=by
 induction m generalizing l k a with
 |zero=>simpa[wpQuiet] using h
 |succ m ih=>
  cases l with
  |nil=>simp[wpQuiet] at h;simpa[wpT] using h
  |cons o r=>
   have M:ops[k]? =some o:=by simpa using(B 0 aa).symm
   have K:=List.all_eq_true.1 O;have L:=K 0 ag;simp only[Nat.add_zero,M,Option.map_some,Option.getD_some,Bool.and_eq_true,Bool.not_eq_true'] at L;have G:(List.range m).all (fun j=> !E (k+1+j)&&((ops[k+1+j]?).map fun o=>gM o.op).getD false)=true:=by
    exact Abg
   have D:=fun a'=>ih (l:=r) (k:=k+1) (a:=a') (fun j T=>by have:=B (j+1) aa;simpa[Nat.add_assoc,Nat.add_comm 1 j] using this) G;simp only[List.take_succ_cons,List.drop_succ_cons,wpQuiet] at h;have I:k+(m+1)=k+1+m:=aa;rw[I] at h;unfold wpT tOp;simp only[M];by_cases Y:Region.wanted o (yielded ops a.tmps)=true
   .simp only[Y,if_true] at h⊢;simp only[L.1,Bool.false_eq_true,if_false];obtain⟨v,S,N⟩:=h;refine⟨L.2,v,fun w J=> ?_,D _ N⟩;have H:=S w ⟨⟨w,J⟩,rfl⟩;unfold Oper.quietAt at*
    generalize R:(execOp a.eval o).run P w=C at*
    cases C with
    |ok nx w'=>
     cases nx<;>simp only[Oper.quietUpon] at H⊢
     case value u=>exact H
     case skip=>exact H
     case enter f args=>exact(jN L.2 R).elim
    |halt x w'=>simp only[Oper.quietUpon] at H
   .simp only[Y] at h⊢;exact D _ h
def MX(m){l k F a}(B:l.take m=(ops.toList.drop k).take m)(G:(List.range m).all (fun j=> !E (k+j)&&((ops[k+j]?).map fun o=>gM o.op).getD false)=true)(h:wpQuiet P ops (fun w'=>∃x:aK w0,w'=x.val) (fun a'=>wpT P ops w0 E Φ Q (l.drop m) (k+m) F a') (l.take m) a):wpT P ops w0 E Φ Q l k F a:=
 AU m (fun j D=>by
  have C:(l.take m)[j]? =((ops.toList.drop k).take m)[j]? :=by rw[B]
  rw[List.getElem?_take_of_lt D,List.getElem?_take_of_lt D,List.getElem?_drop] at C;simpa using C) G h
theorem eQ{l o k F a}(j:ops[k]? =some o)(Y:Region.wanted o (yielded ops a.tmps)=true)(C:E k=true)(D:∀w,Kn ops w0 Φ k F w->mr P (Φ k) w ((execOp a.eval o).run P w))(B:∀v lo hi,(∃w,dO w0 Φ (F.set k (v,lo,hi)) w)->wpT P ops w0 E Φ Q l (k+1) (F.set k (v,lo,hi)) (a.put o.dst v)):wpT P ops w0 E Φ Q (o::l) k F a:=by
 unfold wpT tOp;simp only[j,Y,C,if_true];exact⟨D,B⟩
def bE{k F a}(h:Q F a):wpT P ops w0 E Φ Q [] k F a:=h
end
def lt_of_cell{w:World}{p:Addr}{v:Value}(h:w.cell? p=some v):p.block<w.heap.size:=by
 rcases Nat.lt_or_ge p.block w.heap.size with Z|Z
 .exact Z
 .simp[World.cell?,Array.getElem?_eq_none Z] at h
def Ext.cell_{w w'}(h:Ext w w'){p v}(hc:w.cell? p=some v):w'.cell? p=some v:=(h.cell (lt_of_cell hc)).trans hc
def aK.cell{w p v}(h:w.cell? p=some v)(x:aK w):x.val.cell? p=some v:=x.ext.cell_ h
def aK.blk{w g t cs}(h:Blk w g t cs)(x:aK w)(i):x.val.cell? ⟨g,i,none⟩=cs[i]? :=(h.ext x.ext).cell i
def dO.get{w0:World}{Φ:Nat->Nat->Nat->Value->World->Prop}{F:Book}{k lo hi:Nat}{v:Value}{w:World}(h:dO w0 Φ (F.set k (v,lo,hi)) w):Φ k lo hi v w:=h.fact k _ (Book.set_self _ _ _)
def dO.at_{w0 Φ F w}(h:dO w0 Φ F w)(k){e:Value×Nat×Nat}(O:F k=some e):Φ k e.2.1 e.2.2 e.1 w:=h.fact k e O
theorem QA(g j):Addr.add ⟨g,0,none⟩ j=⟨g,j,none⟩:=by unfold Addr.add;split<;>simp_all
theorem add_plain(b o j):Addr.add ⟨b,o,none⟩ j=⟨b,o+j,none⟩:=by unfold Addr.add;split<;>simp_all
theorem Reads.plain{w B n A xs}(h:Reads w B 1 A n xs)(hn:0<n):
  ∃b o,A=some ⟨b,o,none⟩/\b<B/\∀(j:Nat) (u:Value),xs[j]? =some u->w.cell? ⟨b,o+j,none⟩=some u:=by
 obtain⟨F,e,hb,hc⟩:=h.2 hn;have Z:0<xs.length:=by have:=h.1;omega
 have H:=hc 0 _ (List.getElem?_eq_getElem Z);have hs:F.spot=none:=by
  have D:w.cell? F=some xs[0]:=H;unfold World.cell? at D;split at D
  .split at D
   .cases D
   .rename_i I;simpa using I
  .cases D
 obtain⟨b,o,sp⟩:=F;simp only at hs;subst hs;exact⟨b,o,e,hb,fun j u G=>by rw[<-add_plain];exact hc j u G⟩
abbrev Only (g:Nat) (w w':World):Prop:=w.grownBy w' (some g)
section
variable {g:Nat} {w w' w'':World}
def Only.refl(g w):Only g w w:=World.grownBy.refl w _
def Only.trans(h:Only g w w')(k:Only g w' w''):Only g w w'':=
 ⟨k.os.trans h.os,k.tape.trans h.tape,k.output.trans h.output,Nat.le_trans h.size k.size,fun i hi j=>(k.block i (Nat.lt_of_lt_of_le hi h.size) j).trans (h.block i hi j)⟩
def Only.Eu(h:Ext w w'):Only g w w':=⟨h.os,h.tape,h.output,h.size,fun i hi _=>h.block i hi⟩
def Only.set(w g i u):Only g w (w.setCell ⟨g,i,none⟩ u):=
 ⟨rfl,rfl,rfl,by simp[World.setCell],fun k _ j=>Below.heap_setCell w ⟨g,i,none⟩ u k (fun e=>j (by rw[e]))⟩
def Only.cell_(h:Only g w w'){p v}(hc:w.cell? p=some v)(hp:p.block≠g):w'.cell? p=some v:=
 (World.cell?_of_block (h.block p.block (lt_of_cell hc) (fun e=>hp (by injection e)))).trans hc
def Only.blk(h:Only g w w'){b t cs}(hb:Blk w b t cs)(hp:b≠g):Blk w' b t cs:=(h.block b hb.lt (fun e=>hp (by injection e))).trans hb
def Only.ext{w0}(h:Only g w w')(O:Ext w0 w)(j:w0.heap.size<=g):Ext w0 w':=
 ⟨h.os.trans O.os,h.tape.trans O.tape,h.output.trans O.output,Nat.le_trans O.size h.size,fun i hi=>(h.block i (Nat.lt_of_lt_of_le hi O.size) (fun e=>by injection e with e;omega)).trans (O.block i hi)⟩
end

def Elem (P:Program) (t e:TypeId) (size bytes:Nat):Prop:=∃i z,P.underlying t=some (.slice e)/\P.info? e=some i/\i.zero=some z/\i.size=size/\i.bytes=bytes/\z.cells.size=size/\0<size
def Elem.of{P t e size bytes z}(D:P.underlying t=some (.slice e))(hi:(P.info? e).map (fun i=>(i.zero,i.size,i.bytes))=some (some z,size,bytes))(C:z.cells.size=size)(F:0<size):Elem P t e size bytes:=by
 obtain⟨i0,U,j,B,l⟩:=info_parts hi;exact⟨i0,z,D,U,j,B,l,C,F⟩
def dK{P w ops rest o a Q t e size C}(E:Elem P t e size C)(L:o.guard=none)(s x:Operand)(S:o.op=.call {callee:=.builtin .append,args:= #[s,x],argTypes:= #[t,t]})(base v n xs)(hs:a.eval s=v)(l:w.ownsRow base e size v n xs)(B m c D)(J:a.eval x=.slice (some ⟨B,0,none⟩) m c)(U:Blk w B e D.toArray)(Z:D.length=m*size)(Y:∀u∈D,u.oneCell'=true)(T:0<m)(M:n+m<=9223372036854775807)(F:(n+m)*C<=140737488355328)(K:base<=w.heap.size)(h:∀g G w',w'.ownsRow base e size (.slice (some ⟨g,0,none⟩) (n+m) G) (n+m) (xs++D)->w.grownBy w' v.ownBlock->(v.ownBlock=some g\/g=w.heap.size)->g<w'.heap.size->wpList P ops Q rest (a.put o.dst (.slice (some ⟨g,0,none⟩) (n+m) G)) w'):
  wpList P ops Q (o::rest) a w:=by
 obtain⟨i,z,W,hi,V,H,I,N,O⟩:=E;exact wpList_append_lies w L s x t S base e i z size C W hi V H I N O v n xs hs l ⟨B,0,none⟩ m c D J Z (fun j u R=>by have:=World.news_of_block U j u;simpa using this (by simpa using R)) Y T M F K w.heap.size rfl h
def Fp{P w ops rest o a Q t e size C}(E:Elem P t e size C)(L:o.guard=none)(s x:Operand)(R:o.op=.call {callee:=.builtin .append,args:= #[s,x],argTypes:= #[t,t]})(base v n xs)(hs:a.eval s=v)(l:w.ownsRow base e size v n xs)(A m c D)(J:a.eval x=.slice A m c)(O:Reads w w.heap.size size A m D)(V:∀u∈D,u.oneCell'=true)(B:0<m)(M:n+m<=9223372036854775807)(F:(n+m)*C<=140737488355328)(K:base<=w.heap.size)(h:∀g G w',w'.ownsRow base e size (.slice (some ⟨g,0,none⟩) (n+m) G) (n+m) (xs++D)->w.grownBy w' v.ownBlock->(v.ownBlock=some g\/g=w.heap.size)->g<w'.heap.size->wpList P ops Q rest (a.put o.dst (.slice (some ⟨g,0,none⟩) (n+m) G)) w'):
  wpList P ops Q (o::rest) a w:=by
 obtain⟨i,z,U,hi,T,H,I,N,j⟩:=E;obtain⟨S,rfl,_,hc⟩:=O.2 B;exact wpList_append_lies w L s x t R base e i z size C U hi T H I N j v n xs hs l S m c D J O.1 hc V B M F K w.heap.size rfl h
section
variable {w w':World} {base:Nat} {e:TypeId} {size n:Nat} {v:Value} {xs:List Value}
def dU(h:w.ownsRow base e size v n xs)(J:Ext w w'):w'.ownsRow base e size v n xs:=
 h.kept (row:=none) ⟨J.os,J.tape,J.output,J.size,fun k j _=>J.block k j⟩ (by cases hv:v.ownBlock<;>simp)
def qp{g}(h:w.ownsRow base e size v n xs)(J:Only g w w')(j:v.ownBlock≠some g):w'.ownsRow base e size v n xs:=h.kept J (.inr j)
def sK{base' J j n' H l}(h:w.ownsRow base e size v n xs)(I:w.ownsRow base' J j H n' l)(F:e≠J):v.ownBlock=none\/v.ownBlock≠H.ownBlock:=by
 rcases h.2 with ⟨rfl,_⟩|⟨g,G,cur,rfl,_,K,_⟩
 .exact .inl rfl
 .right
  rcases I.2 with ⟨rfl,_⟩|⟨g',B,C,rfl,_,D,_⟩
  .simp[Value.ownBlock]
  .simp only[Value.ownBlock,ne_eq,Option.some.injEq];rintro rfl;rw[K] at D;injection D with D;injection D with _ L;exact F L
def iT(h:w.ownsRow base e size v n xs):∃A c,v=.slice A n c/\n<=c/\c<=maxLen/\Reads w w.heap.size size A n xs:=by
 have l:=h.1;rcases h.2 with ⟨rfl,rfl⟩|⟨g,G,cur,rfl,_,C,B,j,_,_⟩
 .obtain rfl:xs=[]:=List.eq_nil_of_length_eq_zero Aby;exact⟨none,0,rfl,Nat.le_refl _,Nat.zero_le _,Reads.none_⟩
 .exact⟨_,G,rfl,B,j,l,fun _=>⟨_,rfl,(Array.getElem?_eq_some_iff.1 C).1,h.cells (g:=g) rfl⟩⟩
def _root_.Go.World.ownsRow.less{base'}(h:w.ownsRow base e size v n xs)(j:base'<=base):w.ownsRow base' e size v n xs:=by
 refine⟨h.1,?_⟩;rcases h.2 with hn|⟨g,G,cur,hv,hb,rest⟩
 .exact .inl hn
 .exact .inr ⟨g,G,cur,hv,Nat.le_trans j hb,rest⟩
def fq{row w0}(J:w.grownBy w' row)(O:Ext w0 w)(j:∀g,row=some g->w0.heap.size<=g):Ext w0 w':=
 Below.grown O J O.size j
def iB{g}(h:w.ownsRow base e size v n xs)(j:g<base):v.ownBlock≠some g:=by
 intro hv;have:=(h.lt g hv).1;omega
def dR{row g t cs}(J:w.grownBy w' row)(hb:Blk w g t cs)(j:row≠some g):Blk w' g t cs:=(J.block g hb.lt (fun e=>j e.symm)).trans hb
end
def lK{s:Result Value}{w'}(h:s.andThen (fun x w=>Result.ok (Next.value x) w)=.ok .skip w'):False:=by
 cases s<;>simp[Result.andThen] at h
def ul{P}{ev:Operand->Value}{o w w'}(hp:gM o.op=true)(h:(execOp ev o).run P w=.ok .skip w'):False:=by
 obtain⟨l,op,F,pos,D,G⟩:=o;cases op<;>simp only[gM,Bool.false_eq_true] at hp<;>simp only[execOp,Sem.run_bind,Sem.run_pure] at h
 case call c=>
  obtain⟨j,C,B⟩:=c;cases j<;>simp only[Bool.false_eq_true] at hp
  case builtin b=>
   cases b<;>simp only[Bool.false_eq_true] at hp<;>simp only[resolve,Sem.run_bind,Sem.run_pure,Result.andThen_ok,invoke,builtin] at h<;>exact lK h
 case pick c x y=>cases hb:(asBool (ev c)).run P w<;>simp[hb,Result.andThen] at h
 all_goals first
  |exact lK h
  |(simp at h;done)
section
variable {P:Program} {ops:Array Oper} {Q Q':Exit->Act->World->Prop} {S:World->Prop}
def Iw{o:Oper}{a:Act}{K R:Act->World->Prop}{r:Result Next}(I:∀a w,K a w->R a w)(T:∀e a w,Q e a w->Q' e a w)(h:o.upon P a K Q r):o.upon P a R Q' r:=by
 cases r with
 |ok n w'=>
  cases n<;>simp only[Oper.upon] at h⊢
  case value u=>exact I _ _ h
  case skip=>exact I _ _ h
  case defer d=>exact I _ _ h
  case enter f args=>
   refine Calls.mono h fun e w'' O=> ?_;cases e with
   |returned u=>exact I _ _ O
   |panicked c=>exact T _ _ _ O
   |outgrown=>exact(O:LetsOut Q).elim fun a h=>h.elim fun w h=>⟨a,w,T _ _ _ h⟩
  case row row args=>exact Rows.mono h fun u w'' O=>I _ _ O
 |halt x w'=>
  cases x<;>simp only[Oper.upon] at h⊢
  case panic u=>exact T _ _ _ h
theorem wO{o a v}(hp:gM o.op=true)(Y:Region.wanted o (yielded ops a.tmps)=true)(h:∀w,S w->o.quietAt P a S w v):YieldsIf P ops S o v a:=by
 refine .inl ⟨Y,fun w hS=> ?_⟩;have j:=h w hS;unfold Oper.quietAt at j;generalize l:(execOp a.eval o).run P w=C at*
 cases C with
 |ok nx w'=>
  cases nx<;>simp only[Oper.quietUpon] at j
  case value u=>obtain⟨rfl,rfl⟩:=j;rfl
  case skip=>exact(ul hp l).elim
  case enter f args=>exact(jN hp l).elim
 |halt x w'=>simp only[Oper.quietUpon] at j
def aV:List Oper->Nat->List Oper
 |[],_=>[]
 |o::_,0=>[o]
 |_::l,n+1=>aV l n
def bO (l:List Oper):List Nat->List Oper
 |[]=>[]
 |i::is=>aV l i++bO l is
def Ah{l i o}(h:l[i]? =some o):aV l i=[o]:=by
 induction l generalizing i with
 |nil=>simp at h
 |cons x l ih=>
  cases i with
  |zero=>simpa[aV] using h
  |succ i=>simpa[aV] using ih Acn
end

section
variable {P:Program} {ops:Array Oper} {Q:Exit->Act->World->Prop} {S:World->Prop}
def QF:Exit->Act->World->Prop:=fun _ _ _=>False
def qP (P:Program) (ops:Array Oper) (S:World->Prop) (n:Nat) (L:Array Bool->Act->World->Prop):Nat->Array Bool->Act->World->Prop
 |0,listed,a,w=>L listed a w
 |f+1,listed,a,w=>Region.ready .any ops listed≠[]/\∀i∈Region.ready .any ops listed,i<n/\wpOp P ops QF i (fun a' w'=>S w'/\qP P ops S n L f (listed.setIfInBounds i true) a' w') a w
theorem IG{Q Q' i a w}{K R:Act->World->Prop}(I:∀a w,K a w->R a w)(T:∀e a w,Q e a w->Q' e a w)(h:wpOp P ops Q i K a w):wpOp P ops Q' i R a w:=by
 unfold wpOp at h⊢;split
 .rename_i j;simp only[j] at h;exact I _ _ h
 .rename_i o j
  simp only[j] at h;split
  .rename_i Y
   simp only[Y,if_true] at h;rcases h with h|⟨l,M,w1,B⟩
   .exact .inl (Iw I T h)
   .exact .inr ⟨l,M,w1,T _ _ _ B⟩
  .rename_i Y
   simp only[Y] at h;exact I _ _ h
def mQ{n g}{L:Array Bool->Act->World->Prop}(j:∀B a w,L B a w->wpAny P .any ops Q g B a w):
  ∀(f:Nat) (B:Array Bool) (a:Act) (w:World),qP P ops S n L f B a w->wpAny P .any ops Q (f+g) B a w
 |0,B,a,w,h=>by rw[Nat.zero_add];exact j _ _ _ h
 |f+1,B,a,w,h=>by
  rw[show f+1+g=(f+g)+1 by omega];exact⟨fun l=>absurd l h.1,fun i hi=>IG (fun a' w' I=>mQ j f _ a' w' I.2) (fun _ _ _ h=>h.elim) (h.2 i hi).2⟩
def jm{n i l v}{L:Array Bool->Act->World->Prop}(hi:ops[i]? =some l)(C:∀(j:Nat) (o:Oper) cs b,ops[j]? =some o->o.op≠ .select cs b)(hs:Region.sinkB .any ops n=true)(hc:Region.chainB .any ops n=true)(hn:n<ops.size)(M:i<n)(W:∀B a w,L B a w->∀j∈Region.ready .any ops B,n<=j):
  ∀(f:Nat) (B:Array Bool) (a:Act) (w:World),HeadInv .any ops n B->
   (∀j V,ops[j]? =some V->j≠i->B.getD j true=false->(∀e∈V.after,Region.binds .any e=true->e.on≠i)->l.apart ops V=true)->
   i∈Region.ready .any ops B->YieldsIf P ops S l v a->S w->
   qP P ops S n L f (B.setIfInBounds i true) (a.put l.dst v) w->qP P ops S n L (f+1) B a w:=by
 intro f
 induction f with
 |zero=>
  intro B a w inv _ I R hS H;have T:=(mem_ready.1 I).1;refine⟨fun h=>(by rw[h] at I;cases I),fun j J=> ?_⟩;have U:j<n:=by
   exact Abm
  refine⟨U,?_⟩;by_cases D:j=i
  .subst D;exact R.wpOp hi hS ⟨hS,H⟩
  .have:=W _ _ _ H j (ready_mono J D);omega
 |succ f ih=>
  intro B a w inv Y I R hS H;have T:=(mem_ready.1 I).1;refine⟨fun h=>(by rw[h] at I;cases I),fun j J=> ?_⟩;have U:j<n:=by
   exact Abm
  refine⟨U,?_⟩;by_cases D:j=i
  .subst D;exact R.wpOp hi hS ⟨hS,H⟩
  .have h1:=(H.2 j (ready_mono J D)).2;obtain⟨Q,V,N,K⟩:=mem_ready.1 J;have Z:∀e∈V.after,Region.binds .any e=true->e.on≠i:=fun e O hb Wq=>by
    exact Ac8
   have h2:=wpOp_putIf N (Y j V N D Q Z) (fun cs b=>C i l cs b hi) (fun cs b=>C j V cs b N) (fun _ _ _ h=>h) R h1;have F:∀k ok,ops[k]? =some ok->k≠i->(B.setIfInBounds j true).getD k true=false->
     (∀e∈ok.after,Region.binds .any e=true->e.on≠i)->l.apart ops ok=true:=fun k ok hk Wy G Wp=>by
    refine Y k ok hk Wy ?_ Wp;by_cases WV:j=k
    .subst WV;exact Q
    .rw[getD_set_ne true WV] at G;exact G
   refine wpOp_mono (fun a' w' h3=>⟨h3.2.1,ih (B.setIfInBounds j true) a' w' (inv.set J U) F (ready_mono I (Ne.symm D)) h3.1 h3.2.1 ?_⟩) h2;rw[Array.setIfInBounds_comm _ _ D];exact h3.2.2
def bP (P:Program) (ops:Array Oper) (S:World->Prop) (L:Act->World->Prop):List (Bool×Nat)->Act->World->Prop
 |[],a,w=>L a w
 |(true,i)::rest,a,w=>match ops[i]? with
  |some o=>if Region.wanted o (yielded ops a.tmps) then o.quiet P a S (fun a'=>bP P ops S L rest a' w) else bP P ops S L rest (a.put o.dst undef) w
  |none=>False
 |(false,i)::rest,a,w=>wpOp P ops QF i (fun a' w'=>S w'/\bP P ops S L rest a' w') a w
def pX (ops:Array Oper) (n:Nat):List (Bool×Nat)->Array Bool->Bool
 |[],listed=>Region.seqB .any ops (ops.size-n) n listed
 |(true,i)::rest,listed=>((ops[i]?).map fun o=>gM o.op).getD false&&Region.free .any ops listed i&&(Region.ready .any ops listed).contains i&&decide (i<n)&&pX ops n rest (listed.setIfInBounds i true)
 |(false,i)::rest,listed=>decide (Region.ready .any ops listed=[i])&&decide (i<n)&&pX ops n rest (listed.setIfInBounds i true)
theorem kN{n}{L:Act->World->Prop}(C:Region.noSelect ops=true)(hs:Region.sinkB .any ops n=true)(hc:Region.chainB .any ops n=true)(hn:n<ops.size):
  ∀(ord:List (Bool×Nat)) (B:Array Bool) (a:Act) (w:World),HeadInv .any ops n B->pX ops n ord B=true->S w->bP P ops S L ord a w->
  qP P ops S n (fun D a' w'=>Region.seqB .any ops (ops.size-n) n D=true/\L a' w') ord.length B a w
 |[],B,a,w,_,hB,_,h=>⟨by simpa[pX] using hB,h⟩
 |(true,i)::rest,B,a,w,inv,hB,hS,h=>by
  simp only[pX,Bool.and_eq_true,decide_eq_true_eq] at hB;obtain⟨⟨⟨⟨hp,I⟩,Q⟩,M⟩,K⟩:=hB;have N:i∈Region.ready .any ops B:=by simpa using Q
  unfold bP at h;cases l:ops[i]? with
  |none=>simp[l] at h
  |some o=>
   simp only[l] at h;have O:gM o.op=true:=by simpa[l] using hp
   by_cases Y:Region.wanted o (yielded ops a.tmps)=true
   .rw[if_pos Y] at h;obtain⟨v,R,J⟩:=h;exact jm (v:=v) l (Region.noSelect_spec C) hs hc hn M (fun _ _ _ G=>seqB_ready G.1) _ _ _ _ inv (Region.free_spec l I) N (wO O Y R) hS (kN C hs hc hn rest _ _ _ (inv.set N M) K hS J)
   .rw[if_neg Y] at h;exact jm (v:=undef) l (Region.noSelect_spec C) hs hc hn M (fun _ _ _ G=>seqB_ready G.1) _ _ _ _ inv (Region.free_spec l I) N (.inr ⟨by simpa using Y,rfl⟩) hS (kN C hs hc hn rest _ _ _ (inv.set N M) K hS h)
 |(false,i)::rest,B,a,w,inv,hB,hS,h=>by
  simp only[pX,Bool.and_eq_true,decide_eq_true_eq] at hB;unfold bP at h;refine⟨by rw[hB.1.1];simp,fun j F=> ?_⟩;have H:=F;rw[hB.1.1] at F;obtain rfl:j=i:=by simpa using F
  exact⟨hB.1.2,wpOp_mono (fun a' w' h=>⟨h.1,kN C hs hc hn rest _ _ _ (inv.set H hB.1.2) hB.2 h.1 h.2⟩) h⟩
def zy{K:Nat}{a:Act}{w:World}{l:List Oper}(n:Nat)(S:World->Prop)(ord:List (Bool×Nat))(N:P.follows .mixedOrders=true)(M:(Region.noSelect l.toArray&&Region.sinkB .any l.toArray n&&Region.chainB .any l.toArray n&&decide (n<l.length)&&decide (ord.length=n)&&pX l.toArray n ord (Array.replicate l.length false))=true)(hS:S w.drew)(h:bP P l.toArray S (fun a' w'=>wpList P l.toArray Q (l.drop n) a' w') ord a w.drew):(Code.region K l.toArray true).wp P Q a w:=by
 simp only[Bool.and_eq_true,decide_eq_true_eq] at M;obtain⟨⟨⟨⟨⟨C,hs⟩,hc⟩,hn⟩,T⟩,F⟩:=M;have J:n<l.toArray.size:=by simpa using hn
 have I:HeadInv .any l.toArray n (Array.replicate l.length false):=
  ⟨ag,fun j V _ Z=>AaS,fun t _ O=>getD_in (by simpa using O) (getD_replicate_false _ _)⟩
 have H:=kN (P:=P) C hs hc J ord _ a w.drew I F hS h;have D:(l.drop n).length=l.toArray.size-n:=ag;have G:=mQ (P:=P) (Q:=Q) (n:=n) (g:=l.toArray.size-n) (fun B a' w' L=>by
  have:=wpAny_of_seq (P:=P) (ops:=l.toArray) (md:=.any) (Q':=Q) (l.drop n) n B a' w' (fun j=>ag) (by rw[D];exact L.1) L.2;rwa[D] at this) _ _ _ _ H
 exact Ab9
def bz{K:Nat}{a:Act}{w:World}{l:List Oper}(n:Nat)(ord:List (Bool×Nat))(B:P.follows .mixedOrders=true)(j:(Region.noSelect l.toArray&&Region.sinkB .any l.toArray n&&Region.chainB .any l.toArray n&&decide (n<l.length)&&decide (ord.length=n)&&pX l.toArray n ord (Array.replicate l.length false))=true)(h:bP P l.toArray (fun w'=>∃x:aK w,w'=x.val) (fun a' w'=>wpList P l.toArray Q (l.drop n) a' w') ord a w.drew):(Code.region K l.toArray true).wp P Q a w:=
 zy n _ ord B j ⟨⟨w.drew,(Ext.refl w).drew⟩,rfl⟩ h
def aS{l w}{L:Act->World->Prop}:∀(is:List Nat) (rest:List (Bool×Nat)) (a:Act),is.all (fun i=>decide (i<l.length))=true->
  wpQuiet P l.toArray S (fun a'=>bP P l.toArray S L rest a' w) (bO l is) a->bP P l.toArray S L (is.map (fun i=>(true,i))++rest) a w
 |[],_,_,_,h=>h
 |i::is,rest,a,hi,h=>by
  simp only[List.all_cons,Bool.and_eq_true,decide_eq_true_eq] at hi;have j:l[i]? =some l[i]:=List.getElem?_eq_getElem hi.1;simp only[bO,Ah j,List.singleton_append,wpQuiet] at h;simp only[List.map_cons,List.cons_append,bP,List.getElem?_toArray,j];by_cases Y:Region.wanted l[i] (yielded l.toArray a.tmps)=true
  .rw[if_pos Y] at h⊢;exact Oper.quiet_mono (fun a' I=>aS is rest a' hi.2 I) h
  .rw[if_neg Y] at h⊢;exact aS is rest _ hi.2 h
theorem aR{l a w}{L:Act->World->Prop}(i rest)(hi:decide (i<l.length)=true)(h:∀K:Act->World->Prop,(∀a' w',S w'->bP P l.toArray S L rest a' w'->K a' w')->wpList P l.toArray (fun e a' w'=>e=.normal/\K a' w') (aV l i) a w):
  bP P l.toArray S L ((false,i)::rest) a w:=by
 have D:i<l.length:=by simpa using hi
 have F:l[i]? =some l[i]:=List.getElem?_eq_getElem D;have B:=h (fun a' w'=>S w'/\bP P l.toArray S L rest a' w') (fun _ _ B G=>⟨B,G⟩);simp only[Ah F,wpList] at B;unfold bP wpOp;simp only[List.getElem?_toArray,F];split
 .rename_i Y
  simp only[Y,if_true] at B;rcases B with B|⟨_,_,_,B,_⟩
  .refine .inl ?_;have j:∀r:Result Next,(l[i]).upon P a (fun a' w'=>True/\S w'/\bP P l.toArray S L rest a' w') (fun e a' w'=>e=.normal/\S w'/\bP P l.toArray S L rest a' w') r->
     (l[i]).upon P a (fun a' w'=>S w'/\bP P l.toArray S L rest a' w') QF r:=by
    intro r C;cases r with
    |ok n w'=>
     cases n<;>simp only[Oper.upon] at C⊢
     case value u=>exact C.2
     case skip=>exact C.2
     case defer d=>exact C.2
     case enter f args=>
      refine Calls.mono C fun e w'' O=> ?_;cases e with
      |returned u=>exact O.2
      |panicked c=>cases O.1
      |outgrown=>exact(O:LetsOut _).elim fun a h=>h.elim fun w h=>by cases h.1
     case row row args=>exact Rows.mono C fun u w'' O=>O.2
    |halt x w'=>
     cases x<;>simp only[Oper.upon] at C⊢
     case panic u=>cases C.1
   exact j _ B
  .cases B
 .rename_i Y
  simp only[Y] at B;exact B.2
end
section
variable {P:Program} {ops:Array Oper} {Q:Exit->Act->World->Prop} {S:World->Prop}
def kF (P:Program) (ops:Array Oper) (S:World->Prop) (L:Act->World->Prop) (f:Nat) (post:List (Bool×Nat)):List (Bool×Nat)->Act->World->Prop
 |[],a,w=>wpOp P ops QF f (fun a' w'=>S w'/\bP P ops S L post a' w') a w
 |(true,i)::rest,a,w=>match ops[i]? with
  |some o=>if Region.wanted o (yielded ops a.tmps) then o.quiet P a S (fun a'=>kF P ops S L f post rest a' w) else kF P ops S L f post rest (a.put o.dst undef) w
  |none=>False
 |(false,i)::rest,a,w=>wpOp P ops QF i (fun a' w'=>S w'/\kF P ops S L f post rest a' w') a w/\wpOp P ops QF f (fun a' w'=>S w'/\bP P ops S L ((false,i)::rest++post) a' w') a w
def rT (ops:Array Oper) (n f:Nat) (post:List (Bool×Nat)):List (Bool×Nat)->Array Bool->Bool
 |[],listed=>decide (Region.ready .any ops listed=[f])&&decide (f<n)&&pX ops n post (listed.setIfInBounds f true)
 |(true,i)::rest,listed=>((ops[i]?).map fun o=>gM o.op).getD false&&Region.free .any ops listed i&&(Region.ready .any ops listed).contains i&&decide (i<n)&&rT ops n f post rest (listed.setIfInBounds i true)
 |(false,i)::rest,listed=>decide (Region.ready .any ops listed=[i,f])&&decide (i<n)&&decide (f<n)&&rT ops n f post rest (listed.setIfInBounds i true)&&pX ops n ((false,i)::rest++post) (listed.setIfInBounds f true)
theorem lF{n f post}{L:Act->World->Prop}(C:Region.noSelect ops=true)(hs:Region.sinkB .any ops n=true)(hc:Region.chainB .any ops n=true)(hn:n<ops.size):
  ∀(ord:List (Bool×Nat)) (B:Array Bool) (a:Act) (w:World),HeadInv .any ops n B->rT ops n f post ord B=true->S w->kF P ops S L f post ord a w->
  qP P ops S n (fun D a' w'=>Region.seqB .any ops (ops.size-n) n D=true/\L a' w') (ord.length+(post.length+1)) B a w
 |[],B,a,w,inv,hB,hS,h=>by
  simp only[rT,Bool.and_eq_true,decide_eq_true_eq] at hB;unfold kF at h;rw[show([]:List (Bool×Nat)).length+(post.length+1)=post.length+1 by simp];refine⟨by rw[hB.1.1];simp,fun j G=> ?_⟩;have F:=G;rw[hB.1.1] at G;obtain rfl:j=f:=by simpa using G
  exact⟨hB.1.2,wpOp_mono (fun a' w' h=>⟨h.1,kN C hs hc hn post _ _ _ (inv.set F hB.1.2) hB.2 h.1 h.2⟩) h⟩
 |(true,i)::rest,B,a,w,inv,hB,hS,h=>by
  simp only[rT,Bool.and_eq_true,decide_eq_true_eq] at hB;obtain⟨⟨⟨⟨hp,T⟩,J⟩,M⟩,K⟩:=hB;have N:i∈Region.ready .any ops B:=by simpa using J
  unfold kF at h;rw[show((true,i)::rest).length+(post.length+1)=(rest.length+(post.length+1))+1 by simp;omega];cases H:ops[i]? with
  |none=>simp[H] at h
  |some o=>
   simp only[H] at h;have O:gM o.op=true:=by simpa[H] using hp
   by_cases Y:Region.wanted o (yielded ops a.tmps)=true
   .rw[if_pos Y] at h;obtain⟨v,V,U⟩:=h;exact jm (v:=v) H (Region.noSelect_spec C) hs hc hn M (fun _ _ _ Q=>seqB_ready Q.1) _ _ _ _ inv (Region.free_spec H T) N (wO O Y V) hS (lF C hs hc hn rest _ _ _ (inv.set N M) K hS U)
   .rw[if_neg Y] at h;exact jm (v:=undef) H (Region.noSelect_spec C) hs hc hn M (fun _ _ _ Q=>seqB_ready Q.1) _ _ _ _ inv (Region.free_spec H T) N (.inr ⟨by simpa using Y,rfl⟩) hS (lF C hs hc hn rest _ _ _ (inv.set N M) K hS h)
 |(false,i)::rest,B,a,w,inv,hB,hS,h=>by
  simp only[rT,Bool.and_eq_true,decide_eq_true_eq] at hB;obtain⟨⟨⟨⟨J,M⟩,I⟩,l⟩,R⟩:=hB;unfold kF at h;rw[show((false,i)::rest).length+(post.length+1)=(rest.length+(post.length+1))+1 by simp;omega];refine⟨by rw[J];simp,fun j G=> ?_⟩;have F:=G;rw[J] at G;simp only[List.mem_cons,List.not_mem_nil,or_false] at G;rcases G with rfl|rfl
  .exact⟨M,wpOp_mono (fun a' w' h=>⟨h.1,lF C hs hc hn rest _ _ _ (inv.set F M) l h.1 h.2⟩) h.1⟩
  .refine⟨I,wpOp_mono (fun a' w' h=>⟨h.1,?_⟩) h.2⟩;have:=kN (P:=P) (S:=S) (L:=L) C hs hc hn _ _ _ _ (inv.set F I) R h.1 h.2;rw[show((false,i)::rest++post).length=rest.length+(post.length+1) by simp;omega] at this;exact this
def sF{K:Nat}{a:Act}{w:World}{l:List Oper}(n f:Nat)(G post:List (Bool×Nat))(R:Act->Act->World->Prop)(O:P.follows .mixedOrders=true)(N:(Region.noSelect l.toArray&&Region.sinkB .any l.toArray n&&Region.chainB .any l.toArray n&&decide (n<l.length)&&decide (G.length+(post.length+1)=n)&&rT l.toArray n f post G (Array.replicate l.length false))=true)(h:kF P l.toArray (fun w'=>∃x:aK w,w'=x.val) (fun a' w'=>R a a' w') f post G a w.drew)(S:∀a' w',R a a' w'->wpList P l.toArray Q (l.drop n) a' w'):(Code.region K l.toArray true).wp P Q a w:=by
 simp only[Bool.and_eq_true,decide_eq_true_eq] at N;obtain⟨⟨⟨⟨⟨C,hs⟩,hc⟩,hn⟩,T⟩,F⟩:=N;have L:n<l.toArray.size:=by simpa using hn
 have I:HeadInv .any l.toArray n (Array.replicate l.length false):=
  ⟨ag,fun j V _ Z=>AaS,fun t _ U=>getD_in (by simpa using U) (getD_replicate_false _ _)⟩
 have H:=lF (P:=P) C hs hc L G _ a w.drew I F ⟨⟨w.drew,(Ext.refl w).drew⟩,rfl⟩ h;have D:(l.drop n).length=l.toArray.size-n:=ag;have J:=mQ (P:=P) (Q:=Q) (n:=n) (g:=l.toArray.size-n) (fun B a' w' M=>by
  have:=wpAny_of_seq (P:=P) (ops:=l.toArray) (md:=.any) (Q':=Q) (l.drop n) n B a' w' (fun j=>ag) (by rw[D];exact M.1) (S _ _ M.2);rwa[D] at this) _ _ _ _ H
 exact Aca
def ER{l a w}{M:Act->World->Prop}(i)(hi:decide (i<l.length)=true)(h:∀K:Act->World->Prop,(∀a' w',S w'->M a' w'->K a' w')->wpList P l.toArray (fun e a' w'=>e=.normal/\K a' w') (aV l i) a w):
  wpOp P l.toArray QF i (fun a' w'=>S w'/\M a' w') a w:=aR (L:=M) i [] hi h
def fI{l w}{L:Act->World->Prop}{f post}:∀(is:List Nat) (rest:List (Bool×Nat)) (a:Act),is.all (fun i=>decide (i<l.length))=true->
  wpQuiet P l.toArray S (fun a'=>kF P l.toArray S L f post rest a' w) (bO l is) a->kF P l.toArray S L f post (is.map (fun i=>(true,i))++rest) a w
 |[],_,_,_,h=>h
 |i::is,rest,a,hi,h=>by
  simp only[List.all_cons,Bool.and_eq_true,decide_eq_true_eq] at hi;have j:l[i]? =some l[i]:=List.getElem?_eq_getElem hi.1;simp only[bO,Ah j,List.singleton_append,wpQuiet] at h;simp only[List.map_cons,List.cons_append,kF,List.getElem?_toArray,j];by_cases Y:Region.wanted l[i] (yielded l.toArray a.tmps)=true
  .rw[if_pos Y] at h⊢;exact Oper.quiet_mono (fun a' I=>fI is rest a' hi.2 I) h
  .rw[if_neg Y] at h⊢;exact fI is rest _ hi.2 h
def lV{l a w}{L:Act->World->Prop}{f post}(i rest)(hi:decide (i<l.length)=true)(B:decide (f<l.length)=true)(h:∀K:Act->World->Prop,(∀a' w',S w'->kF P l.toArray S L f post rest a' w'->K a' w')->wpList P l.toArray (fun e a' w'=>e=.normal/\K a' w') (aV l i) a w)(j:∀K:Act->World->Prop,(∀a' w',S w'->bP P l.toArray S L ((false,i)::rest++post) a' w'->K a' w')->wpList P l.toArray (fun e a' w'=>e=.normal/\K a' w') (aV l f) a w):
  kF P l.toArray S L f post ((false,i)::rest) a w:=⟨ER i hi h,ER f B j⟩
def oK{l a w}{L:Act->World->Prop}{f post}(B:decide (f<l.length)=true)(j:∀K:Act->World->Prop,(∀a' w',S w'->bP P l.toArray S L post a' w'->K a' w')->wpList P l.toArray (fun e a' w'=>e=.normal/\K a' w') (aV l f) a w):
  kF P l.toArray S L f post [] a w:=ER f B j
end
def yD{P}(w){base t F e size C}(E:Elem P t e size C){v n xs}(l:w.ownsRow base e size v n xs)(A c):
  (Builtin.append_ #[t,t] F #[v,.slice A 0 c]).run P w=.ok v w:=by
 obtain⟨i,z,j,hi,J,H,I,N,D⟩:=E;rcases l.2 with ⟨rfl,rfl⟩|⟨g,G,cur,rfl,_,_,B,_⟩
 .cases A<;>simp[Builtin.append_,run_underlying j,sizeOf,typeInfo,hi,Builtin.lenOf,Builtin.firstCells,loadCells,loadCellsFrom]
 .cases A<;>simp[Builtin.append_,run_underlying j,sizeOf,typeInfo,hi,Builtin.lenOf,Builtin.firstCells,B,storeCells,loadCells,loadCellsFrom]
theorem iY{P w ops rest o a Q t e size C}(E:Elem P t e size C)(L:o.guard=none)(s x:Operand)(B:o.op=.call {callee:=.builtin .append,args:= #[s,x],argTypes:= #[t,t]})(base v n xs)(hs:a.eval s=v)(l:w.ownsRow base e size v n xs)(A m c D)(J:a.eval x=.slice A m c)(N:Reads w w.heap.size size A m D)(S:∀u∈D,u.oneCell'=true)(M:n+m<=9223372036854775807)(F:(n+m)*C<=140737488355328)(K:base<=w.heap.size)(h:∀H w',w'.ownsRow base e size H (n+m) (xs++D)->w.grownBy w' v.ownBlock->wpList P ops Q rest (a.put o.dst H) w'):
  wpList P ops Q (o::rest) a w:=by
 rcases Nat.eq_zero_or_pos m with j|j
 .subst j;obtain rfl:D=[]:=List.eq_nil_of_length_eq_zero (by simpa using N.1);refine wpList_plain L fun _ I=> ?_;unfold Oper.wp execOp;simp only[B,resolve,invoke,builtin,Sem.run_bind,Sem.run_pure,Result.andThen_ok,List.map_toArray,List.map_cons,List.map_nil,hs,J,yD w E l A c];exact I _ _ (h v w Aby (World.grownBy.refl w _))
 .exact Fp E L s x B base v n xs hs l A m c D J N S j M F K (fun g G w' R O _ _=>h _ w' R O)
def wpT_q1{P:Program}{ops:Array Oper}{w0:World}{E:Nat->Bool}{Φ:Nat->Nat->Nat->Value->World->Prop}{Q:Book->Act->Prop}{o:Oper}{l:List Oper}{k:Nat}{F:Book}{a:Act}(B:ops[k]? =some o)(C:(!E k&&gM o.op)=true)(h:wpQuiet P ops (fun w'=>∃x:aK w0,w'=x.val) (fun a'=>wpT P ops w0 E Φ Q l (k+1) F a') [o] a):wpT P ops w0 E Φ Q (o::l) k F a:=
 AU 1 (fun j D=>by
  obtain rfl:j=0:=aa;exact B.symm) (by simpa[B] using C) h
def Qs{p q:Prop}(h:q)(t:q->p:=by
 intro h;(repeat (refine wpT_q1 (by rfl) (by rfl) ?_;go_big_quiet_step (fail);refine wpQuiet_nil ?_));exact h):p:=t h
def Qp{p q:Prop}(h:q)(t:q->p:=by
 intro h;(try simp only[Act.put,List.setIfInBounds_toArray,List.set_cons_succ,List.set_cons_zero]);exact h):p:=t h
def Kn.f{ops:Array Oper}{w0:World}{Φ:Nat->Nat->Nat->Value->World->Prop}{k:Nat}{F:Book}{w:World}(h:Kn ops w0 Φ k F w)(i:Nat)(e:Value×Nat×Nat)(j:F i=some e:=by rfl)(l:anc ops ops.size k i=true:=by kernel_rfl):Φ i e.2.1 e.2.2 e.1 w:=h.2 i e j l
section
variable {P:Program} {ops:Array Oper} {w0:World} {E:Nat->Bool} {Φ:Nat->Nat->Nat->Value->World->Prop} {Qt:Book->Act->Prop} {o:Oper} {l:List Oper} {k:Nat} {F:Book} {a:Act}
def Eb{Q:Nat->Nat->Prop}(h:∀g hi,g<hi->Q g hi)(t:(∀g hi,g<hi->Q g hi)->wpT P ops w0 E Φ Qt (o::l) k F a:=by
   intro h;refine eQ (by rfl) (by rfl) (by rfl) ?_ ?_
   .intro W I;go_simp;exact⟨Ext.new _ _,rfl,by simp,Blk.new _ _ _⟩
   .intro v g hi B;obtain⟨W,j⟩:=B;obtain⟨rfl,Z,-⟩:=j.get;clear j W;(try simp only[Act.put,List.setIfInBounds_toArray,List.set_cons_succ,List.set_cons_zero]);exact h g hi Z):wpT P ops w0 E Φ Qt (o::l) k F a:=t h
def En_{Q:Nat->Nat->Prop}(h:∀lo hi,Q lo hi)(t:(∀lo hi,Q lo hi)->wpT P ops w0 E Φ Qt (o::l) k F a:=by
   intro h;refine eQ (by rfl) (by rfl) (by rfl) ?_ ?_
   .intro W I;go_simp;exact⟨Ext.refl _,rfl⟩
   .intro v lo hi B;obtain⟨W,j⟩:=B;obtain rfl:v=_:=j.get;clear j W;(try simp only[Act.put,List.setIfInBounds_toArray,List.set_cons_succ,List.set_cons_zero]);exact h lo hi):wpT P ops w0 E Φ Qt (o::l) k F a:=t h
variable {G:Value->World->Prop} {f:FuncId} {args:Array Value}
def E1{Q:Value->Nat->Nat->Prop}(x:∀W,Kn ops w0 Φ k F W->Calls P f args W (fun e w'=>∃v,e=.returned v/\G v w'/\Ext W w'))(h:∀v lo hi,Q v lo hi)(t:(∀W,Kn ops w0 Φ k F W->Calls P f args W (fun e w'=>∃v,e=.returned v/\G v w'/\Ext W w'))->(∀v lo hi,Q v lo hi)->wpT P ops w0 E Φ Qt (o::l) k F a:=by
   intro x h;refine eQ (by rfl) (by rfl) (by rfl) ?_ ?_
   .intro W I;have y:=x W I;clear x h I;go_simp;exact⟨rfl,y.mono fun e w' ⟨v,O,hv,J⟩=>⟨v,O,J,hv⟩⟩
   .intro v lo hi j;clear j x;(try simp only[Act.put,List.setIfInBounds_toArray,List.set_cons_succ,List.set_cons_zero]);exact h v lo hi):wpT P ops w0 E Φ Qt (o::l) k F a:=t x h
end

def Qd{p q:Prop}(h:q)(t:q->p:=by
 intro h;simp only[List.take_succ_cons,List.take_zero,List.drop_succ_cons,List.drop_zero];exact h):p:=t h
def mg (l:List Nat):List Value:=l.map fun(d:Nat)=> .int .u32 (d:Int)
def pV(l):(mg l).length=l.length:=by simp[mg]
def oz{l}{k x:Nat}(h:l[k]? =some x):(mg l)[k]? =some (.int .u32 (x:Int)):=by simp[mg,h]
def zG{l}:∀u∈mg l,u.oneCell'=true:=by
 intro u j;simp only[mg,List.mem_map] at j;obtain⟨d,_,rfl⟩:=j;rfl
def UN(l:List Nat)(k x:Nat):(mg l).set k (.int .u32 (x:Int))=mg (l.set k x):=by simp[mg,List.map_set]
def EG(n):mg (List.replicate n 0)=List.replicate n (.int .u32 0):=by simp[mg]
structure RM (w:World) (A:Option Addr) (n c:Nat) (l:List Nat):Prop where
 rd:Reads w w.heap.size 1 A n (mg l)
 dg:Dig l
 nc:n<=c
 cm:c<=9223372036854775807
section
variable {w w':World} {A:Option Addr} {n c:Nat} {l:List Nat}
def RM.ext(h:RM w A n c l)(e:Ext w w'):RM w' A n c l:=⟨h.rd.ext e,h.dg,h.nc,h.cm⟩
def RM.len(h:RM w A n c l):l.length=n:=by have:=h.rd.1;rw[pV] at this;omega
def RM.at_{k}(h:RM w A n c l)(C:k<n):∃j x,A=some j/\j.block<w.heap.size/\l[k]? =some x/\x<4294967296/\w.cell? (j.add k)=some (.int .u32 (x:Int)):=by
 obtain⟨j,u,e,hb,B,hc⟩:=h.rd.at_ C;simp only[mg,List.getElem?_map,Option.map_eq_some_iff] at B;obtain⟨x,J,rfl⟩:=B;exact⟨j,x,e,hb,J,h.dg.at_ J,hc⟩
def RM.nil:RM w none 0 0 []:=⟨Reads.none_,Dig.nil,Nat.le_refl _,aa⟩
def RM.empty(h:RM w A 0 c l):l=[]:=List.eq_nil_of_length_eq_zero h.len
def RM.take{k c'}(h:RM w A n c l)(G:k<=n)(hc:k<=c')(C:c'<=9223372036854775807):RM w A k c' (l.take k):=by
 have Z:=h.len;refine⟨⟨?_,fun H=> ?_⟩,h.dg.take k,hc,C⟩
 .rw[pV,List.length_take];omega
 .obtain⟨F,e,hb,B⟩:=h.rd.2 aa;refine⟨F,e,hb,fun j u D=>B j u ?_⟩;simp only[mg,List.getElem?_map,Option.map_eq_some_iff] at D⊢;obtain⟨x,J,rfl⟩:=D;refine⟨x,?_,rfl⟩;rw[List.getElem?_take] at J;split at J
  .exact J
  .cases J
end
def yZ{l:List Nat}{k x}(h:l[k]? =some x):l.getD k 0=x:=by simp[List.getD,h]
def Aj{l k}(h:l[k]? =some 0):iN l (k+1)=iN l k:=by simp[iN,h]
def Bb{l k x}(h:l[k]? =some x)(J:x≠0):iN l (k+1)=k+1:=by simp[iN,h,J]
def SlM (l:List Nat) (v:Value) (w:World):Prop:=∃A n c,v=.slice A n c/\RM w A n c l
def Oo(A n c l w)(h:RM w A n c l):
  Calls Tryz.prog 174 #[.slice A n c] w fun e w'=>(∃v,e=.returned v/\SlM (bZ (val l)) v w)/\w=w':=by
 have hn:n<=9223372036854775807:=Nat.le_trans h.nc h.cm;have B:=h.nc;have L:=h.cm;have H:=aJ h.len;have C:=aJ (LJ h.dg);go_enter Tryz.func174,Tryz.ntmps174;go_wp2;go_loop [3] (fun i=>∃k:Nat,k<=n/\i=.int .i64 k/\iN l n=iN l k) (fun i=>(intOf i).toNat)
 case atStart=>exact⟨n,Nat.le_refl _,rfl,rfl⟩
 case round=>
  obtain⟨k,O,rfl,I⟩:=hrel;have T:=aJ I;clear I;by_cases N:k=0
  .subst N;go_wp2;go_ret;refine⟨⟨_,rfl,none,0,0,rfl,?_⟩,rfl⟩;rw[<-C.o,H.o,T.o];exact RM.nil
  .obtain⟨j,rfl⟩:∃j,k=j+1:=⟨k-1,aa⟩;obtain⟨P,x,rfl,hb,J,D,K⟩:=h.at_ (k:=j) aa;have G:=aJ J;clear J;by_cases F:x=0
   .subst F;go_wp2;go_round
    case rel=>exact⟨j,aa,au,by rw[T.o,Aj G.o]⟩
    case measure=>simp[intOf]<;>omega
   .have M:((x:Int)==0)=false:=ae;go_wp2;go_ret;refine⟨⟨_,rfl,_,_,_,rfl,?_⟩,rfl⟩;rw[<-C.o,H.o,T.o,Bb G.o F];exact h.take aa aa aa
def mI (a b:Nat):Int:=if a<b then-1 else if b<a then 1 else 0
def zg{a b}(ha:Dig a)(j:Canon b)(h:a.length<b.length):val a<val b:=by
 have C:=lQ ha;have l:=I9 j (by intro e;simp[e] at h);have B:=Nat.pow_le_pow_right (n:=4294967296) aa (show a.length<=b.length-1 by omega);omega
def tq{a b k x y}(ha:Dig a)(J:a[k]? =some x)(R:b[k]? =some y)(h:a.drop (k+1)=b.drop (k+1))(j:x<y):val a<val b:=by
 obtain⟨G,rfl⟩:=List.getElem?_eq_some_iff.1 J;obtain⟨F,rfl⟩:=List.getElem?_eq_some_iff.1 R;have C:=gI a (k+1) aa;have l:=gI b (k+1) aa;rw[bF J] at C;rw[bF R,<-h] at l;have B:=lQ (ha.take k);rw[List.length_take,Nat.min_eq_left aa] at B;have D:4294967296^k*(a[k]+1)<=4294967296^k*b[k]:=Nat.mul_le_mul_left _ j;rw[Nat.mul_add,Nat.mul_one] at D;omega
def Dl{a b:List Nat}{k x}(J:a[k]? =some x)(R:b[k]? =some x)(h:a.drop (k+1)=b.drop (k+1)):a.drop k=b.drop k:=by
 obtain⟨C,B⟩:=List.getElem?_eq_some_iff.1 J;obtain⟨l,j⟩:=List.getElem?_eq_some_iff.1 R;rw[List.drop_eq_getElem_cons C,List.drop_eq_getElem_cons l,B,j,h]
def yH{a b}(h:a<b): -1=mI a b:=by simp[mI,h]
def yY{a b}(h:b<a):1=mI a b:=by simp[mI,h];omega
def Ko{a b}(h:a=b):0=mI a b:=by simp[mI,h]
def iE(A B n m c d a b w)(G:RM w A n c a)(L:RM w B m d b)(H:Canon a)(V:Canon b):
  CE 97 #[.slice A n c,.slice B m d] w (.int .i64 (mI (val a) (val b))):=by
 have hn:n<=9223372036854775807:=Nat.le_trans G.nc G.cm;have Z:m<=9223372036854775807:=Nat.le_trans L.nc L.cm;have N:=aJ G.len;have Q:=aJ L.len;rcases Nat.lt_trichotomy n m with O|T|l
 .have F:((n:Int) !=(m:Int))=true:=ae;go_enter Tryz.func97,Tryz.ntmps97;exact Acw
 .subst T;go_enter Tryz.func97,Tryz.ntmps97;exact Aao
 .have F:((n:Int) !=(m:Int))=true:=ae;go_enter Tryz.func97,Tryz.ntmps97;exact AcV
def ig(A B n m c d a b w)(G:RM w A n c a)(L:RM w B m d b)(H:Canon a)(V:Canon b):
  CE 113 #[.slice A n c,.slice B m d] w (.int .i64 (mI (val a) (val b))):=by
 have hn:n<=9223372036854775807:=Nat.le_trans G.nc G.cm;have Z:m<=9223372036854775807:=Nat.le_trans L.nc L.cm;have N:=aJ G.len;have Q:=aJ L.len;rcases Nat.lt_trichotomy n m with O|T|l
 .have F:((n:Int) !=(m:Int))=true:=ae;go_enter Tryz.func113,Tryz.ntmps113;exact Acw
 .subst T;go_enter Tryz.func113,Tryz.ntmps113;exact Aao
 .have F:((n:Int) !=(m:Int))=true:=ae;go_enter Tryz.func113,Tryz.ntmps113;exact AcV
def jQ:Elem Tryz.prog 38 208 1 4:=Elem.of Tryz.underlying38 (z:=.int .u32 0) ah rfl aa
def RM.jJ{w base n v l}(h:w.ownsRow base 208 1 v n (mg l))(hd:Dig l):SlM l v w:=by
 obtain⟨A,c,rfl,C,j,B⟩:=iT h;exact⟨A,n,c,rfl,B,hd,C,j⟩
def SlM.ext{w w' l v}(h:SlM l v w)(e:Ext w w'):SlM l v w':=by
 obtain⟨A,n,c,j,B⟩:=h;exact⟨A,n,c,j,B.ext e⟩
def yw(A n c l w)(h:RM w A n c l)(hn:n<=1000000):
  Calls Tryz.prog 179 #[.slice A n c] w fun e w'=>∃v,e=.returned v/\(SlM (bZ (val l)) v w'/\∀g,v.ownBlock=some g->w.heap.size<=g)/\Ext w w':=by
 have B:=h.nc;have H:=h.cm;have V:=aJ h.len;have N:=aJ (LJ h.dg);go_enter Tryz.func179,Tryz.ntmps179;go_wp2;go_loop [3] (fun i=>∃k:Nat,k<=n/\i=.int .i64 k/\iN l n=iN l k) (fun i=>(intOf i).toNat)
 case atStart=>exact⟨n,Nat.le_refl _,rfl,rfl⟩
 case round=>
  obtain⟨k,R,rfl,L⟩:=hrel;have T:=aJ L;clear L;have fin:∀j,j<=n->iN l j=j->iN l k=iN l j->RM w A j c (bZ (val l)):=fun j M U O=>by
   have:=h.take (k:=j) (c':=c) M aa H;rwa[<-N.o,V.o,T.o,O,U]
  by_cases S:k=0
  .subst S;have Q:=aJ (fin 0 aa rfl rfl);clear fin;cases A
   all_goals
    (go_wp2_with (at_builtin;refine iY jQ rfl (.tmp 18) (.tmp 21) rfl w.heap.size _ 0 [] rf (World.ownsRow_lit _ _ _ aa aa ag) _ 0 _ (mg (bZ (val l))) rf (Q.ext (Ext.new w _)).rd zG aa aa ag ?_));exact Ace
  .obtain⟨j,rfl⟩:∃j,k=j+1:=⟨k-1,aa⟩;obtain⟨W,x,rfl,hb,J,D,K⟩:=h.at_ (k:=j) aa;have I:=aJ J;clear J;by_cases F:x=0
   .subst F;clear fin;go_wp2;go_round
    case rel=>exact⟨j,aa,au,by rw[T.o,Aj I.o]⟩
    case measure=>simp[intOf]<;>omega
   .have P:((x:Int)==0)=false:=ae;have Q:=aJ (fin (j+1) R (Bb I.o F) rfl);clear fin;(go_wp2_with (at_builtin;refine iY jQ rfl (.tmp 18) (.tmp 21) rfl w.heap.size _ 0 [] rf (World.ownsRow_lit _ _ _ aa aa ag) _ (j+1) _ (mg (bZ (val l))) rf (Q.ext (Ext.new w _)).rd zG aa aa ag ?_));exact Ace
def il(A n c l w)(h:RM w A n c l)(hn:n<=1000000):
  CV 179 #[.slice A n c] w fun v w'=>SlM (bZ (val l)) v w':=
 (yw A n c l w h hn).mono fun _ _ ⟨v,j,B,C⟩=>⟨v,j,B.1,C⟩
abbrev iv (neg:Bool) (A:Option Addr) (n c:Nat):Value:=.agg #[.bool neg,.slice A n c]
def RM.at3{w A n c k l}(h:RM w A n c l)(C:k<n):
  ∃B x,A=some B/\l[k]? =some x/\x<4294967296/\w.cell? (B.add k)=some (.int .u32 (x:Int))/\(∀o,(w.alloc o).cell? (B.add k)=some (.int .u32 (x:Int)))/\
   (∀o H,((w.alloc o).alloc H).cell? (B.add k)=some (.int .u32 (x:Int)))/\(∀o H j,(((w.alloc o).alloc H).alloc j).cell? (B.add k)=some (.int .u32 (x:Int))):=by
 obtain⟨B,x,e,hb,J,D,hc⟩:=h.at_ C;exact⟨B,x,e,J,D,hc,fun o=>(Ext.new w o).cell_ hc,fun o H=>((Ext.new w o).alloc H).cell_ hc,fun o H j=>(((Ext.new w o).alloc H).alloc j).cell_ hc⟩
def kG (neg:Bool) (l:List Nat):Bool:=if l.length=0 then !neg else decide (l.length<=400)&&l.getD (l.length-1) 0 !=0
def yz{neg l}(h:l.length=0):kG neg l= !neg:=by simp[kG,h]
def yj{neg l}(h:400<l.length):kG neg l=false:=by
 have:¬l.length=0:=aa;simp[kG,this];omega
def tO{neg l j x}(h:l.length=j+1)(B:j+1<=400)(J:l[j]? =some x):kG neg l=(x !=0):=by
 have:¬l.length=0:=aa;simp only[kG,h,Nat.add_sub_cancel,yZ J];simp[B]
def gK(neg A n c l w)(h:RM w A n c l):
  CE 96 #[iv neg A n c] w (.bool (kG neg l)):=by
 have hn:n<=9223372036854775807:=Nat.le_trans h.nc h.cm;have H:=aJ h.len;by_cases N:n=0
 .subst N;cases neg
  all_goals
   go_enter Tryz.func96,Tryz.ntmps96;go_wp2;go_ret;exact⟨aQ (by rw[yz H.o];rfl),Ext.new _ _⟩
 .obtain⟨j,rfl⟩:∃j,n=j+1:=⟨n-1,aa⟩;have M:(((j+1:Nat):Int)==0)=false:=ae;have B:((j:Int)+1==0)=false:=ae;by_cases L:j+1<=400
  .obtain⟨P,x,rfl,J,D,_,O,_,_⟩:=h.at3 (k:=j) aa;have K:=aJ J;clear J;by_cases F:x=0
   .subst F;have G:kG neg l=false:=by rw[tO H.o L K.o];rfl
    have C:=aJ G;clear G;exact Acy
   .have I:((x:Int) !=0)=true:=ae;have G:kG neg l=true:=by rw[tO H.o L K.o];simp[F]
    have C:=aJ G;clear G;exact Acy
  .have C:=aJ (yj (neg:=neg) (l:=l) (by rw[H.o];omega));exact Acy
def fE(neg A n c l w)(h:RM w A n c l):
  CE 178 #[iv neg A n c] w (.bool (kG neg l)):=by
 have hn:n<=9223372036854775807:=Nat.le_trans h.nc h.cm;have H:=aJ h.len;by_cases N:n=0
 .subst N;cases neg
  all_goals
   go_enter Tryz.func178,Tryz.ntmps178;go_wp2;go_ret;exact⟨aQ (by rw[yz H.o];rfl),Ext.new _ _⟩
 .obtain⟨j,rfl⟩:∃j,n=j+1:=⟨n-1,aa⟩;have M:(((j+1:Nat):Int)==0)=false:=ae;have B:((j:Int)+1==0)=false:=ae;by_cases L:j+1<=400
  .obtain⟨P,x,rfl,J,D,_,O,_,_⟩:=h.at3 (k:=j) aa;have K:=aJ J;clear J;by_cases F:x=0
   .subst F;have G:kG neg l=false:=by rw[tO H.o L K.o];rfl
    have C:=aJ G;clear G;exact Acu
   .have I:((x:Int) !=0)=true:=ae;have G:kG neg l=true:=by rw[tO H.o L K.o];simp[F]
    have C:=aJ G;clear G;exact Acu
  .have C:=aJ (yj (neg:=neg) (l:=l) (by rw[H.o];omega));exact Acu
def RX (w:World) (v:Value) (neg:Bool) (l:List Nat):Prop:=∃A n c,v=iv neg A n c/\RM w A n c l
def RX.ext{w w' v neg l}(h:RX w v neg l)(e:Ext w w'):RX w' v neg l:=by
 obtain⟨A,n,c,j,B⟩:=h;exact⟨A,n,c,j,B.ext e⟩
def M5:Nat:=400
def lim:Nat:=4294967296^M5
def Pt{m k}(h:m<4294967296^k)(j:k<=400):m<lim:=Nat.lt_of_lt_of_le h (Nat.pow_le_pow_right aa (show k<=M5 from j))
theorem jq{m}(h:m<lim):(bZ m).length<=400:=show(bZ m).length<=M5 from dX (k:=M5) (by unfold lim at h;exact h)
def RI (w:World) (v:Value) (z:Int):Prop:=RX w v (decide (z<0)) (bZ z.natAbs)
def RI.ext{w w' v z}(h:RI w v z)(e:Ext w w'):RI w' v z:=RX.ext h e
def RI.zero(w):RI w (iv false none 0 0) 0:=⟨none,0,0,rfl,by simpa[iw] using RM.nil⟩
def zOf (neg:Bool) (m:Nat):Int:=if neg then-(m:Int) else m
theorem sW(neg m):(zOf neg m).natAbs=m:=by unfold zOf;split<;>omega
def Re(neg m):decide (zOf neg m<0)=(neg&&decide (0<m)):=by
 cases neg
 .simp[zOf]
 .simp[zOf]
def RX.made{w A n c m}(neg)(h:RM w A n c (bZ m)):RI w (iv (neg&&decide (0<n)) A n c) (zOf neg m):=by
 refine⟨A,n,c,?_,by rw[sW];exact h⟩;have Z:=h.len;rw[Re];have e:decide (0<n)=decide (0<m):=by
  by_cases j:m=0
  .subst j;rw[iw] at Z;obtain rfl:n=0:=by simpa using Z.symm
   rfl
  .have l:bZ m≠[]:=fun e=>j (mG.1 e);have B:0<n:=by rw[<-Z];exact List.length_pos_iff.2 l
   rw[decide_eq_true B,decide_eq_true aa]
 rw[e]
theorem RI.valid{w v z}(j:RI w v z)(C:z.natAbs<lim):kG (decide (z<0)) (bZ z.natAbs)=true:=by
 unfold kG;have F:(bZ z.natAbs).length<=400:=jq C;split
 .rename_i l
  have:=mG.1 (List.eq_nil_of_length_eq_zero l);simp;omega
 .rename_i l
  have B:(bZ z.natAbs)[(bZ z.natAbs).length-1]? =some (bZ z.natAbs)[(bZ z.natAbs).length-1]:=List.getElem?_eq_getElem aa;have D:=bJ z.natAbs _ (by rw[List.getLast?_eq_getElem?];exact B);simp only[Bool.and_eq_true,decide_eq_true_eq,bne_iff_ne,yZ B];exact⟨F,D⟩
def RM.only{w w' A n c g l t cs}(h:RM w A n c l)(F:Only g w w')(hb:Blk w g t cs)(B:∀(j:Nat) (k:IntKind) (x:Int),cs[j]?≠some (.int k x)):RM w' A n c l:=by
 refine⟨⟨h.rd.1,fun hn=> ?_⟩,h.dg,h.nc,h.cm⟩;obtain⟨b,o,rfl,C,hc⟩:=h.rd.plain hn;obtain⟨H,x,e,_,J,_,_⟩:=h.at_ hn;have D:b≠g:=by
  rintro rfl;have:=hc 0 _ (oz J);rw[hb.cell] at this;exact B _ _ _ this
 refine⟨_,rfl,Nat.lt_of_lt_of_le C F.size,fun j u G=> ?_⟩;rw[add_plain];exact F.cell_ (hc j u G) D
def Uo{b A n c}:∀(j:Nat) (k:IntKind) (x:Int),#[Value.bool b,Value.slice A n c][j]?≠some (.int k x):=by
 intro j k x
 match j with
 |0=>simp
 |1=>simp
 |j+2=>simp
def je{w w' g B A0 n0 c0}(J:Ext w w')(j:w.heap.size<=g)(hb:Blk w' g 40 #[.bool B,.slice A0 n0 c0])(b A n c):
  Ext w ((w'.setCell ⟨g,0,none⟩ (.bool b)).setCell ⟨g,1,none⟩ (.slice A n c))/\Blk ((w'.setCell ⟨g,0,none⟩ (.bool b)).setCell ⟨g,1,none⟩ (.slice A n c)) g 40 #[.bool b,.slice A n c]/\
   ∀A' n' c' l,RM w' A' n' c' l->RM ((w'.setCell ⟨g,0,none⟩ (.bool b)).setCell ⟨g,1,none⟩ (.slice A n c)) A' n' c' l:=
 ⟨(J.setCell j _).setCell j _,(hb.mX 0 _).mX 1 _,fun _ _ _ _ h=>h.only ((Only.set _ _ _ _).trans (Only.set _ _ _ _)) hb Uo⟩
def uX{w g b A n c}(hb:Blk w g 40 #[.bool b,.slice A n c]):(loadVar 40 ⟨g,0,none⟩).run Tryz.prog w=.ok (iv b A n c) w:=by
 have hc:=hb.cell;simp[go_sem,hc]
section
variable {fn:Func} {R:Ending->World->Prop} {a:Act} {w:World} {t u x g g':Nat} {b b':Bool} {A A':Option Addr} {n c n' c':Nat}
def fu(l:fn.results= #[.cell t 40])(hd:a.defers=[])(hp:a.tmps[t]?.getD undef=.pointer (some ⟨g,0,none⟩))(hb:Blk w g 40 #[.bool b,.slice A n c])(j:R (.returned (iv b A n c)) w):bodyPost Tryz.prog fn R .ret a w:=bodyPost_ret (by simp[results,l,hp,asAddr,uX hb]) hd j
def ic(l:fn.results= #[.cell t 40,.tmp u])(hd:a.defers=[])(hp:a.tmps[t]?.getD undef=.pointer (some ⟨g,0,none⟩))(hb:Blk w g 40 #[.bool b,.slice A n c])(j:R (.returned (.tuple #[iv b A n c,a.tmps.getD u undef])) w):bodyPost Tryz.prog fn R .ret a w:=bodyPost_ret (v:=.tuple #[iv b A n c,a.tmps.getD u undef]) (by simp[results,l,hp,asAddr,uX hb]) hd j
def vG(B:fn.results= #[.cell t 40,.cell u 40,.tmp x])(hd:a.defers=[])(hp:a.tmps[t]?.getD undef=.pointer (some ⟨g,0,none⟩))(hb:Blk w g 40 #[.bool b,.slice A n c])(O:a.tmps[u]?.getD undef=.pointer (some ⟨g',0,none⟩))(j:Blk w g' 40 #[.bool b',.slice A' n' c'])(l:R (.returned (.tuple #[iv b A n c,iv b' A' n' c',a.tmps.getD x undef])) w):bodyPost Tryz.prog fn R .ret a w:=
 bodyPost_ret (v:=.tuple #[iv b A n c,iv b' A' n' c',a.tmps.getD x undef]) (by simp[results,B,hp,O,asAddr,uX hb,uX j]) hd l
end
def iq(neg A n c l w)(h:RM w A n c l)(hn:n<=1000000):
  CV 150 #[.bool neg,.slice A n c] w fun v w'=>RI w' v (zOf neg (val l)):=by
 go_enter Tryz.func150,Tryz.ntmps150;(go_wp2_with fail);refine(il A n c l _ (h.ext (Ext.new w _)) hn).mono ?_;rintro e w1 ⟨v1,rfl,⟨A1,n1,c1,rfl,C⟩,H⟩;have J:n1<=9223372036854775807:=Nat.le_trans C.nc C.cm;have hb:=(Blk.new w 40 _).ext H;have hc:=hb.cell;have K:=hb.frozen;obtain⟨I,F,D⟩:=je ((Ext.new w _).trans H) (Nat.le_refl _) hb (neg&&decide (0<n1)) A1 n1 c1;have B:=aJ I;have V:=aJ F;have j:=aJ (RX.made neg (D _ _ _ _ C));clear I F D;by_cases G:0<n1
 all_goals
  cases neg
  all_goals
   go_wp2
   first
    |simp only[Bool.true_and,Bool.false_and,decide_eq_false G] at B V j
    |simp only[Bool.true_and,Bool.false_and,decide_eq_true G] at B V j
   exact fu rfl rfl rfl V.o ⟨_,rfl,j.o,B.o⟩
def oZ (z:Int):Int×Int:=if z.natAbs<lim then (z,0) else (0,2)
theorem kW{z}(h:z.natAbs<lim):oZ z=(z,0):=by unfold oZ;rw[if_pos h]
theorem Lt{z}(h:¬z.natAbs<lim):oZ z=(0,2):=by unfold oZ;rw[if_neg h]
def mY (p:Int×Int) (v:Value) (w:World):Prop:=∃u,v=.tuple #[u,.int .i64 p.2]/\RI w u p.1
def mY.ext{w w' v}{p:Int×Int}(h:mY p v w)(e:Ext w w'):mY p v w':=by
 obtain⟨u,j,l⟩:=h;exact⟨u,j,l.ext e⟩
def BM{m n}(h:(bZ m).length=n):n<=400↔m<lim:=
 ⟨fun j=>Pt (dN (k:=n) aa) j,fun j=>by have:=jq j;omega⟩
def jK(A n c l w)(h:RM w A n c l):
  CV 174 #[.slice A n c] w fun v w'=>SlM (bZ (val l)) v w':=
 (Oo A n c l w h).mono fun _ _ ⟨⟨v,B,C⟩,j⟩=>⟨v,B,j ▸ C,j ▸ Ext.refl _⟩
def iF(neg A n c l w)(h:RM w A n c l):
  CV 203 #[.bool neg,.slice A n c] w fun v w'=>mY (oZ (zOf neg (val l))) v w':=by
 go_enter Tryz.func203,Tryz.ntmps203;(go_wp2_with fail);refine(jK A n c l _ (h.ext (Ext.new w _))).mono ?_;rintro e w1 ⟨v1,rfl,⟨A1,n1,c1,rfl,I⟩,H⟩;have hb:=(Blk.new w 40 _).ext H;have hc:=hb.cell;have O:=hb.frozen;have N:n1<=9223372036854775807:=Nat.le_trans I.nc I.cm;have j:=BM I.len;have B:=sW neg (val l);by_cases M:n1<=400
 .obtain⟨G,D,K⟩:=je ((Ext.new w _).trans H) (Nat.le_refl _) hb (neg&&decide (0<n1)) A1 n1 c1;have F:=aJ G;have V:=aJ D;have J:=aJ (RX.made neg (K _ _ _ _ I));clear G D K;have C:=aJ (kW (z:=zOf neg (val l)) (by rw[B];exact j.1 M));clear j B;by_cases L:0<n1
  all_goals
   cases neg
   all_goals
    go_wp2
    first
     |simp only[Bool.true_and,Bool.false_and,decide_eq_false L] at F V J
     |simp only[Bool.true_and,Bool.false_and,decide_eq_true L] at F V J
    exact ic rfl rfl rfl V.o ⟨_,rfl,⟨_,by rw[C.o];rfl,by rw[C.o];exact J.o⟩,F.o⟩
 .have C:=aJ (Lt (z:=zOf neg (val l)) (by rw[B];exact fun h=>M (j.2 h)));clear j B;obtain⟨G,D,_⟩:=je ((Ext.new w _).trans H) (Nat.le_refl _) hb false none 0 0;have F:=aJ G;have V:=aJ D;clear G D;go_wp2;exact ic rfl rfl rfl V.o ⟨_,rfl,⟨_,by rw[C.o];rfl,by rw[C.o];exact RI.zero _⟩,F.o⟩
def kK(v z w)(h:RI w v z):
  CV 183 #[v] w fun v w'=>mY (oZ z) v w':=by
 obtain⟨A,n,c,rfl,B⟩:=h;have hn:n<=9223372036854775807:=Nat.le_trans B.nc B.cm;have j:=BM B.len;by_cases C:n<=400
 .have l:=aJ (kW (z:=z) (j.1 C));clear j;go_enter Tryz.func183,Tryz.ntmps183;go_wp2;exact ic rfl rfl rfl (Blk.new' _ _ ag) ⟨_,rfl,⟨_,by rw[l.o];rfl,by rw[l.o];exact⟨_,_,_,rfl,B.ext ((Ext.new _ _).alloc _)⟩⟩,(Ext.new _ _).alloc _⟩
 .have l:=aJ (Lt (z:=z) (fun h=>C (j.2 h)));clear j;go_enter Tryz.func183,Tryz.ntmps183;go_wp2;exact ic rfl rfl rfl (Blk.new' _ _ ag) ⟨_,rfl,⟨_,by rw[l.o];rfl,by rw[l.o];exact RI.zero _⟩,(Ext.new _ _).alloc _⟩
def RM.blk{w g n l}(hb:Blk w g 208 (mg l).toArray)(hd:Dig l)(hn:l.length=n)(j:n<=9223372036854775807):RM w (some ⟨g,0,none⟩) n n l:=by
 have:=hb.reads (n:=n) (size:=1) (by simp[pV,hn]);exact⟨by simpa using this,hd,Nat.le_refl _,j⟩
def EY(u):val [u%4294967296,u/4294967296]=u:=by simp only[val];omega
def Er{u}(h:u<18446744073709551616):Dig [u%4294967296,u/4294967296]:=Dig.cons aa (Dig.one aa)
def jl(n):IntKind.u64.wrap n=n%18446744073709551616:=by simp[IntKind.wrap,IntKind.signed,IntKind.bits]
def u64_neg{m:Nat}(h:m<=9223372036854775808):IntKind.u64.wrap (-IntKind.u64.wrap (-(m:Int)))=(m:Int):=by
 rw[jl,jl];omega
def O7(u:Nat): #[Value.int .u32 ((u:Int)%4294967296),Value.int .u32 ((u:Int)/4294967296)]=(mg [u%4294967296,u/4294967296]).toArray:=by
 simp[mg]
def Rs{u:Nat}(h:u<18446744073709551616): #[Value.int .u32 ((u:Int)%4294967296),Value.int .u32 ((u:Int)/4294967296%4294967296)]=(mg [u%4294967296,u/4294967296]).toArray:=by
 simp[mg];omega
def pG(u:Nat)(w)(l:u<18446744073709551616):
  CV 151 #[.int .u64 (u:Int)] w fun v w'=>SlM (bZ u) v w':=by
 go_enter Tryz.func151,Tryz.ntmps151;(go_wp2_with fail);rw[O7];refine(il _ 2 2 _ _ (RM.blk (Blk.new _ _ _) (Er l) rfl aa) aa).mono ?_;rintro e w1 ⟨v1,rfl,j,H⟩;rw[EY] at j;go_wp2;go_ret;exact⟨_,rfl,j,(Ext.new _ _).trans H⟩
def yT(m):zOf false m=(m:Int):=rfl
def Ey(m):zOf true m= -(m:Int):=rfl
def AA(n w)(L: -9223372036854775808<=n)(J:n<=9223372036854775807):
  CV 140 #[.int .i64 n] w fun v w'=>RI w' v n:=by
 by_cases K:n<0
 .obtain⟨m,rfl⟩:∃m:Nat,n= -(m:Int):=⟨n.natAbs,aa⟩;go_enter Tryz.func140,Tryz.ntmps140;(go_wp2_with fail);rw[u64_neg aa,Rs aa];refine(jK _ 2 2 _ _ (RM.blk (Blk.new' _ _ ag) (Er aa) rfl aa)).mono ?_;rintro e w1 ⟨v1,rfl,⟨A1,n1,c1,rfl,j⟩,H⟩;rw[EY] at j;have hb:=((Blk.new w 40 _).alloc _).ext H;have hc:=hb.cell;have I:=hb.frozen;obtain⟨D,C,l⟩:=je (((Ext.new w _).alloc _).trans H) (Nat.le_refl _) hb true A1 n1 c1;have G:=aJ D;have V:=aJ C;have B:=aJ (RX.made true (l _ _ _ _ j));clear D C l;have F:0<n1:=by
   have:=j.len;rw[<-this];exact List.length_pos_iff.2 fun e=>by have:=mG.1 e;omega
  rw[decide_eq_true F,Bool.true_and,Ey] at B;go_wp2;exact fu rfl rfl rfl V.o ⟨_,rfl,B.o,G.o⟩
 .obtain⟨m,rfl⟩:∃m:Nat,n=(m:Int):=⟨n.natAbs,aa⟩;go_enter Tryz.func140,Tryz.ntmps140;(go_wp2_with fail);rw[O7];refine(jK _ 2 2 _ _ (RM.blk (Blk.new' _ _ ag) (Er aa) rfl aa)).mono ?_;rintro e w1 ⟨v1,rfl,⟨A1,n1,c1,rfl,j⟩,H⟩;rw[EY] at j;have hb:=((Blk.new w 40 _).alloc _).ext H;have hc:=hb.cell;have I:=hb.frozen;obtain⟨D,C,l⟩:=je (((Ext.new w _).alloc _).trans H) (Nat.le_refl _) hb false A1 n1 c1;have G:=aJ D;have V:=aJ C;have B:=aJ (RX.made false (l _ _ _ _ j));clear D C l;rw[Bool.false_and,yT] at B;go_wp2;exact fu rfl rfl rfl V.o ⟨_,rfl,B.o,G.o⟩
def NY:(Tryz.prog.info? 208).map (fun i=>(i.zero,i.size,i.bytes))=some (some (.int .u32 0),1,4):=ah
def jf(x:Int)(k:Nat)(J:x=k)(C:k<=10000000)(W:World):
  (Instr.makeSlice 38 (.int .i64 x) (.int .i64 x)).run Tryz.prog W=.ok (.slice (some ⟨W.heap.size,0,none⟩) k k) (W.alloc (.cells (mg (List.replicate k 0)).toArray 208)):=by
 obtain⟨i0,U,B,l,j⟩:=info_parts NY;have h:=run_make (P:=Tryz.prog) W 38 208 i0 (.int .u32 0) Tryz.underlying38 U B .i64 .i64 x x aa aa Abt aa;subst J;rw[h,EG];have e:madeCells (Value.int .u32 0).cells k=(List.replicate k (Value.int .u32 0)).toArray:=um _ _;simp only[l,Nat.mul_one,Int.toNat_natCast,e]
def sD{o k N d}(j:o.length=k)(l:k<N):(o++List.replicate (N-k) 0).set k d=(o++[d])++List.replicate (N-(k+1)) 0:=by
 subst j;rw[show N-o.length=(N-(o.length+1))+1 by omega,List.replicate_succ];simp
def Eh{l:List Nat}{k d:Nat}{z:Int}(h:z=(d:Int)):(mg l).set k (.int .u32 z)=mg (l.set k d):=by subst h;exact UN l k d
def kP{w:World}{g k N d:Nat}{o:List Nat}{z:Int}(hb:Blk w g 208 (mg (o++List.replicate (N-k) 0)).toArray)(B:o.length=k)(j:k<N)(l:z=(d:Int)):
  Blk (w.setCell ⟨g,k,none⟩ (.int .u32 z)) g 208 (mg ((o++[d])++List.replicate (N-(k+1)) 0)).toArray:=by
 have:=hb.Pk (i:=k) (.int .u32 z);rwa[Eh l,sD B j] at this
def qH{w g k N o}(hb:Blk w g 208 (mg (o++List.replicate (N-k) 0)).toArray)(j:o.length=k)(l:k<N):∃u,w.cell? ⟨g,k,none⟩=some u:=by
 exact hb.M4 (by simp[pV,j];omega)
def vD{o a b:List Nat}{k G x y}(j:o.length=k)(h:val o+4294967296^k*G=val (a.take k)+val (b.take k))(J:a[k]? =some x)(R:val (b.take (k+1))=val (b.take k)+4294967296^k*y):
  val (o++[(x+G+y)%4294967296])+4294967296^(k+1)*((x+G+y)/4294967296)=val (a.take (k+1))+val (b.take (k+1)):=by
 rw[jG,bF J,R,j,Nat.pow_succ,Nat.mul_assoc];have e:4294967296^k*((x+G+y)%4294967296)+4294967296^k*(4294967296*((x+G+y)/4294967296))=4294967296^k*(x+G+y):=by
  exact AbE
 have l:4294967296^k*(x+G+y)=4294967296^k*x+4294967296^k*G+4294967296^k*y:=by rw[Nat.mul_add,Nat.mul_add]
 omega
def kJ{b:List Nat}{m k}(h:b.length=m)(j:¬k<m):val (b.take (k+1))=val (b.take k)+4294967296^k*0:=by rw[uo aa];rfl
def MG(A B n m c d a b w)(W:RM w A n c a)(Y:RM w B m d b)(hn:n<=1000000)(hm:m<=1000000)(l:m<=n):
  CV 214 #[.slice A n c,.slice B m d] w fun v w'=>SlM (bZ (val a+val b)) v w':=by
 have HA:=aJ W.len;have V:=aJ Y.len;have T:=jf ((n:Int)+1) (n+1) aa aa;go_enter Tryz.func214,Tryz.ntmps214;go_wp2;clear T;go_loopw [6,22] (fun cv i wr=>∃(k G:Nat) (o:List Nat),k<=n/\i=.int .i64 k/\cv=.int .u64 (G:Int)/\G<=1/\o.length=k/\Dig o/\val o+4294967296^k*G=val (a.take k)+val (b.take k)/\
   Blk wr w.heap.size 208 (mg (o++List.replicate (n+1-k) 0)).toArray/\Ext w wr) (fun _ i _=>n-(intOf i).toNat)
 case atStart=>exact⟨0,0,[],Nat.zero_le _,rfl,rfl,aa,rfl,Dig.nil,by simp[val],by simpa using Blk.new w _ _,Ext.new _ _⟩
 case round=>
  obtain⟨k,G,o,hk,rfl,rfl,WK,M,hd,hv,hb,C⟩:=hrel;have U:=aJ hv;clear hv;have L:=aJ M;have S:=aJ hd;clear hd;by_cases P:k<n
  .obtain⟨ad,x,rfl,_,J,D,K⟩:=(W.ext C).at_ P;have Z:=aJ J;clear J;obtain⟨old,c7⟩:=qH hb M aa;have f7:=hb.frozen k;clear M;have Q:=aJ hb;clear hb;by_cases F:k<m
   .obtain⟨bd,y,rfl,_,R,I,WG⟩:=(Y.ext C).at_ F;have HY:=aJ R;clear R;go_wp2;go_roundw
    case rel=>
     refine⟨k+1,(x+G+y)/4294967296,o++[(x+G+y)%4294967296],aa,au,au,aa,by simp[L.o],S.append (Dig.one aa),vD L.o U.o Z.o (bF HY.o),kP Q.o L.o aa aa,C.setCell (Nat.le_refl _) _⟩
    case measure=>simp[intOf]<;>omega
   .go_wp2;go_roundw
    case rel=>
     refine⟨k+1,(x+G+0)/4294967296,o++[(x+G+0)%4294967296],aa,au,au,aa,by simp[L.o],S.append (Dig.one aa),vD L.o U.o Z.o (kJ V.o F),kP Q.o L.o aa aa,C.setCell (Nat.le_refl _) _⟩
    case measure=>simp[intOf]<;>omega
  .obtain rfl:k=n:=aa;obtain⟨old,c7⟩:=qH hb M aa;have f7:=hb.frozen k;clear M;have Q:=aJ hb;clear hb;(go_wp2_with fail);have O:=kP (d:=G) Q.o L.o aa rfl;have j:=C.setCell (p:=⟨w.heap.size,k,none⟩) (Nat.le_refl _) (.int .u32 (G:Int));simp only[Nat.sub_self,List.replicate_zero,List.append_nil] at O;have N:val (o++[G])=val a+val b:=by
    exact Acb
   exact Aa0
def MI(A B n m c d a b w)(W:RM w A n c a)(Y:RM w B m d b)(hn:n<=1000000)(hm:m<=1000000)(l:n<m):
  CV 214 #[.slice A n c,.slice B m d] w fun v w'=>SlM (bZ (val b+val a)) v w':=by
 have HA:=aJ Y.len;have V:=aJ W.len;have T:=jf ((m:Int)+1) (m+1) aa aa;go_enter Tryz.func214,Tryz.ntmps214;go_wp2;clear T;go_loopw [6,22] (fun cv i wr=>∃(k G:Nat) (o:List Nat),k<=m/\i=.int .i64 k/\cv=.int .u64 (G:Int)/\G<=1/\o.length=k/\Dig o/\val o+4294967296^k*G=val (b.take k)+val (a.take k)/\
   Blk wr w.heap.size 208 (mg (o++List.replicate (m+1-k) 0)).toArray/\Ext w wr) (fun _ i _=>m-(intOf i).toNat)
 case atStart=>exact⟨0,0,[],Nat.zero_le _,rfl,rfl,aa,rfl,Dig.nil,by simp[val],by simpa using Blk.new w _ _,Ext.new _ _⟩
 case round=>
  obtain⟨k,G,o,hk,rfl,rfl,WK,M,hd,hv,hb,C⟩:=hrel;have U:=aJ hv;clear hv;have L:=aJ M;have S:=aJ hd;clear hd;by_cases P:k<m
  .obtain⟨ad,x,rfl,_,J,D,K⟩:=(Y.ext C).at_ P;have Z:=aJ J;clear J;obtain⟨old,c7⟩:=qH hb M aa;have f7:=hb.frozen k;clear M;have Q:=aJ hb;clear hb;by_cases F:k<n
   .obtain⟨bd,y,rfl,_,R,I,WG⟩:=(W.ext C).at_ F;have HY:=aJ R;clear R;go_wp2;go_roundw
    case rel=>
     refine⟨k+1,(x+G+y)/4294967296,o++[(x+G+y)%4294967296],aa,au,au,aa,by simp[L.o],S.append (Dig.one aa),vD L.o U.o Z.o (bF HY.o),kP Q.o L.o aa aa,C.setCell (Nat.le_refl _) _⟩
    case measure=>simp[intOf]<;>omega
   .go_wp2;go_roundw
    case rel=>
     refine⟨k+1,(x+G+0)/4294967296,o++[(x+G+0)%4294967296],aa,au,au,aa,by simp[L.o],S.append (Dig.one aa),vD L.o U.o Z.o (kJ V.o F),kP Q.o L.o aa aa,C.setCell (Nat.le_refl _) _⟩
    case measure=>simp[intOf]<;>omega
  .obtain rfl:k=m:=aa;obtain⟨old,c7⟩:=qH hb M aa;have f7:=hb.frozen k;clear M;have Q:=aJ hb;clear hb;(go_wp2_with fail);have O:=kP (d:=G) Q.o L.o aa rfl;have j:=C.setCell (p:=⟨w.heap.size,k,none⟩) (Nat.le_refl _) (.int .u32 (G:Int));simp only[Nat.sub_self,List.replicate_zero,List.append_nil] at O;have N:val (o++[G])=val b+val a:=by
    exact Acb
   exact Aa0
def zk(A B n m c d a b w)(j:RM w A n c a)(l:RM w B m d b)(hn:n<=1000000)(C:m<=1000000):
  CV 214 #[.slice A n c,.slice B m d] w fun v w'=>SlM (bZ (val a+val b)) v w':=by
 rcases Nat.lt_or_ge n m with h|h
 .rw[Nat.add_comm];exact MI A B n m c d a b w j l hn C h
 .exact MG A B n m c d a b w j l hn C h

def oW (t:Int):Nat:=(t%4294967296).toNat
def ni (t:Int):Nat:=if t<0 then 1 else 0
theorem tY(t):oW t<4294967296:=by unfold oW;omega
theorem Qu{x j:Nat}(J:x<4294967296)(hb:j<=1):IntKind.u64.wrap ((x:Int)-j)%4294967296=(oW ((x:Int)-j-(0:Nat)):Int):=by
 rw[jl];unfold oW;omega
theorem PK{x j:Nat}(J:x<4294967296)(hb:j<=1):IntKind.u64.wrap ((x:Int)-j)/9223372036854775808=(ni ((x:Int)-j-(0:Nat)):Int):=by
 rw[jl];unfold ni;split<;>omega
theorem Ke{x y j:Nat}(J:x<4294967296)(R:y<4294967296)(hb:j<=1):IntKind.u64.wrap (IntKind.u64.wrap ((x:Int)-j)-y)%4294967296=(oW ((x:Int)-j-y):Int):=by
 rw[jl,jl];unfold oW;omega
theorem Ii{x y j:Nat}(J:x<4294967296)(R:y<4294967296)(hb:j<=1):IntKind.u64.wrap (IntKind.u64.wrap ((x:Int)-j)-y)/9223372036854775808=(ni ((x:Int)-j-y):Int):=by
 rw[jl,jl];unfold ni;split<;>omega
theorem EU{x y j:Nat}(J:x<4294967296)(R:y<4294967296)(hb:j<=1):x+4294967296*ni ((x:Int)-j-y)=y+j+oW ((x:Int)-j-y):=by
 unfold oW ni;split<;>omega
def wL{o a b:List Nat}{k j x y}(B:o.length=k)(h:val (a.take k)+4294967296^k*j=val (b.take k)+val o)(J:a[k]? =some x)(R:val (b.take (k+1))=val (b.take k)+4294967296^k*y)(D:x<4294967296)(I:y<4294967296)(hb:j<=1):
  val (a.take (k+1))+4294967296^(k+1)*ni ((x:Int)-j-y)=val (b.take (k+1))+val (o++[oW ((x:Int)-j-y)]):=by
 have l:=EU D I hb;rw[jG,bF J,R,B,Nat.pow_succ,Nat.mul_assoc];have e:4294967296^k*x+4294967296^k*(4294967296*ni ((x:Int)-j-y))=4294967296^k*y+4294967296^k*j+4294967296^k*oW ((x:Int)-j-y):=by
  rw[<-Nat.mul_add,l,Nat.mul_add,Nat.mul_add]
 omega
def Lg{o a b k j}(D:o.length=k)(hd:Dig o)(ha:a.length=k)(hb:b.length<=k)(h:val (a.take k)+4294967296^k*j=val (b.take k)+val o)(B:val b<=val a):val o=val a-val b:=by
 rw[List.take_of_length_le aa,List.take_of_length_le hb] at h;have C:=lQ hd;rw[D] at C;have F:j=0:=by
  rcases Nat.eq_zero_or_pos j with l|l
  .exact l
  .have:4294967296^k*1<=4294967296^k*j:=Nat.mul_le_mul_left _ l;omega
 subst F;omega
theorem sU(t):ni t<=1:=by unfold ni;split<;>omega
def uw(A B n m c d a b w)(V:RM w A n c a)(W:RM w B m d b)(hn:n<=1000000)(hm:m<=n)(P:val b<=val a):
  CV 215 #[.slice A n c,.slice B m d] w fun v w'=>SlM (bZ (val a-val b)) v w':=by
 have HA:=aJ V.len;have T:=aJ W.len;have S:=jf (n:Int) n rfl aa;go_enter Tryz.func215,Tryz.ntmps215;go_wp2;clear S;go_loopw [6,14] (fun cv i wr=>∃(k l:Nat) (o:List Nat),k<=n/\i=.int .i64 k/\cv=.int .u64 (l:Int)/\l<=1/\o.length=k/\Dig o/\val (a.take k)+4294967296^k*l=val (b.take k)+val o/\
   Blk wr w.heap.size 208 (mg (o++List.replicate (n-k) 0)).toArray/\Ext w wr) (fun _ i _=>n-(intOf i).toNat)
 case atStart=>exact⟨0,0,[],Nat.zero_le _,rfl,rfl,aa,rfl,Dig.nil,by simp[val],by simpa using Blk.new w _ _,Ext.new _ _⟩
 case round=>
  obtain⟨k,l,o,hk,rfl,rfl,j,M,hd,hv,hb,C⟩:=hrel;have U:=aJ hv;clear hv;have G:=aJ M;have L:=aJ hd;clear hd;by_cases O:k<n
  .obtain⟨ad,x,rfl,_,J,D,K⟩:=(V.ext C).at_ O;have Y:=aJ J;clear J;obtain⟨old,c7⟩:=qH hb M aa;have f7:=hb.frozen k;clear M;have Q:=aJ hb;clear hb;by_cases F:k<m
   .obtain⟨bd,y,rfl,_,R,I,Z⟩:=(W.ext C).at_ F;have HY:=aJ R;clear R;go_wp2;go_roundw
    case rel=>
     exact⟨k+1,ni ((x:Int)-l-y),o++[oW ((x:Int)-l-y)],aa,au,by rw[Ii D I j],sU _,by simp[G.o],L.append (Dig.one (tY _)),wL G.o U.o Y.o (bF HY.o) D I j,kP Q.o G.o aa (Ke D I j),C.setCell (Nat.le_refl _) _⟩
    case measure=>simp[intOf]<;>omega
   .go_wp2;go_roundw
    case rel=>
     exact⟨k+1,ni ((x:Int)-l-(0:Nat)),o++[oW ((x:Int)-l-(0:Nat))],aa,au,by rw[PK D j],sU _,by simp[G.o],L.append (Dig.one (tY _)),wL G.o U.o Y.o (kJ T.o F) D aa j,kP Q.o G.o aa (Qu D j),C.setCell (Nat.le_refl _) _⟩
    case measure=>simp[intOf]<;>omega
  .obtain rfl:k=n:=aa;(go_wp2_with fail);simp only[Nat.sub_self,List.replicate_zero,List.append_nil] at hb;have N:=Lg G.o L.o HA.o (by rw[T.o];exact hm) U.o P;refine(jK _ k k o _ (RM.blk hb L.o G.o aa)).mono ?_;rintro e w1 ⟨v1,rfl,hR,H⟩;rw[N] at hR;exact Acz
def vR{o a b:List Nat}{k G x y}(j:o.length=k)(h:val o+4294967296^k*G=val (a.take k)+val (b.take k))(J:val (a.take (k+1))=val (a.take k)+4294967296^k*x)(R:val (b.take (k+1))=val (b.take k)+4294967296^k*y):
  val (o++[(G+x+y)%4294967296])+4294967296^(k+1)*((G+x+y)/4294967296)=val (a.take (k+1))+val (b.take (k+1)):=by
 rw[jG,J,R,j,Nat.pow_succ,Nat.mul_assoc];have e:4294967296^k*((G+x+y)%4294967296)+4294967296^k*(4294967296*((G+x+y)/4294967296))=4294967296^k*(G+x+y):=by
  exact AbE
 have l:4294967296^k*(G+x+y)=4294967296^k*x+4294967296^k*G+4294967296^k*y:=by rw[Nat.mul_add,Nat.mul_add];omega
 omega
def tK{o}{d:Nat}{z:Int}(h:z=(d:Int)):mg o++[.int .u32 z]=mg (o++[d]):=by subst h;simp[mg]
def SlV (k n:Nat) (v:Value) (w:World):Prop:=∃l,SlM l v w/\val l=n/\l.length<=k
def Da(A B n m c d a b w)(hA:RM w A n c a)(hB:RM w B m d b)(hn:n<=1000000)(hm:m<=1000000):
  CV 184 #[.slice A n c,.slice B m d] w fun v w'=>SlV (max n m+1) (val a+val b) v w':=by
 have W:=aJ hA.len;have HB:=aJ hB.len;go_enter Tryz.func184,Tryz.ntmps184;go_wp2;go_loopw [5,6,7] (fun T cv i wr=>∃(k G:Nat) (o:List Nat),k<=max n m+1/\i=.int .i64 k/\cv=.int .u64 (G:Int)/\G<=1/\(max n m<k->G=0)/\o.length=k/\Dig o/\val o+4294967296^k*G=val (a.take k)+val (b.take k)/\
   wr.ownsRow w.heap.size 208 1 T k (mg o)/\Ext w wr) (fun _ _ i _=>n+m+2-(intOf i).toNat)
 case atStart=>exact⟨0,0,[],Nat.zero_le _,rfl,rfl,aa,fun _=>rfl,rfl,Dig.nil,by simp[val],World.ownsRow_nil _ _ _ _,Ext.refl _⟩
 case round=>
  obtain⟨k,G,o,hk,rfl,rfl,WK,Y,ho,hd,hv,l,C⟩:=hrel;have U:=aJ hv;clear hv;have L:=aJ ho;clear ho;have S:=aJ hd;clear hd;have M:=aJ l;clear l;have Xm:k<=n+m+1:=aa;by_cases N:k<n
  .obtain⟨ad,x,rfl,_,J,D,K⟩:=(hA.ext C).at_ N;have HX:=aJ (bF J);clear J;clear Y;by_cases F:k<m
   .obtain⟨bd,y,rfl,_,R,I,V⟩:=(hB.ext C).at_ F;have Z:=aJ (bF R);clear R;(go_wp2_with (at_builtin;refine dK jQ rfl (.tmp 46) (.tmp 49) rfl w.heap.size u5 k (mg o) rf (M.alloc _) wr.heap.size 1 1 [.int .u32 (((G:Int)+x+y)%4294967296)] rf (Blk.new _ _ _) rfl AcB aa aa aa Aa6 ?_));intro g1 O w1 P H _ _;have j:=fq H (C.alloc _) (fun g h=>(M.lt g h).1);have Q:=aJ P;clear P H;go_wp2;go_roundw
    case rel=>
     refine⟨k+1,(G+x+y)/4294967296,o++[(G+x+y)%4294967296],aa,au,au,aa,fun h=>aa,by simp[L.o],S.append (Dig.one aa),vR L.o U.o HX.o Z.o,?_,j⟩;have:=Q.o;rwa[tK (d:=(G+x+y)%4294967296) aa] at this
    case measure=>simp[intOf]<;>omega
   ·(go_wp2_with (at_builtin;refine dK jQ rfl (.tmp 46) (.tmp 49) rfl w.heap.size u5 k (mg o) rf (M.alloc _) wr.heap.size 1 1 [.int .u32 (((G:Int)+x)%4294967296)] rf (Blk.new _ _ _) rfl AcB aa aa aa Aa6 ?_));intro g1 O w1 P H _ _;have j:=fq H (C.alloc _) (fun g h=>(M.lt g h).1);have Q:=aJ P;clear P H;go_wp2;go_roundw
    case rel=>
     refine⟨k+1,(G+x+0)/4294967296,o++[(G+x+0)%4294967296],aa,au,au,aa,fun h=>aa,by simp[L.o],S.append (Dig.one aa),vR L.o U.o HX.o (kJ HB.o F),?_,j⟩;have:=Q.o;rwa[tK (d:=(G+x+0)%4294967296) aa] at this
    case measure=>simp[intOf]<;>omega
  .by_cases F:k<m
   .obtain⟨bd,y,rfl,_,R,I,V⟩:=(hB.ext C).at_ F;have Z:=aJ (bF R);clear R;clear Y;(go_wp2_with (at_builtin;refine dK jQ rfl (.tmp 46) (.tmp 49) rfl w.heap.size u5 k (mg o) rf (M.alloc _) wr.heap.size 1 1 [.int .u32 (((G:Int)+y)%4294967296)] rf (Blk.new _ _ _) rfl AcB aa aa aa Aa6 ?_));intro g1 O w1 P H _ _;have j:=fq H (C.alloc _) (fun g h=>(M.lt g h).1);have Q:=aJ P;clear P H;go_wp2;go_roundw
    case rel=>
     refine⟨k+1,(G+0+y)/4294967296,o++[(G+0+y)%4294967296],aa,au,au,aa,fun h=>aa,by simp[L.o],S.append (Dig.one aa),vR L.o U.o (kJ W.o N) Z.o,?_,j⟩;have:=Q.o;rwa[tK (d:=(G+0+y)%4294967296) aa] at this
    case measure=>simp[intOf]<;>omega
   .by_cases WS:0<G
    .obtain rfl:G=1:=aa;have Wq:k<=max n m:=by
      rcases Nat.lt_or_ge (max n m) k with h|h
      .exact absurd (Y h) aa
      .exact h
     clear Y;(go_wp2_with (at_builtin;refine dK jQ rfl (.tmp 46) (.tmp 49) rfl w.heap.size u5 k (mg o) rf (M.alloc _) wr.heap.size 1 1 [.int .u32 (1)] rf (Blk.new _ _ _) rfl AcB aa aa aa Aa6 ?_));intro g1 O w1 P H _ _;have j:=fq H (C.alloc _) (fun g h=>(M.lt g h).1);have Q:=aJ P;clear P H;go_wp2;go_roundw
     case rel=>
      refine⟨k+1,(1+0+0)/4294967296,o++[(1+0+0)%4294967296],aa,au,au,aa,fun h=>aa,by simp[L.o],S.append (Dig.one aa),vR L.o U.o (kJ W.o N) (kJ HB.o F),?_,j⟩;have:=Q.o;rwa[tK (d:=(1+0+0)%4294967296) aa] at this
     case measure=>simp[intOf]<;>omega
    .obtain rfl:G=0:=aa;clear Y;go_wp2;go_ret;refine⟨_,rfl,⟨o,RM.jJ M.o S.o,?_,by rw[L.o];exact hk⟩,C⟩;have:=U.o;rw[List.take_of_length_le (by rw[W.o];omega),List.take_of_length_le (by rw[HB.o];omega)] at this;simpa using this
def vB(A B n m c d a b w)(hA:RM w A n c a)(hB:RM w B m d b)(hn:n<=1000000)(hm:m<=n)(Wq:val b<=val a):
  Calls Tryz.prog 185 #[.slice A n c,.slice B m d] w fun e w'=>∃v,e=.returned v/\(SlM (bZ (val a-val b)) v w'/\∀g,v.ownBlock=some g->w.heap.size<=g)/\Ext w w':=by
 have HA:=aJ hA.len;have HB:=aJ hB.len;go_enter Tryz.func185,Tryz.ntmps185;go_wp2;go_loopw [5,6,7] (fun T cv i wr=>∃(k Y:Nat) (o:List Nat),k<=n/\i=.int .i64 k/\cv=.int .u64 (Y:Int)/\Y<=1/\o.length=k/\Dig o/\val (a.take k)+4294967296^k*Y=val (b.take k)+val o/\
   wr.ownsRow w.heap.size 208 1 T k (mg o)/\Ext w wr) (fun _ _ i _=>n-(intOf i).toNat)
 case atStart=>exact⟨0,0,[],Nat.zero_le _,rfl,rfl,aa,rfl,Dig.nil,by simp[val],World.ownsRow_nil _ _ _ _,Ext.refl _⟩
 case round=>
  obtain⟨k,Y,o,hk,rfl,rfl,V,ho,hd,hv,l,C⟩:=hrel;have U:=aJ hv;clear hv;have Z:=aJ ho;clear ho;have HD:=aJ hd;clear hd;have M:=aJ l;clear l;by_cases Wo:k<n
  .obtain⟨ad,x,rfl,_,J,D,K⟩:=(hA.ext C).at_ Wo;have HX:=aJ J;clear J;by_cases F:k<m
   .obtain⟨bd,y,rfl,_,R,I,WG⟩:=(hB.ext C).at_ F;have HY:=aJ R;clear R;(go_wp2_with (at_builtin;refine dK jQ rfl (.tmp 33) (.tmp 36) rfl w.heap.size u5 k (mg o) rf (M.alloc _) wr.heap.size 1 1 [.int .u32 (IntKind.u64.wrap (IntKind.u64.wrap ((x:Int)-Y)-y)%4294967296)] rf (Blk.new _ _ _) rfl AcB aa aa aa Aa6 ?_));intro g1 O w1 P W _ _;have j:=fq W (C.alloc _) (fun g h=>(M.lt g h).1);have Q:=aJ P;clear P W;go_wp2;go_roundw
    case rel=>
     refine⟨k+1,ni ((x:Int)-Y-y),o++[oW ((x:Int)-Y-y)],aa,au,by rw[Ii D I V],sU _,by simp[Z.o],HD.append (Dig.one (tY _)),wL Z.o U.o HX.o (bF HY.o) D I V,?_,j⟩;have:=Q.o;rwa[tK (Ke D I V)] at this
    case measure=>simp[intOf]<;>omega
   ·(go_wp2_with (at_builtin;refine dK jQ rfl (.tmp 33) (.tmp 36) rfl w.heap.size u5 k (mg o) rf (M.alloc _) wr.heap.size 1 1 [.int .u32 (IntKind.u64.wrap ((x:Int)-Y)%4294967296)] rf (Blk.new _ _ _) rfl AcB aa aa aa Aa6 ?_));intro g1 O w1 P W _ _;have j:=fq W (C.alloc _) (fun g h=>(M.lt g h).1);have Q:=aJ P;clear P W;go_wp2;go_roundw
    case rel=>
     refine⟨k+1,ni ((x:Int)-Y-(0:Nat)),o++[oW ((x:Int)-Y-(0:Nat))],aa,au,by rw[PK D V],sU _,by simp[Z.o],HD.append (Dig.one (tY _)),wL Z.o U.o HX.o (kJ HB.o F) D aa V,?_,j⟩;have:=Q.o;rwa[tK (Qu D V)] at this
    case measure=>simp[intOf]<;>omega
  .obtain rfl:k=n:=aa;obtain⟨A1,n1,c1,rfl,hR⟩:=RM.jJ M.o HD.o;have S:=hR.len;obtain rfl:n1=k:=by rw[<-S,Z.o]
   have N:=Lg Z.o HD.o HA.o (by rw[HB.o];exact hm) U.o Wq;have G:=aJ N;clear N S;(go_wp2_with fail);refine(yw A1 n1 c1 o _ hR hn).mono ?_;rintro e w1 ⟨v1,rfl,⟨hR,L⟩,H⟩;rw[G.o] at hR;have HF:=aJ L;clear L;go_wp2;go_ret;exact⟨_,rfl,⟨hR,fun g hg=>Nat.le_trans C.size (HF.o g hg)⟩,C.trans H⟩
def uN(A B n m c d a b w)(F:RM w A n c a)(G:RM w B m d b)(hn:n<=1000000)(C:m<=n)(j:val b<=val a):
  CV 185 #[.slice A n c,.slice B m d] w fun v w'=>SlM (bZ (val a-val b)) v w':=
 (vB A B n m c d a b w F G hn C j).mono fun _ _ ⟨v,H,D,l⟩=>⟨v,H,D.1,l⟩
def gY (p:List Nat) (k:Nat):Prop:=∀t z,k<=t->p[t]? =some z->z=0
def gY.mono{p k j}(h:gY p k)(B:k<=j):gY p j:=fun t z C l=>h t z aa l
def gY.set{p k t d}(h:gY p k)(l:t<k):gY (p.set t d) k:=by
 intro s z hs j;rw[List.getElem?_set_ne aa] at j;exact h s z hs j
def gY.zeros(n k):gY (List.replicate n 0) k:=by
 intro t z _ j;have:=List.mem_of_getElem? j;exact List.eq_of_mem_replicate this
def gY.at_{p k}(h:gY p k)(l:k<p.length):p[k]? =some 0:=by
 have j:p[k]? =some p[k]:=List.getElem?_eq_getElem l;rw[h k _ (Nat.le_refl _) j] at j;exact j
def sZ{x y}(J:x<4294967296)(R:y<4294967296):x*y<=18446744065119617025:=by
 have:=Nat.mul_le_mul (show x<=4294967295 by omega) (show y<=4294967295 by omega);omega
def Ih{p b:List Nat}{i j x y z G s M}(l:p[i+j]? =some z)(R:b[j]? =some y)(hs:s=x*y+z+G)(h:val p+4294967296^(i+j)*G=M+4294967296^i*(x*val (b.take j))):
  val (p.set (i+j) (s%4294967296))+4294967296^(i+(j+1))*(s/4294967296)=M+4294967296^i*(x*val (b.take (j+1))):=by
 have D:=pO (y:=s%4294967296) l;rw[bF R,show i+(j+1)=(i+j)+1 by omega,Nat.pow_succ,Nat.mul_assoc];have e:4294967296^(i+j)*(s%4294967296)+4294967296^(i+j)*(4294967296*(s/4294967296))=4294967296^(i+j)*s:=by
  exact AbE
 have B:4294967296^(i+j)*s=4294967296^(i+j)*(x*y)+4294967296^(i+j)*z+4294967296^(i+j)*G:=by rw[hs,Nat.mul_add,Nat.mul_add]
 have C:4294967296^i*(x*(val (b.take j)+4294967296^j*y))=4294967296^i*(x*val (b.take j))+4294967296^(i+j)*(x*y):=by
  rw[Nat.mul_add,Nat.mul_add,Nat.pow_add];congr 1;rw[Nat.mul_left_comm x,Nat.mul_assoc]
 omega
def LY{p a b:List Nat}{i m x G}(j:p[i+m]? =some 0)(J:a[i]? =some x)(hb:b.length=m)(h:val p+4294967296^(i+m)*G=val (a.take i)*val b+4294967296^i*(x*val (b.take m))):val (p.set (i+m) G)=val (a.take (i+1))*val b:=by
 have B:=pO (y:=G) j;have l:b.take m=b:=List.take_of_length_le aa;rw[l] at h;rw[bF J,Nat.add_mul];have e:4294967296^i*(x*val b)=4294967296^i*x*val b:=by rw[Nat.mul_assoc]
 omega
def fZ (w:World) (g:Nat) (p:List Nat):Prop:=Blk w g 208 (mg p).toArray/\Dig p
def fZ.at_{w g k p}(h:fZ w g p)(l:k<p.length):∃z,p[k]? =some z/\z<4294967296/\w.cell? ⟨g,k,none⟩=some (.int .u32 (z:Int))/\w.frozen? ⟨g,k,none⟩=false:=by
 have j:p[k]? =some p[k]:=List.getElem?_eq_getElem l;refine⟨p[k],j,h.2.at_ j,?_,h.1.frozen k⟩;rw[h.1.cell];have:=oz j;simpa using this
def fZ.set{w:World}{g k d:Nat}{p:List Nat}{z:Int}(h:fZ w g p)(j:z=(d:Int))(hd:d<4294967296):fZ (w.setCell ⟨g,k,none⟩ (.int .u32 z)) g (p.set k d):=by
 have:=h.1.Pk (i:=k) (.int .u32 z);rw[Eh j] at this;exact⟨this,h.2.set k hd⟩
def fZ.drewN{w g p}(h:fZ w g p)(n):fZ (w.drewN n) g p:=⟨h.1.drewN n,h.2⟩
def fZ.far{w w' g p}(h:fZ w g p)(e:Ext w w'):fZ w' g p:=⟨h.1.ext e,h.2⟩
def fZ.rm{w g n p}(h:fZ w g p)(hn:p.length=n)(j:n<=9223372036854775807):RM w (some ⟨g,0,none⟩) n n p:=RM.blk h.1 h.2 hn j
def xE (n m:Nat):Prop:=0<n/\0<m
def xB (n m:Nat):Prop:=True
def Jb{n m}(h:xE n m):((n:Int)==0)=false:=by have:=h.1;simp;omega
def Je{n m}(h:xE n m):((m:Int)==0)=false:=by have:=h.2;simp;omega
def JR{n m}(h:xB n m):True:=trivial
def Js{n m}(h:xB n m):True:=trivial
def JJ(A B n m c d a b w)(hA:RM w A n c a)(hB:RM w B m d b)(hn:n<=100000)(hm:m<=100000)(L:xE n m):
  CV 217 #[.slice A n c,.slice B m d] w fun v w'=>SlM (bZ (val a*val b)) v w':=by
 have Wy:=Jb L;have WJ:=Je L;clear L;have HA:=aJ hA.len;have HB:=aJ hB.len;have WN:=jf ((n:Int)+m) (n+m) aa aa;go_enter Tryz.func217,Tryz.ntmps217;go_wp2;clear WN;go_loopw [26] (fun i wr=>∃(k:Nat) (p:List Nat),k<=n/\i=.int .i64 k/\p.length=n+m/\gY p (k+m)/\val p=val (a.take k)*val b/\fZ wr w.heap.size p/\Ext w wr) (fun i _=>n-(intOf i).toNat)
 case atStart=>exact⟨0,List.replicate (n+m) 0,Nat.zero_le _,rfl,ag,gY.zeros _ _,by simp[val,p9],⟨Blk.new w _ _,Dig.replicate _⟩,Ext.new _ _⟩
 case round=>
  obtain⟨k,p,hk,rfl,Z,T,hv,F,C⟩:=hrel;have V:=aJ Z;clear Z;have W:=aJ T;clear T;have U:=aJ hv;clear hv;have Q:=aJ F;clear F;by_cases Wo:k<n
  .obtain⟨ad,x,rfl,_,J,D,K⟩:=(hA.ext C).at_ Wo;have HX:=aJ J;clear J K;obtain⟨O,rfl⟩:∃O:World,O=wr:=⟨_,rfl⟩;go_wp2;go_loopw [31,7] (fun iv cv wr=>∃(j G:Nat) (p:List Nat),j<=m/\iv=.int .i64 j/\cv=.int .u64 (G:Int)/\G<4294967296/\p.length=n+m/\gY p (k+m)/\val p+4294967296^(k+j)*G=val (a.take k)*val b+4294967296^k*(x*val (b.take j))/\fZ wr w.heap.size p/\Ext w wr) (fun iv _ _=>m-(intOf iv).toNat)
   case atStart=>exact⟨0,0,p,Nat.zero_le _,rfl,rfl,aa,V.o,W.o,by have:=U.o;simp[val,this],Q.o,C⟩
   case round=>
    clear Q U W V C;obtain⟨j,G,p,hj,rfl,rfl,WK,Z,T,hv,F,C⟩:=hrel;have V:=aJ Z;clear Z;have W:=aJ T;clear T;have U:=aJ hv;clear hv;by_cases M:j<m
    .obtain⟨bd,y,rfl,_,R,I,WG⟩:=(hB.ext C).at_ M;obtain⟨WA,x',e1,_,P,_,K⟩:=(hA.ext C).at_ Wo;cases e1
     obtain rfl:x'=x:=by have:=HX.o;rw[P] at this;injection this
     have HY:=aJ R;clear R P;obtain⟨z,T,l,Y,WI⟩:=F.at_ (k:=k+j) AcO;have Xy:=aJ T;clear T;have Q:=aJ F;clear F;obtain⟨t,ht⟩:∃t,t=x'*y:=⟨_,rfl⟩;have XB:t<=18446744065119617025:=by rw[ht];exact sZ D I
     have q1:(0:Int)<=(k:Int):=aa;have q2:(k:Int)<(n:Int):=aa;have q3:(0:Int)<=(j:Int):=aa;have q4:(j:Int)<(m:Int):=aa;have q5:(0:Int)<=(k:Int)+(j:Int):=aa;have q6:(k:Int)+(j:Int)<(n:Int)+(m:Int):=aa;have S:(k:Int)+(j:Int)<((n+m:Nat):Int):=aa;have e1:IntKind.u64.wrap ((x':Int)*(y:Int))=(t:Int):=by rw[IntWalk.u64_in _ Acs,ht];simp
     have e2:IntKind.u64.wrap ((t:Int)+(z:Int))=(t:Int)+z:=IntWalk.u64_in _ aa;have e3:IntKind.u64.wrap ((t:Int)+(z:Int)+(G:Int))=(t:Int)+z+G:=IntWalk.u64_in _ aa;have e4:IntKind.i64.wrap ((k:Int)+(j:Int))=(k:Int)+j:=IntWalk.i64_in _ aa;have e5:((k:Int)+(j:Int)).toNat=k+j:=aa;have HT:=aJ ht;clear ht;go_wp2;go_quiet (fail);clear e1 e2 e3 e4 e5;go_wp2;go_roundw
     case rel=>exact⟨j+1,(t+z+G)/4294967296,p.set (k+j) ((t+z+G)%4294967296),aa,au,au,aa,by simp[V.o],W.set aa,Ih Xy.o HY.o (by rw[HT.o]) U.o,(Q.drewN _).set aa aa,(C.drewN _).setCell (Nat.le_refl _) _⟩
     case measure=>simp[intOf]<;>omega
    .obtain rfl:j=m:=aa;obtain⟨z,T,l,Y,WI⟩:=F.at_ (k:=k+j) AcO;have WC:=W.at_ AcO;have WH:=aJ WC;clear WC T;have Q:=aJ F;clear F;go_wp2;go_roundw
     case rel=>exact⟨k+1,p.set (k+j) G,aa,au,by simp[V.o],(W.mono aa).set aa,LY WH.o HX.o HB.o U.o,Q.set rfl WK,C.setCell (Nat.le_refl _) _⟩
     case measure=>simp[intOf]<;>omega
  .obtain rfl:k=n:=aa;have F:=Q.o;have Z:=V.o;(go_wp2_with fail);refine(jK _ _ _ p _ (F.rm Z aa)).mono ?_;exact Aa2
def Ja(A B n m c d a b w)(hA:RM w A n c a)(hB:RM w B m d b)(hn:n<=100000)(hm:m<=100000)(L:xB n m):
  CV 186 #[.slice A n c,.slice B m d] w fun v w'=>SlM (bZ (val a*val b)) v w':=by
 have Wy:=JR L;have WJ:=Js L;clear L;have HA:=aJ hA.len;have HB:=aJ hB.len;have WN:=jf ((n:Int)+m) (n+m) aa aa;go_enter Tryz.func186,Tryz.ntmps186;go_wp2;clear WN;go_loopw [6] (fun i wr=>∃(k:Nat) (p:List Nat),k<=n/\i=.int .i64 k/\p.length=n+m/\gY p (k+m)/\val p=val (a.take k)*val b/\fZ wr w.heap.size p/\Ext w wr) (fun i _=>n-(intOf i).toNat)
 case atStart=>exact⟨0,List.replicate (n+m) 0,Nat.zero_le _,rfl,ag,gY.zeros _ _,by simp[val,p9],⟨Blk.new w _ _,Dig.replicate _⟩,Ext.new _ _⟩
 case round=>
  obtain⟨k,p,hk,rfl,Z,T,hv,F,C⟩:=hrel;have V:=aJ Z;clear Z;have W:=aJ T;clear T;have U:=aJ hv;clear hv;have Q:=aJ F;clear F;by_cases Wo:k<n
  .obtain⟨ad,x,rfl,_,J,D,K⟩:=(hA.ext C).at_ Wo;have HX:=aJ J;clear J K;obtain⟨O,rfl⟩:∃O:World,O=wr:=⟨_,rfl⟩;go_wp2;go_loopw [8,7] (fun iv cv wr=>∃(j G:Nat) (p:List Nat),j<=m/\iv=.int .i64 j/\cv=.int .u64 (G:Int)/\G<4294967296/\p.length=n+m/\gY p (k+m)/\val p+4294967296^(k+j)*G=val (a.take k)*val b+4294967296^k*(x*val (b.take j))/\fZ wr w.heap.size p/\Ext w wr) (fun iv _ _=>m-(intOf iv).toNat)
   case atStart=>exact⟨0,0,p,Nat.zero_le _,rfl,rfl,aa,V.o,W.o,by have:=U.o;simp[val,this],Q.o,C⟩
   case round=>
    clear Q U W V C;obtain⟨j,G,p,hj,rfl,rfl,WK,Z,T,hv,F,C⟩:=hrel;have V:=aJ Z;clear Z;have W:=aJ T;clear T;have U:=aJ hv;clear hv;by_cases M:j<m
    .obtain⟨bd,y,rfl,_,R,I,WG⟩:=(hB.ext C).at_ M;obtain⟨WA,x',e1,_,P,_,K⟩:=(hA.ext C).at_ Wo;cases e1
     obtain rfl:x'=x:=by have:=HX.o;rw[P] at this;injection this
     have HY:=aJ R;clear R P;obtain⟨z,T,l,Y,WI⟩:=F.at_ (k:=k+j) AcO;have Xy:=aJ T;clear T;have Q:=aJ F;clear F;obtain⟨t,ht⟩:∃t,t=x'*y:=⟨_,rfl⟩;have XB:t<=18446744065119617025:=by rw[ht];exact sZ D I
     have q1:(0:Int)<=(k:Int):=aa;have q2:(k:Int)<(n:Int):=aa;have q3:(0:Int)<=(j:Int):=aa;have q4:(j:Int)<(m:Int):=aa;have q5:(0:Int)<=(k:Int)+(j:Int):=aa;have q6:(k:Int)+(j:Int)<(n:Int)+(m:Int):=aa;have S:(k:Int)+(j:Int)<((n+m:Nat):Int):=aa;have e1:IntKind.u64.wrap ((x':Int)*(y:Int))=(t:Int):=by rw[IntWalk.u64_in _ Acs,ht];simp
     have e2:IntKind.u64.wrap ((t:Int)+(z:Int))=(t:Int)+z:=IntWalk.u64_in _ aa;have e3:IntKind.u64.wrap ((t:Int)+(z:Int)+(G:Int))=(t:Int)+z+G:=IntWalk.u64_in _ aa;have e4:IntKind.i64.wrap ((k:Int)+(j:Int))=(k:Int)+j:=IntWalk.i64_in _ aa;have e5:((k:Int)+(j:Int)).toNat=k+j:=aa;have HT:=aJ ht;clear ht;go_wp2;go_quiet (fail);clear e1 e2 e3 e4 e5;go_wp2;go_roundw
     case rel=>exact⟨j+1,(t+z+G)/4294967296,p.set (k+j) ((t+z+G)%4294967296),aa,au,au,aa,by simp[V.o],W.set aa,Ih Xy.o HY.o (by rw[HT.o]) U.o,(Q.drewN _).set aa aa,(C.drewN _).setCell (Nat.le_refl _) _⟩
     case measure=>simp[intOf]<;>omega
    .obtain rfl:j=m:=aa;obtain⟨z,T,l,Y,WI⟩:=F.at_ (k:=k+j) AcO;have WC:=W.at_ AcO;have WH:=aJ WC;clear WC T;have Q:=aJ F;clear F;go_wp2;go_roundw
     case rel=>exact⟨k+1,p.set (k+j) G,aa,au,by simp[V.o],(W.mono aa).set aa,LY WH.o HX.o HB.o U.o,Q.set rfl WK,C.setCell (Nat.le_refl _) _⟩
     case measure=>simp[intOf]<;>omega
  .obtain rfl:k=n:=aa;have F:=Q.o;have Z:=V.o;(go_wp2_with fail);refine(il _ _ _ p _ (F.rm Z aa) aa).mono ?_;exact Aa2
def IM(A B n m c d a b w)(j:RM w A n c a)(l:RM w B m d b)(hn:n<=100000)(D:m<=100000):
  CV 217 #[.slice A n c,.slice B m d] w fun v w'=>SlM (bZ (val a*val b)) v w':=by
 by_cases G:n=0
 .subst G;obtain rfl:=j.empty;exact Aba
 .have C:((n:Int)==0)=false:=ae;by_cases F:m=0
  .subst F;obtain rfl:=l.empty;exact Aba
  .exact JJ A B n m c d a b w j l hn D ⟨aa,aa⟩
def zo(A B n m c d a b w)(j:RM w A n c a)(l:RM w B m d b)(hn:n<=100000)(C:m<=100000):
  CV 186 #[.slice A n c,.slice B m d] w fun v w'=>SlM (bZ (val a*val b)) v w':=Ja A B n m c d a b w j l hn C trivial
def Nj(A n c l w)(h:RM w A n c l)(hn:n<=1000000):
  CV 198 #[.slice A n c] w fun v w'=>w'.ownsRow w.heap.size 208 1 v n (mg l):=by
 cases A with
 |none=>
  have C:n=0:=by
   rcases Nat.eq_zero_or_pos n with j|j
   .exact j
   .obtain⟨D,_,e,_⟩:=h.at_ j;cases e
  subst C;obtain rfl:=h.empty;have B:=Lib.run_eql_slice_nil (P:=Tryz.prog) (t:=38) (a:=none) (n:=0) (c:=c) (n':=0) (c':=0) (h:=Tryz.underlying38);go_enter Tryz.func198,Tryz.ntmps198;go_wp2;all_goals
   exact Acf
 |some D=>
  have B:=Lib.run_eql_slice_nil (P:=Tryz.prog) (t:=38) (a:=some D) (n:=n) (c:=c) (n':=0) (c':=0) (h:=Tryz.underlying38);go_enter Tryz.func198,Tryz.ntmps198;(go_wp2_with (at_builtin;refine iY jQ rfl (.tmp 5) (.tmp 6) rfl w.heap.size _ 0 [] rf (World.ownsRow_lit _ _ _ aa aa ag) _ n _ (mg l) rf (h.ext (Ext.new w _)).rd zG aa aa ag ?_));intro v1 w1 F G;go_wp2;go_ret;exact⟨_,rfl,by simpa using F,fq G (Ext.new _ _) Aa1⟩
def sS(A n c l w)(h:RM w A n c l)(hn:n<=1000000):
  CV 198 #[.slice A n c] w fun v w'=>SlM l v w':=
 (Nj A n c l w h hn).mono fun _ _ ⟨v,j,B,C⟩=>⟨v,j,RM.jJ B h.dg,C⟩
def Ext.jd{w w'}(h:Ext w.drew w'):Ext w w':=((Ext.refl w).drew).trans h
def fF{w w1}{x y r:Obj}(J:Ext (((w.alloc x).alloc y).alloc r) w1):Ext w w1:=(((Ext.new w _).alloc _).alloc _).trans J
def iA{w w1:World}{cs t}{y r:Obj}(J:Ext (((w.alloc (.cells cs t)).alloc y).alloc r) w1):Blk w1 w.heap.size t cs:=(((Blk.new w t cs).alloc _).alloc _).ext J
def iP{w w1:World}{cs t}{x r:Obj}(J:Ext (((w.alloc x).alloc (.cells cs t)).alloc r) w1):Blk w1 (w.heap.size+1) t cs:=((Blk.new' t cs ag).alloc _).ext J
def lJ{w w1:World}{cs t}{x y:Obj}(J:Ext (((w.alloc x).alloc y).alloc (.cells cs t)) w1):Blk w1 (w.heap.size+2) t cs:=(Blk.new' t cs ag).ext J
def OV(neg A B n m c d a b w)(N:RM w A n c a)(O:RM w B m d b)(hn:n<=1000000)(G:m<=1000000):
  CV 216 #[iv neg A n c,iv neg B m d] w fun v w'=>mY (oZ (zOf neg (val a+val b))) v w':=by
 have L:(neg==neg)=true:=ag;go_enter Tryz.func216,Tryz.ntmps216;go_wp2;have l:Ext (((w.alloc (.cells #[.bool neg,.slice A n c] 40)).alloc (.cells #[.bool neg,.slice B m d] 40)).alloc (.cells #[.bool false,.slice none 0 0] 40)) (((w.alloc (.cells #[.bool neg,.slice A n c] 40)).alloc (.cells #[.bool neg,.slice B m d] 40)).alloc (.cells #[.bool false,.slice none 0 0] 40)):=Ext.refl _;have R:=aK.blk (iA l);have S:=aK.blk (iP l);refine bz 10 [(true,0),(true,1),(true,2),(true,3),(true,4),(true,5),(false,6),(false,7),(true,8),(true,9)] ah ah ?_;refine aS [0,1,2,3,4,5] [(false,6),(false,7),(true,8),(true,9)] _ ah ?_;simp only[bO,aV,List.cons_append,List.nil_append];(repeat (go_big_quiet_step (fail)));refine wpQuiet_nil ?_;refine aR 6 [(false,7),(true,8),(true,9)] ah ?_;intro K I;simp only[aV];(go_wp2_with fail);have W:Ext w (((w.alloc (.cells #[.bool neg,.slice A n c] 40)).alloc (.cells #[.bool neg,.slice B m d] 40)).alloc (.cells #[.bool false,.slice none 0 0] 40)).drew:=(fF l).drew;refine(zk A B n m c d a b _ (N.ext W) (O.ext W) hn G).mono ?_;rintro e w1 ⟨v1,rfl,⟨A1,n1,c1,rfl,Q⟩,H⟩;have H:=H.jd;go_wp2;refine I _ _ ⟨⟨w1,H⟩,rfl⟩ ?_;clear I K;refine aR 7 [(true,8),(true,9)] ah ?_;intro K I;simp only[aV];(go_wp2_with fail);refine(iF neg A1 n1 c1 _ _ Q).mono ?_;rintro e w2 ⟨T,rfl,⟨u,rfl,A2,n2,c2,rfl,C⟩,P⟩;rw[aM] at C;rw[aM];have P:=H.trans P;go_wp2;refine I _ _ ⟨⟨w2,P⟩,rfl⟩ ?_;clear I K;refine aS [8,9] [] _ ah ?_;simp only[bO,aV,List.cons_append,List.nil_append];(repeat (go_big_quiet_step (fail)));refine wpQuiet_nil ?_;simp only[bP,List.drop_succ_cons,List.drop_zero];have b4:=lJ P;have c4:=b4.cell;have U:=b4.frozen;obtain⟨F,D,j⟩:=je (fF P) aa b4 _ A2 n2 c2;have M:=aJ F;have V:=aJ D;have J:=aJ (j _ _ _ _ C);clear F D j;go_wp2;exact ic rfl rfl rfl V.o ⟨_,rfl,⟨_,rfl,_,_,_,rfl,J.o⟩,M.o⟩
def KG{p q}(h:q<=p):decide (0<=mI p q)=true:=by
 have l:¬p<q:=aa;by_cases j:q<p<;>simp[mI,l,j]
theorem Le{p q}(h:p<q):decide (0<=mI p q)=false:=by unfold mI;simp[h]
def UX(neg j A B n m c d p q w)(C:RM w A n c (bZ p))(D:RM w B m d (bZ q))(hn:n<=1000000)(Z:m<=1000000)(U:(neg==j)=false)(O:q<=p):
  CV 216 #[iv neg A n c,iv j B m d] w fun v w'=>mY (oZ (zOf neg (p-q))) v w':=by
 have S:=C.len;have J:=D.len;have G:m<=n:=by
  have h1:=dX (n:=q) (k:=n) (Nat.lt_of_le_of_lt (show q<=p by omega) (dN aa));omega
 clear S J;have l:=aJ O;clear O;go_enter Tryz.func216,Tryz.ntmps216;(go_wp2_with fail);refine(iE A B n m c d _ _ _ (C.ext (((Ext.new w _).alloc _).alloc _)) (D.ext (((Ext.new w _).alloc _).alloc _)) (bJ _) (bJ _)).mono ?_;rintro e w0 ⟨rfl,F⟩;rw[aM,aM];have T:=KG l.o;have c0:=(iA F).cell;have c1:=(iP F).cell;go_wp2;clear c0 c1 T;have Y0:=aK.blk (iA F);have Y1:=aK.blk (iP F);refine bz 10 [(true,0),(true,1),(true,2),(true,3),(true,4),(true,5),(false,6),(false,7),(true,8),(true,9)] ah ah ?_;refine aS [0,1,2,3,4,5] [(false,6),(false,7),(true,8),(true,9)] _ ah ?_;simp only[bO,aV,List.cons_append,List.nil_append];(repeat (go_big_quiet_step (fail)));refine wpQuiet_nil ?_;refine aR 6 [(false,7),(true,8),(true,9)] ah ?_;intro K I;simp only[aV];(go_wp2_with fail);refine(uw A B n m c d _ _ _ (C.ext (fF F).drew) (D.ext (fF F).drew) aa G (by rw[aM,aM];have:=l.o;omega)).mono ?_;rintro e w1 ⟨v1,rfl,⟨A1,n1,c1,rfl,Y⟩,H⟩;have H:=H.jd;go_wp2;refine I _ _ ⟨⟨w1,H⟩,rfl⟩ ?_;clear I K;refine aR 7 [(true,8),(true,9)] ah ?_;intro K I;simp only[aV];(go_wp2_with fail);refine(iF neg A1 n1 c1 _ _ Y).mono ?_;exact Aay
def sum_lt(neg j A B n m c d p q w)(C:RM w A n c (bZ p))(D:RM w B m d (bZ q))(hn:n<=1000000)(Z:m<=1000000)(U:(neg==j)=false)(O:p<q):
  CV 216 #[iv neg A n c,iv j B m d] w fun v w'=>mY (oZ (zOf j (q-p))) v w':=by
 have S:=C.len;have J:=D.len;have G:n<=m:=by
  have h1:=dX (n:=p) (k:=m) (Nat.lt_of_le_of_lt (show p<=q by omega) (dN aa));omega
 clear S J;have l:=aJ O;clear O;go_enter Tryz.func216,Tryz.ntmps216;(go_wp2_with fail);refine(iE A B n m c d _ _ _ (C.ext (((Ext.new w _).alloc _).alloc _)) (D.ext (((Ext.new w _).alloc _).alloc _)) (bJ _) (bJ _)).mono ?_;rintro e w0 ⟨rfl,F⟩;rw[aM,aM];have T:=Le l.o;have c0:=(iA F).cell;have c1:=(iP F).cell;go_wp2;clear c0 c1 T;have Y0:=aK.blk (iA F);have Y1:=aK.blk (iP F);refine bz 10 [(true,0),(true,1),(true,2),(true,3),(true,4),(true,5),(false,6),(false,7),(true,8),(true,9)] ah ah ?_;refine aS [0,1,2,3,4,5] [(false,6),(false,7),(true,8),(true,9)] _ ah ?_;simp only[bO,aV,List.cons_append,List.nil_append];(repeat (go_big_quiet_step (fail)));refine wpQuiet_nil ?_;refine aR 6 [(false,7),(true,8),(true,9)] ah ?_;intro K I;simp only[aV];(go_wp2_with fail);refine(uw B A m n d c _ _ _ (D.ext (fF F).drew) (C.ext (fF F).drew) aa G (by rw[aM,aM];have:=l.o;omega)).mono ?_;rintro e w1 ⟨v1,rfl,⟨A1,n1,c1,rfl,Y⟩,H⟩;have H:=H.jd;go_wp2;refine I _ _ ⟨⟨w1,H⟩,rfl⟩ ?_;clear I K;refine aR 7 [(true,8),(true,9)] ah ?_;intro K I;simp only[aV];(go_wp2_with fail);refine(iF j A1 n1 c1 _ _ Y).mono ?_;exact Aay
def KF(neg j A B n m c d p q w)(C:RM w A n c (bZ p))(D:RM w B m d (bZ q))(hn:n<=1000000)(l:m<=1000000):
  CV 216 #[iv neg A n c,iv j B m d] w fun v w'=>mY (oZ (zOf neg p+zOf j q)) v w':=by
 cases hs:(neg==j)
 .rcases Nat.lt_or_ge p q with h|h
  .have:=sum_lt neg j A B n m c d p q w C D hn l hs h;have e:zOf neg p+zOf j q=zOf j (q-p):=by cases neg<;>cases j<;>simp[zOf] at hs⊢<;>omega
   rwa[e]
  .have:=UX neg j A B n m c d p q w C D hn l hs h;have e:zOf neg p+zOf j q=zOf neg (p-q):=by cases neg<;>cases j<;>simp[zOf] at hs⊢<;>omega
   rwa[e]
 .obtain rfl:neg=j:=by simpa using hs
  have:=OV neg A B n m c d _ _ w C D hn l;rw[aM,aM] at this;have e:zOf neg p+zOf neg q=zOf neg (p+q):=by cases neg<;>simp[zOf]<;>omega
  rwa[e]
def RM.j3{w A n c}{z:Int}(h:RM w A n c (bZ z.natAbs))(j:z.natAbs<lim):n<=400:=by
 have B:=h.len;have l:=jq j;omega
def lZ(z):zOf (decide (z<0)) z.natAbs=z:=by
 by_cases h:z<0<;>simp[zOf,h]<;>omega
def lU(z):zOf (!decide (z<0)) z.natAbs= -z:=by
 by_cases h:z<0<;>simp[zOf,h]<;>omega

def UJ(v u x y w)(L:RI w v x)(l:RI w u y)(M:x.natAbs<lim)(O:y.natAbs<lim):
  CV 196 #[v,u] w fun v w'=>mY (oZ (x+y)) v w':=by
 have S:=aJ (RI.valid L M);have C:=aJ (RI.valid l O);obtain⟨A,n,c,rfl,J⟩:=L;obtain⟨B,m,d,rfl,R⟩:=l;have hn:=J.j3 M;have Q:=R.j3 O;go_enter Tryz.func196,Tryz.ntmps196;(go_wp2_with fail);refine(gK _ A n c _ _ (J.ext (((Ext.new w _).alloc _).alloc _))).mono ?_;rintro e w1 ⟨rfl,H⟩;rw[S.o];have c0:=(iA H).cell;have c1:=(iP H).cell;(go_wp2_with fail);refine(gK _ B m d _ _ (R.ext (fF H))).mono ?_;rintro e w2 ⟨rfl,P⟩;rw[C.o];clear c0 c1;have P:=H.trans P;have c0:=(iA P).cell;have c1:=(iP P).cell;(go_wp2_with fail);clear c0 c1;refine(KF _ _ A B n m c d _ _ _ (J.ext (fF P)) (R.ext (fF P)) aa aa).mono ?_;rintro e T ⟨U,rfl,⟨u,rfl,A2,n2,c2,rfl,F⟩,j⟩;rw[lZ,lZ] at F;rw[lZ,lZ];exact AaJ
def U0(v u x y w)(L:RI w v x)(l:RI w u y)(M:x.natAbs<lim)(O:y.natAbs<lim):
  CV 200 #[v,u] w fun v w'=>mY (oZ (x-y)) v w':=by
 have S:=aJ (RI.valid L M);have C:=aJ (RI.valid l O);obtain⟨A,n,c,rfl,J⟩:=L;obtain⟨B,m,d,rfl,R⟩:=l;have hn:=J.j3 M;have Q:=R.j3 O;go_enter Tryz.func200,Tryz.ntmps200;(go_wp2_with fail);refine(gK _ A n c _ _ (J.ext (((Ext.new w _).alloc _).alloc _))).mono ?_;rintro e w1 ⟨rfl,H⟩;rw[S.o];have c0:=(iA H).cell;have c1:=(iP H).cell;(go_wp2_with fail);refine(gK _ B m d _ _ (R.ext (fF H))).mono ?_;rintro e w2 ⟨rfl,P⟩;rw[C.o];clear c0 c1;have P:=H.trans P;have c0:=(iA P).cell;have c1:=(iP P).cell;(go_wp2_with fail);clear c0 c1;refine(KF _ _ A B n m c d _ _ _ (J.ext (fF P)) (R.ext (fF P)) aa aa).mono ?_;rintro e T ⟨U,rfl,⟨u,rfl,A2,n2,c2,rfl,F⟩,j⟩;rw[lZ,lU,<-Int.sub_eq_add_neg] at F;rw[lZ,lU,<-Int.sub_eq_add_neg];exact AaJ
def RB(x y):zOf (decide (x<0) !=decide (y<0)) (x.natAbs*y.natAbs)=x*y:=by
 by_cases J:x<0
 .by_cases R:y<0
  .simp only[J,R,decide_true,bne_self_eq_false,zOf,Bool.false_eq_true,if_false];have l:(x.natAbs:Int)= -x:=aa;have j:(y.natAbs:Int)= -y:=aa
   push_cast;rw[l,j,Int.neg_mul_neg]
  .simp only[J,R,decide_true,decide_false,zOf];have l:(x.natAbs:Int)= -x:=aa;have j:(y.natAbs:Int)=y:=aa;simp only[show(true !=false)=true from rfl,if_true]
   push_cast;rw[l,j,Int.neg_mul,Int.neg_neg]
 .by_cases R:y<0
  .simp only[J,R,decide_true,decide_false,zOf];have l:(x.natAbs:Int)=x:=aa;have j:(y.natAbs:Int)= -y:=aa;simp only[show(false !=true)=true from rfl,if_true]
   push_cast;rw[l,j,Int.mul_neg,Int.neg_neg]
  .simp only[J,R,decide_false,bne_self_eq_false,zOf,Bool.false_eq_true,if_false];have l:(x.natAbs:Int)=x:=aa;have j:(y.natAbs:Int)=y:=aa
   push_cast;rw[l,j]
def F9(x y):zOf (!(decide (x<0)==decide (y<0))) (x.natAbs*y.natAbs)=x*y:=RB x y
def Ud(v u x y w)(L:RI w v x)(l:RI w u y)(M:x.natAbs<lim)(O:y.natAbs<lim):
  CV 197 #[v,u] w fun v w'=>mY (oZ (x*y)) v w':=by
 have S:=aJ (RI.valid L M);have F:=aJ (RI.valid l O);obtain⟨A,n,c,rfl,J⟩:=L;obtain⟨B,m,d,rfl,R⟩:=l;have hn:=J.j3 M;have hm:=R.j3 O;go_enter Tryz.func197,Tryz.ntmps197;(go_wp2_with fail);refine(gK _ A n c _ _ (J.ext (((Ext.new w _).alloc _).alloc _))).mono ?_;rintro e w1 ⟨rfl,H⟩;rw[S.o];have c0:=(iA H).cell;have c1:=(iP H).cell;(go_wp2_with fail);refine(gK _ B m d _ _ (R.ext (fF H))).mono ?_;rintro e w2 ⟨rfl,P⟩;rw[F.o];clear c0 c1;have P:=H.trans P;have c0:=(iA P).cell;have c1:=(iP P).cell;go_wp2;clear c0 c1;have Y0:=aK.blk (iA P);have Y1:=aK.blk (iP P);refine bz 13 [(true,0),(true,1),(true,2),(true,3),(true,4),(true,5),(true,6),(true,7),(true,8),(false,9),(false,10),(true,11),(true,12)] ah ah ?_;refine aS [0,1,2,3,4,5,6,7,8] [(false,9),(false,10),(true,11),(true,12)] _ ah ?_;simp only[bO,aV,List.cons_append,List.nil_append];(repeat (go_big_quiet_step (fail)));refine wpQuiet_nil ?_;refine aR 9 [(false,10),(true,11),(true,12)] ah ?_;intro K I;simp only[aV];(go_wp2_with fail);refine(IM A B n m c d _ _ _ (J.ext (fF P).drew) (R.ext (fF P).drew) aa aa).mono ?_;rintro e U ⟨v1,rfl,⟨A1,n1,c1,rfl,hR⟩,D⟩;have D:=Ext.jd D;go_wp2;refine I _ _ ⟨⟨U,D⟩,rfl⟩ ?_;clear I K;refine aR 10 [(true,11),(true,12)] ah ?_;intro K I;simp only[aV];(go_wp2_with fail);refine(iF _ A1 n1 c1 _ _ hR).mono ?_;rintro e Z ⟨v5,rfl,⟨u,rfl,A2,n2,c2,rfl,N⟩,j⟩;have j:=D.trans j;go_wp2;refine I _ _ ⟨⟨Z,j⟩,rfl⟩ ?_;clear I K;rw[aM,aM,aM,F9] at N;simp only[aM,F9];refine aS [11,12] [] _ ah ?_;simp only[bO,aV,List.cons_append,List.nil_append];(repeat (go_big_quiet_step (fail)));refine wpQuiet_nil ?_;have C:=P.trans j;simp only[bP,List.drop_succ_cons,List.drop_zero];have b4:=lJ C;have c4:=b4.cell;have f4:=b4.frozen;obtain⟨T,Q,G⟩:=je (fF C) aa b4 _ A2 n2 c2;have Y:=aJ T;have V:=aJ Q;have W:=aJ (G _ _ _ _ N);clear T Q G;exact AbH
def Od{x y}(h:decide (x<0)=decide (y<0)):zOf (decide (x<0)) (x.natAbs+y.natAbs)=x+y:=by
 by_cases J:x<0
 .have R:y<0:=by simpa[J] using h
  simp[zOf,J];omega
 .have R:¬y<0:=by simpa[J] using h
  simp[zOf,J];omega
def FY{x y}(h:¬decide (x<0)=decide (y<0))(G:y.natAbs<=x.natAbs):zOf (decide (x<0)) (x.natAbs-y.natAbs)=x+y:=by
 by_cases J:x<0
 .have R:¬y<0:=by simpa[J] using h
  simp[zOf,J];omega
 .have R:y<0:=by simpa[J] using h
  simp[zOf,J];omega
def Nf(v u x y w)(L:RI w v x)(l:RI w u y)(M:x.natAbs<lim)(O:y.natAbs<lim)(hs:decide (x<0)=decide (y<0)):
  CV 152 #[v,u] w fun v w'=>mY (oZ (x+y)) v w':=by
 have S:=aJ (RI.valid L M);have U:=aJ (RI.valid l O);obtain⟨A,n,c,rfl,J⟩:=L;obtain⟨B,m,d,rfl,R⟩:=l;have hn:=J.j3 M;have hm:=R.j3 O;have WG:(decide (x<0)==decide (y<0))=true:=by simpa using hs
 have HS:=aJ hs;clear hs;go_enter Tryz.func152,Tryz.ntmps152;(go_wp2_with fail);refine(fE _ A n c _ _ (J.ext (((Ext.new w _).alloc _).alloc _))).mono ?_;rintro e w1 ⟨rfl,H⟩;rw[S.o];have c0:=(iA H).cell;have c1:=(iP H).cell;(go_wp2_with fail);refine(fE _ B m d _ _ (R.ext (fF H))).mono ?_;rintro e w2 ⟨rfl,P⟩;rw[U.o];clear c0 c1;have P:=H.trans P;have c0:=(iA P).cell;have c1:=(iP P).cell;go_wp2;clear c0 c1;have Y0:=aK.blk (iA P);have Y1:=aK.blk (iP P);refine bz 11 [(true,0),(true,1),(true,2),(true,3),(true,4),(true,5),(false,6),(false,7),(false,8),(true,9),(true,10)] ah ah ?_;refine aS [0,1,2,3,4,5] [(false,6),(false,7),(false,8),(true,9),(true,10)] _ ah ?_;simp only[bO,aV,List.cons_append,List.nil_append];(repeat (go_big_quiet_step (fail)));refine wpQuiet_nil ?_;refine aR 6 [(false,7),(false,8),(true,9),(true,10)] ah ?_;intro K I;simp only[aV];(go_wp2_with fail);refine(Da A B n m c d _ _ _ (J.ext (fF P).drew) (R.ext (fF P).drew) aa aa).mono ?_;rintro e w3 ⟨v1,rfl,⟨l1,⟨A1,n1,c1,rfl,Z⟩,N,T⟩,D⟩;have D:=Ext.jd D;go_wp2;refine I _ _ ⟨⟨w3,D⟩,rfl⟩ ?_;clear I K;rw[aM,aM] at N;have G:n1<=1000000:=by have:=Z.len;omega
 refine aR 7 [(false,8),(true,9),(true,10)] ah ?_;intro K I;simp only[aV];(go_wp2_with fail);refine(iq _ A1 n1 c1 _ _ Z G).mono ?_;rintro e w4 ⟨v4,rfl,C,Q⟩;have Q:=D.trans Q;go_wp2;refine I _ _ ⟨⟨w4,Q⟩,rfl⟩ ?_;clear I K;rw[N,Od HS.o] at C;refine aR 8 [(true,9),(true,10)] ah ?_;intro K I;simp only[aV];(go_wp2_with fail);refine(kK v4 _ _ C).mono ?_;rintro e w5 ⟨v5,rfl,⟨u,rfl,A2,n2,c2,rfl,hI⟩,j⟩;have j:=Q.trans j;go_wp2;refine I _ _ ⟨⟨w5,j⟩,rfl⟩ ?_;clear I K;refine aS [9,10] [] _ ah ?_;simp only[bO,aV,List.cons_append,List.nil_append];(repeat (go_big_quiet_step (fail)));refine wpQuiet_nil ?_;have F:=P.trans j;simp only[bP,List.drop_succ_cons,List.drop_zero];have b4:=lJ F;have c4:=b4.cell;have f4:=b4.frozen;obtain⟨k1,Y,W⟩:=je (fF F) aa b4 _ A2 n2 c2;have K1:=aJ k1;have V:=aJ Y;have K3:=aJ (W _ _ _ _ hI);clear k1 Y W;go_wp2;exact ic rfl rfl rfl V.o ⟨_,rfl,⟨_,rfl,_,_,_,rfl,K3.o⟩,K1.o⟩
def SS(v u x y w)(L:RI w v x)(l:RI w u y)(M:x.natAbs<lim)(O:y.natAbs<lim)(hs:¬decide (x<0)=decide (y<0))(G:y.natAbs<=x.natAbs):
  CV 152 #[v,u] w fun v w'=>mY (oZ (x+y)) v w':=by
 have S:=aJ (RI.valid L M);have Z:=aJ (RI.valid l O);obtain⟨A,n,c,rfl,J⟩:=L;obtain⟨B,m,d,rfl,R⟩:=l;have hn:=J.j3 M;have hm:=R.j3 O;have WG:(decide (x<0)==decide (y<0))=false:=by simpa using hs
 have HS:=aJ hs;clear hs;have W:=aJ G;clear G;have N:m<=n:=by
  have h0:=W.o;have h1:=J.len;have h2:=R.len;have h3:=dX (n:=y.natAbs) (k:=n) (Nat.lt_of_le_of_lt (show y.natAbs<=x.natAbs by omega) (dN aa));omega
 go_enter Tryz.func152,Tryz.ntmps152;(go_wp2_with fail);refine(fE _ A n c _ _ (J.ext (((Ext.new w _).alloc _).alloc _))).mono ?_;rintro e w1 ⟨rfl,H⟩;rw[S.o];have c0:=(iA H).cell;have c1:=(iP H).cell;(go_wp2_with fail);refine(fE _ B m d _ _ (R.ext (fF H))).mono ?_;rintro e w2 ⟨rfl,P⟩;rw[Z.o];clear c0 c1;have P:=H.trans P;have c0:=(iA P).cell;have c1:=(iP P).cell;(go_wp2_with fail);clear c0 c1;refine(ig A B n m c d _ _ _ (J.ext (fF P)) (R.ext (fF P)) (bJ _) (bJ _)).mono ?_;rintro e w0 ⟨rfl,F⟩;rw[aM,aM];have T:=KG W.o;have P:=P.trans F;have c0:=(iA P).cell;have c1:=(iP P).cell;go_wp2;clear c0 c1 T;have Y0:=aK.blk (iA P);have Y1:=aK.blk (iP P);refine bz 11 [(true,0),(true,1),(true,2),(true,3),(true,4),(true,5),(false,6),(false,7),(false,8),(true,9),(true,10)] ah ah ?_;refine aS [0,1,2,3,4,5] [(false,6),(false,7),(false,8),(true,9),(true,10)] _ ah ?_;simp only[bO,aV,List.cons_append,List.nil_append];(repeat (go_big_quiet_step (fail)));refine wpQuiet_nil ?_;refine aR 6 [(false,7),(false,8),(true,9),(true,10)] ah ?_;intro K I;simp only[aV];(go_wp2_with fail);refine(uN A B n m c d _ _ _ (J.ext (fF P).drew) (R.ext (fF P).drew) aa N (by rw[aM,aM];have:=W.o;omega)).mono ?_;rintro e w3 ⟨v1,rfl,⟨A1,n1,c1,rfl,hR⟩,D⟩;have D:=Ext.jd D;go_wp2;refine I _ _ ⟨⟨w3,D⟩,rfl⟩ ?_;clear I K;rw[aM,aM] at hR;have Y:n1<=1000000:=by
  have h1:=hR.len;have h2:=jq (m:=x.natAbs-y.natAbs) aa;omega
 refine aR 7 [(false,8),(true,9),(true,10)] ah ?_;intro K I;simp only[aV];(go_wp2_with fail);refine(iq _ A1 n1 c1 _ _ hR Y).mono ?_;rintro e w4 ⟨v4,rfl,C,Q⟩;have Q:=D.trans Q;go_wp2;refine I _ _ ⟨⟨w4,Q⟩,rfl⟩ ?_;clear I K;rw[aM,FY HS.o W.o] at C;exact Aau
def QR(v u x y w)(L:RI w v x)(l:RI w u y)(M:x.natAbs<lim)(O:y.natAbs<lim)(hs:¬decide (x<0)=decide (y<0))(G:x.natAbs<y.natAbs):
  CV 152 #[v,u] w fun v w'=>mY (oZ (x+y)) v w':=by
 have S:=aJ (RI.valid L M);have Z:=aJ (RI.valid l O);obtain⟨A,n,c,rfl,J⟩:=L;obtain⟨B,m,d,rfl,R⟩:=l;have hn:=J.j3 M;have hm:=R.j3 O;have WG:(decide (x<0)==decide (y<0))=false:=by simpa using hs
 have HS:=aJ hs;clear hs;have W:=aJ G;clear G;have N:n<=m:=by
  have h0:=W.o;have h1:=R.len;have h2:=J.len;have h3:=dX (n:=x.natAbs) (k:=m) (Nat.lt_of_le_of_lt (show x.natAbs<=y.natAbs by omega) (dN aa));omega
 go_enter Tryz.func152,Tryz.ntmps152;(go_wp2_with fail);refine(fE _ A n c _ _ (J.ext (((Ext.new w _).alloc _).alloc _))).mono ?_;rintro e w1 ⟨rfl,H⟩;rw[S.o];have c0:=(iA H).cell;have c1:=(iP H).cell;(go_wp2_with fail);refine(fE _ B m d _ _ (R.ext (fF H))).mono ?_;rintro e w2 ⟨rfl,P⟩;rw[Z.o];clear c0 c1;have P:=H.trans P;have c0:=(iA P).cell;have c1:=(iP P).cell;(go_wp2_with fail);clear c0 c1;refine(ig A B n m c d _ _ _ (J.ext (fF P)) (R.ext (fF P)) (bJ _) (bJ _)).mono ?_;rintro e w0 ⟨rfl,F⟩;rw[aM,aM];have T:=Le W.o;have P:=P.trans F;have c0:=(iA P).cell;have c1:=(iP P).cell;go_wp2;clear c0 c1 T;have Y0:=aK.blk (iA P);have Y1:=aK.blk (iP P);refine bz 11 [(true,0),(true,1),(true,2),(true,3),(true,4),(true,5),(false,6),(false,7),(false,8),(true,9),(true,10)] ah ah ?_;refine aS [0,1,2,3,4,5] [(false,6),(false,7),(false,8),(true,9),(true,10)] _ ah ?_;simp only[bO,aV,List.cons_append,List.nil_append];(repeat (go_big_quiet_step (fail)));refine wpQuiet_nil ?_;refine aR 6 [(false,7),(false,8),(true,9),(true,10)] ah ?_;intro K I;simp only[aV];(go_wp2_with fail);refine(uN B A m n d c _ _ _ (R.ext (fF P).drew) (J.ext (fF P).drew) aa N (by rw[aM,aM];have:=W.o;omega)).mono ?_;rintro e w3 ⟨v1,rfl,⟨A1,n1,c1,rfl,hR⟩,D⟩;have D:=Ext.jd D;go_wp2;refine I _ _ ⟨⟨w3,D⟩,rfl⟩ ?_;clear I K;rw[aM,aM] at hR;have Y:n1<=1000000:=by
  have h1:=hR.len;have h2:=jq (m:=y.natAbs-x.natAbs) aa;omega
 refine aR 7 [(false,8),(true,9),(true,10)] ah ?_;intro K I;simp only[aV];(go_wp2_with fail);refine(iq _ A1 n1 c1 _ _ hR Y).mono ?_;rintro e w4 ⟨v4,rfl,C,Q⟩;have Q:=D.trans Q;go_wp2;refine I _ _ ⟨⟨w4,Q⟩,rfl⟩ ?_;clear I K;rw[aM,FY (fun h=>HS.o h.symm) (Nat.le_of_lt W.o),Int.add_comm] at C;exact Aau
def Rl(v u x y w)(L:RI w v x)(l:RI w u y)(M:x.natAbs<lim)(O:y.natAbs<lim):
  CV 152 #[v,u] w fun v w'=>mY (oZ (x+y)) v w':=by
 by_cases hs:decide (x<0)=decide (y<0)
 .exact Nf v u x y w L l M O hs
 .rcases Nat.lt_or_ge x.natAbs y.natAbs with h|h
  .exact QR v u x y w L l M O hs h
  .exact SS v u x y w L l M O hs h
def nQ{w w1}{x r:Obj}(J:Ext ((w.alloc x).alloc r) w1):Ext w w1:=((Ext.new w _).alloc _).trans J
def CY{w w1:World}{cs t}{r:Obj}(J:Ext ((w.alloc (.cells cs t)).alloc r) w1):Blk w1 w.heap.size t cs:=((Blk.new w t cs).alloc _).ext J
def yt{w w1:World}{cs t}{x:Obj}(J:Ext ((w.alloc x).alloc (.cells cs t)) w1):Blk w1 (w.heap.size+1) t cs:=(Blk.new' t cs ag).ext J
def UA(v x z w)(L:RI w v x)(M:x.natAbs<lim)(O:z= -x):
  CV 199 #[v] w fun v w'=>mY (z,0) v w':=by
 have N:=aJ O;have S:=aJ (RI.valid L M);obtain⟨A,n,c,rfl,J⟩:=L;have hn:=J.j3 M;have F:=aJ (kW (z:=z) aa);clear O;go_enter Tryz.func199,Tryz.ntmps199;(go_wp2_with fail);refine(gK _ A n c _ _ (J.ext ((Ext.new w _).alloc _))).mono ?_;rintro e w1 ⟨rfl,H⟩;rw[S.o];go_wp2;have Y:=aK.blk (CY H);refine bz 9 [(true,0),(true,1),(true,2),(true,3),(true,4),(false,5),(false,6),(true,7),(true,8)] ah ah ?_;refine aS [0,1,2,3,4] [(false,5),(false,6),(true,7),(true,8)] _ ah ?_;simp only[bO,aV,List.cons_append,List.nil_append];(repeat (go_big_quiet_step (fail)));refine wpQuiet_nil ?_;refine aR 5 [(false,6),(true,7),(true,8)] ah ?_;intro K I;simp only[aV];(go_wp2_with fail);refine(sS A n c _ _ (J.ext (nQ H).drew) aa).mono ?_;rintro e Q ⟨v1,rfl,⟨A1,n1,c1,rfl,W⟩,D⟩;have D:=Ext.jd D;go_wp2;refine I _ _ ⟨⟨Q,D⟩,rfl⟩ ?_;clear I K;refine aR 6 [(true,7),(true,8)] ah ?_;intro K I;simp only[aV];(go_wp2_with fail);refine(iF _ A1 n1 c1 _ _ W).mono ?_;rintro e U ⟨v5,rfl,⟨u,rfl,A2,n2,c2,rfl,C⟩,j⟩;have j:=D.trans j;go_wp2;refine I _ _ ⟨⟨U,j⟩,rfl⟩ ?_;clear I K;rw[aM,lU,<-N.o,F.o] at C;simp only[aM,lU,<-N.o,F.o];refine aS [7,8] [] _ ah ?_;simp only[bO,aV,List.cons_append,List.nil_append];(repeat (go_big_quiet_step (fail)));refine wpQuiet_nil ?_;have l:=H.trans j;simp only[bP,List.drop_succ_cons,List.drop_zero];have b4:=yt l;have c4:=b4.cell;have Z:=b4.frozen;obtain⟨P,G,B⟩:=je (nQ l) aa b4 _ A2 n2 c2;have T:=aJ P;have V:=aJ G;have R:=aJ (B _ _ _ _ C);clear P G B;go_wp2;exact ic rfl rfl rfl V.o ⟨_,rfl,⟨_,rfl,_,_,_,rfl,R.o⟩,T.o⟩
def Ta(v x z w)(L:RI w v x)(M:x.natAbs<lim)(F:z= -x):
  CV 181 #[v] w fun v w'=>mY (z,0) v w':=by
 have D:=aJ F;have S:=aJ (RI.valid L M);obtain⟨A,n,c,rfl,J⟩:=L;have hn:=J.j3 M;clear F;go_enter Tryz.func181,Tryz.ntmps181;(go_wp2_with fail);refine(fE _ A n c _ _ (J.ext ((Ext.new w _).alloc _))).mono ?_;rintro e w1 ⟨rfl,H⟩;rw[S.o];have c0:=(CY H).cell;(go_wp2_with fail);clear c0;refine(iq _ A n c _ _ (J.ext (nQ H)) aa).mono ?_;rintro e N ⟨O,rfl,⟨A2,n2,c2,rfl,B⟩,j⟩;rw[aM,lU,<-D.o] at B;rw[aM,lU,<-D.o];have j:=H.trans j;have b4:=yt j;have c4:=b4.cell;have P:=b4.frozen;obtain⟨G,C,l⟩:=je (nQ j) aa b4 _ A2 n2 c2;have K:=aJ G;have V:=aJ C;have I:=aJ (l _ _ _ _ B);clear G C l;go_wp2;exact ic rfl rfl rfl V.o ⟨_,rfl,⟨_,rfl,_,_,_,rfl,I.o⟩,K.o⟩

def RY(v u x y w)(L:RI w v x)(l:RI w u y)(M:x.natAbs<lim)(O:y.natAbs<lim):
  CV 148 #[v,u] w fun v w'=>mY (oZ (x-y)) v w':=by
 obtain⟨z,T⟩:∃z,z= -y:=⟨_,rfl⟩;have S:=aJ (RI.valid L M);obtain⟨A,n,c,rfl,J⟩:=L;obtain⟨B,m,d,rfl,R⟩:=l;have C:z.natAbs<lim:=aa;have F:=aJ T;clear T;go_enter Tryz.func148,Tryz.ntmps148;(go_wp2_with fail);refine(Ta (iv (decide (y<0)) B m d) y z _ (show RI _ _ _ from ⟨_,_,_,rfl,R.ext (((Ext.new w _).alloc _).alloc _)⟩) O F.o).mono ?_;rintro e w1 ⟨v1,rfl,⟨u1,rfl,A1,n1,c1,rfl,G⟩,H⟩;have D:=((iA H).alloc (.cells #[.bool (decide (z<0)),.slice A1 n1 c1] 40)).cell;(go_wp2_with fail);refine(fE _ A n c _ _ (J.ext ((fF H).alloc _))).mono ?_;rintro e w2 ⟨rfl,P⟩;clear D;rw[S.o];have D:=((iA H).ext ((Ext.new w1 _).trans P)).cell;have b1:=((Blk.new w1 40 #[.bool (decide (z<0)),.slice A1 n1 c1]).ext P).cell;have N:=H.trans ((Ext.new w1 _).trans P);(go_wp2_with fail);clear D b1;refine(Rl _ _ x z _ (show RI _ _ _ from ⟨_,_,_,rfl,J.ext (fF N)⟩) (show RI _ _ _ from ⟨_,_,_,rfl,G.ext ((Ext.new w1 _).trans P)⟩) M C).mono ?_;rintro e Z ⟨v2,rfl,⟨u,rfl,A2,n2,c2,rfl,K⟩,j⟩;rw[F.o,<-Int.sub_eq_add_neg] at K;rw[show x+z=x-y by rw[F.o,Int.sub_eq_add_neg]];have j:=N.trans j;have b4:=lJ j;have c4:=b4.cell;have f4:=b4.frozen;obtain⟨U,Q,I⟩:=je (fF j) aa b4 _ A2 n2 c2;have Y:=aJ U;have V:=aJ Q;have W:=aJ (I _ _ _ _ K);clear U Q I;exact AbH

def rQ (a b:Int):Int:=if a<b then-1 else if b<a then 1 else 0
theorem LM{x y}(J:x<0)(R:¬y<0): -1=rQ x y:=by unfold rQ;rw[if_pos aa]
theorem KJ{x y}(J:¬x<0)(R:y<0):1=rQ x y:=by unfold rQ;rw[if_neg aa,if_pos aa]
theorem LB{x y}(J:¬x<0)(R:¬y<0):mI x.natAbs y.natAbs=rQ x y:=by
 unfold rQ mI;by_cases l:x<y
 .rw[if_pos l,if_pos aa]
 .rw[if_neg l,if_neg aa];by_cases j:y<x
  .rw[if_pos j,if_pos aa]
  .rw[if_neg j,if_neg aa]
theorem LA{x y}(J:x<0)(R:y<0):mI y.natAbs x.natAbs=rQ x y:=by
 unfold rQ mI;by_cases l:x<y
 .rw[if_pos l,if_pos aa]
 .rw[if_neg l,if_neg aa];by_cases j:y<x
  .rw[if_pos j,if_pos aa]
  .rw[if_neg j,if_neg aa]
def Jz(v u x y w)(L:RI w v x)(l:RI w u y)(M:x.natAbs<lim)(O:y.natAbs<lim):
  CE 52 #[v,u] w (.int .i64 (rQ x y)):=by
 have S:=aJ (RI.valid L M);have F:=aJ (RI.valid l O);obtain⟨A,n,c,rfl,J⟩:=L;obtain⟨B,m,d,rfl,R⟩:=l;go_enter Tryz.func52,Tryz.ntmps52;(go_wp2_with fail);refine(gK _ A n c _ _ (J.ext ((Ext.new w _).alloc _))).mono ?_;rintro e w1 ⟨rfl,H⟩;rw[S.o];have c0:=(CY H).cell;have c1:=(yt H).cell;(go_wp2_with fail);refine(gK _ B m d _ _ (R.ext (nQ H))).mono ?_;rintro e w2 ⟨rfl,P⟩;rw[F.o];clear c0 c1;have P:=H.trans P;have c0:=(CY P).cell;have c1:=(yt P).cell;by_cases G:x<0
 .have K:decide (x<0)=true:=decide_eq_true G;by_cases C:y<0
  .have D:decide (y<0)=true:=decide_eq_true C;(go_wp2_with fail);clear c0 c1;refine(iE B A m n d c _ _ _ (R.ext (nQ P)) (J.ext (nQ P)) (bJ _) (bJ _)).mono ?_;exact Abl
  .exact AcR
 .have K:decide (x<0)=false:=decide_eq_false G;by_cases C:y<0
  .exact Ac9
  .have D:decide (y<0)=false:=decide_eq_false C;(go_wp2_with fail);clear c0 c1;refine(iE A B n m c d _ _ _ (J.ext (nQ P)) (R.ext (nQ P)) (bJ _) (bJ _)).mono ?_;exact Ack
def FH(v u x y w)(L:RI w v x)(l:RI w u y)(M:x.natAbs<lim)(O:y.natAbs<lim):
  CE 147 #[v,u] w (.int .i64 (rQ x y)):=by
 have S:=aJ (RI.valid L M);have F:=aJ (RI.valid l O);obtain⟨A,n,c,rfl,J⟩:=L;obtain⟨B,m,d,rfl,R⟩:=l;go_enter Tryz.func147,Tryz.ntmps147;(go_wp2_with fail);refine(fE _ A n c _ _ (J.ext ((Ext.new w _).alloc _))).mono ?_;rintro e w1 ⟨rfl,H⟩;rw[S.o];have c0:=(CY H).cell;have c1:=(yt H).cell;(go_wp2_with fail);refine(fE _ B m d _ _ (R.ext (nQ H))).mono ?_;rintro e w2 ⟨rfl,P⟩;rw[F.o];clear c0 c1;have P:=H.trans P;have c0:=(CY P).cell;have c1:=(yt P).cell;by_cases G:x<0
 .have K:decide (x<0)=true:=decide_eq_true G;by_cases C:y<0
  .have D:decide (y<0)=true:=decide_eq_true C;(go_wp2_with fail);clear c0 c1;refine(ig B A m n d c _ _ _ (R.ext (nQ P)) (J.ext (nQ P)) (bJ _) (bJ _)).mono ?_;exact Abl
  .exact AcR
 .have K:decide (x<0)=false:=decide_eq_false G;by_cases C:y<0
  .exact Ac9
  .have D:decide (y<0)=false:=decide_eq_false C;(go_wp2_with fail);clear c0 c1;refine(ig A B n m c d _ _ _ (J.ext (nQ P)) (R.ext (nQ P)) (bJ _) (bJ _)).mono ?_;exact Ack
theorem Tk(v x w)(L:RI w v x)(M:x.natAbs<lim):
  CE 143 #[v] w (.int .i64 (rQ x 0)):=by
 obtain⟨A,n,c,rfl,J⟩:=L;go_enter Tryz.func143,Tryz.ntmps143;(go_wp2_with fail);refine(Jz _ _ x 0 _ (show RI _ _ _ from ⟨_,_,_,rfl,J.ext (Ext.new w _)⟩) (RI.zero _) M (by unfold lim;exact Nat.pow_pos aa)).mono ?_;exact AbF
theorem Qz(v x w)(L:RI w v x)(M:x.natAbs<lim):
  CE 99 #[v] w (.int .i64 (rQ x 0)):=by
 obtain⟨A,n,c,rfl,J⟩:=L;go_enter Tryz.func99,Tryz.ntmps99;(go_wp2_with fail);refine(FH _ _ x 0 _ (show RI _ _ _ from ⟨_,_,_,rfl,J.ext (Ext.new w _)⟩) (RI.zero _) M (by unfold lim;exact Nat.pow_pos aa)).mono ?_;exact AbF
def Ru{x:Nat}(J:x<18446744073709551616):bits .or .u64 ((0:Nat):Int) (x:Int)=(x:Int):=by
 rw[u64_or_nat 0 x aa J];simp
def Tz{a x:Nat}(ha:a<4294967296)(J:x<4294967296):bits .or .u64 (a:Int) ((x:Int)*4294967296)=((a+4294967296*x:Nat):Int):=by
 rw[u64_or32 _ _ aa aa aa aa aa];omega
def or_hi{a x:Nat}(ha:a<4294967296)(J:x<4294967296):bits .or .u64 ((a:Int)*4294967296) (x:Int)=((x+4294967296*a:Nat):Int):=by
 rw[bits_join .u64 64 aj wraps_u64 32 _ _ aa aa aa aa aa aa];omega
def G5(A n c l w)(h:RM w A n c l)(hn:n<=2):
  Calls Tryz.prog 202 #[.slice A n c] w fun e w'=>e=.returned (.int .u64 (val l:Int))/\w=w':=by
 have H:=aJ h.len;go_enter Tryz.func202,Tryz.ntmps202;go_wp2;go_loop [3,8] (fun wv i=>∃k:Nat,k<=n/\i=.int .i64 k/\wv=.int .u64 (val (l.take k):Int)) (fun _ i=>n-(intOf i).toNat)
 case atStart=>exact⟨0,aa,rfl,rfl⟩
 case round=>
  obtain⟨k,L,rfl,rfl⟩:=hrel;by_cases C:k<n
  .obtain⟨F,x,rfl,_,J,D,K⟩:=h.at_ C;have G:=aJ (bF J);rcases(show k=0\/k=1 by omega) with rfl|rfl
   .have I:val (l.take 0)=0:=rfl;have B:w.cell? F=some (.int .u32 (x:Int)):=K;clear J;go_wp2;go_round
    case rel=>exact⟨1,aa,au,congrArg (fun z:Int=>Value.int .u64 z) (by rw[show bits .or .u64 ((val []:Nat):Int) (x:Int)=(x:Int) from Ru aa,G.o];simp[val])⟩
    case measure=>simp[intOf]<;>omega
   .have hb:=lQ (h.dg.take 1);rw[List.length_take] at hb;have j:val (l.take 1)<4294967296:=Nat.lt_of_lt_of_le hb (by have:=H.o;rw[Nat.min_eq_left aa];exact Nat.le_refl _);clear hb J;have B:w.cell? ⟨F.block,F.off+1,none⟩=some (.int .u32 (x:Int)):=by simpa[Addr.add] using K
    go_wp2;go_round
    case rel=>exact⟨2,aa,au,congrArg (fun z:Int=>Value.int .u64 z) (by rw[Tz j D,G.o])⟩
    case measure=>simp[intOf]<;>omega
  .go_wp2;go_ret;exact⟨aL (by rw[List.take_of_length_le (by rw[H.o];omega)]),rfl⟩
def Qw{m}(h:m<18446744073709551616):18446744073709551615^^^m=18446744073709551615-m:=by
 have j:(BitVec.allOnes 64^^^BitVec.ofNat 64 m).toNat=(BitVec.allOnes 64).toNat^^^(BitVec.ofNat 64 m).toNat:=BitVec.toNat_xor _ _;rw[BitVec.allOnes_xor,BitVec.toNat_not,BitVec.toNat_ofNat,BitVec.toNat_allOnes,Nat.mod_eq_of_lt aa] at j;exact j.symm
def R6{m:Nat}(h:m<18446744073709551616):bits .xor .u64 IntKind.u64.max (m:Int)=((18446744073709551615-m:Nat):Int):=by
 rw[show IntKind.u64.max=((18446744073709551615:Nat):Int) from rfl,u64_xor_nat _ _ aa h,Qw h]
def uW{l:List Nat}{k x}(h:l[k]? =some x):val (l.drop k)=x+4294967296*val (l.drop (k+1)):=by
 obtain⟨j,rfl⟩:=List.getElem?_eq_some_iff.1 h;rw[List.drop_eq_getElem_cons j,val]
theorem ML{p q}:(mI p q==0)=decide (p=q):=by
 unfold mI;rcases Nat.lt_trichotomy p q with h|h|h
 .simp[h];omega
 .simp[h]
 .have:¬p<q:=aa;simp[h,this];omega
def NS{x y:Int}(h:decide (x<0)=decide (y<0)):decide (x.natAbs=y.natAbs)=decide (x=y):=by
 by_cases J:x<0
 .have R:y<0:=by simpa[J] using h
  rw[decide_eq_decide];omega
 .have R:¬y<0:=by simpa[J] using h
  rw[decide_eq_decide];omega
def MB(v u x y w)(L:RI w v x)(l:RI w u y):
  CE 69 #[v,u] w (.bool (decide (x=y))):=by
 obtain⟨A,n,c,rfl,J⟩:=L;obtain⟨B,m,d,rfl,R⟩:=l;by_cases hs:decide (x<0)=decide (y<0)
 .have C:(decide (x<0)==decide (y<0))=true:=by simpa using hs
  have D:=aJ hs;clear hs;go_enter Tryz.func69,Tryz.ntmps69;(go_wp2_with fail);refine(ig A B n m c d _ _ _ (J.ext ((Ext.new w _).alloc _)) (R.ext ((Ext.new w _).alloc _)) (bJ _) (bJ _)).mono ?_;rintro e w1 ⟨rfl,H⟩;go_wp2;go_ret;refine⟨aQ ?_,((Ext.new w _).alloc _).trans H⟩;rw[aM,aM,ML,NS D.o]
 .have C:(decide (x<0)==decide (y<0))=false:=by simpa using hs
  have j:x≠y:=fun e=>hs (by rw[e]);go_enter Tryz.func69,Tryz.ntmps69;go_wp2;go_ret;exact⟨aQ (by simp[j]),(Ext.new w _).alloc _⟩
def Ow{m:Nat}(j:0<m)(h:m<=9223372036854775808):IntKind.u64.wrap (bits .xor .u64 IntKind.u64.max (IntKind.u64.wrap (-(m:Int)))+1)=(m:Int):=by
 have e:IntKind.u64.wrap (-(m:Int))=((18446744073709551616-m:Nat):Int):=by rw[jl];omega
 rw[e,R6 aa,jl];omega
def Rj(n w)(N: -9223372036854775808<=n)(M:n<=9223372036854775807):
  CV 102 #[.int .i64 n] w fun v w'=>RI w' v n:=by
 obtain⟨z,C⟩:∃z,z=n:=⟨_,rfl⟩;by_cases R:n<0
 .obtain⟨m,rfl⟩:∃m:Nat,n= -(m:Int):=⟨n.natAbs,aa⟩;rw[<-C];have l:=aJ C;clear C;rw[l.o];go_enter Tryz.func102,Tryz.ntmps102;(go_wp2_with fail);rw[Ow aa aa];refine(pG m _ aa).mono ?_;rintro e w1 ⟨v1,rfl,⟨A1,n1,c1,rfl,I⟩,H⟩;(go_wp2_with fail);have B:n1<=1000000:=by
   have N:=I.len;have M:=dX (n:=m) (k:=2) aa;omega
  refine(iq true A1 n1 c1 _ _ I B).mono ?_;rintro e O ⟨P,rfl,⟨A2,n2,c2,rfl,F⟩,j⟩;rw[aM,Ey,<-l.o] at F;rw[aM,Ey,<-l.o];exact AaE
 .obtain⟨m,rfl⟩:∃m:Nat,n=(m:Int):=⟨n.natAbs,aa⟩;rw[<-C];have l:=aJ C;clear C;rw[l.o];go_enter Tryz.func102,Tryz.ntmps102;(go_wp2_with fail);refine(pG m _ aa).mono ?_;rintro e w1 ⟨v1,rfl,⟨A1,n1,c1,rfl,I⟩,H⟩;(go_wp2_with fail);have B:n1<=1000000:=by
   have N:=I.len;have M:=dX (n:=m) (k:=2) aa;omega
  refine(iq false A1 n1 c1 _ _ I B).mono ?_;rintro e O ⟨P,rfl,⟨A2,n2,c2,rfl,F⟩,j⟩;rw[aM,yT,<-l.o] at F;rw[aM,yT,<-l.o];exact AaE
def xG (w:World) (g:Nat) (p:List Nat) (r:List Value):Prop:=Blk w g 208 (mg p++r).toArray/\Dig p
section
variable {w w':World} {g k d n c:Nat} {p:List Nat} {r:List Value} {z:Int}
def xG.at_(h:xG w g p r)(l:k<p.length):∃z,p[k]? =some z/\z<4294967296/\w.cell? ⟨g,k,none⟩=some (.int .u32 (z:Int))/\w.frozen? ⟨g,k,none⟩=false:=by
 have j:p[k]? =some p[k]:=List.getElem?_eq_getElem l;refine⟨p[k],j,h.2.at_ j,?_,h.1.frozen k⟩;rw[h.1.cell];have:=oz j;rw[List.getElem?_toArray,List.getElem?_append_left (by rw[pV];exact l)];exact this
def xG.set(h:xG w g p r)(j:k<p.length)(l:z=(d:Int))(hd:d<4294967296):xG (w.setCell ⟨g,k,none⟩ (.int .u32 z)) g (p.set k d) r:=by
 have:=h.1.Pk (i:=k) (.int .u32 z);rw[List.set_append_left _ _ (by rw[pV];exact j),Eh l] at this;exact⟨this,h.2.set k hd⟩
def xG.rm(h:xG w g p r)(hn:p.length=n)(hc:n<=c)(B:c<=9223372036854775807):RM w (some ⟨g,0,none⟩) n c p:=by
 refine⟨⟨by rw[pV];omega,fun _=>⟨_,rfl,h.1.lt,fun j u l=> ?_⟩⟩,h.2,hc,B⟩;rw[QA,h.1.cell,List.getElem?_toArray,List.getElem?_append_left]
 .exact l
 .exact(List.getElem?_eq_some_iff.1 l).1
def xG.jJ{base v}(h:w.ownsRow base 208 1 v n (mg p))(hd:Dig p):(v=.slice none 0 0/\n=0/\p=[])\/∃g G r,v=.slice (some ⟨g,0,none⟩) n G/\base<=g/\xG w g p r/\n<=G/\G<=9223372036854775807:=by
 rcases h.2 with ⟨l,j⟩|⟨g,G,cur,l,j,D,F,C,H,B⟩
 .refine .inl ⟨l,j,?_⟩;have:=h.1;rw[pV,j] at this;exact List.eq_nil_of_length_eq_zero aa
 .refine .inr ⟨g,G,cur.toList.drop n,l,j,⟨?_,hd⟩,F,C⟩;rw[<-B,Nat.mul_one,List.take_append_drop];exact D
end
def Rt{p q:List Nat}{j y}(l:j<p.length):(p.take (j+1)++q).set j y=p.take j++(y::q):=by
 rw[List.take_succ_eq_append_getElem l,List.append_assoc,List.set_append_right _ _ ae];simp[Nat.min_eq_left (Nat.le_of_lt l)]
def LZ{p q:List Nat}{j x d rest l}(J:p[j]? =some x)(hn:l=x+4294967296*rest)(h:val (p.drop (j+1))=d*val q+rest):val (p.drop j)=d*val (l/d::q)+l%d:=by
 rw[uW J,h,val,Nat.mul_add,Nat.mul_add];have C:=Nat.div_add_mod l d;have B:d*(4294967296*val q)=4294967296*(d*val q):=Nat.mul_left_comm _ _ _;omega
def TM{x d rest l}(J:x<4294967296)(j:rest<d)(hn:l=x+4294967296*rest):l/d<4294967296:=by
 rw[Nat.div_lt_iff_lt_mul aa];have:4294967296*(rest+1)<=4294967296*d:=Nat.mul_le_mul_left _ j;omega
def Gn(g n c d:Nat)(p:List Nat)(r w)(h:xG w g p r)(Z:p.length=n)(hn:n<=1000000)(B:0<d)(hd:d<4294967296):
  Calls Tryz.prog 218 #[.slice (some ⟨g,0,none⟩) n c,.int .u32 (d:Int)] w fun e w'=>e=.returned (.int .u32 ((val p%d:Nat):Int))/\∃q,xG w' g q r/\q.length=n/\val q=val p/d/\Only g w w':=by
 have M:=aJ Z;clear Z;go_enter Tryz.func218,Tryz.ntmps218;go_wp2;go_loopw [5,6] (fun R i wr=>∃(k rest:Nat) (q:List Nat),k<=n/\i=.int .i64 ((k:Int)-1)/\R=.int .u64 (rest:Int)/\rest<d/\k+q.length=n/\val (p.drop k)=d*val q+rest/\xG wr g (p.take k++q) r/\Only g w wr) (fun _ i _=>(intOf i+1).toNat)
 case atStart=>exact⟨n,0,[],Nat.le_refl _,rfl,rfl,B,rfl,by rw[List.drop_eq_nil_of_le (by rw[M.o];omega)];simp[val],by rw[List.take_of_length_le (by rw[M.o];omega)];simpa using h,Only.refl _ _⟩
 case round=>
  obtain⟨k,rest,q,hk,rfl,rfl,O,hq,hv,F,L⟩:=hrel;have U:=aJ hv;clear hv;have P:=aJ hq;clear hq;by_cases Y:k=0
  .subst Y;go_wp2;go_ret;have hv:=U.o;simp only[List.drop_zero] at hv;refine⟨aL ?_,q,by simpa using F,by have:=P.o;omega,?_,L⟩
   .rw[hv,Nat.mul_add_mod,Nat.mod_eq_of_lt O]
   .rw[hv,Nat.mul_add_div B,Nat.div_eq_of_lt O,Nat.add_zero]
  .obtain⟨j,rfl⟩:∃j,k=j+1:=⟨k-1,aa⟩;have I:j<(p.take (j+1)++q).length:=by rw[List.length_append,List.length_take,M.o];omega
   obtain⟨x,J,D,K,T⟩:=F.at_ I;have C:p[j]? =some x:=by
    rw[List.getElem?_append_left (by rw[List.length_take,M.o];omega),List.getElem?_take_of_lt aa] at J;exact J
   clear J;have HX:=aJ C;clear C;have Q:=aJ F;clear F;have S:=aJ I;clear I;obtain⟨l,H⟩:∃l,l=x+4294967296*rest:=⟨_,rfl⟩;have WH:l<18446744073709551616:=aa;have e1:bits .or .u64 ((rest:Int)*4294967296) (x:Int)=(l:Int):=by rw[or_hi aa D,H]
   have G:l/d<4294967296:=TM D O H;have W:(l:Int)/(d:Int)<4294967296:=by rw[<-Int.natCast_ediv];omega
   have N:(0:Int)<=(l:Int)/(d:Int):=Int.ediv_nonneg aa aa;have V:=aJ H;clear H;go_wp2;go_roundw
   case rel=>
    refine⟨j,l%d,l/d::q,aa,au,rfl,Nat.mod_lt _ B,by have:=P.o;simp;omega,LZ HX.o V.o U.o,?_,L.trans (Only.set _ _ _ _)⟩;have:=Q.set (d:=l/d) S.o rfl G;rwa[Rt (by rw[M.o];omega)] at this
   case measure=>simp[intOf]<;>omega
def DR{q j y}:(List.replicate (j+1) 0++q).set j y=List.replicate j 0++(y::q):=by
 rw[List.replicate_succ',List.append_assoc,List.set_append_right _ _ ag];simp
def Jp(A)(n c d:Nat)(p w)(h:RM w A n c p)(hn:n<=1000000)(B:0<d)(hd:d<4294967296):
  Calls Tryz.prog 205 #[.slice A n c,.int .u32 (d:Int)] w fun e w'=>∃v,e=.returned (.tuple #[v,.int .u32 ((val p%d:Nat):Int)])/\SlM (bZ (val p/d)) v w'/\Ext w w':=by
 have HL:=aJ h.len;have P:=jf (n:Int) n rfl aa;go_enter Tryz.func205,Tryz.ntmps205;go_wp2;clear P;go_loopw [7,8] (fun T i wr=>∃(k rest:Nat) (q:List Nat),k<=n/\i=.int .i64 ((k:Int)-1)/\T=.int .u64 (rest:Int)/\rest<d/\k+q.length=n/\val (p.drop k)=d*val q+rest/\fZ wr w.heap.size (List.replicate k 0++q)/\Ext w wr) (fun _ i _=>(intOf i+1).toNat)
 case atStart=>exact⟨n,0,[],Nat.le_refl _,rfl,rfl,B,rfl,by rw[List.drop_eq_nil_of_le (by rw[HL.o];omega)];simp[val],by rw[List.append_nil];exact⟨Blk.new w _ _,Dig.replicate _⟩,Ext.new _ _⟩
 case round=>
  obtain⟨k,rest,q,hk,rfl,rfl,M,hq,hv,F,C⟩:=hrel;have U:=aJ hv;clear hv;have R:=aJ hq;clear hq;by_cases h0:k=0
  .subst h0;(go_wp2_with fail);simp only[List.replicate_zero,List.nil_append] at F;refine(il _ n n q _ (F.rm Adm aa) hn).mono ?_;rintro e w1 ⟨v1,rfl,hR,H⟩;have hv:=U.o;simp only[List.drop_zero] at hv;have O:val p/d=val q:=by rw[hv,Nat.mul_add_div B,Nat.div_eq_of_lt M,Nat.add_zero]
   have S:rest=val p%d:=by rw[hv,Nat.mul_add_mod,Nat.mod_eq_of_lt M]
   have Z:=aJ O;have E2:=aJ S;clear O S hv;go_wp2
   go_ret2
   refine⟨v1,?_,by rw[Z.o];exact hR,C.trans H⟩;rw[<-E2.o];rfl
  .obtain⟨j,rfl⟩:∃j,k=j+1:=⟨k-1,aa⟩;obtain⟨ad,x,rfl,hb,J,D,K⟩:=(h.ext C).at_ (k:=j) aa;have HX:=aJ J;clear J;have L:j<(List.replicate (j+1) 0++q).length:=ae;obtain⟨z,_,_,Y,V⟩:=F.at_ L;have Q:=aJ F;clear F L;obtain⟨l,I⟩:∃l,l=x+4294967296*rest:=⟨_,rfl⟩;have WH:l<18446744073709551616:=aa;have O:bits .or .u64 ((rest:Int)*4294967296) (x:Int)=(l:Int):=by rw[or_hi aa D,I]
   have G:l/d<4294967296:=TM D M I;have Xi:(l:Int)/(d:Int)<4294967296:=by rw[<-Int.natCast_ediv];omega
   have N:(0:Int)<=(l:Int)/(d:Int):=Int.ediv_nonneg aa aa;have W:=aJ I;clear I;go_wp2;go_roundw
   case rel=>
    refine⟨j,l%d,l/d::q,aa,au,rfl,Nat.mod_lt _ B,by have:=R.o;simp;omega,LZ HX.o W.o U.o,?_,C.setCell (Nat.le_refl _) _⟩;have:=Q.set (k:=j) (d:=l/d) rfl G;rwa[DR] at this
   case measure=>simp[intOf]<;>omega
def vS{s}(hs:s<=32):2^s*2^(32-s)=4294967296:=by
 rw[<-Nat.pow_add,show s+(32-s)=32 by omega]
def TK{x s}(J:x<4294967296)(hs:s<32):x*2^s<18446744073709551616:=by
 have j:2^s<=2^31:=Nat.pow_le_pow_right aa aa;have l:x*2^s<=x*2^31:=Nat.mul_le_mul_left _ j;omega
def KL{x s:Nat}(J:x<4294967296)(hs:s<32):IntKind.u64.wrap ((x:Int)*2^s)=((x*2^s:Nat):Int):=by
 have h:=TK J hs;have e:((x:Int)*2^s)=((x*2^s:Nat):Int):=by push_cast;rfl
 rw[e];exact IntWalk.u64_in _ aa
def JU{x s}(hs:s<=32):2^s∣x*2^s%4294967296:=by
 rw[Nat.dvd_mod_iff (show 2^s∣4294967296 from ⟨2^(32-s),(vS aa).symm⟩)];exact Nat.dvd_mul_left _ _
def zB{x s G}(hs:s<=32)(hc:G<2^s):G+x*2^s%4294967296<4294967296:=by
 obtain⟨a,ha⟩:=JU (x:=x) hs;have hb:=vS (show s<=32 by omega);have Z:x*2^s%4294967296<4294967296:=Nat.mod_lt _ aa;rw[ha] at Z⊢;have l:a<2^(32-s):=by
  rw[<-hb] at Z;exact Nat.lt_of_mul_lt_mul_left Z
 have j:2^s*(a+1)<=2^s*2^(32-s):=Nat.mul_le_mul_left _ l;rw[hb,Nat.mul_add,Nat.mul_one] at j;omega
def TE{x s G:Nat}(J:x<4294967296)(hs:s<32)(hc:G<2^s):bits .or .u32 (G:Int) (IntKind.u64.wrap ((x:Int)*2^s)%4294967296)=((G+x*2^s%4294967296:Nat):Int):=by
 have j:=zB (x:=x) (Nat.le_of_lt hs) hc;obtain⟨a,ha⟩:=JU (x:=x) (Nat.le_of_lt hs);rw[KL J hs,show((x*2^s:Nat):Int)%4294967296=((x*2^s%4294967296:Nat):Int) from rfl];rw[bits_join_low .u32 32 aj wraps_u32 s _ _ aa (by exact_mod_cast hc) aa aa ?_ aa]
 .omega
 .rw[ha];have:((2^s*a:Nat):Int)%2^s=((2^s*a%2^s:Nat):Int):=by push_cast;rfl
  rw[this,Nat.mul_mod_right];rfl
def nZ{x s}(J:x<4294967296):x*2^s/4294967296<2^s:=by
 rw[Nat.div_lt_iff_lt_mul aa,Nat.mul_comm];exact Nat.mul_lt_mul_of_pos_left J (Nat.pow_pos aa)
def TL{x s:Nat}(J:x<4294967296)(hs:s<32):IntKind.u64.wrap ((x:Int)*2^s)/4294967296%4294967296=((x*2^s/4294967296:Nat):Int):=by
 have h:=TK J hs;rw[KL J hs];omega
def Ic{o k n a b G}(j:o.length=k)(l:k<n):((o++G::List.replicate (n-k) 0).set k a).set (k+1) b=(o++[a])++b::List.replicate (n-(k+1)) 0:=by
 subst j;rw[show n-o.length=(n-(o.length+1))+1 by omega,List.replicate_succ];simp
def LV{o p:List Nat}{k G x s}(j:o.length=k)(J:p[k]? =some x)(h:val o+4294967296^k*G=val (p.take k)*2^s):
  val (o++[G+x*2^s%4294967296])+4294967296^(k+1)*(x*2^s/4294967296)=val (p.take (k+1))*2^s:=by
 rw[jG,bF J,j,Nat.pow_succ,Nat.mul_assoc,Nat.add_mul,<-h,Nat.mul_add];have e:4294967296^k*(x*2^s%4294967296)+4294967296^k*(4294967296*(x*2^s/4294967296))=4294967296^k*(x*2^s):=by
  exact AbE
 rw[Nat.mul_assoc (4294967296^k) x];omega
def ui(A)(n c s:Nat)(p)(w:World)(h:RM w A n c p)(hn:n<=1000000)(hs:s<32):
  Calls Tryz.prog 220 #[.slice A n c,.int .i64 (s:Int)] w fun e w'=>e=.returned (.slice (some ⟨w.heap.size,0,none⟩) (n+1) (n+1))/\∃q,fZ w' w.heap.size q/\q.length=n+1/\val q=val p*2^s/\Ext w w':=by
 have W:=aJ h.len;have P:=jf ((n:Int)+1) (n+1) aa aa;go_enter Tryz.func220,Tryz.ntmps220;go_wp2;clear P;go_loopw [15] (fun i wr=>∃(k G:Nat) (o:List Nat),k<=n/\i=.int .i64 k/\o.length=k/\G<2^s/\val o+4294967296^k*G=val (p.take k)*2^s/\fZ wr w.heap.size (o++G::List.replicate (n-k) 0)/\Ext w wr) (fun i _=>n-(intOf i).toNat)
 case atStart=>exact⟨0,0,[],Nat.zero_le _,rfl,rfl,Nat.pow_pos aa,by simp[val],⟨by simpa[List.replicate_succ] using Blk.new w 208 (mg (List.replicate (n+1) 0)).toArray,by simpa[List.replicate_succ] using Dig.replicate (n+1)⟩,Ext.new _ _⟩
 case round=>
  obtain⟨k,G,o,Z,rfl,R,H,hv,F,C⟩:=hrel;have U:=aJ hv;clear hv;have j:=aJ R;clear R;by_cases M:k<n
  .obtain⟨ad,x,rfl,_,J,D,K⟩:=(h.ext C).at_ M;have T:=aJ J;clear J;obtain⟨z,O,l,Y,S⟩:=F.at_ (k:=k) (by simp[j.o]);obtain⟨z1,N,B,L,I⟩:=F.at_ (k:=k+1) (by simp[j.o];omega);obtain rfl:z=G:=by
    exact Acj
   have Q:=aJ F;clear F O N;go_wp2;go_roundw
   case rel=>
    exact AaF
   case measure=>simp[intOf]<;>omega
  .obtain rfl:k=n:=aa;have Q:=aJ F;clear F;go_wp2;go_ret;refine⟨rfl,o++[G],by simpa using Q.o,by simp[j.o],?_,C⟩;rw[jG,j.o,U.o,List.take_of_length_le (by rw[W.o];omega)]
def Au(A)(n c s:Nat)(p)(w:World)(h:RM w A n c p)(hn:n<=1000000)(hs:s<32):
  Calls Tryz.prog 206 #[.slice A n c,.int .i64 (s:Int)] w fun e w'=>e=.returned (.slice (some ⟨w.heap.size,0,none⟩) (n+1) (n+1))/\∃q,fZ w' w.heap.size q/\q.length=n+1/\val q=val p*2^s/\Ext w w':=by
 have W:=aJ h.len;have P:=jf ((n:Int)+1) (n+1) aa aa;go_enter Tryz.func206,Tryz.ntmps206;go_wp2;clear P;go_loopw [6] (fun i wr=>∃(k G:Nat) (o:List Nat),k<=n/\i=.int .i64 k/\o.length=k/\G<2^s/\val o+4294967296^k*G=val (p.take k)*2^s/\fZ wr w.heap.size (o++G::List.replicate (n-k) 0)/\Ext w wr) (fun i _=>n-(intOf i).toNat)
 case atStart=>exact⟨0,0,[],Nat.zero_le _,rfl,rfl,Nat.pow_pos aa,by simp[val],⟨by simpa[List.replicate_succ] using Blk.new w 208 (mg (List.replicate (n+1) 0)).toArray,by simpa[List.replicate_succ] using Dig.replicate (n+1)⟩,Ext.new _ _⟩
 case round=>
  obtain⟨k,G,o,Z,rfl,R,H,hv,F,C⟩:=hrel;have U:=aJ hv;clear hv;have j:=aJ R;clear R;by_cases M:k<n
  .obtain⟨ad,x,rfl,_,J,D,K⟩:=(h.ext C).at_ M;have T:=aJ J;clear J;obtain⟨z,O,l,Y,S⟩:=F.at_ (k:=k) (by simp[j.o]);obtain⟨z1,N,B,L,I⟩:=F.at_ (k:=k+1) (by simp[j.o];omega);obtain rfl:z=G:=by
    exact Acj
   have Q:=aJ F;clear F O N;go_wp2;go_roundw
   case rel=>
    exact AaF
   case measure=>simp[intOf]<;>omega
  .obtain rfl:k=n:=aa;have Q:=aJ F;clear F;go_wp2;go_ret;refine⟨rfl,o++[G],by simpa using Q.o,by simp[j.o],?_,C⟩;rw[jG,j.o,U.o,List.take_of_length_le (by rw[W.o];omega)]
def VV{x s}(hs:s<=32):x*4294967296/2^s=x*2^(32-s):=by
 rw[<-vS hs,Nat.mul_left_comm,Nat.mul_div_cancel_left _ (Nat.pow_pos aa)]
def TP{x s:Nat}(hs:s<=32):(x:Int)*4294967296/2^s=((x*2^(32-s):Nat):Int):=by
 rw[<-VV hs,Int.natCast_ediv,Int.natCast_mul,Int.natCast_pow];rfl
def Az{x s}(J:x<4294967296)(hs:s<=32):x*2^(32-s)/4294967296<4294967296:=by
 have l:=nZ (x:=x) (s:=32-s) J;have j:2^(32-s)<=2^32:=Nat.pow_le_pow_right aa aa;omega
def MM{y:Nat}(R:y<4294967296):bits .or .u32 ((0:Nat):Int) (y:Int)=(y:Int):=by
 rw[bits_join_low .u32 32 aj wraps_u32 0 _ _ aa aa aa aa aa aa];omega
def TS{x s:Nat}(J:x<4294967296)(hs:s<=32):bits .or .u32 ((0:Nat):Int) ((x:Int)*4294967296/2^s/4294967296%4294967296)=((x*2^(32-s)/4294967296:Nat):Int):=by
 have h:=Az J hs;rw[TP hs];have e:((x*2^(32-s):Nat):Int)/4294967296%4294967296=((x*2^(32-s)/4294967296:Nat):Int):=aa;rw[e,MM h]
def Vd{x s y:Nat}(hs:s<=32)(R:y<2^(32-s)):bits .or .u32 (y:Int) ((x:Int)*4294967296/2^s%4294967296)=((y+x*2^(32-s)%4294967296:Nat):Int):=by
 have j:=zB (x:=x) (s:=32-s) aa R;obtain⟨a,ha⟩:=JU (x:=x) (s:=32-s) aa;rw[TP hs,show((x*2^(32-s):Nat):Int)%4294967296=((x*2^(32-s)%4294967296:Nat):Int) from rfl];rw[bits_join_low .u32 32 aj wraps_u32 (32-s) _ _ aa (by exact_mod_cast R) aa aa ?_ aa]
 .omega
 .rw[ha];have:((2^(32-s)*a:Nat):Int)%2^(32-s)=((2^(32-s)*a%2^(32-s):Nat):Int):=by push_cast;rfl
  rw[this,Nat.mul_mod_right];rfl
def Oz{x s}(hs:s<=32):x*2^(32-s)/4294967296=x/2^s:=by
 rw[<-vS hs,Nat.mul_div_mul_right _ _ (Nat.pow_pos aa)]
def Te{o p:List Nat}{j x y s}(hs:s<=32)(l:o.length=j+1)(R:o[j]? =some y)(J:p[j+1]? =some x)(h:val o=val (p.take (j+1))/2^s):
  val (o.set j (y+x*2^(32-s)%4294967296)++[x*2^(32-s)/4294967296])=val (p.take (j+2))/2^s:=by
 have C:=pO (y:=y+x*2^(32-s)%4294967296) R;rw[jG,List.length_set,l,bF J];have B:4294967296^(j+1)*x=2^s*(4294967296^j*(x*2^(32-s))):=by
  rw[Nat.pow_succ,<-Nat.mul_assoc,<-Nat.mul_assoc,Nat.mul_comm (2^s*4294967296^j*x),<-Nat.mul_assoc,<-Nat.mul_assoc,Nat.mul_comm (2^(32-s)) (2^s),vS hs,Nat.mul_comm 4294967296]
 rw[B,Nat.add_mul_div_left _ _ (Nat.pow_pos aa),<-h];have D:4294967296^j*(x*2^(32-s)%4294967296)+4294967296^(j+1)*(x*2^(32-s)/4294967296)=4294967296^j*(x*2^(32-s)):=by
  rw[Nat.pow_succ,Nat.mul_assoc,<-Nat.mul_add];congr 1;omega
 rw[Nat.mul_add] at C;omega
def last_at{o:List Nat}{j y}(l:o.length=j+1)(R:o[j]? =some y):o.getLast? =some y:=by
 rw[List.getLast?_eq_getElem?,l];exact R
def BJ(A)(n c s:Nat)(p w)(h:RM w A n c p)(hn:n<=1000000)(hs:s<32):
  CV 222 #[.slice A n c,.int .i64 (s:Int)] w fun v w'=>SlM (bZ (val p/2^s)) v w':=by
 have HL:=aJ h.len;have WN:=jf (n:Int) n rfl aa;go_enter Tryz.func222,Tryz.ntmps222;go_wp2;clear WN;go_loopw [14] (fun i wr=>∃(k:Nat) (o:List Nat),k<=n/\i=.int .i64 k/\o.length=k/\(∀y,o.getLast? =some y->y<2^(32-s))/\val o=val (p.take k)/2^s/\fZ wr w.heap.size (o++List.replicate (n-k) 0)/\Ext w wr) (fun i _=>n-(intOf i).toNat)
 case atStart=>exact⟨0,[],Nat.zero_le _,rfl,rfl,ag,by simp[val],⟨by simpa using Blk.new w _ _,by simpa using Dig.replicate n⟩,Ext.new _ _⟩
 case round=>
  obtain⟨k,o,hk,rfl,ho,R,hv,F,C⟩:=hrel;have U:=aJ hv;clear hv;have P:=aJ ho;clear ho;have HY:=aJ R;clear R;by_cases T:k<n
  .obtain⟨ad,x,rfl,_,J,D,K⟩:=(h.ext C).at_ T;have HX:=aJ J;clear J;obtain⟨z,hz,l,Y,WI⟩:=F.at_ (k:=k) (by simp[P.o];omega);by_cases h0:k=0
   .subst h0;have XP:wr.cell? ad=some (.int .u32 (x:Int)):=K;have W:o=[]:=List.eq_nil_of_length_eq_zero P.o;have S:z=0:=by
     have:=List.mem_of_getElem? hz;rw[W] at this;simpa using List.eq_of_mem_replicate this
    have Q:=aJ F;clear F hz;have O:=aJ W;clear W;have Z:=aJ S;clear S;go_wp2;go_roundw
    case rel=>
     refine⟨1,[x*2^(32-s)/4294967296],aa,au,rfl,?_,?_,?_,C.setCell (Nat.le_refl _) _⟩
     .intro y R;simp at R;rw[<-R];exact nZ D
     .rw[bF (k:=0) HX.o,Oz aa];simp[val]
     .have h1:=Q.set (k:=0) (d:=x*2^(32-s)/4294967296) (z:=bits .or .u32 (z:Int) ((x:Int)*4294967296/2^s/4294967296%4294967296)) (by rw[Z.o];exact TS D aa) (Az D aa);rwa[O.o,sD (o:=[]) (k:=0) rfl T] at h1
    case measure=>simp[intOf]<;>omega
   .obtain⟨j,rfl⟩:∃j,k=j+1:=⟨k-1,aa⟩;obtain⟨z1,V,B,L,I⟩:=F.at_ (k:=j) (by simp[P.o];omega);have XP:wr.cell? ⟨ad.block,ad.off+(j+1),none⟩=some (.int .u32 (x:Int)):=by simpa[Addr.add] using K
    have S:z=0:=by
     rw[List.getElem?_append_right (by rw[P.o];exact Nat.le_refl _),P.o] at hz;exact List.eq_of_mem_replicate (List.mem_of_getElem? hz)
    have M:o[j]? =some z1:=by
     rw[List.getElem?_append_left (by rw[P.o];omega)] at V;exact V
    have Q:=aJ F;clear F hz V;have Z:=aJ S;clear S;have N:=aJ M;clear M;have G:z1<2^(32-s):=HY.o z1 (last_at P.o N.o);go_wp2;go_roundw
    case rel=>
     refine⟨j+2,o.set j (z1+x*2^(32-s)%4294967296)++[x*2^(32-s)/4294967296],aa,au,by simp[P.o],?_,Te aa P.o N.o HX.o U.o,?_,(C.setCell (Nat.le_refl _) _).setCell (Nat.le_refl _) _⟩
     .intro y R;simp at R;rw[<-R];exact nZ D
     .have h1:=(Q.set (k:=j+1) (d:=x*2^(32-s)/4294967296) (z:=bits .or .u32 (z:Int) ((x:Int)*4294967296/2^s/4294967296%4294967296)) (by rw[Z.o];exact TS D aa) (Az D aa)).set (k:=j) (Vd (x:=x) aa G) (zB aa G);rw[sD P.o T,List.append_assoc,List.set_append_left _ _ (by rw[P.o];omega),<-List.append_assoc] at h1;exact h1
    case measure=>simp[intOf]<;>omega
  .obtain rfl:k=n:=aa;simp only[Nat.sub_self,List.replicate_zero,List.append_nil] at F;(go_wp2_with fail);refine(jK _ _ _ o _ (F.rm P.o aa)).mono ?_;rintro e w1 ⟨v1,rfl,hR,H⟩;rw[U.o,List.take_of_length_le (by rw[HL.o];omega)] at hR;exact Acz
def JH{p k x}(hd:Dig p)(J:p[k]? =some x):∃Y,val p/4294967296^k=x+4294967296*p.getD (k+1) 0+4294967296*(4294967296*Y):=by
 have D:k<p.length:=(List.getElem?_eq_some_iff.1 J).1;have C:=gI p k aa;have l:=lQ (hd.take k);rw[List.length_take,Nat.min_eq_left aa] at l;have B:val p/4294967296^k=val (p.drop k):=by
  rw[C,Nat.add_comm,Nat.mul_add_div (Nat.pow_pos aa),Nat.div_eq_of_lt l,Nat.add_zero]
 rw[B,uW J];by_cases j:k+1<p.length
 .have R:p[k+1]? =some p[k+1]:=List.getElem?_eq_getElem j;rw[uW R,yZ R];exact⟨val (p.drop (k+1+1)),aa⟩
 .rw[List.drop_eq_nil_of_le aa];refine⟨0,?_⟩;have:p.getD (k+1) 0=0:=by simp[List.getD,List.getElem?_eq_none (Nat.not_lt.1 j)]
  rw[this];simp[val]
def O9{p k x s}(hd:Dig p)(hs:s<=32)(J:p[k]? =some x):val p/2^s/4294967296^k%4294967296=(x+4294967296*p.getD (k+1) 0)/2^s%4294967296:=by
 obtain⟨Y,l⟩:=JH hd J;rw[Nat.div_div_eq_div_mul,Nat.mul_comm,<-Nat.div_div_eq_div_mul,l];have e:4294967296*(4294967296*Y)=2^s*(4294967296*(2^(32-s)*Y)):=by
  rw[Nat.mul_left_comm (2^s),<-Nat.mul_assoc (2^s),vS hs]
 rw[e,Nat.add_mul_div_left _ _ (Nat.pow_pos aa),Nat.add_mul_mod_self_left]
def QU{o p k x s}(hd:Dig p)(hs:s<=32)(j:o.length=k)(J:p[k]? =some x)(h:val o=val p/2^s%4294967296^k):
  val (o++[(x+4294967296*p.getD (k+1) 0)/2^s%4294967296])=val p/2^s%4294967296^(k+1):=by
 rw[jG,j,h,<-O9 hd hs J,Nat.mod_pow_succ]
def OZ(t s:Nat):(t:Int)/2^s%4294967296=((t/2^s%4294967296:Nat):Int):=by
 have e:(t:Int)/2^s=((t/2^s:Nat):Int):=by rw[Int.natCast_ediv,Int.natCast_pow];rfl
 rw[e];rfl
def Mm(A)(n c s:Nat)(p w)(h:RM w A n c p)(hn:n<=1000000)(hs:s<32):
  CV 210 #[.slice A n c,.int .i64 (s:Int)] w fun v w'=>SlM (bZ (val p/2^s)) v w':=by
 have Z:=aJ h.len;have T:=jf (n:Int) n rfl aa;go_enter Tryz.func210,Tryz.ntmps210;go_wp2;clear T;go_loopw [6] (fun i wr=>∃(k:Nat) (o:List Nat),k<=n/\i=.int .i64 k/\o.length=k/\val o=val p/2^s%4294967296^k/\fZ wr w.heap.size (o++List.replicate (n-k) 0)/\Ext w wr) (fun i _=>n-(intOf i).toNat)
 case atStart=>exact⟨0,[],Nat.zero_le _,rfl,rfl,by simp[val,Nat.mod_one],⟨by simpa using Blk.new w _ _,by simpa using Dig.replicate n⟩,Ext.new _ _⟩
 case round=>
  obtain⟨k,o,hk,rfl,V,hv,F,C⟩:=hrel;have U:=aJ hv;clear hv;have G:=aJ V;clear V;by_cases B:k<n
  .obtain⟨W,x,rfl,_,J,D,K⟩:=(h.ext C).at_ B;have HX:=aJ J;clear J;obtain⟨z,_,_,Y,WI⟩:=F.at_ (k:=k) (by simp[G.o];omega);have Q:=aJ F;clear F;have j:∀y t:Nat,p.getD (k+1) 0=y->t=x+4294967296*y->val (o++[t/2^s%4294967296])=val p/2^s%4294967296^(k+1):=fun y t L h2=>by
    rw[h2,<-L];exact QU h.dg aa G.o HX.o U.o
   have N:=aJ j;clear j;by_cases S:k+1<n
   .obtain⟨WA,y,e1,_,R,I,O⟩:=(h.ext C).at_ S;cases e1
    have WG:wr.cell? ⟨W.block,W.off+(k+1),none⟩=some (.int .u32 (y:Int)):=by simpa[Addr.add] using O
    have l:=aJ (N.o y _ (yZ R) rfl);clear N R;obtain⟨t,P⟩:∃t,t=x+4294967296*y:=⟨_,rfl⟩;have e1:bits .or .u64 (x:Int) ((y:Int)*4294967296)=(t:Int):=by rw[Tz D I,P]
    have XB:t<18446744073709551616:=aa;rw[<-P] at l;clear P;go_wp2;go_roundw
    case rel=>
     refine⟨k+1,o++[t/2^s%4294967296],aa,au,by simp[G.o],l.o,?_,C.setCell (Nat.le_refl _) _⟩;have L:=Q.set (k:=k) (OZ t s) (Nat.mod_lt _ aa);rwa[sD G.o B] at L
    case measure=>simp[intOf]<;>omega
   .have l:=aJ (N.o 0 x (by simp[List.getD,List.getElem?_eq_none (show p.length<=k+1 by rw[Z.o];omega)]) aa);clear N;go_wp2;go_roundw
    case rel=>
     refine⟨k+1,o++[x/2^s%4294967296],aa,au,by simp[G.o],l.o,?_,C.setCell (Nat.le_refl _) _⟩;have L:=Q.set (k:=k) (OZ x s) (Nat.mod_lt _ aa);rwa[sD G.o B] at L
    case measure=>simp[intOf]<;>omega
  .obtain rfl:k=n:=aa;simp only[Nat.sub_self,List.replicate_zero,List.append_nil] at F;(go_wp2_with fail);refine(il _ _ _ o _ (F.rm G.o aa) hn).mono ?_;rintro e w1 ⟨v1,rfl,hR,H⟩;have M:val p/2^s<4294967296^k:=by
    have:=lQ h.dg;rw[Z.o] at this;exact Nat.lt_of_le_of_lt (Nat.div_le_self _ _) this
   rw[U.o,Nat.mod_eq_of_lt M] at hR;exact Acz
def iH (S V u2 u1 v1 g rest:Nat):Prop:=g*v1+rest=u2*4294967296+u1/\S/V<=g
section
variable {S V P u2 u1 u0 v1 v0 g rest:Nat}
def iH.first(t:qL S V P u2 u1 u0 v1 v0):iH S V u2 u1 v1 ((u2*4294967296+u1)/v1) ((u2*4294967296+u1)%v1):=
 ⟨by rw[Nat.mul_comm];exact Nat.div_add_mod _ _,t.first⟩
def iH.le(t:qL S V P u2 u1 u0 v1 v0)(h:iH S V u2 u1 v1 g rest):g<=4294967299:=by
 have C:=t.LK;have j:=h.1;have l:=t.top;have B:=t.l1;rcases Nat.lt_or_ge 4294967299 g with hc|hc
 .exfalso;have:4294967300*v1<=g*v1:=Nat.mul_le_mul_right _ hc;omega
 .exact hc
def iH.big(t:qL S V P u2 u1 u0 v1 v0)(h:iH S V u2 u1 v1 g rest)(l:4294967296<=g):iH S V u2 u1 v1 (g-1) (rest+v1):=by
 have j:=t.Uc;refine⟨?_,aa⟩;rw[<-h.1,Nat.sub_mul,Nat.one_mul];have:1*v1<=g*v1:=Nat.mul_le_mul_right _ aa;omega
def iH.fail(t:qL S V P u2 u1 u0 v1 v0)(h:iH S V u2 u1 v1 g rest)(B:g*v0>u0+4294967296*rest):0<g/\iH S V u2 u1 v1 (g-1) (rest+v1):=by
 have l:=t.above ((zI (u0:=u0) (v0:=v0) h.1).1 aa);have j:0<g:=Nat.lt_of_le_of_lt (Nat.zero_le _) l;refine⟨j,?_,aa⟩;rw[<-h.1,Nat.sub_mul,Nat.one_mul];have:1*v1<=g*v1:=Nat.mul_le_mul_right _ j;omega
def iH.pass(t:qL S V P u2 u1 u0 v1 v0)(h:iH S V u2 u1 v1 g rest)(hb:g<4294967296)(j:¬g*v0>u0+4294967296*rest):S/V<=g/\g<=S/V+1:=by
 refine⟨h.2,t.close hb ?_⟩;have:=mt (zI (u0:=u0) (v0:=v0) h.1).2 aa;omega
def iH.stop(t:qL S V P u2 u1 u0 v1 v0)(h:iH S V u2 u1 v1 g rest)(B:4294967296<=rest):g<4294967296/\S/V<=g/\g<=S/V+1:=by
 have l:=t.LK;have j:=h.1;have hb:g<4294967296:=by
  rcases Nat.lt_or_ge g 4294967296 with hc|hc
  .exact hc
  .exfalso;have:4294967296*v1<=g*v1:=Nat.mul_le_mul_right _ hc;omega
 refine⟨hb,h.pass t hb ?_⟩;have:=sZ hb t.l0;omega
end
def JI(S V P u2 u1 u0 v1 v0 w)(t:qL S V P u2 u1 u0 v1 v0):
  Calls Tryz.prog 207 #[.int .u64 (u2:Int),.int .u64 (u1:Int),.int .u64 (u0:Int),.int .u64 (v1:Int),.int .u64 (v0:Int)] w fun e w'=>(∃g:Nat,e=.returned (.int .u64 (g:Int))/\g<4294967296/\S/V<=g/\g<=S/V+1)/\w=w':=by
 have T:=t.m2;have M:=t.m1;have O:=t.m0;have W:=t.l1;have L:=t.l0;have XQ:=t.top;have G:=aJ (iH.first t);obtain⟨hd,C⟩:∃hd,hd=u2*4294967296+u1:=⟨_,rfl⟩;rw[<-C] at G;have XD:hd<18446744073709551616:=aa;have e0:bits .or .u64 ((u2:Int)*4294967296) (u1:Int)=(hd:Int):=by rw[or_hi T M,C];omega
 have Yc:=aJ C;clear C;have XX:1<=v1:=aa;have Yb:(0:Int)<=(hd:Int)/(v1:Int):=Int.ediv_nonneg aa aa;have XW:(hd:Int)/(v1:Int)<=18446744073709551615:=by
  have:=Nat.div_le_self hd v1;rw[<-Int.natCast_ediv];omega
 go_enter Tryz.func207,Tryz.ntmps207;go_wp2;clear e0;go_loop [11,12] (fun R rv=>∃g rest:Nat,R=.int .u64 (g:Int)/\rv=.int .u64 (rest:Int)/\rest<4294967296/\iH S V u2 u1 v1 g rest) (fun R _=>(intOf R).toNat)
 case atStart=>exact⟨hd/v1,hd%v1,rfl,rfl,Nat.lt_trans (Nat.mod_lt _ aa) W,G.o⟩
 case round=>
  obtain⟨g,rest,rfl,rfl,hr,Z⟩:=hrel;have Ya:=iH.le t Z;have Q:=aJ Z;clear Z;by_cases hb:4294967296<=g
  .have K:(4294967296:Int)<=(g:Int):=aa;have j:=aJ (iH.big t Q.o hb);by_cases l:4294967296<=rest+v1
   .have D:(4294967296:Int)<=(rest:Int)+(v1:Int):=aa;go_wp2;go_ret;obtain⟨s1,s2,s3⟩:=iH.stop t j.o l;exact⟨⟨g-1,aL aa,s1,s2,s3⟩,rfl⟩
   .have D:decide ((4294967296:Int)<=(rest:Int)+(v1:Int))=false:=by rw[decide_eq_false_iff_not];omega
    have U:decide (4294967296<=rest+v1)=false:=decide_eq_false l;have B:=aJ l;clear l;go_wp2;go_round
    case rel=>exact⟨g-1,rest+v1,au,au,by have:=B.o;omega,j.o⟩
    case measure=>simp[intOf]<;>omega
  .obtain⟨F,H⟩:∃F,F=g*v0:=⟨_,rfl⟩;obtain⟨z,J⟩:∃z,z=u0+4294967296*rest:=⟨_,rfl⟩;have XB:F<=18446744065119617025:=by rw[H];exact sZ aa L
   have e1:IntKind.u64.wrap ((g:Int)*(v0:Int))=(F:Int):=by rw[IntWalk.u64_in _ Abw,H];simp
   have e2:bits .or .u64 ((rest:Int)*4294967296) (u0:Int)=(z:Int):=by rw[or_hi hr O,J]
   have Yd:z<18446744073709551616:=aa;have K:decide ((4294967296:Int)<=(g:Int))=false:=by rw[decide_eq_false_iff_not];omega
   have Wz:decide (4294967296<=g)=false:=decide_eq_false hb;have HB:=aJ hb;by_cases hc:z<F
   .obtain⟨N,I⟩:=iH.fail (u0:=u0) (v0:=v0) t Q.o (by rw[<-H,<-J];exact hc);have j:=aJ I;clear I;clear H J hb;have Y:(z:Int)<(F:Int):=aa;clear hc;by_cases l:4294967296<=rest+v1
    .have D:(4294967296:Int)<=(rest:Int)+(v1:Int):=aa;have B:=aJ l;clear l;go_wp2;go_ret;obtain⟨s1,s2,s3⟩:=iH.stop t j.o B.o;exact⟨⟨g-1,aL aa,s1,s2,s3⟩,rfl⟩
    .have D:decide ((4294967296:Int)<=(rest:Int)+(v1:Int))=false:=by rw[decide_eq_false_iff_not];omega
     have U:decide (4294967296<=rest+v1)=false:=decide_eq_false l;have B:=aJ l;clear l;go_wp2;go_round
     case rel=>exact⟨g-1,rest+v1,au,au,by have:=B.o;omega,j.o⟩
     case measure=>simp[intOf]<;>omega
   .obtain⟨s2,s3⟩:=iH.pass (u0:=u0) (v0:=v0) t Q.o aa (by rw[<-H,<-J];omega);have S2:=aJ s2;have S3:=aJ s3;clear s2 s3 H J hb;have Y:(F:Int)<=(z:Int):=aa;clear hc;go_wp2;go_ret;exact⟨⟨g,rfl,by have:=HB.o;omega,S2.o,S3.o⟩,rfl⟩
def fZ.sub{w g j m c p}(h:fZ w g p)(C:j+m=p.length)(hc:m<=c)(l:c<=9223372036854775807):RM w (some ⟨g,j,none⟩) m c (p.drop j):=by
 refine⟨⟨by rw[pV,List.length_drop];omega,fun _=>⟨_,rfl,h.1.lt,fun i u B=> ?_⟩⟩,h.2.drop j,hc,l⟩;rw[add_plain,h.1.cell];simp only[mg,List.getElem?_map,List.getElem?_drop,Option.map_eq_some_iff] at B;obtain⟨x,J,rfl⟩:=B;simpa using oz J
def PH{g}(h:g<18446744073709551616):(bZ g).length<=2:=dX (k:=2) aa
def kM{l}(h:Dig l)(k):val (l.take k)<4294967296^k:=by
 have j:=lQ (h.take k);exact Nat.lt_of_lt_of_le j (Nat.pow_le_pow_right aa (by rw[List.length_take];omega))
theorem kH{p q}:decide (mI p q<0)=decide (p<q):=by
 unfold mI;by_cases h:p<q
 .simp[h]
 .by_cases j:q<p<;>simp[h,j]
def M9(A B)(n m c d g:Nat)(p v:List Nat)(w)(C:RM w A m c p)(O:RM w B n d v)(hn:n<=10000)(L:n+1<=m)(I:g<18446744073709551616):
  CE 208 #[.slice A m c,.slice B n d,.int .u64 (g:Int)] w (.bool (decide (val (p.take (n+1))<val v*g))):=by
 have V:=C.nc;have D:=C.cm;have K:m<=9223372036854775807:=aa;obtain⟨M,_,rfl,_⟩:=C.at_ (k:=0) aa;go_enter Tryz.func208,Tryz.ntmps208;(go_wp2_with fail);refine(pG g _ I).mono ?_;rintro e w1 ⟨v1,rfl,⟨A1,n1,c1,rfl,J⟩,H⟩;have F:n1<=100000:=by have:=J.len;have:=PH I;omega
 (go_wp2_with fail);refine(zo B A1 n n1 d c1 _ _ _ (O.ext H) J aa F).mono ?_;rintro e w2 ⟨S,rfl,⟨A2,n2,c2,rfl,l⟩,P⟩;rw[aM] at l;(go_wp2_with fail);have P:=H.trans P;refine(il (some M) (n+1) c (p.take (n+1)) _ ((C.ext P).take L aa D) aa).mono ?_;rintro e R ⟨T,rfl,⟨A3,n3,c3,rfl,G⟩,j⟩;(go_wp2_with fail);refine(ig A3 A2 n3 n2 c3 c2 _ _ _ G (l.ext j) (bJ _) (bJ _)).mono ?_;rintro e Q ⟨rfl,N⟩;go_wp2;go_ret;refine⟨aQ ?_,(P.trans j).trans N⟩;rw[aM,aM,kH]
def Over (U l B:List Nat) (j i:Nat):Prop:=
 l.length=U.length/\l.take j=U.take j/\(∀t,j+i<=t->l[t]? =U[t]?)/\val l+4294967296^j*val ((U.drop j).take i)=val U+4294967296^j*val (B.take i)
def Over.start(U l j):Over U U l j 0:=⟨rfl,rfl,fun _ _=>rfl,ag⟩
def Over.step{U C B j i x y}(h:Over U C B j i)(J:U[j+i]? =some x)(R:val (B.take (i+1))=val (B.take i)+4294967296^i*y):Over U (C.set (j+i) y) B j (i+1):=by
 obtain⟨G,F,D,K⟩:=h;refine⟨by rw[List.length_set];exact G,?_,fun t I=> ?_,?_⟩
 .rw[List.take_set_of_le aa];exact F
 .rw[List.getElem?_set_ne aa];exact D t aa
 .have P:C[j+i]? =some x:=by rw[D _ (Nat.le_refl _)];exact J
  have H:=pO (y:=y) P;have l:(U.drop j)[i]? =some x:=by rw[List.getElem?_drop];exact J
  rw[bF l,R,Nat.mul_add,Nat.mul_add,<-Nat.mul_assoc,<-Nat.mul_assoc,<-Nat.pow_add];omega
def R9{j:List Nat}{i}(h:j.length<=i):val (j.take (i+1))=val (j.take i)+4294967296^i*0:=by rw[uo h];rfl
def Mw(B gU j n m c d g U v w)(hU:fZ w gU U)(hB:RM w B n d v)(hn:n<=10000)(hm:n+1<=m)(WQ:j+m=U.length)(V:m<=c)(Wv:c<=9223372036854775807)(hg:g<18446744073709551616)(G:val v*g<=val ((U.drop j).take (n+1))):
  Calls Tryz.prog 209 #[.slice (some ⟨gU,j,none⟩) m c,.slice B n d,.int .u64 (g:Int)] w fun e w'=>e=.returned (.tuple #[])/\∃U',fZ w' gU U'/\U'.length=U.length/\U'.take j=U.take j/\val U'+4294967296^j*(val v*g)=val U/\Only gU w w':=by
 have C:=hU.sub WQ V Wv;have Ws:m<=9223372036854775807:=aa;have Ww:=aJ G;clear G;go_enter Tryz.func209,Tryz.ntmps209;(go_wp2_with fail);refine(il (some ⟨gU,j,none⟩) (n+1) c ((U.drop j).take (n+1)) _ (C.take hm aa Wv) aa).mono ?_;rintro e w1 ⟨v1,rfl,⟨A1,n1,c1,rfl,WL⟩,H⟩;(go_wp2_with fail);refine(pG g _ hg).mono ?_;rintro e w2 ⟨v2,rfl,⟨A2,n2,c2,rfl,Xe⟩,P⟩;have WP:n2<=100000:=by have:=Xe.len;have:=PH hg;omega
 have M:=P;have P:=H.trans P;(go_wp2_with fail);refine(zo B A2 n n2 d c2 _ _ _ (hB.ext P) Xe aa WP).mono ?_;rintro e w3 ⟨v3,rfl,⟨A3,n3,c3,rfl,WE⟩,Wp⟩;rw[aM] at WE;have Wt:=P.trans Wp;have Wx:=WL.ext (M.trans Wp);have S:=Wx.len;have Y:=WE.len;have T:n3<=n1:=by
  have h1:=dX (n:=val v*g) (k:=n1) (Nat.lt_of_le_of_lt Ww.o (dN aa));omega
 have Wz:n1<=n+1:=by
  have h1:=dX (kM C.dg (n+1));omega
 (go_wp2_with fail);refine(vB A1 A3 n1 n3 c1 c3 _ _ _ Wx WE aa T (by rw[aM,aM];exact Ww.o)).mono ?_;rintro e w4 ⟨v4,rfl,⟨⟨A4,n4,c4,rfl,W⟩,L⟩,N⟩;rw[aM,aM] at W;have N:=Wt.trans N;have WW:=hU.1.lt;have Wq:∀ad,A4=some ad->ad.block≠gU:=fun ad e=>by
  have:=L ad.block (by rw[e];rfl);have:=Wt.size;omega
 have WG:=aJ Wq;clear Wq L;have O:=W.len;have WS:n4<=n+1:=by
  have h1:=dX (n:=val ((U.drop j).take (n+1))-val v*g) (k:=n+1) (Nat.lt_of_le_of_lt (Nat.sub_le _ _) (kM C.dg (n+1)));omega
 have WU:n4<=9223372036854775807:=aa;have WB:=aJ O;have WT:=aJ WQ;have HU:=aJ (show fZ w4 gU U from hU.far N);clear S Y O WQ hU C;obtain⟨wl,WC⟩:∃wl,wl=bZ (val ((U.drop j).take (n+1))-val v*g):=⟨_,rfl⟩;rw[<-WC] at W WB;have WN:=aJ WC;clear WC;have WM:=W.dg;have WI:=aJ W;clear W;have WV:=WI.cm;go_wp2;go_loopw [7] (fun iv wr=>∃(i:Nat) (U':List Nat),i<=n+1/\iv=.int .i64 i/\Over U U' wl j i/\fZ wr gU U'/\Only gU w4 wr) (fun iv _=>n+1-(intOf iv).toNat)
 case atStart=>exact⟨0,U,aa,rfl,Over.start _ _ _,HU.o,Only.refl _ _⟩
 case round=>
  obtain⟨i,U',hi,rfl,WJ,F,WO⟩:=hrel;have D:=aJ WJ;clear WJ;by_cases Wo:i<=n
  .have Wu:j+i<U'.length:=by rw[D.o.1,<-WT.o];omega
   obtain⟨x',_,_,K,X4⟩:=F.at_ Wu;obtain⟨x,J⟩:∃x,U[j+i]? =some x:=⟨_,List.getElem?_eq_getElem (by rw[<-WT.o];omega)⟩;have HX:=aJ J;clear J;have Q:=aJ F;clear F;have WR:∀u,(wr.setCell ⟨gU,j+i,none⟩ u).cell? ⟨gU,j+i,none⟩=some u:=fun u=>by
    have:=(Q.o.1.Pk (i:=j+i) u).cell (j+i);rw[this];have Z:j+i<(mg U').length:=by rw[pV];exact Wu
    simp[Z]
   have Xg:∀u,(wr.setCell ⟨gU,j+i,none⟩ u).frozen? ⟨gU,j+i,none⟩=false:=fun u=>(Q.o.1.Pk (i:=j+i) u).frozen (j+i);clear Wu;by_cases O:i<n4
   .obtain⟨b4,o4,WH,_,WF⟩:=WI.rd.plain aa;have Wy:=WG.o _ WH;subst WH;obtain⟨WA,y,e1,_,R,I,_⟩:=WI.at_ O;have WK:∀u,(wr.setCell ⟨gU,j+i,none⟩ u).cell? ⟨b4,o4+i,none⟩=some (.int .u32 (y:Int)):=fun u=>(WO.trans (Only.set _ _ _ _)).cell_ (WF i _ (oz R)) Wy;have HY:=aJ (bF R);clear R WF e1;go_wp2;go_roundw
    case rel=>
     refine⟨i+1,U'.set (j+i) y,aa,au,D.step HX.o HY.o,?_,(WO.trans (Only.set _ _ _ _)).trans (Only.set _ _ _ _)⟩;have h1:=(Q.set (k:=j+i) (d:=0) (z:=0) rfl aa).set (k:=j+i) (d:=y) rfl I;rwa[List.set_set] at h1
    case measure=>simp[intOf]<;>omega
   .go_wp2;go_roundw
    case rel=>
     refine⟨i+1,U'.set (j+i) 0,aa,au,D.step HX.o (R9 (by rw[WB.o];omega)),?_,WO.trans (Only.set _ _ _ _)⟩;exact Q.set (k:=j+i) (d:=0) (z:=0) rfl aa
    case measure=>simp[intOf]<;>omega
  .obtain rfl:i=n+1:=aa;go_wp2
   go_end0
   refine⟨rfl,U',F,D.o.1,D.o.2.1,?_,(Only.Eu N).trans WO⟩;have h1:=D.o.2.2.2;rw[List.take_of_length_le (l:=wl) (by rw[WB.o];omega),WN.o,aM] at h1;have h2:=Ww.o;have h3:4294967296^j*val ((U.drop j).take (n+1))=4294967296^j*(val ((U.drop j).take (n+1))-val v*g)+4294967296^j*(val v*g):=by
    rw[<-Nat.mul_add,Nat.sub_add_cancel h2]
   omega
def AB{a n}(h:(bZ a).length=n)(j:n≠0):4294967296^(n-1)<=a:=by
 have:=I9 (bJ a) (by intro e;rw[e] at h;simp at h;omega);rwa[aM,h] at this
def J6(A B n m c d a b w)(l:RM w A n c (bZ a))(D:RM w B m d (bZ b))(j:a<b):
  Calls Tryz.prog 180 #[.slice A n c,.slice B m d] w fun e w'=>∃q r,e=.returned (.tuple #[q,r])/\SlM (bZ (a/b)) q w'/\SlM (bZ (a%b)) r w'/\Ext w w':=by
 have C:decide (mI a b<0)=true:=by rw[kH];exact decide_eq_true j
 go_enter Tryz.func180,Tryz.ntmps180;(go_wp2_with fail);refine(ig A B n m c d _ _ _ l D (bJ _) (bJ _)).mono ?_;rintro e w1 ⟨rfl,H⟩;rw[aM,aM];go_wp2
 go_ret2
 refine⟨_,_,rfl,⟨none,0,0,rfl,?_⟩,⟨A,n,c,rfl,?_⟩,H⟩
 .rw[Nat.div_eq_of_lt j,iw];exact RM.nil
 .rw[Nat.mod_eq_of_lt j];exact l.ext H
def G7(A B n c d a b w)(R:RM w A n c (bZ a))(N:RM w B 1 d (bZ b))(V:b<=a)(hn:n<=1000000):
  Calls Tryz.prog 180 #[.slice A n c,.slice B 1 d] w fun e w'=>∃q r,e=.returned (.tuple #[q,r])/\SlM (bZ (a/b)) q w'/\SlM (bZ (a%b)) r w'/\Ext w w':=by
 have U:decide (mI a b<0)=false:=by rw[kH];exact decide_eq_false aa
 obtain⟨Q,x,rfl,_,J,D,K⟩:=N.at_ (k:=0) aa;have Z:=N.len;have C:bZ b=[x]:=by
  match hd:bZ b,Z,J with
  |[y],_,h=>simp at h;rw[h]
 have hb:b=x:=by rw[<-aM b,C];simp[val]
 subst hb;have l:0<b:=by
  exact AcA
 have T:=aJ K;clear K J Z C;go_enter Tryz.func180,Tryz.ntmps180;(go_wp2_with fail);refine(ig A (some Q) n 1 c d _ _ _ R N (bJ _) (bJ _)).mono ?_;rintro e w1 ⟨rfl,H⟩;rw[aM,aM];have O:w1.cell? Q=some (.int .u32 (b:Int)):=H.cell_ T.o;(go_wp2_with fail);refine(Jp A n c b _ _ (R.ext H) hn l D).mono ?_;rintro e w2 ⟨Y,rfl,I,P⟩;rw[aM] at I;rw[aM];have G:a%b<4294967296:=Nat.lt_trans (Nat.mod_lt _ l) D;generalize S:a%b=r at*
 have M:=aJ S;clear S;(go_wp2_with fail);refine(il _ 1 1 [r] _ (RM.blk (Blk.new _ _ _) (Dig.one G) rfl aa) aa).mono ?_;rintro e W ⟨v3,rfl,L,F⟩;have j:=I.ext ((Ext.new w2 _).trans F);go_wp2
 go_ret2
 refine⟨_,_,rfl,j,by rw[M.o];simpa[val] using L,(H.trans P).trans ((Ext.new w2 _).trans F)⟩
def UO{y}(h:y<4294967296):y&&&2147483648=0↔y<2147483648:=by
 have hb:y.testBit 31=decide (y/2^31%2=1):=Nat.testBit_eq_decide_div_mod_eq;constructor
 .intro l;have j:(y&&&2^31).testBit 31=false:=by rw[show y&&&2^31=0 from l];simp
  rw[Nat.testBit_and,Nat.testBit_two_pow_self,Bool.and_true,hb,decide_eq_false_iff_not] at j;omega
 .intro l;have j:y.testBit 31=false:=by rw[hb,decide_eq_false_iff_not];omega
  refine Nat.eq_of_testBit_eq fun i=> ?_;rw[show(2147483648:Nat)=2^31 from rfl,Nat.testBit_and,Nat.testBit_two_pow];by_cases hi:31=i
  .subst hi;simp[j]
  .simp[hi]
def VC{y:Nat}(h:y<4294967296):(bits .and .u32 (y:Int) 2147483648==0)=decide (y<2147483648):=by
 have e:bits .and .u32 (y:Int) ((2147483648:Nat):Int)=((y&&&2147483648:Nat):Int):=
  (bits_nat .u32 32 aj wraps_u32 y 2147483648 aa aa).1
 rw[show(2147483648:Int)=((2147483648:Nat):Int) from rfl,e];have j:=UO h;generalize y&&&2147483648=z at j;by_cases R:y<2147483648
 .rw[j.2 R,decide_eq_true R];rfl
 .rw[decide_eq_false R];have:z≠0:=fun e=>R (j.1 e);simp;exact this

structure Gd (b n s:Nat) (x:Nat):Prop where
 len:(bZ b).length=n+2
 top:(bZ b)[n+1]? =some x
 lo:2147483648<=x*2^s
 hi:x*2^s<4294967296
 hs:s<32
def Gd.lt{b n s x}(h:Gd b n s x):b*2^s<4294967296^(n+2):=by
 have D:=bF h.top;rw[jY (by rw[h.len];omega),aM] at D;have F:=kM (oC b) (n+1);have C:x*2^s+2^s<=4294967296:=by
  have e:=vS (show s<=32 by have:=h.hs;omega);have l:=h.hi;rw[<-e,Nat.mul_comm x] at l;have B:=Nat.lt_of_mul_lt_mul_left l;have j:2^s*(x+1)<=2^s*2^(32-s):=Nat.mul_le_mul_left _ B;rw[e,Nat.mul_add,Nat.mul_one,Nat.mul_comm] at j;exact j
 have l:b*2^s<4294967296^(n+1)*(x+1)*2^s:=by
  refine Nat.mul_lt_mul_of_pos_right ?_ (Nat.pow_pos aa);rw[Nat.mul_add,Nat.mul_one];omega
 have B:4294967296^(n+1)*(x+1)*2^s=4294967296^(n+1)*(x*2^s+2^s):=by rw[Nat.mul_assoc,Nat.add_mul,Nat.one_mul]
 have j:4294967296^(n+1)*(x*2^s+2^s)<=4294967296^(n+1)*4294967296:=Nat.mul_le_mul_left _ C;rw[show n+2=(n+1)+1 from rfl,Nat.pow_succ];omega
def Gd.ge{b n s x}(h:Gd b n s x):2147483648*4294967296^(n+1)<=b*2^s:=by
 have l:=bF h.top;rw[jY (by rw[h.len];omega),aM] at l;have B:4294967296^(n+1)*x*2^s<=b*2^s:=Nat.mul_le_mul_right _ aa;have j:4294967296^(n+1)*2147483648<=4294967296^(n+1)*(x*2^s):=Nat.mul_le_mul_left _ h.lo;rw[<-Nat.mul_assoc] at j;omega
def Gd.digits{b n s x q}(h:Gd b n s x)(hq:q.length=n+3)(hd:Dig q)(hv:val q=b*2^s):val (q.take (n+2))=b*2^s/\∃v1 v0,(q.take (n+2))[n+1]? =some v1/\(q.take (n+2))[n]? =some v0/\2147483648<=v1:=by
 have D:=gI q (n+2) aa;have G:=h.lt;have B:val (q.drop (n+2))=0:=by
  rcases Nat.eq_zero_or_pos (val (q.drop (n+2))) with j|j
  .exact j
  .have:4294967296^(n+2)*1<=4294967296^(n+2)*val (q.drop (n+2)):=Nat.mul_le_mul_left _ j;omega
 have l:val (q.take (n+2))=b*2^s:=by rw[B] at D;omega
 have T:(q.take (n+2)).length=n+2:=by rw[List.length_take];omega
 refine⟨l,_,_,List.getElem?_eq_getElem aa,List.getElem?_eq_getElem aa,?_⟩;have C:(q.take (n+2))[n+1]? =some (q.take (n+2))[n+1]:=List.getElem?_eq_getElem aa;have F:=bF C;rw[jY aa,l] at F;have H:=kM (hd.take (n+2)) (n+1);have I:=h.ge;generalize (q.take (n+2))[n+1]=v1 at*
 rcases Nat.lt_or_ge v1 2147483648 with hc|hc
 .exfalso;have:4294967296^(n+1)*(v1+1)<=4294967296^(n+1)*2147483648:=Nat.mul_le_mul_left _ hc;rw[Nat.mul_add,Nat.mul_one] at this;omega
 .exact hc
def lS (U qs:List Nat) (N V k:Nat):Prop:=val U+V*(4294967296^k*val qs)=N/\val (U.drop k)<V
def Kr{U j x V}(hd:Dig U)(J:U[j]? =some x)(h:val (U.drop (j+1))<V):val (U.drop j)<4294967296*V:=by
 rw[uW J];have:=hd.at_ J;have l:4294967296*(val (U.drop (j+1))+1)<=4294967296*V:=Nat.mul_le_mul_left _ h;omega
def lS.step{U l qs N V j q}(h:lS U qs N V (j+1))(B:j<=U.length)(Z:l.length=U.length)(F:l.take j=U.take j)(hv:val l+4294967296^j*(V*q)=val U)(hq:q=val (U.drop j)/V)(hV:0<V):lS l (q::qs) N V j:=by
 have K:=gI U j B;have D:=gI l j aa;rw[F] at D;have C:4294967296^j*(val (l.drop j)+V*q)=4294967296^j*val (U.drop j):=by rw[Nat.mul_add];omega
 have J:=Nat.eq_of_mul_eq_mul_left (Nat.pow_pos aa) C;refine⟨?_,?_⟩
 .rw[<-h.1,<-hv,val,Nat.mul_add,Nat.mul_add,Nat.pow_succ];have M:V*(4294967296^j*q)=4294967296^j*(V*q):=Nat.mul_left_comm _ _ _;have H:V*(4294967296^j*(4294967296*val qs))=V*(4294967296^j*4294967296*val qs):=by rw[Nat.mul_assoc (4294967296^j)]
  omega
 .have G:=Nat.div_add_mod (val (U.drop j)) V;have I:=Nat.mod_lt (val (U.drop j)) hV;rw[<-hq] at G;omega
def lS.start{U N V k}(h:val U=N)(j:val (U.drop k)<V):lS U [] N V k:=⟨by simp[val,h],j⟩
def lS.done{U qs N V}(h:lS U qs N V 0):val qs=N/V/\val U=N%V:=by
 obtain⟨l,j⟩:=h;simp only[Nat.pow_zero,Nat.one_mul,List.drop_zero] at l j;have hV:0<V:=aa;rw[<-l];constructor
 .rw[Nat.add_comm,Nat.mul_add_div hV,Nat.div_eq_of_lt j,Nat.add_zero]
 .rw[Nat.add_comm,Nat.mul_add_mod,Nat.mod_eq_of_lt j]
def Ll{U v j n v1 v0}(C:Dig U)(hv:Dig v)(T:j+n+3<=U.length)(D:v.length=n+2)(K:v[n+1]? =some v1)(J:v[n]? =some v0)(L:2147483648<=v1)(F:val (U.drop (j+1))<val v):
  ∃u2 u1 u0,U[j+n+2]? =some u2/\U[j+n+1]? =some u1/\U[j+n]? =some u0/\qL (val (U.drop j)) (val v) (4294967296^n) u2 u1 u0 v1 v0:=by
 have H:U[j+n+2]? =some U[j+n+2]:=List.getElem?_eq_getElem aa;have I:U[j+n+1]? =some U[j+n+1]:=List.getElem?_eq_getElem aa;have G:U[j+n]? =some U[j+n]:=List.getElem?_eq_getElem aa;have B:U[j]? =some U[j]:=List.getElem?_eq_getElem aa;have hS:=Kr C B F;have hV:=lQ hv;rw[D] at hV;have l:val (U.drop j)<4294967296^(n+3):=by
  rw[show n+3=(n+2)+1 from rfl,Nat.pow_succ,Nat.mul_comm];have:4294967296*val v<=4294967296*4294967296^(n+2):=Nat.mul_le_mul_left _ (Nat.le_of_lt hV);omega
 refine⟨_,_,_,H,I,G,Nat.pow_pos aa,?_,?_,L,hv.at_ K,hv.at_ J,C.at_ H,C.at_ I,C.at_ G,hS⟩
 .exact We (C.drop j) l (by rw[List.getElem?_drop];exact H) (by rw[List.getElem?_drop];exact I) (by rw[List.getElem?_drop];exact G)
 .exact V8 hv D K J
def Am{a b s}:a*2^s/(b*2^s)=a/b:=Nat.mul_div_mul_right _ _ (Nat.pow_pos aa)
def zh{a b s}:a*2^s%(b*2^s)=a%b*2^s:=Nat.mul_mod_mul_right _ _ _
def EK{U n}(hd:Dig U)(hn:n<=U.length)(h:val U<4294967296^n):val (U.take n)=val U:=by
 have B:=gI U n hn;have l:val (U.drop n)=0:=by
  rcases Nat.eq_zero_or_pos (val (U.drop n)) with j|j
  .exact j
  .have:4294967296^n*1<=4294967296^n*val (U.drop n):=Nat.mul_le_mul_left _ j;omega
 rw[l] at B;omega
end Go.Proofs.YtbfnfkppkmpieaaGreat
