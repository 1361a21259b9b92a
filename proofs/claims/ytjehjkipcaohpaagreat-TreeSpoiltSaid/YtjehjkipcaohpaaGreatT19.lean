/- Cl Tr1 Tr2 Tr3 TForm Tr4 Tr5 -/
import Derived.Test.YtjehjkipcaohpaaGreatRows
import Derived.Test.YtjehjkipcaohpaaGreatT09
set_option maxHeartbeats 8000000
set_option linter.unusedVariables false
set_option linter.unusedSimpArgs false
set_option linter.constructorNameAsVariable false
namespace Go.Proofs.YtjehjkipcaohpaaGreat
section
set_option maxRecDepth 100000
def io:{L:List Char // Tryz.prog.initOrder.toList=L}:=⟨_,(congrArg String.toList (rfl:Tryz.prog.initOrder=String.ofList _)).trans String.toList_ofList⟩
theorem zkK:Tryz.prog.laysLater=false:=by kernel_rfl
theorem zkL:Tryz.prog.bearsReflect=false:=by kernel_rfl
theorem zkM:Tryz.prog.doorRows=[]:=by kernel_rfl
theorem zcM : ∃ rest, behindMainWord (wordsSigns Tryz.prog.initOrder.toList) = "cut".toList :: rest := by
 rw [io.2];exact ⟨(behindMainWord (wordsSigns io.1)).tail,by kernel_rfl⟩
theorem zkN {P : Program} {m : Make} {rest : List (List Char)} (h : behindMainWord (wordsSigns P.initOrder.toList) = "cut".toList :: rest) (hm : m = .cut) : (P.make == some m) = true := by
 subst hm;unfold Program.make;rw [h];kernel_rfl
theorem zkO {P : Program} {b : Bool} {rest : List (List Char)} (h : behindMainWord (wordsSigns P.initOrder.toList) = "cut".toList :: rest) (hb : b = false) : (b == P.liftsFinal) = true := by
 subst hb;unfold Program.liftsFinal Program.headLifts;rw [h];kernel_rfl
theorem zkP {P : Program} {rest : List (List Char)} (h : behindMainWord (wordsSigns P.initOrder.toList) = "cut".toList :: rest) (h1 : P.laysLater = false) (h2 : P.bearsReflect = false) (h3 : P.doorRows = []) : P.mayEnter = true := by
 unfold Program.mayEnter Program.doorFits;rw [h,h1,h2,h3];kernel_rfl
theorem zkQ:Tryz.prog.mayEnter=true:=by
 obtain ⟨rest,h⟩:=zcM;exact zkP h zkK zkL zkM
theorem zkR {m:Make} (hm:m= .cut):(Tryz.prog.make==some m)=true:=by
 obtain ⟨rest,h⟩:=zcM;exact zkN h hm
theorem zkS {b:Bool} (hb:b=false):(b==Tryz.prog.liftsFinal)=true:=by
 obtain ⟨rest,h⟩:=zcM;exact zkO h hb
theorem ZN {a b:Bool} (ha:a=true) (hb:b=true):(a&&b)=true:=by rw [ha,hb];rfl
end
section
open Go.RowKit
theorem zft {w:World} (v:Int) (m:Nat) (h0:0<=v) (hm1:1<=m) (hm:m<9223372036854775808) (hb:v*m<340282366920938463463374607431768211456):
  Calls Tryz.prog 114 #[Zs v,.int .i64 m] w (zz w (Zs (v*m))):=by
 unfold Zs;have hv1:v<340282366920938463463374607431768211456:=by
  have :v*1<=v*m:=Int.mul_le_mul_of_nonneg_left (by omega) h0;omega
 have a0:0<=zq v:=by unfold zq;omega
 have a1:0<=zm v:=by unfold zm;omega
 have a2:zm v<18446744073709551616:=by unfold zm;omega
 have a3:zq v<18446744073709551616:=by unfold zq;omega
 have hvs:v=zq v*18446744073709551616+zm v:=by unfold zq zm;omega
 obtain ⟨al,hal⟩:=Int.eq_ofNat_of_zero_le a1;obtain ⟨p,hp⟩:∃p,p=al*m:=⟨_,rfl⟩;have hM:=Tryz.bits_Mul64 al m (by omega) (by omega);rw [<-hp] at hM;have HM:=Zh hM;obtain ⟨ah,hah⟩:∃ah,ah=zq v:=⟨_,rfl⟩;rw [<-hah] at a0 a3 hvs |-
 obtain ⟨t,ht⟩:∃t,t=ah*m:=⟨_,rfl⟩;have ht0:0<=t:=by rw [ht];exact Int.mul_nonneg a0 (by omega)
 have zuj:v*m=t*18446744073709551616+p:=by
  rw [hvs,Int.add_mul,ht,hp,hal,Int.mul_right_comm];simp
 obtain ⟨q,hq⟩:∃q:Int,q=((p / 18446744073709551616:Nat):Int):=⟨_,rfl⟩;obtain ⟨r,hr⟩:∃r:Int,r=((p%18446744073709551616:Nat):Int):=⟨_,rfl⟩;rw [<-hq,<-hr] at HM;have HV1:Hid (zq (v*m)=t+q):=Zh (by unfold zq;omega);have HV2:Hid (zm (v*m)=r):=Zh (by unfold zm;omega);have hq0:0<=q:=by omega
 have hr0:0<=r:=by omega
 have htq:t+q<18446744073709551616:=by omega
 have ht1:t<18446744073709551616:=by omega
 have hts:=ht.symm;rw [hal,HV1.out,HV2.out];have hm2:(m:Int)<9223372036854775808:=by omega
 clear zuj hvs hq hr hp hM ht hah hal hb HV1 HV2;go_enter Tryz.func114,Tryz.ntmps114;go_wp2_with (go_at_call 175;refine (HM.out _).mono ?_;rintro e w' ⟨rfl,rfl⟩)
 exact bodyPost_ret (v:= .agg #[.int .u64 (t+q),.int .u64 r]) (by simp [results,Tryz.results114,go_sem]) rfl ⟨rfl,Step.of _ _⟩
theorem zkT {w:World} (a b:Int) (hb0:0<=b) (hab:b<=a) (ha1:a<340282366920938463463374607431768211456):
  Calls Tryz.prog 216 #[Zs a,Zs b] w (zz w (Zs (a-b))):=by
 unfold Zs;have a1:0<=zq a/\zq a<18446744073709551616/\0<=zm a/\zm a<18446744073709551616/\a=zq a*18446744073709551616+zm a:=by unfold zq zm;omega
 have b1:0<=zq b/\zq b<18446744073709551616/\0<=zm b/\zm b<18446744073709551616/\b=zq b*18446744073709551616+zm b:=by unfold zq zm;omega
 obtain ⟨c1,c2,c3,c4,c5⟩:=a1;obtain ⟨d1,d2,d3,d4,d5⟩:=b1;have hg2:(zm a<zm b/\qo (zm a) (zm b)=1)∨(zm b<=zm a/\qo (zm a) (zm b)=0):=by unfold qo;split<;>omega
 have HV1:Hid (zq (a-b)=(zq a-zq b-qo (zm a) (zm b))%18446744073709551616):=Zh (by
  have :zq (a-b)=(a-b) / 18446744073709551616:=rfl;omega)
 have HV2:Hid (zm (a-b)=(zm a-zm b)%18446744073709551616):=Zh (by
  have :zm (a-b)=(a-b)%18446744073709551616:=rfl;omega)
 rw [HV1.out,HV2.out];clear HV1 HV2 c5 d5 hg2;generalize zq a=ah at*
 generalize zm a=al at*
 generalize zq b=bh at*
 generalize zm b=bl at*
 have hg1:=zcE al bl;have s1:=ze4 al bl c3 d3 d4;have s2:=zcD ah bh (qo al bl) c1 d1 d2 hg1.1 hg1.2;generalize qo al bl=g at*
 generalize (al-bl)%18446744073709551616=lo at*
 generalize (ah-bh-g)%18446744073709551616=hi at*
 generalize qo ah (bh+g)=f at*
 have S1:=Zh s1;have S2:=Zh s2;clear s1 s2;go_enter Tryz.func216,Tryz.ntmps216;go_wp2_with (first |simp only [S1.out] |simp only [S2.out])
 exact bodyPost_ret (v:= .agg #[.int .u64 hi,.int .u64 lo]) (by simp [results,Tryz.results216,go_sem]) rfl ⟨rfl,Step.of _ _⟩
theorem zfu {w:World} (x d:Int) (h0:0<=x) (h1:x<18446744073709551616) (hd:1<=d) (hd1:d<18446744073709551616):
  Calls Tryz.prog 243 #[.int .u64 0,.int .u64 x,.int .u64 d] w fun e w'=>e= .returned (.tuple #[.int .u64 (x / d),.int .u64 (x%d)])/\∃n,w'=w.drewN n:=by
 have hq0:0<=x / d:=Int.ediv_nonneg h0 (by omega);have hq1:x / d<=x:=Int.ediv_le_self _ h0;have hr0:=Int.emod_nonneg x (show d≠0 by omega);have hr1:=Int.emod_lt_of_pos x (show 0<d by omega);have hdz:(d==0)=false:=by simp;omega
 have zvr:¬d=0:=by omega
 have hle:decide (d<=0)=false:=by simp;omega
 have t1:x.tdiv d=x / d:=Int.tdiv_eq_ediv_of_nonneg h0;have t2:x.tmod d=x%d:=Int.tmod_eq_emod_of_nonneg h0;go_enter Tryz.func243,Tryz.ntmps243;go_wp2_with fail
 go_quiet (fail)
 go_wp2_with fail
 go_ret2
 exact ⟨rfl,_,rfl⟩
theorem zcN {v:Int} (h0:0<=v) (h1:v<18446744073709551616):Zs v= .agg #[.int .u64 0,.int .u64 v]:=by
 have e1:zq v=0:=by unfold zq;omega
 have e2:zm v=v:=by unfold zm;omega
 rw [Zs,e1,e2]
theorem zkU {w:World} (v d:Int) (h0:0<=v) (h1:v<18446744073709551616) (hd:1<=d) (hd1:d<9223372036854775808):
  Calls Tryz.prog 219 #[Zs v,.int .i64 d] w (zz w (Zs (v / d))):=by
 have hq0:0<=v / d:=Int.ediv_nonneg h0 (by omega);have hq1:v / d<=v:=Int.ediv_le_self _ h0;rw [zcN h0 h1,zcN hq0 (by omega)];have c1:=fun W=>zfu (w:=W) 0 d (by omega) (by omega) hd (by omega)
 rw [Int.zero_ediv,Int.zero_emod] at c1;have c2:=fun W=>zfu (w:=W) v d h0 h1 hd (by omega)
 have C1:=Zh c1;have C2:=Zh c2;generalize v / d=q at*
 generalize v%d=r at*
 clear c1 c2;by_cases hv0:v=0
 ·subst hv0;have hq:q=0:=by omega
  subst hq;have hr:Hid (∀W,Calls Tryz.prog 243 #[.int .u64 0,.int .u64 0,.int .u64 d] W fun e w'=>e= .returned (.tuple #[.int .u64 0,.int .u64 0])/\∃n,w'=W.drewN n):=C1;clear C2 C1;go_enter Tryz.func219,Tryz.ntmps219;go_wp2_with (go_at_call 243;refine (hr.out _).mono ?_;rintro e w' ⟨rfl,n1,rfl⟩)
  exact bodyPost_ret (v:= .agg #[.int .u64 0,.int .u64 0]) (by simp [results,Tryz.results219,go_sem]) rfl ⟨rfl,Step.of _ _⟩
 ·clear hv0;go_enter Tryz.func219,Tryz.ntmps219;go_wp2_with fail
  go_at_call 243
  refine (C1.out _).mono ?_;rintro e w' ⟨rfl,n1,rfl⟩;go_wp2_with fail
  go_at_call 243
  refine (C2.out _).mono ?_;rintro e w' ⟨rfl,n2,rfl⟩;go_wp2_with fail
  exact bodyPost_ret (v:= .agg #[.int .u64 0,.int .u64 q]) (by simp [results,Tryz.results219,go_sem]) rfl ⟨rfl,Step.of _ _⟩
theorem zkV {w:World} (a b:Int):
  Calls Tryz.prog 256 #[Zs a,Zs b] w (zz w (.bool (decide (b<a)))):=by
 unfold Zs;have a1:0<=zm a/\zm a<18446744073709551616/\a=zq a*18446744073709551616+zm a:=by unfold zq zm;omega
 have b1:0<=zm b/\zm b<18446744073709551616/\b=zq b*18446744073709551616+zm b:=by unfold zq zm;omega
 generalize zq a=ah at*
 generalize zm a=al at*
 generalize zq b=bh at*
 generalize zm b=bl at*
 obtain ⟨c3,c4,c5⟩:=a1;obtain ⟨d3,d4,d5⟩:=b1;rcases Int.lt_trichotomy bh ah with h |h |h
 ·have HV:Hid (decide (b<a)=true):=Zh (by simp;omega);rw [HV.out];have e1:decide (bh<ah)=true:=by simpa using h
  clear h c5 d5;go_enter Tryz.func256,Tryz.ntmps256;go_wp2_with fail
  go_ret;exact ⟨rfl,Step.of _ _⟩
 ·subst h;have e1:decide (bh<bh)=false:=by simp
  have HV:Hid (decide (b<a)=decide (bl<al)):=Zh (by rw [Bool.eq_iff_iff];simp;omega);rw [HV.out];clear c5 d5;by_cases hl:bl<al
  ·have e2:decide (bl<al)=true:=by simpa using hl
   clear hl;go_enter Tryz.func256,Tryz.ntmps256;go_wp2_with fail
   go_ret;exact ⟨by simp [e2],Step.of _ _⟩
  ·have e2:decide (bl<al)=false:=by simpa using hl
   clear hl;go_enter Tryz.func256,Tryz.ntmps256;go_wp2_with fail
   go_ret;exact ⟨by simp [e2],Step.of _ _⟩
 ·have HV:Hid (decide (b<a)=false):=Zh (by simp;omega);rw [HV.out];have e1:decide (bh<ah)=false:=by simp;omega
  have e2:(ah==bh)=false:=by simp;omega
  clear h c5 d5;go_enter Tryz.func256,Tryz.ntmps256;go_wp2_with fail
  go_ret;exact ⟨rfl,Step.of _ _⟩
theorem zfv {w:World} (u:Int) (h0:-4611686018427387904<=u) (h1:u<=4611686018427387904):
  Calls Tryz.prog 217 #[.int .i64 u] w (zz w (Zs (u*u))):=by
 obtain ⟨a,ha⟩:∃a:Nat,a=u.natAbs:=⟨_,rfl⟩;have hsq:u*u=((a*a:Nat):Int):=by rw [ha];exact (Int.natAbs_mul_self).symm
 have hM:=Tryz.bits_Mul64 a a (by omega) (by omega);rw [hsq];obtain ⟨p,hp⟩:∃p,p=a*a:=⟨_,rfl⟩;rw [<-hp] at hM |-
 have HV:Hid (Zs (p:Int)= .agg #[.int .u64 ((p / 18446744073709551616:Nat):Int),.int .u64 ((p%18446744073709551616:Nat):Int)]):=Zh (by unfold Zs zq zm;congr 4<;>omega);rw [HV.out];generalize ((p / 18446744073709551616:Nat):Int)=q at*
 generalize ((p%18446744073709551616:Nat):Int)=r at*
 have HM:=Zh hM;clear hM hp hsq HV;by_cases hu:u<0
 ·have hd:decide (u<0)=true:=by simpa using hu
  have e1:IntKind.u64.wrap u=18446744073709551616-a:=by rw [IntKind.wrap_u64];omega
  have e2:IntKind.u64.wrap (-(18446744073709551616-(a:Int)))=a:=by rw [IntKind.wrap_u64];omega
  clear hu ha;go_enter Tryz.func217,Tryz.ntmps217;go_wp2_with (go_at_call 175;refine (HM.out _).mono ?_;rintro e w' ⟨rfl,rfl⟩)
  exact bodyPost_ret (v:= .agg #[.int .u64 q,.int .u64 r]) (by simp [results,Tryz.results217,go_sem]) rfl ⟨rfl,Step.of _ _⟩
 ·have hd:decide (u<0)=false:=by simpa using hu
  obtain rfl:u=(a:Int):=by omega
  clear hu ha;go_enter Tryz.func217,Tryz.ntmps217;go_wp2_with (go_at_call 175;refine (HM.out _).mono ?_;rintro e w' ⟨rfl,rfl⟩)
  exact bodyPost_ret (v:= .agg #[.int .u64 q,.int .u64 r]) (by simp [results,Tryz.results217,go_sem]) rfl ⟨rfl,Step.of _ _⟩
structure LvAt (w:World) (b o:Nat) (mi sh lim:Int):Prop where
 c0:w.cell? ⟨b,o,none⟩=some (.int .i64 mi)
 c1:w.cell? ⟨b,o+1,none⟩=some (.int .i64 sh)
 c2:w.cell? ⟨b,o+2,none⟩=some (.int .u64 (zq lim))
 c3:w.cell? ⟨b,o+3,none⟩=some (.int .u64 (zm lim))
 lt:b<w.heap.size
theorem LvAt.ext {w w':World} {b o:Nat} {mi sh lim:Int} (h:LvAt w b o mi sh lim) (hx:Ext w w'):LvAt w' b o mi sh lim:=
 ⟨(hx.below.cell (p:=⟨b,o,none⟩) h.lt).trans h.c0,(hx.below.cell (p:=⟨b,o+1,none⟩) h.lt).trans h.c1,(hx.below.cell (p:=⟨b,o+2,none⟩) h.lt).trans h.c2,(hx.below.cell (p:=⟨b,o+3,none⟩) h.lt).trans h.c3,Nat.lt_of_lt_of_le h.lt hx.size⟩
def JR (mi sh x:Int):Prop:=-4611686018427387904<=mi*x/\mi*x<=4611686018427387904/\-4611686018427387904<=mi*x+sh/\mi*x+sh<=4611686018427387904
def zM (mi sh x:Int):Int:=mi*x+sh
theorem zbo {w0 w:World} {b o:Nat} {mi sh lim x:Int} (h:LvAt w0 b o mi sh lim) (hf:JR mi sh x) [hx:Ext w0 w]:
  Calls Tryz.prog 218 #[.pointer (some ⟨b,o,none⟩),.int .i64 x] w (jA w (.int .i64 (zM mi sh x))):=by
 obtain ⟨g0,g1,-,-,g4⟩:=h.ext hx;obtain ⟨f1,f2,f3,f4⟩:=hf;unfold zM;obtain ⟨p,hp⟩:∃p,mi*x=p:=⟨_,rfl⟩;rw [hp] at f1 f2 f3 f4 |-
 have e1:IntKind.i64.wrap p=p:=IntWalk.i64_in _ (by omega);have e2:IntKind.i64.wrap (p+sh)=p+sh:=IntWalk.i64_in _ (by omega);go_enter Tryz.func218,Tryz.ntmps218;go_wp2_with fail
 go_quiet (fail)
 go_wp2_with fail
 go_ret;exact ⟨rfl,_,rfl⟩
def Za (mi sh lim x:Int):Bool:=!decide (lim<zM mi sh x*zM mi sh x)
theorem zbp {w0 w:World} {b o:Nat} {mi sh lim x:Int} (h:LvAt w0 b o mi sh lim) (hf:JR mi sh x) [hx:Ext w0 w]:
  Calls Tryz.prog 242 #[.pointer (some ⟨b,o,none⟩),.int .i64 x] w (zz w (.bool (Za mi sh lim x))):=by
 have hu:=fun W (hh:Ext w0 W)=>zbo (w:=W) h hf
 have HU:=Zh hu;have HI:Hid (Za mi sh lim x=!decide (lim<zM mi sh x*zM mi sh x)):=Zh rfl;obtain ⟨u,hue⟩:∃u,zM mi sh x=u:=⟨_,rfl⟩;have hub:-4611686018427387904<=u/\u<=4611686018427387904:=by rw [<-hue];exact ⟨hf.2.2.1,hf.2.2.2⟩
 rw [hue] at HU HI;rw [HI.out];have hs:=fun W=>zfv (w:=W) u hub.1 hub.2
 have he:=fun W=>zkV (w:=W) (u*u) lim
 have HS:=Zh hs;have HE:=Zh he;generalize decide (lim<u*u)=bb at*
 have HL:=Zh h;have HHX:=fun W (hh:Ext w0 W)=>(⟨(h.ext hh).c2,(h.ext hh).c3⟩:W.cell? ⟨b,o+2,none⟩=some (.int .u64 (zq lim))/\W.cell? ⟨b,o+3,none⟩=some (.int .u64 (zm lim)))
 have HX:=Zh HHX;unfold Zs at HS HE;clear hu hs he HHX hue hf h HI;go_enter Tryz.func242,Tryz.ntmps242;go_wp2_with fail
 go_region_held3 (fun w'=>w'.cell? ⟨b,o+2,none⟩=some (.int .u64 (zq lim))/\w'.cell? ⟨b,o+3,none⟩=some (.int .u64 (zm lim))) (exact HX.out _ Zi)
  (first
   |(go_at_call 218;refine (HU.out _ Zi).mono ?_;rintro e w1 ⟨rfl,n1,rfl⟩)
   |(go_at_call 217;refine (HS.out _).mono ?_;rintro e w2 ⟨rfl,hs2⟩)
   |(go_at_call 256;refine (HE.out _).mono ?_;rintro e w3 ⟨rfl,hs3⟩))
 go_wp2_with fail
 go_ret;exact ⟨rfl,Step.of _ _⟩
def Z2 (mi sh lim lo hi:Int):Bool:=
 if lo< -1099511627776∨1099511627776<hi∨hi<lo-1 then false
 else if Za mi sh lim (lo-1)||Za mi sh lim (hi+1) then false
 else if lo<=hi then Za mi sh lim lo&&Za mi sh lim hi
 else decide (zM mi sh hi<0)&&decide (0<zM mi sh lo)
theorem zkW {w0 w:World} {b o:Nat} {mi sh lim lo hi:Int} (h:LvAt w0 b o mi sh lim) (hf:∀x,-1099511627778<=x->x<=1099511627778->JR mi sh x) (l0:-9223372036854775808<=lo) (l1:lo<=9223372036854775807) (k0:-9223372036854775808<=hi) (k1:hi<=9223372036854775807) [hx:Ext w0 w]:
  Calls Tryz.prog 215 #[.pointer (some ⟨b,o,none⟩),.agg #[.int .i64 lo,.int .i64 hi]] w (zz w (.bool (Z2 mi sh lim lo hi))):=by
 by_cases h1:lo< -1099511627776
 ·have HV:Hid (Z2 mi sh lim lo hi=false):=Zh (by rw [Z2,if_pos (.inl h1)]);rw [HV.out];have d1:decide (lo< -1099511627776)=true:=by simpa using h1
  clear h1 hf;go_enter Tryz.func215,Tryz.ntmps215;go_wp2_with fail
  go_ret;exact ⟨rfl,Step.of _ _⟩
 have d1:decide (lo< -1099511627776)=false:=by simpa using h1
 by_cases h2:1099511627776<hi
 ·have HV:Hid (Z2 mi sh lim lo hi=false):=Zh (by rw [Z2,if_pos (.inr (.inl h2))]);rw [HV.out];have d2:decide (1099511627776<hi)=true:=by simpa using h2
  clear h1 h2 hf;go_enter Tryz.func215,Tryz.ntmps215;go_wp2_with fail
  go_ret;exact ⟨rfl,Step.of _ _⟩
 have d2:decide (1099511627776<hi)=false:=by simpa using h2
 by_cases h3:hi<lo-1
 ·have HV:Hid (Z2 mi sh lim lo hi=false):=Zh (by rw [Z2,if_pos (.inr (.inr h3))]);rw [HV.out];have d3:decide (hi<lo-1)=true:=by simpa using h3
  clear h2 h3 hf;go_enter Tryz.func215,Tryz.ntmps215;go_wp2_with fail
  go_ret;exact ⟨rfl,Step.of _ _⟩
 have d3:decide (hi<lo-1)=false:=by simpa using h3
 have HV:Hid (Z2 mi sh lim lo hi=if Za mi sh lim (lo-1)||Za mi sh lim (hi+1) then false else if lo<=hi then Za mi sh lim lo&&Za mi sh lim hi else decide (zM mi sh hi<0)&&decide (0<zM mi sh lo)):=Zh (by rw [Z2,if_neg (by omega)]);have hi1:=fun W (hh:Ext w0 W)=>zbp (w:=W) (x:=lo-1) h (hf _ (by omega) (by omega))
 have hi2:=fun W (hh:Ext w0 W)=>zbp (w:=W) (x:=hi+1) h (hf _ (by omega) (by omega))
 have hi3:=fun W (hh:Ext w0 W)=>zbp (w:=W) (x:=lo) h (hf _ (by omega) (by omega))
 have hi4:=fun W (hh:Ext w0 W)=>zbp (w:=W) (x:=hi) h (hf _ (by omega) (by omega))
 have hu1:=fun W (hh:Ext w0 W)=>zbo (w:=W) (x:=hi) h (hf _ (by omega) (by omega))
 have hu2:=fun W (hh:Ext w0 W)=>zbo (w:=W) (x:=lo) h (hf _ (by omega) (by omega))
 have HI1:=Zh hi1;have HI2:=Zh hi2;have HI3:=Zh hi3;have HI4:=Zh hi4;have HU1:=Zh hu1;have HU2:=Zh hu2;rw [HV.out];clear hi1 hi2 hi3 hi4 hu1 hu2 hf HV;generalize Za mi sh lim (lo-1)=b1 at*
 generalize Za mi sh lim (hi+1)=b2 at*
 generalize Za mi sh lim lo=b3 at*
 generalize Za mi sh lim hi=b4 at*
 generalize zM mi sh hi=u1 at*
 generalize zM mi sh lo=u2 at*
 have zvs:-1099511627776<=lo:=by omega
 have zsq:lo<=1099511627777:=by omega
 have zvt:-1099511627777<=hi:=by omega
 have ztc:hi<=1099511627776:=by omega
 cases b1
 case true=>
  rw [if_pos (by simp)];clear h1 h2 h3;go_enter Tryz.func215,Tryz.ntmps215;go_wp2_with (go_at_call 242;refine (HI1.out _ Zi).mono ?_;rintro e w1 ⟨rfl,hs1⟩)
  go_ret;exact ⟨rfl,Step.of _ _⟩
 cases b2
 case true=>
  rw [if_pos (by simp)];clear h1 h2 h3;go_enter Tryz.func215,Tryz.ntmps215;go_wp2_with fail
  go_at_call 242
  refine (HI1.out _ Zi).mono ?_;rintro e w1 ⟨rfl,hs1⟩;go_wp2_with fail
  go_at_call 242
  refine (HI2.out _ Zi).mono ?_;rintro e w2 ⟨rfl,hs2⟩;go_wp2_with fail
  go_ret;exact ⟨rfl,Step.of _ _⟩
 rw [if_neg (by simp)];by_cases hle:lo<=hi
 ·rw [if_pos hle];have d4:decide (lo<=hi)=true:=by simpa using hle
  clear h1 h2 h3 hle;go_enter Tryz.func215,Tryz.ntmps215;go_wp2_with fail
  go_at_call 242
  refine (HI1.out _ Zi).mono ?_;rintro e w1 ⟨rfl,hs1⟩;go_wp2_with fail
  go_at_call 242
  refine (HI2.out _ Zi).mono ?_;rintro e w2 ⟨rfl,hs2⟩;go_wp2_with fail
  go_at_call 242
  refine (HI3.out _ Zi).mono ?_;rintro e w3 ⟨rfl,hs3⟩
  cases b3
  ·go_wp2_with fail
   go_ret;exact ⟨rfl,Step.of _ _⟩
  ·go_wp2_with fail
   go_at_call 242
   refine (HI4.out _ Zi).mono ?_;rintro e w4 ⟨rfl,hs4⟩;go_wp2_with fail
   go_ret;exact ⟨by simp,Step.of _ _⟩
 ·rw [if_neg hle];have d4:decide (lo<=hi)=false:=by simpa using hle
  clear h1 h2 h3 hle;go_enter Tryz.func215,Tryz.ntmps215;go_wp2_with fail
  go_at_call 242
  refine (HI1.out _ Zi).mono ?_;rintro e w1 ⟨rfl,hs1⟩;go_wp2_with fail
  go_at_call 242
  refine (HI2.out _ Zi).mono ?_;rintro e w2 ⟨rfl,hs2⟩;go_wp2_with fail
  go_at_call 218
  refine (HU1.out _ Zi).mono ?_;rintro e w3 ⟨rfl,n3,rfl⟩;by_cases hu:u1<0
  ·have e1:decide (u1<0)=true:=by simpa using hu
   clear hu;go_wp2_with fail
   go_at_call 218
   refine (HU2.out _ Zi).mono ?_;rintro e w4 ⟨rfl,n4,rfl⟩;go_wp2_with fail
   go_ret;exact ⟨by simp [e1],Step.of _ _⟩
  ·have e1:decide (u1<0)=false:=by simpa using hu
   clear hu;go_wp2_with fail
   go_ret;exact ⟨by simp [e1],Step.of _ _⟩
theorem zkX {w0 w:World} {K lc n k bx:Nat} {lA:Option Addr} {L:List (List Int)} {xs lam:List Int} (hc:w0.cell? ⟨K,1,none⟩=some (.slice lA n lc)) (hK:K<w0.heap.size) (hL:Mat64 w0 lA L) (hl:L[k]? =some lam) (hx:Row w0 bx 2 .i64 xs) (hxl:xs.length=n) (hk:k<n) (hn8:n<=8) (hll:lam.length=n-1-k) (hb1:∀a∈lam,-32768<=a/\a<=32768) (hb2:∀y∈xs,-1099511627776<=y/\y<=1099511627776) [hxx:Ext w0 w]:
  Calls Tryz.prog 119 #[.pointer (some ⟨K,0,none⟩),.int .i64 k,.slice (some ⟨bx,0,none⟩) n n] w (Zw w (.int .i64 (zC lam (xs.drop (k+1))))):=by
 obtain ⟨b,o,B,c1,rfl,l3,l5,l1,l2,l4⟩:=(hL.ext hxx).at_ hl;have f1:w.cell? ⟨K,1,none⟩=some (.slice (some ⟨b,o,none⟩) n lc):=(hxx.below.cell (p:=⟨K,1,none⟩) hK).trans hc;have f2:K<w.heap.size:=Nat.lt_of_lt_of_le hK hxx.size;have zp8:Row w bx 2 .i64 xs:=zg hxx hx;obtain ⟨tail,ht⟩:∃tail,tail=xs.drop (k+1):=⟨_,rfl⟩;obtain ⟨r,hr⟩:∃r,r=n-1-k:=⟨_,rfl⟩;have htl:tail.length=r:=by rw [ht,List.length_drop];omega
 rw [<-ht];rw [<-hr] at hll;rw [hll] at l3 l1;have hr1:r+k+1<=n:=by omega
 have HT:=Zh ht;have HLL:=Zh hll;have HTL:=Zh htl;have HL5:=Zh l5;have zo7:=Zh zp8;have HB1:=Zh hb1;have HB2:=Zh hb2;have HXL:=Zh hxl;have htb:Hid (∀y∈tail,-1099511627776<=y/\y<=1099511627776):=Zh fun y hy=>hb2 y (List.mem_of_mem_drop (by rw [<-ht];exact hy))
 clear ht hr hll htl l5 zp8 hb1 hb2 hxl hx hL hl hc hK;go_enter Tryz.func119,Tryz.ntmps119;go_wp2_with fail
 go_loop [7,8,9,18] (fun s _ _ i=>∃q:Nat,q<=r/\i= .int .i64 q/\s= .int .i64 (zC (lam.take q) (tail.take q))) (fun _ _ _ i=>r-(intOf i).toNat)
 case atStart=>exact ⟨0,by omega,rfl,by simp [zC]⟩
 case round=>
  obtain ⟨q,hq,rfl,rfl⟩:=hrel;by_cases hlt:q<r
  ·obtain ⟨a,ha⟩:∃a,lam[q]? =some a:=⟨_,Ze (by have :=HLL.out;omega)⟩;obtain ⟨y,hy⟩:∃y,tail[q]? =some y:=⟨_,Ze (by have :=HTL.out;omega)⟩;obtain ⟨b1,o1,-,rfl,-⟩:=HL5.out.at_ (i:=q) (by have :=HLL.out;omega);obtain ⟨g1,g2⟩:=Qg HL5.out ha;have hxy:xs[k+1+q]? =some y:=by rw [<-hy,HT.out,List.getElem?_drop]
   obtain ⟨y',hy1,hy2⟩:=zo7.out.cell (i:=k+1+q) (by rw [HXL.out];omega);rw [hxy] at hy1;injection hy1 with hy1
   subst hy1;have ba:=HB1.out a (Zm ha);have bb:=htb.out y (Zm hy);have bs:=Jg (A:=32768) (B:=1099511627776) (by omega) (by omega) (lam.take q) (tail.take q) (fun z hz=>HB1.out z (List.mem_of_mem_take hz)) (fun z hz=>htb.out z (List.mem_of_mem_take hz));have bm:=qB (a:=a) (b:=y) (A:=32768) (B:=1099511627776) (by omega) (by omega) (by omega) (by omega);have zqu:=Zh (zaw lam tail q a y ha hy);have htl:(lam.take q).length<=8:=by rw [List.length_take];omega
   obtain ⟨s,hs⟩:∃s,s=zC (lam.take q) (tail.take q):=⟨_,rfl⟩;rw [<-hs] at bs zqu |-
   have bs1:-288230376151711744<=s:=by omega
   have bs2:s<=288230376151711744:=by omega
   obtain ⟨bm1,bm2⟩:=bm;have bm3:-36028797018963968<=a*y:=by omega
   have bm4:a*y<=36028797018963968:=by omega
   clear ba bb bs bm1 bm2 hs ha hy hxy htl;go_wp2_with fail
   exact ⟨⟨q+1,by omega,by go_num,by rw [zqu.out]⟩,by simp [intOf]<;>omega⟩
  ·obtain rfl:q=r:=by omega
   clear hlt;have e1:lam.take q=lam:=List.take_of_length_le (by have :=HLL.out;omega);have e2:tail.take q=tail:=List.take_of_length_le (by have :=HTL.out;omega);rw [e1,e2];clear e1 e2;go_wp2_with fail
   go_ret;exact ⟨rfl,rfl⟩
theorem zkY {w:World} {A:Option Addr} {e:TypeId} {vs:List Value} {lo:Nat} (h:Arr w A e vs) (hb:0<vs.length->∃b o,A=some ⟨b,o,none⟩/\lo<=b):ArrX lo w A e vs:=fun h0=>by
 obtain ⟨b,o,cs,fr,rfl,h1,h2⟩:=h h0;obtain ⟨b',o',hA,hl⟩:=hb h0;injection hA with hA
 injection hA with z1 z2
 subst z1;exact ⟨b,o,cs,fr,rfl,hl,h1,h2⟩
def zcO (w:World) (D:List Int) (L:List (List Int)) (e:Ending) (w':World):Prop:=∃mA mc lA lc,e= .returned (.agg #[.slice mA D.length mc,.slice lA L.length lc])/\ArrX w.heap.size w' mA 2 (D.map (Value.int .i64))/\Mat64X w.heap.size w' lA L/\D.length<=mc/\mc<=9223372036854775807/\L.length<=lc/\lc<=9223372036854775807/\Step w w'
structure TFormI (m:List (List Int)) (wr:World) (zd:Nat) (mB lB:Option Addr) (k mc lc:Nat) (vs:List Value):Prop where
 mi:Own wr zd 2 1 mB (k+1) mc ((ze m k).map (Value.int .i64))
 la:Own wr zd 37 1 lB k lc vs
 row:∀i,i<k->∃B c,vs[i]? =some (.slice B (Zn m i).length c)/\ArrN mB wr B 2 ((Zn m i).map (Value.int .i64))/\(Zn m i).length<=c/\c<=9223372036854775807/\(0<(Zn m i).length->∃b o,B=some ⟨b,o,none⟩/\zd<=b)
structure TFormJ (m:List (List Int)) (w2 w5:World) (mB lB:Option Addr) (k mc lc:Nat) (vs:List Value) (bx ox by_ oy r cy:Nat) (e0:Int):Prop where
 st:w5.heap[w2.heap.size+1]? =some (.cells #[.slice mB (k+1+1) mc,.slice lB k lc] 99 (0,0))
 mi:Own w5 w2.heap.size 2 1 mB (k+1+1) mc ((ze m (k+1)).map (Value.int .i64))
 la:Own w5 w2.heap.size 37 1 lB k lc vs
 row:∀i,i<k->∃B c,vs[i]? =some (.slice B (Zn m i).length c)/\ArrN mB w5 B 2 ((Zn m i).map (Value.int .i64))/\(Zn m i).length<=c/\c<=9223372036854775807/\(0<(Zn m i).length->∃b o,B=some ⟨b,o,none⟩/\w2.heap.size<=b)
 nb:w2.heap.size<=by_
 hd:w5.cell? ⟨bx,ox,none⟩=some (.slice (some ⟨by_,oy,none⟩) (r+1) cy)
 bxl:bx<w5.heap.size
 new:ArrN mB w5 (some ⟨by_,oy,none⟩) 2 ((e0::Zn m k).map (Value.int .i64))
 ex:Ext w2 w5
theorem TFormI.step1 {m:List (List Int)} {w2 wr W w4:World} {mB lB A4:Option Addr} {k mc lc d4:Nat} {vs:List Value} {bx ox by_ oy r cy:Nat} {e0:Int} {x1:Value}
  (hI:TFormI m wr w2.heap.size mB lB k mc lc vs) (hwr:w2.heap.size<=wr.heap.size) (hxw:Ext wr W) (hx2:Ext w2 W) (zqd:Own w4 w2.heap.size 2 1 A4 (k+1+1) d4 ((ze m k).map (Value.int .i64)++[.int .i64 e0])) (hg4:Grow w2.heap.size 2 W w4) (zqj:Grew mB A4 W w4) (he0:e0=ent (zl m k).2 0 0)
  (hB4:w4.heap[w2.heap.size+1]? =some (.cells #[x1,.slice lB k lc] 99 (0,0))) (hX:∃cs fr,W.heap[bx]? =some (.cells cs 37 fr)/\cs[ox]? =some (.slice (some ⟨by_,oy,none⟩) (r+1) cy)) (hY:ArrX wr.heap.size W (some ⟨by_,oy,none⟩) 2 ((e0::Zn m k).map (Value.int .i64))):
  TFormJ m w2 (w4.setCell ⟨w2.heap.size+1,0,none⟩ (.slice A4 (k+1+1) d4)) A4 lB k d4 lc vs bx ox by_ oy r cy e0:=by
 have hoS:=Oth.set (p:=⟨w2.heap.size+1,0,none⟩) hB4 (.slice A4 (k+1+1) d4);obtain ⟨cs,fr,hh,hc⟩:=hX;have hh5:=hoS _ _ _ _ (by decide) (hg4.heap hh (by decide));refine ⟨zbe hB4,?_,((hI.la.ext hxw).grow hg4 (by decide)).oth hoS (by decide),fun i hi=>?_,?_,by simp [World.cell?,hh5];exact hc,zA hh5,?_,?_⟩
 ·rw [zeU,List.map_append,<-he0];exact zqd.oth hoS (by decide)
 ·obtain ⟨B,c,a,b,e⟩:=hI.row i hi;exact ⟨B,c,a,((b.ext hxw).grew zqj).oth hoS (by decide),e⟩
 ·obtain ⟨b,o,_,_,hA,hlo,_⟩:=hY (by simp);injection hA with hA
  injection hA with z1 z2
  subst z1;exact Nat.le_trans hwr hlo
 ·exact ((hY.arrN hI.mi.blockLt).grew zqj).oth hoS (by decide)
 ·exact (hg4.ext hx2 Zr).setCell (p:=⟨w2.heap.size+1,0,none⟩) (Nat.le_succ _) _
theorem TFormJ.step2 {m:List (List Int)} {w2 w5 W w6:World} {mB lB A6 Z:Option Addr} {k mc lc d6 dz:Nat} {vs:List Value} {bx ox by_ oy r cy:Nat} {e0:Int}
  (hJ:TFormJ m w2 w5 mB lB k mc lc vs bx ox by_ oy r cy e0) (hxw:Ext w5 W) (zra:Own w6 w2.heap.size 37 1 A6 (k+1) d6 (vs++[.slice Z r dz])) (hg6:Grow w2.heap.size 37 W w6)
  (hr:(Zn m k).length=r) (hZ:0<r->Z=some ⟨by_,oy+1,none⟩) (hd1:r<=dz) (hd2:dz<=9223372036854775807) (hB6:w6.heap[w2.heap.size+1]? =some (.cells #[.slice mB (k+1+1) mc,.slice lB k lc] 99 (0,0))):
  (w6.setCell ⟨w2.heap.size+1,1,none⟩ (.slice A6 (k+1) d6)).heap[w2.heap.size+1]? =some (.cells #[.slice mB (k+1+1) mc,.slice A6 (k+1) d6] 99 (0,0))/\TFormI m (w6.setCell ⟨w2.heap.size+1,1,none⟩ (.slice A6 (k+1) d6)) w2.heap.size mB A6 (k+1) mc d6 (vs++[.slice Z r dz])/\Ext w2 (w6.setCell ⟨w2.heap.size+1,1,none⟩ (.slice A6 (k+1) d6)):=by
 have hoS:=Oth.set (p:=⟨w2.heap.size+1,1,none⟩) hB6 (.slice A6 (k+1) d6);have hvl:vs.length=k:=by have :=hJ.la.len;omega
 refine ⟨zau hB6,⟨((hJ.mi.ext hxw).grow hg6 (by decide)).oth hoS (by decide),zra.oth hoS (by decide),fun i hi=>?_⟩,?_⟩
 ·rcases Zl i k with h |h
  ·obtain ⟨B,c,a,b,e⟩:=hJ.row i h;exact ⟨B,c,by rw [List.getElem?_append_left (by omega)];exact a,((b.ext hxw).oth (Oth.of_grow hg6) (by decide)).oth hoS (by decide),e⟩
  ·obtain rfl:i=k:=by omega
   refine ⟨Z,dz,by rw [List.getElem?_append_right (by omega),hvl,hr];simp,fun h0=>?_,by rw [hr];exact hd1,hd2,fun h0=>⟨by_,oy+1,hZ (by omega),hJ.nb⟩⟩;have h0':0<r:=by simp at h0;omega
   obtain ⟨b,o,cs,fr,hA,h1,hb,hc⟩:=((hJ.new.ext hxw).oth (Oth.of_grow hg6) (by decide)).oth hoS (by decide) (by simp);injection hA with hA
   injection hA with x1 x2
   subst x1 x2;refine ⟨by_,oy+1,cs,fr,hZ h0',h1,hb,fun j u hu=>?_⟩;have :=hc (j+1) u (by rw [List.map_cons,List.getElem?_cons_succ];exact hu);rw [show oy+1+j=oy+(j+1) by omega];exact this
 ·exact (hg6.ext (hJ.ex.trans hxw) Zr).setCell (p:=⟨w2.heap.size+1,1,none⟩) (Nat.le_succ _) _
set_option maxRecDepth 10000 in
theorem zfw {w0 w:World} {A:Option Addr} {c:Nat} {m:List (List Int)} (h:Mat64 w0 A m) (h1:1<=m.length) (h8:m.length<=8) (hn:AllLen m m.length) (hF:qr m) (hok:ElimOK m) (h64:Jo m) [hx:Ext w0 w]:
  Calls Tryz.prog 113 #[.slice A m.length c] w (zcO w (ze m m.length) (zh m m.length)):=by
 have HN:=Zh hn;have HOK:=Zh hok;have HFI:=Zh hF;have H64:=Zh h64;clear hn hok hF h64;go_enter Tryz.func113,Tryz.ntmps113;go_wp2_with (first |(go_at_call 136;refine (zeD h m.length h1 (by omega) h1 (by omega) HN.out HFI.out).mono ?_;rintro e w1 ⟨A1,c1,rfl,hM,k1,k2,hs1⟩) |(go_at_call 137;refine (zeI hM h1 (by omega) HN.out HOK.out).mono ?_;rintro e w2 ⟨A2,c2,rfl,hS,k3,k4,hs2⟩))
 have hsl:(Qe m).length=m.length:=by simp [Qe]
 rw [hsl];have HSL:=Zh hsl;clear hsl;obtain ⟨b,o,-,-,-,-,-,-,rfl,-⟩:=StV.rowAt hS HN.out (k:=0) (by omega);have zrA:((w2.alloc (.cells #[.int .i64 1] 2)).alloc (.cells #[.slice (some ⟨w2.heap.size,0,none⟩) 1 1,.slice none 0 0] 99)).heap[w2.heap.size+1]? =some (.cells #[.slice (some ⟨w2.heap.size,0,none⟩) 1 1,.slice none 0 0] 99 (0,0)):=by
  have :=heap_alloc_new (w2.alloc (.cells #[.int .i64 1] 2)) (.cells #[.slice (some ⟨w2.heap.size,0,none⟩) 1 1,.slice none 0 0] 99);rwa [World.size_alloc] at this
 go_loopw [9,10,11,26] (fun _ _ _ i wr=>∃(k:Nat) (mB lB:Option Addr) (mc lc:Nat) (vs:List Value),k<=m.length/\i= .int .i64 k/\wr.heap[w2.heap.size+1]? =some (.cells #[.slice mB (k+1) mc,.slice lB k lc] 99 (0,0))/\TFormI m wr w2.heap.size mB lB k mc lc vs/\Ext w2 wr) (fun _ _ _ i _=>m.length-(intOf i).toNat)
 case atStart=>
  exact ⟨0,_,none,_,0,[],by omega,rfl,zrA,⟨(Own.new w2 2 1 1 #[.int .i64 1] rfl (by omega)).ext Zi,Own.nil _ _ _ _,fun i hi=>absurd hi (by omega)⟩,Zi⟩
 case round=>
  clear zrA;obtain ⟨k,mB,lB,mc,lc,vs,hk,rfl,hst,hI,hxr⟩:=hrel;by_cases hlt:k<m.length
  ·have hsk:(Qe m)[k]? =some (zl m k).2:=by simp [Qe,hlt]
   obtain ⟨b',o',B1,c1',hA,e1,hMk,l1,l2,hb⟩:=(hS.ext hxr).at_ hsk;injection hA with hA
   injection hA with x1 x2
   subst x1 x2;have zrX:=ZM m k;have hto:=fun W (hh:Ext wr W)=>zkv (w:=W) (c:=c1') hMk (m.length-k) (by omega) (by omega) (by omega) (by omega) (JK m HN.out k) (H64.out k hlt)
   rw [zrX] at e1 l1;obtain ⟨r,hr⟩:∃r,m.length-k=r+1:=⟨m.length-k-1,by omega⟩;rw [hr] at e1 l1;have ztd:∀W,Ext wr W->Calls Tryz.prog 138 #[.slice B1 (r+1) c1'] W fun e w'=>∃X cX,e= .returned (.tuple #[.slice X (r+1) cX,.bool true])/\Mat64X W.heap.size w' X (zl m k).2/\r+1<=cX/\cX<=9223372036854775807/\Step W w':=fun W hh=>by
    have :=hto W hh;unfold zfl at this;rw [zrX,hr] at this;exact this
   have HTO:=Zh ztd;have HR:=Zh hr;have zpQ:=Zh zrX;obtain ⟨s1,s2,s3,s4,s5⟩:=zK hst;have HST:=Zh hst;have oS:Old (w2.heap.size+1) wr:=⟨s5⟩;clear hto ztd hr zrX hsk hst;go_wp2_with (go_at_call 138;refine (HTO.out _ Zi).mono ?_;rintro e w3 ⟨X,cX,rfl,hX,x1,x2,hs3⟩)
   obtain ⟨vx,v1,v2,v3⟩:=hX;obtain ⟨By,cy,y1,y2,y3,y4⟩:=v3 0 _ (zkx HN.out hlt);obtain ⟨bx,ox,rfl,y5,y6,y7⟩:=v2.at_ y1;have zsr:(Zn m k).length=r:=by have :=HR.out;simp [Zn];omega
   obtain ⟨e0,he0⟩:∃e0,e0=ent (zl m k).2 0 0:=⟨_,rfl⟩;rw [<-he0] at y1 y2 y3 y5;have HE0:=Zh he0;obtain ⟨by_,oy,rfl,y8,y9,y10⟩:=y2.at_ (i:=0) (u:= .int .i64 e0) (by simp);simp only [List.length_cons,zsr,Nat.add_zero] at y1 y3 y5 y8;have HY2:=Zh y2;have HLR:=Zh zsr;have hmBl:=hI.mi.blockLt;have HX:Hid (∃cs fr,w3.heap[bx]? =some (.cells cs 37 fr)/\cs[ox]? =some (.slice (some ⟨by_,oy,none⟩) (r+1) cy)):=Zh (by
    obtain ⟨bq,oq,cs,fr,hA,_,hh,hc⟩:=v2 (by rw [v1];have :=zpQ.out;have :=HR.out;omega);injection hA with hA
    injection hA with z1 z2
    subst z1 z2;exact ⟨cs,fr,hh,by simpa using hc 0 _ y1⟩)
   have oX:Old bx w3:=⟨y7⟩;have oY:Old by_ w3:=⟨y10⟩;clear v1 v2 v3 he0 zsr y1 y2;go_region_law ((refine zkw _ rfl (.tmp 36) (.tmp 42) 37 rfl w2.heap.size 2 (.int .i64 0) 1 8 Tryz.underlying37 qP rfl (by decide) (by decide) mB (k+1) mc _ (by simp [Act.eval]) (hI.mi.ext Zi) ⟨w3.heap.size,0,none⟩ 1 1 [.int .i64 e0] (by simp [Act.eval]) ((Arr.new w3 2 #[.int .i64 e0]).ext Zi) rfl (by simp [Value.oneCell']) (by omega) (by have :=hxr.size;have :=hs3.size;simp<;>omega) ?_);intro A4 d4 w4 zqd hg4 zqj;have hb4:=hg4.heap (zg (Zi:Ext wr ((w3.alloc (Obj.cells #[Value.int .i64 e0] 2)).drew)) HST.out) (by decide);obtain ⟨q1,q2,q3,q4,q5⟩:=zK hb4;have HB4:=Zh hb4;clear hb4)
   all_goals
    have hJ:=hI.step1 hxr.size (W:=(w3.alloc (Obj.cells #[Value.int .i64 e0] 2)).drew) (bx:=bx) (ox:=ox) (by_:=by_) (oy:=oy) (r:=r) (cy:=cy) Zi Zi zqd hg4 zqj HE0.out HB4.out (by obtain ⟨cs,fr,z1,z2⟩:=HX.out;exact ⟨cs,fr,zg (Zi:Ext w3 ((w3.alloc (Obj.cells #[Value.int .i64 e0] 2)).drew)) z1,z2⟩) (HY2.out.ext Zi);generalize w4.setCell ⟨w2.heap.size+1,0,none⟩ (.slice A4 (k+1+1) d4)=w5 at hJ |-
    clear zqd hg4 zqj HB4 q1 q2 q3 q4 q5;obtain ⟨t1,t2,t3,t4,t5⟩:=zK hJ.st;have t6:=hJ.hd;have t7:=hJ.bxl;have HJ:=Zh hJ;have oS5:Old (w2.heap.size+1) w5:=⟨t5⟩;have oX5:Old bx w5:=⟨t7⟩;have zte:Ext w2 w5:=hJ.ex;clear hJ;by_cases hcy:cy=1
    ·obtain rfl:r=0:=by omega
     subst hcy;go_wp2_with fail
     go_region_law ((refine QM _ rfl (.tmp 46) (.tmp 51) 26 rfl w2.heap.size 37 (.slice none 0 0) 1 24 Tryz.underlying26 qA rfl (by decide) (by decide) lB k lc vs (by simp [Act.eval]) (HJ.out.la.ext Zi) (some ⟨w5.heap.size,0,none⟩) 1 1 [.slice (some ⟨by_,oy,none⟩) 0 0] (by simp [Act.eval]) ((Arr.new w5 37 #[.slice (some ⟨by_,oy,none⟩) 0 0]).ext Zi) rfl (by simp [Value.oneCell']) (by omega) (by have :=zte.size;simp<;>omega) ?_);intro A6 d6 w6 zra hg6;have hb6:=hg6.heap (zg (Zi:Ext w5 ((w5.alloc (Obj.cells #[Value.slice (some ⟨by_,oy,none⟩) 0 0] 37)).drew)) HJ.out.st) (by decide);obtain ⟨q1,q2,q3,q4,q5⟩:=zK hb6;have HB6:=Zh hb6;clear hb6)
     all_goals
      have zqa:=HJ.out.step2 (W:=(w5.alloc (Obj.cells #[Value.slice (some ⟨by_,oy,none⟩) 0 0] 37)).drew) Zi zra hg6 HLR.out (fun h0=>absurd h0 (by omega)) (by omega) (by omega) HB6.out;have HFN:=Zh zqa;clear zqa;go_wp2;refine ⟨⟨k+1,A4,A6,d4,d6,_,by omega,by go_num,HFN.out.1,HFN.out.2.1,HFN.out.2.2⟩,by simp [intOf]<;>omega⟩
    ·have zvu:(1:Int)<=(r:Int)+1:=by omega
     go_wp2_with fail
     go_region_law ((refine QM _ rfl (.tmp 46) (.tmp 51) 26 rfl w2.heap.size 37 (.slice none 0 0) 1 24 Tryz.underlying26 qA rfl (by decide) (by decide) lB k lc vs (by simp [Act.eval]) (HJ.out.la.ext Zi) (some ⟨w5.heap.size,0,none⟩) 1 1 [.slice (some ⟨by_,oy+1,none⟩) r (cy-1)] (by simp [Act.eval]) ((Arr.new w5 37 #[.slice (some ⟨by_,oy+1,none⟩) r (cy-1)]).ext Zi) rfl (by simp [Value.oneCell']) (by omega) (by have :=zte.size;simp<;>omega) ?_);intro A6 d6 w6 zra hg6;have hb6:=hg6.heap (zg (Zi:Ext w5 ((w5.alloc (Obj.cells #[Value.slice (some ⟨by_,oy+1,none⟩) r (cy-1)] 37)).drew)) HJ.out.st) (by decide);obtain ⟨q1,q2,q3,q4,q5⟩:=zK hb6;have HB6:=Zh hb6;clear hb6)
     all_goals
      have zqa:=HJ.out.step2 (W:=(w5.alloc (Obj.cells #[Value.slice (some ⟨by_,oy+1,none⟩) r (cy-1)] 37)).drew) Zi zra hg6 HLR.out (fun _=>rfl) (by omega) (by omega) HB6.out;have HFN:=Zh zqa;clear zqa;go_wp2;refine ⟨⟨k+1,A4,A6,d4,d6,_,by omega,by go_num,HFN.out.1,HFN.out.2.1,HFN.out.2.2⟩,by simp [intOf]<;>omega⟩
  ·obtain rfl:k=m.length:=by omega
   clear hlt;obtain ⟨s1,s2,s3,s4,s5⟩:=zK hst;have hr1:wr.heap[w.heap.size]? =some (.cells #[.slice none 0 0,.slice none 0 0] 99 (0,0)):=zg (Ext.trans (Ext.trans (hs1.ext) (hs2.ext)) hxr) (heap_alloc_new w _);obtain ⟨r1,r2,r3,r4,r5⟩:=zK hr1;have HR:=Zh hr1;clear hr1 hst;go_wp2;have hDl:(ze m m.length).length=m.length+1:=JM _ _;have hLl:(zh m m.length).length=m.length:=by simp [zh]
   have zqm:=hI.mi.cap;have hcapL:=hI.la.cap;have hoR:=Oth.set2 HR.out 0 1 (.slice mB (m.length+1) mc) (.slice lB m.length lc);have hxw:Ext w wr:=Ext.trans (Ext.trans (Ext.trans (Zi:Ext w (w.alloc (.cells #[.slice none 0 0,.slice none 0 0] 99))) hs1.ext) hs2.ext) hxr;have ztf:w.heap.size<=w2.heap.size:=by have h1:=hs1.size;have h2:=hs2.size;simp at h1;omega
   refine bodyPost_ret (v:= .agg #[.slice mB (m.length+1) mc,.slice lB m.length lc]) (by simp [results,Tryz.results113,go_sem,r1,r2]) rfl ⟨mB,mc,lB,lc,by rw [hDl,hLl],?_,?_,by rw [hDl];exact zqm.1,zqm.2,by rw [hLl];exact hcapL.1,hcapL.2,?_⟩
   ·exact (hI.mi.arrX.lower ztf).oth hoR (by decide)
   ·refine ⟨vs,by rw [hLl];have :=hI.la.len;omega,(hI.la.arrX.lower ztf).oth hoR (by decide),fun i r hr=>?_⟩;have hi:i<m.length:=by
     have :=(Zg.1 hr).1;omega
    have hr':r=Zn m i:=by
     rw [zh,List.getElem?_map,List.getElem?_range hi] at hr;simpa using hr.symm
    subst hr';obtain ⟨B5,c5,y1,y2,y3,y4,y5⟩:=hI.row i hi;refine ⟨B5,c5,y1,zkY (y2.arr.oth hoR (by decide)) (fun h0=>?_),y3,y4⟩;obtain ⟨b,o,z1,z2⟩:=y5 (by simpa using h0);exact ⟨b,o,z1,by omega⟩
   ·exact ((hxw.setCell (p:=⟨w.heap.size,0,none⟩) Zr _).setCell (p:=⟨w.heap.size,1,none⟩) Zr _).toStep
class HasBlk (b:Nat) (o:outParam Obj) (W:World):Prop where
 eq:W.heap[b]? =some o
instance HasBlk.new (w:World) (n:Nat) (o:Obj) [h:Sz w n]:HasBlk n o (w.alloc o):=⟨by rw [<-h.eq];exact heap_alloc_new w o⟩
instance (priority:=900) HasBlk.alloc (w:World) (b:Nat) (o o':Obj) [h:HasBlk b o w]:HasBlk b o (w.alloc o'):=⟨(Below.heap_alloc w o' b (zA h.eq)).trans h.eq⟩
instance HasBlk.drew (w:World) (b:Nat) (o:Obj) [h:HasBlk b o w]:HasBlk b o w.drew:=⟨h.eq⟩
instance (priority:=50) HasBlk.step (W w':World) (b:Nat) (o:Obj) [s:Step W w'] [h:HasBlk b o W]:HasBlk b o w':=⟨zg s.ext h.eq⟩
theorem zW {w:World} {a b:Nat} {cs cs':Array Value} {e e':TypeId} {fr fr':Nat×Nat} (h:w.heap[a]? =some (.cells cs e fr)) (h':w.heap[b]? =some (.cells cs' e' fr')) (hne:e≠e'):a≠b:=fun hh=>by
 subst hh;rw [h] at h';injection h' with h';injection h' with _ he;exact hne he
def WRow (w:World) (g:Nat) (l:List Int):Prop:=∃cs,w.heap[g]? =some (.cells cs 162 (0,0))/\cs.size=l.length*2/\∀(i:Nat) (v:Int),l[i]? =some v->cs[i*2]? =some (.int .u64 (zq v))/\cs[i*2+1]? =some (.int .u64 (zm v))
structure Lvl where
 mi:Int
 sh:Int
 lim:Int
 hi:Int
def LRow (w:World) (g:Nat) (l:List Lvl):Prop:=∃cs,w.heap[g]? =some (.cells cs 223 (0,0))/\cs.size=l.length*5/\∀(i:Nat) (v:Lvl),l[i]? =some v->cs[i*5]? =some (.int .i64 v.mi)/\cs[i*5+1]? =some (.int .i64 v.sh)/\cs[i*5+2]? =some (.int .u64 (zq v.lim))/\cs[i*5+3]? =some (.int .u64 (zm v.lim))/\cs[i*5+4]? =some (.int .i64 v.hi)
theorem WRow.keep {w w':World} {g:Nat} {l:List Int} (h:WRow w g l) (hk:w'.heap[g]? =w.heap[g]?):WRow w' g l:=by
 obtain ⟨cs,h1,h2⟩:=h;exact ⟨cs,hk.trans h1,h2⟩
theorem LRow.keep {w w':World} {g:Nat} {l:List Lvl} (h:LRow w g l) (hk:w'.heap[g]? =w.heap[g]?):LRow w' g l:=by
 obtain ⟨cs,h1,h2⟩:=h;exact ⟨cs,hk.trans h1,h2⟩
theorem WRow.cell {w:World} {g i:Nat} {l:List Int} {v:Int} (h:WRow w g l) (hi:l[i]? =some v):w.cell? ⟨g,i*2,none⟩=some (.int .u64 (zq v))/\w.cell? ⟨g,i*2+1,none⟩=some (.int .u64 (zm v))/\g<w.heap.size:=by
 obtain ⟨cs,h1,h2,h3⟩:=h;obtain ⟨a,b⟩:=h3 i v hi;exact ⟨by rw [cell_of_row w g _ cs _ _ h1];exact a,by rw [cell_of_row w g _ cs _ _ h1];exact b,zA h1⟩
theorem LRow.at_ {w:World} {g i:Nat} {l:List Lvl} {v:Lvl} (h:LRow w g l) (hi:l[i]? =some v):LvAt w g (i*5) v.mi v.sh v.lim/\w.cell? ⟨g,i*5+4,none⟩=some (.int .i64 v.hi):=by
 obtain ⟨cs,h1,h2,h3⟩:=h;obtain ⟨a,b,c,d,e⟩:=h3 i v hi;refine ⟨⟨?_,?_,?_,?_,zA h1⟩,?_⟩
 all_goals rw [cell_of_row w g _ cs _ _ h1]
 ·exact a
 ·exact b
 ·exact c
 ·exact d
 ·exact e
theorem WRow.frozen {w:World} {g:Nat} {l:List Int} (h:WRow w g l) (i:Nat):w.frozen? ⟨g,i,none⟩=false:=by
 obtain ⟨cs,h1,_⟩:=h;simp [World.frozen?,h1]
theorem LRow.frozen {w:World} {g:Nat} {l:List Lvl} (h:LRow w g l) (i:Nat):w.frozen? ⟨g,i,none⟩=false:=by
 obtain ⟨cs,h1,_⟩:=h;simp [World.frozen?,h1]
theorem WRow.put {w:World} {g:Nat} {l:List Int} (h:WRow w g l) (i:Nat) (v:Int):WRow ((w.setCell ⟨g,i*2,none⟩ (.int .u64 (zq v))).setCell ⟨g,i*2+1,none⟩ (.int .u64 (zm v))) g (l.set i v):=by
 obtain ⟨cs,h1,h2,h3⟩:=h;refine ⟨_,Zo (Zo h1 _) _,by simp [h2],fun j u hu=>?_⟩;by_cases hij:i=j
 ·subst hij;have hl:i<l.length:=by have :=(Zg.1 hu).1;simpa using this
  rw [List.getElem?_set_self hl] at hu;injection hu with hu
  subst hu;constructor
  ·rw [Array.getElem?_setIfInBounds_ne (by omega),Array.getElem?_setIfInBounds_self_of_lt (by omega)]
  ·rw [Array.getElem?_setIfInBounds_self_of_lt (by simp;omega)]
 ·rw [List.getElem?_set_ne hij] at hu;obtain ⟨a,b⟩:=h3 j u hu;constructor
  ·rw [Array.getElem?_setIfInBounds_ne (by omega),Array.getElem?_setIfInBounds_ne (by omega)];exact a
  ·rw [Array.getElem?_setIfInBounds_ne (by omega),Array.getElem?_setIfInBounds_ne (by omega)];exact b
def ArrP (P:Nat->Prop) (w:World) (A:Option Addr) (e:TypeId) (vs:List Value):Prop:=
 0<vs.length->∃(b o:Nat) (cs:Array Value) (fr:Nat×Nat),A=some ⟨b,o,none⟩/\P b/\w.heap[b]? =some (.cells cs e fr)/\∀(j:Nat) (u:Value),vs[j]? =some u->cs[o+j]? =some u
theorem ArrP.arr {P:Nat->Prop} {w:World} {A:Option Addr} {e:TypeId} {vs:List Value} (h:ArrP P w A e vs):Arr w A e vs:=fun h0=>by
 obtain ⟨b,o,cs,fr,a,_,c,d⟩:=h h0;exact ⟨b,o,cs,fr,a,c,d⟩
theorem ArrP.keep {P:Nat->Prop} {w w':World} {A:Option Addr} {e:TypeId} {vs:List Value} (h:ArrP P w A e vs) (hk:∀b cs fr,P b->w.heap[b]? =some (Obj.cells cs e fr)->w'.heap[b]? =w.heap[b]?):ArrP P w' A e vs:=fun h0=>by
 obtain ⟨b,o,cs,fr,a,p,c,d⟩:=h h0;exact ⟨b,o,cs,fr,a,p,(hk b cs fr p c).trans c,d⟩
theorem ArrX.arrP {P:Nat->Prop} {lo:Nat} {w W:World} {A:Option Addr} {e:TypeId} {vs:List Value} (h:ArrX lo w A e vs) (hx:Ext w W) (hP:∀b,lo<=b->b<w.heap.size->P b):ArrP P W A e vs:=fun h0=>by
 obtain ⟨b,o,cs,fr,a,p,c,d⟩:=h h0;exact ⟨b,o,cs,fr,a,hP b p (zA c),zg hx c,d⟩
structure FV (P:Nat->Prop) (w:World) (mA lA:Option Addr) (D:List Int) (L:List (List Int)):Prop where
 mi:ArrP P w mA 2 (D.map (Value.int .i64))
 la:∃hs:List Value,hs.length=L.length/\ArrP P w lA 37 hs/\∀(i:Nat) (r:List Int),L[i]? =some r->∃B c,hs[i]? =some (.slice B r.length c)/\ArrP P w B 2 (r.map (Value.int .i64))/\r.length<=c/\c<=9223372036854775807
theorem FV.keep {P:Nat->Prop} {w w':World} {mA lA:Option Addr} {D:List Int} {L:List (List Int)} (h:FV P w mA lA D L) (hk:∀b cs e fr,P b->(e=2∨e=37)->w.heap[b]? =some (Obj.cells cs e fr)->w'.heap[b]? =w.heap[b]?):FV P w' mA lA D L:=by
 obtain ⟨hs,a,b,c⟩:=h.la;refine ⟨h.mi.keep fun b cs fr p q=>hk b cs _ fr p (.inl rfl) q,hs,a,b.keep fun b cs fr p q=>hk b cs _ fr p (.inr rfl) q,fun i r hr=>?_⟩;obtain ⟨B,d,x,y,z⟩:=c i r hr;exact ⟨B,d,x,y.keep fun b cs fr p q=>hk b cs _ fr p (.inl rfl) q,z⟩
theorem FV.mat {P:Nat->Prop} {w:World} {mA lA:Option Addr} {D:List Int} {L:List (List Int)} (h:FV P w mA lA D L):Mat64 w lA L:=by
 obtain ⟨hs,a,b,c⟩:=h.la;refine ⟨hs,a,b.arr,fun i r hr=>?_⟩;obtain ⟨B,d,x,y,z⟩:=c i r hr;exact ⟨B,d,x,y.arr,z⟩
theorem FV.ints {P:Nat->Prop} {w:World} {mA lA:Option Addr} {D:List Int} {L:List (List Int)} (h:FV P w mA lA D L):Ints w mA 2 .i64 D:=h.mi.arr
theorem Mat64X.fv {P:Nat->Prop} {lo:Nat} {w W:World} {mA lA:Option Addr} {D:List Int} {L:List (List Int)} (hD:ArrX lo w mA 2 (D.map (Value.int .i64))) (hL:Mat64X lo w lA L) (hx:Ext w W) (hP:∀b,lo<=b->b<w.heap.size->P b):FV P W mA lA D L:=by
 obtain ⟨hs,a,b,c⟩:=hL;refine ⟨hD.arrP hx hP,hs,a,b.arrP hx hP,fun i r hr=>?_⟩;obtain ⟨B,d,x,y,z⟩:=c i r hr;exact ⟨B,d,x,y.arrP hx hP,z⟩
structure Lay where
 K:Nat
 bx:Nat
 br:Nat
 bl:Nat
 zd:Nat
 n:Nat
 mA:Option Addr
 lA:Option Addr
 mc:Nat
 lc:Nat
 gw:World
def Lay.P (y:Lay) (b:Nat):Prop:=b≠y.bx/\b<y.zd
def Lay.obj (y:Lay) (lB:Option Addr) (k c:Nat):Obj:= .cells #[.slice y.mA (y.n+1) y.mc,.slice y.lA y.n y.lc,.slice (some ⟨y.bx,0,none⟩) y.n y.n,.slice (some ⟨y.br,0,none⟩) (y.n+1) (y.n+1),.slice (some ⟨y.bl,0,none⟩) y.n y.n,.slice lB k c] 103 (0,0)
structure CMem (w W:World) (y:Lay) (D:List Int) (L:List (List Int)) (x rest:List Int) (lv:List Lvl) (lB:Option Addr) (c:Nat) (l:List (List Int)) (vs:List Value):Prop where
 ext:Ext w W
 kb:W.heap[y.K]? =some (y.obj lB l.length c)
 xr:Row W y.bx 2 .i64 x
 xl:x.length=y.n
 rr:WRow W y.br rest
 rl:rest.length=y.n+1
 lr:LRow W y.bl lv
 ll:lv.length=y.n
 fv:FV y.P W y.mA y.lA D L
 ls:LOwn W y.zd lB c l vs
 sz:y.zd<=W.heap.size
 wK:w.heap.size<=y.K
 wx:w.heap.size<=y.bx
 wr:w.heap.size<=y.br
 wl:w.heap.size<=y.bl
 bK:y.K<y.zd
 bx:y.bx<y.zd
 br:y.br<y.zd
 bl:y.bl<y.zd
 kp:Keeps 4 y.gw W
section
variable {w:World} {g i:Nat} {l:List Lvl} {v:Lvl}
theorem LRow.put1 (h:LRow w g l) (hi:l[i]? =some v) (j:Nat) (hj:j<5) (u:Value) (v':Lvl)
  (e0:(if j=0 then u else .int .i64 v.mi)= .int .i64 v'.mi) (e1:(if j=1 then u else .int .i64 v.sh)= .int .i64 v'.sh) (e2:(if j=2 then u else .int .u64 (zq v.lim))= .int .u64 (zq v'.lim)) (e3:(if j=3 then u else .int .u64 (zm v.lim))= .int .u64 (zm v'.lim)) (e4:(if j=4 then u else .int .i64 v.hi)= .int .i64 v'.hi):
  LRow (w.setCell ⟨g,i*5+j,none⟩ u) g (l.set i v'):=by
 obtain ⟨cs,h1,h2,h3⟩:=h;refine ⟨_,Zo h1 _,by simp [h2],fun q z hz=>?_⟩;have hl:=(Zg.1 hi).1;by_cases hiq:i=q
 ·subst hiq;rw [List.getElem?_set_self hl] at hz;injection hz with hz
  subst hz;obtain ⟨a,b,c,d,e⟩:=h3 i v hi;rw [<-e0,<-e1,<-e2,<-e3,<-e4];refine ⟨?_,?_,?_,?_,?_⟩
  ·split
   ·rename_i hh;subst hh;rw [Nat.add_zero,Array.getElem?_setIfInBounds_self_of_lt (by omega)]
   ·rw [Array.getElem?_setIfInBounds_ne (by omega)];exact a
  ·split
   ·rename_i hh;subst hh;rw [Array.getElem?_setIfInBounds_self_of_lt (by omega)]
   ·rw [Array.getElem?_setIfInBounds_ne (by omega)];exact b
  ·split
   ·rename_i hh;subst hh;rw [Array.getElem?_setIfInBounds_self_of_lt (by omega)]
   ·rw [Array.getElem?_setIfInBounds_ne (by omega)];exact c
  ·split
   ·rename_i hh;subst hh;rw [Array.getElem?_setIfInBounds_self_of_lt (by omega)]
   ·rw [Array.getElem?_setIfInBounds_ne (by omega)];exact d
  ·split
   ·rename_i hh;subst hh;rw [Array.getElem?_setIfInBounds_self_of_lt (by omega)]
   ·rw [Array.getElem?_setIfInBounds_ne (by omega)];exact e
 ·rw [List.getElem?_set_ne hiq] at hz;obtain ⟨a,b,c,d,e⟩:=h3 q z hz;refine ⟨?_,?_,?_,?_,?_⟩
  all_goals rw [Array.getElem?_setIfInBounds_ne (by omega)]
  ·exact a
  ·exact b
  ·exact c
  ·exact d
  ·exact e
theorem LRow.putMi (h:LRow w g l) (hi:l[i]? =some v) (a:Int):LRow (w.setCell ⟨g,i*5,none⟩ (.int .i64 a)) g (l.set i {v with mi:=a}):=
 h.put1 hi 0 (by omega) _ _ rfl rfl rfl rfl rfl
theorem LRow.putSh (h:LRow w g l) (hi:l[i]? =some v) (a:Int):LRow (w.setCell ⟨g,i*5+1,none⟩ (.int .i64 a)) g (l.set i {v with sh:=a}):=
 h.put1 hi 1 (by omega) _ _ rfl rfl rfl rfl rfl
theorem LRow.putHi (h:LRow w g l) (hi:l[i]? =some v) (a:Int):LRow (w.setCell ⟨g,i*5+4,none⟩ (.int .i64 a)) g (l.set i {v with hi:=a}):=
 h.put1 hi 4 (by omega) _ _ rfl rfl rfl rfl rfl
theorem LRow.putLim (h:LRow w g l) (hi:l[i]? =some v) (a:Int):LRow ((w.setCell ⟨g,i*5+2,none⟩ (.int .u64 (zq a))).setCell ⟨g,i*5+3,none⟩ (.int .u64 (zm a))) g (l.set i {v with lim:=a}):=by
 have hl:=(Zg.1 hi).1;have e:zq (zq a*18446744073709551616+zm v.lim)=zq a/\zm (zq a*18446744073709551616+zm v.lim)=zm v.lim:=by
  have h1:0<=zm v.lim/\zm v.lim<18446744073709551616:=by unfold zm;omega
  generalize zm v.lim=q at h1 |-
  generalize zq a=p;unfold zq zm;omega
 have h1:=h.put1 hi 2 (by omega) (.int .u64 (zq a)) {v with lim:=zq a*18446744073709551616+zm v.lim} rfl rfl (by simp [e.1]) (by simp [e.2]) rfl;have h2:=h1.put1 (i:=i) (v:={v with lim:=zq a*18446744073709551616+zm v.lim}) (by rw [List.getElem?_set_self hl]) 3 (by omega) (.int .u64 (zm a)) {v with lim:=a} rfl rfl (by simp [e.1]) rfl rfl;rwa [List.set_set] at h2
end
section
variable {w W W':World} {y:Lay} {D:List Int} {L:List (List Int)} {x rest:List Int} {lv:List Lvl} {lB:Option Addr} {c:Nat} {l:List (List Int)} {vs:List Value}
theorem CMem.to (h:CMem w W y D L x rest lv lB c l vs) (hx:Ext W W'):CMem w W' y D L x rest lv lB c l vs where
 ext:=h.ext.trans hx
 kb:=zg hx h.kb
 xr:=zg hx h.xr
 xl:=h.xl
 rr:=h.rr.keep (hx.below.block _ (by have :=h.sz;have :=h.br;omega))
 rl:=h.rl
 lr:=h.lr.keep (hx.below.block _ (by have :=h.sz;have :=h.bl;omega))
 ll:=h.ll
 fv:=h.fv.keep fun b cs e fr p _ _=>hx.below.block _ (by have :=h.sz;have :=p.2;omega)
 ls:=h.ls.ext hx
 sz:=Nat.le_trans h.sz hx.size
 wK:=h.wK
 wx:=h.wx
 wr:=h.wr
 wl:=h.wl
 bK:=h.bK
 bx:=h.bx
 br:=h.br
 bl:=h.bl
 kp:=⟨fun b cs fr hb=>zg hx (h.kp.keep b cs fr hb)⟩
theorem CMem.regw (h:CMem w W y D L x rest lv lB c l vs):CMem w W {y with gw:=W} D L x rest lv lB c l vs:=
 ⟨h.ext,h.kb,h.xr,h.xl,h.rr,h.rl,h.lr,h.ll,h.fv,h.ls,h.sz,h.wK,h.wx,h.wr,h.wl,h.bK,h.bx,h.br,h.bl,Keeps.refl _ _⟩
theorem Row.heapE {w:World} {g:Nat} {e:TypeId} {k:IntKind} {l:List Int} (h:Row w g e k l):w.heap[g]? =some (.cells (l.map (Value.int k)).toArray e (0,0)):=h
theorem CMem.setX (h:CMem w W y D L x rest lv lB c l vs) (i:Nat) (v:Int):CMem w (W.setCell ⟨y.bx,i,none⟩ (.int .i64 v)) y D L (x.set i v) rest lv lB c l vs:=by
 obtain ⟨cr,hr,-⟩:=h.rr;obtain ⟨cl,hl,-⟩:=h.lr;have hx:=h.xr.heapE;have hk:∀b,b≠y.bx->(W.setCell ⟨y.bx,i,none⟩ (.int .i64 v)).heap[b]? =W.heap[b]? :=fun b hb=>Below.heap_setCell W ⟨y.bx,i,none⟩ _ b hb
 exact {
  ext:=h.ext.setCell (p:=⟨y.bx,i,none⟩) h.wx _
  kb:=(hk _ (zW h.kb hx (by decide))).trans h.kb
  xr:=h.xr.set i v
  xl:=by rw [List.length_set];exact h.xl
  rr:=h.rr.keep (hk _ (zW hr hx (by decide)))
  rl:=h.rl
  lr:=h.lr.keep (hk _ (zW hl hx (by decide)))
  ll:=h.ll
  fv:=h.fv.keep fun b cs e fr p _ _=>hk b p.1
  ls:=h.ls.set (p:=⟨y.bx,i,none⟩) h.bx _
  sz:=by rw [Zt];exact h.sz
  wK:=h.wK
  wx:=h.wx
  wr:=h.wr
  wl:=h.wl
  bK:=h.bK
  bx:=h.bx
  br:=h.br
  bl:=h.bl
  kp:=⟨fun b cs fr hb=>(hk b (zW (h.kp.keep b cs fr hb) hx (by decide))).trans (h.kp.keep b cs fr hb)⟩}
theorem CMem.setR (h:CMem w W y D L x rest lv lB c l vs) (i:Nat) (v:Int):CMem w ((W.setCell ⟨y.br,i*2,none⟩ (.int .u64 (zq v))).setCell ⟨y.br,i*2+1,none⟩ (.int .u64 (zm v))) y D L x (rest.set i v) lv lB c l vs:=by
 obtain ⟨cr,hr,-⟩:=h.rr;obtain ⟨cl,hl,-⟩:=h.lr;have hx:=h.xr.heapE;have hk:∀b,b≠y.br->((W.setCell ⟨y.br,i*2,none⟩ (.int .u64 (zq v))).setCell ⟨y.br,i*2+1,none⟩ (.int .u64 (zm v))).heap[b]? =W.heap[b]? :=fun b hb=>(Below.heap_setCell _ ⟨y.br,i*2+1,none⟩ _ b hb).trans (Below.heap_setCell W ⟨y.br,i*2,none⟩ _ b hb)
 exact {
  ext:=(h.ext.setCell (p:=⟨y.br,i*2,none⟩) h.wr _).setCell (p:=⟨y.br,i*2+1,none⟩) h.wr _
  kb:=(hk _ (zW h.kb hr (by decide))).trans h.kb
  xr:=(hk _ (zW hx hr (by decide))).trans hx
  xl:=h.xl
  rr:=h.rr.put i v
  rl:=by rw [List.length_set];exact h.rl
  lr:=h.lr.keep (hk _ (zW hl hr (by decide)))
  ll:=h.ll
  fv:=h.fv.keep fun b cs e fr p q z=>hk b (zW z hr (by rcases q with rfl |rfl<;>decide))
  ls:=(h.ls.set (p:=⟨y.br,i*2,none⟩) h.br _).set (p:=⟨y.br,i*2+1,none⟩) h.br _
  sz:=by rw [Zt,Zt];exact h.sz
  wK:=h.wK
  wx:=h.wx
  wr:=h.wr
  wl:=h.wl
  bK:=h.bK
  bx:=h.bx
  br:=h.br
  bl:=h.bl
  kp:=⟨fun b cs fr hb=>(hk b (zW (h.kp.keep b cs fr hb) hr (by decide))).trans (h.kp.keep b cs fr hb)⟩}
theorem CMem.setL (h:CMem w W y D L x rest lv lB c l vs) (o:Nat) (u:Value) {lv':List Lvl} (hl':LRow (W.setCell ⟨y.bl,o,none⟩ u) y.bl lv') (hn:lv'.length=y.n):CMem w (W.setCell ⟨y.bl,o,none⟩ u) y D L x rest lv' lB c l vs:=by
 obtain ⟨cr,hr,-⟩:=h.rr;obtain ⟨cl,hl,-⟩:=h.lr;have hx:=h.xr.heapE;have hk:∀b,b≠y.bl->(W.setCell ⟨y.bl,o,none⟩ u).heap[b]? =W.heap[b]? :=fun b hb=>Below.heap_setCell W ⟨y.bl,o,none⟩ _ b hb
 exact {
  ext:=h.ext.setCell (p:=⟨y.bl,o,none⟩) h.wl _
  kb:=(hk _ (zW h.kb hl (by decide))).trans h.kb
  xr:=(hk _ (zW hx hl (by decide))).trans hx
  xl:=h.xl
  rr:=h.rr.keep (hk _ (zW hr hl (by decide)))
  rl:=h.rl
  lr:=hl'
  ll:=hn
  fv:=h.fv.keep fun b cs e fr p q z=>hk b (zW z hl (by rcases q with rfl |rfl<;>decide))
  ls:=h.ls.set (p:=⟨y.bl,o,none⟩) h.bl _
  sz:=by rw [Zt];exact h.sz
  wK:=h.wK
  wx:=h.wx
  wr:=h.wr
  wl:=h.wl
  bK:=h.bK
  bx:=h.bx
  br:=h.br
  bl:=h.bl
  kp:=⟨fun b cs fr hb=>(hk b (zW (h.kp.keep b cs fr hb) hl (by decide))).trans (h.kp.keep b cs fr hb)⟩}
theorem CMem.setL2 (h:CMem w W y D L x rest lv lB c l vs) (o o':Nat) (u u':Value) {lv':List Lvl} (hl':LRow ((W.setCell ⟨y.bl,o,none⟩ u).setCell ⟨y.bl,o',none⟩ u') y.bl lv') (hn:lv'.length=y.n):CMem w ((W.setCell ⟨y.bl,o,none⟩ u).setCell ⟨y.bl,o',none⟩ u') y D L x rest lv' lB c l vs:=by
 obtain ⟨cr,hr,-⟩:=h.rr;obtain ⟨cl,hl,-⟩:=h.lr;have hx:=h.xr.heapE;have hk:∀b,b≠y.bl->((W.setCell ⟨y.bl,o,none⟩ u).setCell ⟨y.bl,o',none⟩ u').heap[b]? =W.heap[b]? :=fun b hb=>(Below.heap_setCell _ ⟨y.bl,o',none⟩ _ b hb).trans (Below.heap_setCell W ⟨y.bl,o,none⟩ _ b hb)
 exact {
  ext:=(h.ext.setCell (p:=⟨y.bl,o,none⟩) h.wl _).setCell (p:=⟨y.bl,o',none⟩) h.wl _
  kb:=(hk _ (zW h.kb hl (by decide))).trans h.kb
  xr:=(hk _ (zW hx hl (by decide))).trans hx
  xl:=h.xl
  rr:=h.rr.keep (hk _ (zW hr hl (by decide)))
  rl:=h.rl
  lr:=hl'
  ll:=hn
  fv:=h.fv.keep fun b cs e fr p q z=>hk b (zW z hl (by rcases q with rfl |rfl<;>decide))
  ls:=(h.ls.set (p:=⟨y.bl,o,none⟩) h.bl _).set (p:=⟨y.bl,o',none⟩) h.bl _
  sz:=by rw [Zt,Zt];exact h.sz
  wK:=h.wK
  wx:=h.wx
  wr:=h.wr
  wl:=h.wl
  bK:=h.bK
  bx:=h.bx
  br:=h.br
  bl:=h.bl
  kp:=⟨fun b cs fr hb=>(hk b (zW (h.kp.keep b cs fr hb) hl (by decide))).trans (h.kp.keep b cs fr hb)⟩}
end
end
end Go.Proofs.YtjehjkipcaohpaaGreat
