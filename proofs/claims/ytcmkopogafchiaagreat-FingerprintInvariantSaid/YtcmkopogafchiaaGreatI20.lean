import Derived.Test.YtcmkopogafchiaaGreatI19
set_option maxHeartbeats 8000000
set_option linter.unusedVariables false
set_option linter.unusedSimpArgs false
namespace Go.Proofs.YtcmkopogafchiaaGreat
open List (length_drop getElem?_drop length_set length_cons)
variable {R x za:Int} {m:List (List Int)} {cs t zs:List Int} {vs:List Value} {b c i j k n o q s:Nat} {A DB SB:Option Addr} {T:TypeId} {w w' w0 w1:World}
section
open Go.RowKit
open La
theorem Arr.drop{e:TypeId}(h:Arr w (some ⟨b,o,none⟩) e vs)(k:Nat):Arr w (some ⟨b,o+k,none⟩) e (vs.drop k):=fun h0=>by
 obtain⟨b',o',cs,fr,hA,hb,hc⟩:=h (by rw[length_drop]at h0;omega);injection hA with hA
 injection hA with h1 h2
 subst h1 h2;refine⟨_,_,cs,fr,rfl,hb,fun j u hu=>?_⟩;rw[getElem?_drop]at hu;have:=hc _ _ hu;rwa [<-Nat.add_assoc]at this
theorem IntsV.drop(h:IntsV w (some ⟨b,o,none⟩) zs)(k:Nat):IntsV w (some ⟨b,o+2*k,none⟩) (zs.drop k):=by
 obtain⟨vs,h1,h2,h3⟩:=h;refine⟨vs.drop (2*k),by rw[length_drop,length_drop,h1];omega,h2.drop _,fun i z hz=>?_⟩;rw[getElem?_drop]at hz;obtain⟨g,B,n,c,a1,a2,a3⟩:=h3 _ z hz;refine⟨g,B,n,c,?_,?_,a3⟩
 ·rw[getElem?_drop,show 2*k+i*2=(k+i)*2 by omega];exact a1
 ·rw[getElem?_drop,show 2*k+(i*2+1)=(k+i)*2+1 by omega];exact a2
def zh9(w:World)(l:List Int)(e:Ending)(w':World):Prop:=∃A c,e= .returned (.slice A l.length c)/\Ints w' A 2 .i64 l/\l.length<=c/\c<=9223372036854775807/\Step w w'
theorem zia(x:Int)(h:Ints w0 A 2 .i64 t)(h1:t.length<=1000)[hx:Ext w0 w]:
  Cq 74 #[.int .i64 x,.slice A t.length c] w (zh9 w (x::t)):=by
 have h0:=h.ext hx;unfold zh9;go_enter Tryz.func74,Tryz.ntmps74;go_wp2_with (at_builtin;refine zM _ rfl _ _ 28 rfl w.heap.size 2 (.int .i64 0) 1 8 Tryz.underlying28 qV rfl (by omega) (by omega) (some ⟨w.heap.size,0,none⟩) 1 1 [.int .i64 x] rfl (Own.new w 2 1 1 #[.int .i64 x] rfl (by omega)) _ t.length c (t.map (Value.int .i64)) rfl (h0.ext Zi) (by simp) zaZ (by omega) (by simp) ?_;intro A1 c1 w1 zsA hg)
 go_ret;have hxx:Ext w w1:=hg.ext Zi Zr;have hc:=zsA.cap;refine⟨A1,c1,?_,?_,by omega,hc.2,hxx.toStep⟩
 ·show Ending.returned (Value.slice A1 (1+t.length) c1)=_;rw[Nat.add_comm]
 exact zsA.arr
theorem zo3{B:Option Addr}{d:Nat}{x:List Int}(hM:MatV w0 A m)(hX:IntsV w1 B x)(h1:m.length=n)(h3:1<=n)(h4:n<=16)(hn:AllLen m n)(hxl:x.length=n)(hk:k<=100000000000)(hbm:∀i j,Bd k (ent m i j))(hbx:Q8 k x)[hx:Ext w0 w][hy:Ext w1 w]:
  Cq 132 #[.slice A n c,.slice B n d] w (zz w (zj n fun i=>x.getD i 0*(qB m n x).getD i 0)):=by
 have h0:=hM.ext hx;have hX0:=hX.ext hy;have HAP:Hid (∀W,Ext w W->Cq 81 #[.slice A n c,.slice B n d] W (zbq W (qB m n x))):=Zh (fun W e=>by
  have:=zoM (w:=W) (c:=c) (d:=d) (k:=k) h0 hX0 (by omega) (by omega) h3 h4 hn hxl (by omega) hbm hbx;rwa [h1]at this)
 have HDT:Hid (∀(W1 W:World)(A1:Option Addr)(c1:Nat),IntsV W1 A1 (qB m n x)->Ext W1 W->Ext w W->Cq 83 #[.slice B n d,.slice A1 n c1] W (zz W (zj n fun i=>x.getD i 0*(qB m n x).getD i 0))):=Zh (fun W1 W A1 c1 i1 e1 e2=>
  zcj hX0 i1 hxl (by rw[zet];exact h1) h4 (k:=2*k+n) (by omega) (fun i=>(hbx i).mono (by omega)) (zhX h4 hbm hbx))
 have HAL:Hid ((qB m n x).length=n):=Zh (by rw[zet];exact h1);clear hbm hbx hn hxl h1 hM hX h0 hX0;generalize (zj n fun i=>x.getD i 0*(qB m n x).getD i 0)=z at*
 generalize qB m n x=ay at*
 go_enter Tryz.func132,Tryz.ntmps132;go_wp2_with (first
  |(go_at_call 81;refine(HAP.out _ Zi).mono ?_;rintro e w5 ⟨A5,c5,rfl,hI5,-,-,hs5⟩;have HI5:=Zh hI5;clear hI5;rw[HAL.out])
  |(go_at_call 83;refine(HDT.out _ _ _ _ HI5.out Zi Zi).mono ?_;rintro e w7 ⟨g7,B7,k7,d7,rfl,hz7,hs7⟩;have hb7:=(Zi:BlkAt w.heap.size #[.bool false,.slice none 0 0] 99 w7).eq;obtain⟨t1,t2,t3,t4,t5⟩:=zR hb7;have tq:Typed w.heap.size 99 w7:=⟨_,_,hb7⟩;clear hb7))
 exact bodyPost_ret (v:= .agg #[.bool g7,.slice B7 k7 d7]) (by simp[results,Tryz.results132,go_sem,t1,t2]) rfl ⟨_,_,_,_,rfl,hz7.keeps,Step.of _ _⟩
def FrV(w:World)(m:List (List Int))(SB DB:Option Addr):Prop:=StV w SB ((List.range m.length).map (ql m))/\IntsV w DB (1::zw m)
theorem FrV.ext(h:FrV w m SB DB)(hx:Ext w w'):FrV w' m SB DB:=⟨h.1.ext hx,h.2.ext hx⟩
def zeD(w:World)(m:List (List Int))(n:Nat)(e:Ending)(w':World):Prop:=∃SB sc DB dc,e= .returned (.agg #[.int .i64 n,.slice SB n sc,.slice DB (n+1) dc])/\FrV w' m SB DB/\n<=sc/\sc<=9223372036854775807/\n+1<=dc/\dc<=9223372036854775807/\Step w w'
theorem Jd{x0 x1 x2:Value}(h:w.heap[b]? =some (.cells #[x0,x1,x2] T (0,0))):(w.cell? ⟨b,0,none⟩=some x0/\w.cell? ⟨b,1,none⟩=some x1/\w.cell? ⟨b,2,none⟩=some x2)/\(w.frozen? ⟨b,0,none⟩=false/\w.frozen? ⟨b,1,none⟩=false/\w.frozen? ⟨b,2,none⟩=false)/\b<w.heap.size:=
 ⟨⟨by simp[World.cell?,h],by simp[World.cell?,h],by simp[World.cell?,h]⟩,⟨by simp[World.frozen?,h],by simp[World.frozen?,h],by simp[World.frozen?,h]⟩,zD h⟩
theorem FrV.oth(h:FrV w m SB DB)(ho:Oth T w w')(h3:101≠T)(h0:86≠T)(h1:99≠T)(h2:219≠T):FrV w' m SB DB:=⟨h.1.oth ho h3 h0 h1 h2,h.2.oth ho h1 h2⟩
theorem Oth.set3{cs:Array Value}(hp:w.heap[b]? =some (.cells cs T (0,0)))(i j k:Nat)(u v x:Value):Oth T w (((w.setCell ⟨b,i,none⟩ u).setCell ⟨b,j,none⟩ v).setCell ⟨b,k,none⟩ x):=
 (Oth.set2 hp i j u v).trans (Oth.set (p:=⟨b,k,none⟩) (Zs (Zs hp _) _) _)
theorem zo4(hl:vs.length=zs.length*2)(h:∀(i:Nat)(z:Int),zs[i]? =some z->∃g B n c,vs[i*2]? =some (.bool g)/\vs[i*2+1]? =some (.slice B n c)/\IntV w g B n c z):∀u∈vs,u.oneCell'=true:=fun u hu=>by
 obtain⟨j,hj⟩:=List.getElem?_of_mem hu;have hjl:=(Zg.1 hj).1;have hi:j / 2<zs.length:=by omega
 obtain⟨g,B,n,c,a1,a2,-⟩:=h (j / 2) zs[j / 2] (Ze hi);rcases Nat.mod_two_eq_zero_or_one j with e|e
 ·rw[show j / 2*2=j by omega,hj]at a1;injection a1 with a1
  rw[a1];rfl
 ·rw[show j / 2*2+1=j by omega,hj]at a2;injection a2 with a2
  rw[a2];rfl
theorem zib(h:MatA w0 A m)(hL:LLLed m)(h1:m.length=n)[hx:Ext w0 w]:
  Cq 44 #[.slice A n c] w (zeD w m n):=by
 have h8:=hL.len8;have h3:=hL.len1;have HOF:Hid (∀W,Ext w0 W->Cq 58 #[.slice A n c] W (j4 W m)):=Zh (fun W e=>by
  have:=(zci (w:=W) (c:=c) h m.length h3 (by omega) h3 (by omega) hL.all hL.fits).mono fun _ _ h=>h.mat
  rwa [h1]at this)
 have zsD:AllLen m n:=by rw[<-h1];exact hL.all
 have zsH:Pos (zg (ent m)) n:=by rw[<-h1];exact hL.pos
 have HST:Hid (∀(W1 W:World)(A1:Option Addr)(c1:Nat),MatV W1 A1 m->Ext W1 W->Cq 70 #[.slice A1 n c1] W (zcA W m)):=Zh (fun W1 W A1 c1 hM e=>zoS hM h1 (by omega) (by omega) zsD hL.bd (by omega) (by omega) zsH);have HLE:Hid (∀(W1 W:World)(A1:Option Addr)(c1:Nat),MatV W1 A1 m->Ext W1 W->Cq 71 #[.slice A1 n c1] W (zbq W (zw m))):=Zh (fun W1 W A1 c1 hM e=>zbr hM h1 (by omega) (by omega) zsD hL.bd (by omega) (by omega))
 have HLL:Hid ((zw m).length=n):=Zh (by rw[QN];exact h1);have HSM:=Zh (fun W=>Qg 1 (by omega) (by omega) W);unfold j4 at HOF;unfold zcA at HST;rw[h1]at HOF HST h3 h8;have H1:=Zh h1;clear h1 zsD zsH hL h;go_enter Tryz.func44,Tryz.ntmps44;go_wp2_with (first
  |(go_at_call 58;refine(HOF.out _ Zi).mono ?_;rintro e w3 ⟨A3,c3,rfl,hM3,-,-,hs3⟩;have HM3:=Zh hM3;clear hM3)
  |(go_at_call 70;refine(HST.out _ _ _ _ HM3.out Zi).mono ?_;rintro e w4 ⟨SB,sc,rfl,hS4,zxB,zxC,hs4⟩;have HS4:=Zh hS4;clear hS4)
  |(go_at_call 71;refine(HLE.out _ _ _ _ HM3.out Zi).mono ?_;rintro e w5 ⟨B5,d5,rfl,hI5,hd1,hd2,hs5⟩;have HI5:=Zh hI5;clear hI5;rw[HLL.out]at hd1|-)
  |(go_at_call 72;refine(HSM.out _).mono ?_;rintro e w6 ⟨g6,B6,k6,e6,rfl,hz6,hs6⟩;have HZ6:=Zh hz6;clear hz6)
  |(at_builtin;obtain⟨vs,v1,v2,v3⟩:=HI5.out;have HV1:=Zh v1;have HV3:=Zh v3;have hv1:vs.length=n*2:=(by rw[v1,HLL.out]);go_loud (refine zM _ rfl _ _ 86 rfl w6.heap.size 99 (.agg #[.bool false,.slice none 0 0]) 2 32 Tryz.underlying86 ji rfl (by omega) (by omega) (some ⟨w6.heap.size,0,none⟩) 1 1 [.bool g6,.slice B6 k6 e6] rfl (Own.new w6 99 2 1 #[.bool g6,.slice B6 k6 e6] rfl (by omega)) _ n d5 vs rfl (v2.ext Zi) hv1 (zo4 v1 v3) (by omega) (by simp) ?_);intro A7 c7 w7 zsA hg;have HO7:=Zh zsA;have hbk:w7.heap[w.heap.size]? =some (.cells #[.int .i64 0,.slice none 0 0,.slice none 0 0] 88 (0,0)):=hg.heap (zk (Zi:Ext (w.alloc (.cells #[.int .i64 0,.slice none 0 0,.slice none 0 0] 88)) (w6.alloc (.cells #[.bool g6,.slice B6 k6 e6] 99))) (heap_alloc_new w _)) (by decide);have HG7:=Zh hg;have HBK:=Zh hbk;obtain⟨⟨a0,a1,a2⟩,⟨f0,f1,f2⟩,a4⟩:=Jd hbk;have tq:Typed w.heap.size 88 w7:=⟨_,_,hbk⟩;clear hbk hg zsA v1 v2 v3 hv1))
 have hx7:Ext w w7:=HG7.out.ext Zi (by have:=(Zi:Ext w w6).size;omega);have hxl:Ext w6 (w6.alloc (.cells #[.bool g6,.slice B6 k6 e6] 99)):=Zi;have hI7:IntsV w7 A7 (1::zw m):=by
  refine⟨[.bool g6,.slice B6 k6 e6]++vs,by simp[HV1.out];omega,HO7.out.arr,fun i z hz=>?_⟩
  cases i with
  |zero=>
   simp only[List.getElem?_cons_zero]at hz;injection hz with hz
   subst hz;exact⟨g6,B6,k6,e6,rfl,rfl,(HZ6.out.ext hxl).grow HG7.out (by decide)⟩
  |succ i=>
   simp only[List.getElem?_cons_succ]at hz;obtain⟨g,B,nn,c,b1,b2,b3⟩:=HV3.out i z hz;refine⟨g,B,nn,c,?_,?_,((b3.ext (Zi:Ext w5 w6)).ext hxl).grow HG7.out (by decide)⟩
   ·rw[show (i+1)*2=i*2+2 by omega];exact b1
   ·rw[show (i+1)*2+1=i*2+1+2 by omega];exact b2
 have hS7:StV w7 SB ((List.range m.length).map (ql m)):=by
  rw[H1.out];exact(HS4.out.ext (Zi:Ext w4 w6)).ext (HG7.out.ext hxl Zr)
 have hc7:=HO7.out.cap;refine bodyPost_ret (v:= .agg #[.int .i64 n,.slice SB n sc,.slice A7 (1+n) c7]) (by simp[results,Tryz.results44,go_sem,a0,a1,a2]) rfl ⟨SB,sc,A7,c7,by rw[Nat.add_comm],?_,zxB,zxC,by omega,hc7.2,Step.of _ _⟩;exact FrV.oth ⟨hS7,hI7⟩ (Oth.set3 HBK.out 0 1 2 _ _ _) (by decide) (by decide) (by decide) (by decide)
end
section
open Go.RowKit
structure SqI(x:Int)(j:Nat)(R:Int):Prop where
 r0:0<=R
 low:R*R<=x
 high:x<(R+2^j)*(R+2^j)
 dvd:∃Q,R=Q*2^j
theorem SqI.keep(h:SqI x (j+1) R)(hl:(R+2^j)*(R+2^j)<=x):SqI x j (R+2^j):=by
 obtain⟨Q,hQ⟩:=h.dvd;have hp:(0:Int)<2^j:=Int.pow_pos (by decide);have h2:(2:Int)^(j+1)=2^j*2:=Int.pow_succ ..;refine⟨by have:=h.r0;omega,hl,?_,⟨2*Q+1,?_⟩⟩
 ·have:=h.high;rw[h2]at this;rwa [show R+2^j*2=R+2^j+2^j by omega]at this
 ·rw[hQ,h2];grind
theorem SqI.drop(h:SqI x (j+1) R)(hl:x<(R+2^j)*(R+2^j)):SqI x j R:=
 ⟨h.r0,h.low,hl,by obtain⟨Q,hQ⟩:=h.dvd;exact⟨2*Q,by rw[hQ,Int.pow_succ];grind⟩⟩
theorem SqI.start{L:Nat}(h0:0<=x)(h:x<(4294967296:Int)^n)(hL:n<=2*L):SqI x (32*L) 0:=by
 refine⟨Int.le_refl _,by omega,?_,⟨0,by omega⟩⟩;have e:(0+(2:Int)^(32*L))*(0+2^(32*L))=(4294967296:Int)^(2*L):=by
  rw[Int.zero_add,<-Int.pow_add,zaC];congr 1;omega
 rw[e];exact Int.lt_of_lt_of_le h (zaj hL)
theorem SqI.done(h:SqI x 0 R):0<=R/\R*R<=x/\x<(R+1)*(R+1):=⟨h.r0,h.low,h.high⟩
structure SqM(w wr:World)(g L:Nat)(x:Int)(j:Nat)(R:Int)(p:List Int):Prop where
 sq:SqI x j R
 len:p.length=L
 limbs:Limbs p
 q:val p=R
 row:Row wr g 219 .u32 p
 ext:Ext w wr
theorem zo5{q0:Int}(h0:0<=q0)(hs:s<32)(hz:q0%2^(s+1)=0)(h2:q0+2^s<4294967296):bits .andNot .u32 (q0+2^s) (2^s%4294967296)=q0:=by
 have hp:(2:Nat)^s<2^32:=Nat.pow_lt_pow_right (by omega) hs;have hp2:((2^s:Nat):Int)=(2:Int)^s:=by simp
 have hp1:((2^(s+1):Nat):Int)=(2:Int)^(s+1):=by simp
 have e1:(2:Int)^s%4294967296=2^s:=Int.emod_eq_of_lt (Int.le_of_lt (Int.pow_pos (by decide))) (by omega);obtain⟨n,rfl⟩:∃n:Nat,q0=n:=⟨q0.toNat,by omega⟩;have hn:n%2^(s+1)=0:=by
  have:((n%2^(s+1):Nat):Int)=0:=by rw[Int.natCast_emod,hp1];exact hz
  omega
 have ho:=zd4 n s hn;rw[e1,<-hp2,<-Int.natCast_add,u32_andNot_nat _ _ (by omega) (by omega),<-ho];congr 1
 apply Nat.eq_of_testBit_eq;intro i;have e2:4294967295-2^s=2^32-(2^s+1):=by omega
 rw[e2,Nat.testBit_and,Nat.testBit_or,Nat.testBit_two_pow_sub_succ hp,Nat.testBit_two_pow];by_cases e:s=i
 ·subst e;have hb:n.testBit s=false:=by
   rw[Nat.testBit_eq_decide_div_mod_eq];obtain⟨a,ha⟩:=Nat.dvd_of_mod_eq_zero hn;rw[Nat.pow_succ,Nat.mul_assoc]at ha;rw[ha,Nat.mul_div_cancel_left _ (Nat.pow_pos (by omega))];simp
  simp[hb]
 ·simp only[e,decide_false,Bool.or_false,Bool.not_false,Bool.and_true];by_cases hi:i<32
  ·simp[hi]
  ·have:n.testBit i=false:=Nat.testBit_lt_two_pow (Nat.lt_of_lt_of_le (show n<2^32 by omega) (Nat.pow_le_pow_right (by omega) (by omega)));simp[this]
def zo6(w:World)(x:Int)(e:Ending)(w':World):Prop:=∃g B k d r,e= .returned (.tuple #[.agg #[.bool g,.slice B k d],.bool true])/\IntV w' g B k d r/\0<=r/\r*r<=x/\x<(r+1)*(r+1)/\Step w w'
set_option maxRecDepth 20000 in
theorem zo7{na:Bool}(ha:IntV w0 na A n c x)(h0:0<=x)(h1:n<=1000000)[hx:Ext w0 w]:
  Cq 125 #[.agg #[.bool na,.slice A n c]] w (zo6 w x):=by
 have hsg:=fun W(hh:Ext w0 W)=>QV (w:=W) ha (by omega)
 have htr:=fun W(hh:Ext w0 W)=>jE (w:=W) ha (by omega)
 have HS:=Zh hsg;have HT:=Zh htr;have HA:=Zh ha;have hc0:decide (zm x 0<0)=false:=by unfold zm;split<;>(try split)<;>simp<;>omega
 have HL:Hid (∀(W:World)B k d,NatV W B k d (x.natAbs:Int)->k<=n/\x<(4294967296:Int)^k):=Zh (fun W B k d hN=>by
  obtain⟨l,rfl,a1,a2,a3,a4,a5,a6⟩:=hN;obtain⟨l',e',b2,b3,b4,-⟩:=ha;refine⟨zbM a2 a3 (by rw[a4,<-b4,e'];exact qi b2),?_⟩;have:=qi a2;rw[a4]at this;omega)
 obtain⟨cs,hcs⟩:=Xz (zm x 0);rw[<-hcs]at hc0 HS;have HN:Hid (n<=1099511627776):=Zh (by omega);clear hsg htr ha hcs;go_enter Tryz.func125,Tryz.ntmps125;go_wp2_with (go_at_call 115;refine(HS.out _ Zi).mono ?_;rintro e w1 ⟨rfl,hs1⟩;obtain⟨q1,q2⟩:=QS w w1 (.bool na) (.slice A n c) 99)
 refine(HT.out _ Zi).mono ?_;rintro e w2 ⟨B2,k2,d2,rfl,hN2,hs2⟩;obtain⟨hk1,hk2⟩:=HL.out _ _ _ _ hN2;obtain⟨L,hLd⟩:=Xz ((k2+1) / 2);have hL2:k2<=2*L:=by omega
 have hLn:L<=1000000:=by omega
 have hST:=Zh (SqI.start h0 hk2 hL2);have hmk:=je (P:=Tryz.prog) Tryz.underlying97 Tryz.infoU32 (by omega) (L:Int) (by omega) (by omega);have hkb:k2<=1000000:=by omega
 simp only[Int.toNat_natCast]at hmk;have HMK:=Zh hmk;have HLD:Hid (((k2:Int)+1) / 2=(L:Int)):=Zh (by omega);have zyG:IntKind.i64.wrap (32*(L:Int))=32*(L:Int):=by rw[IntKind.wrap_i64];omega
 clear hN2 hk2 hL2 hLd hk1 h1 hmk;go_wp2_with fail
 rw[HLD.out,HMK.out];go_wp2_with fail
 have zta:Ext w w2:=Zi;go_loopw [6] (fun i wr=>∃(j:Nat) (R:Int) (p:List Int),j<=32*L/\i= .int .i64 ((j:Int)-1)/\Hid (SqM w2 wr w2.heap.size L x j R p)) (fun i _=>(intOf i+1).toNat)
 case atStart=>
  refine⟨32*L,0,List.replicate L 0,by omega,by simp,Zh ⟨hST.out,by simp,?_,by rw[zbQ],Row.made w2 _ _ _,Zi⟩⟩;intro y hy;rw[List.eq_of_mem_replicate hy];omega
 case round=>
  obtain⟨j,R,p,hj,rfl,HD⟩:=hrel
  cases j with
  |zero=>
   obtain⟨d1,d2,d3⟩:=HD.out.sq.done;have hvq:=HD.out.q;have hT:=fun W(hh:Ext wr W)=>JT (w:=W) (c:=L) false HD.out.row.ints HD.out.limbs (by rw[HD.out.len];omega) (by omega) (by rw[HD.out.len];omega)
   rw[hvq,HD.out.len]at hT;have HT2:Hid (∀W,Ext wr W->Cq 175 #[.bool false,.slice (some ⟨w2.heap.size,0,none⟩) L L] W (zz W R)):=Zh hT;have HXE:=Zh HD.out.ext;have HDN:=Zh (And.intro d1 (And.intro d2 d3));have hxq:Ext ((w.alloc (.cells #[.bool na,.slice A n c] 99)).alloc (.cells #[.bool false,.slice none 0 0] 99)) wr:=(Zi:Ext ((w.alloc (.cells #[.bool na,.slice A n c] 99)).alloc (.cells #[.bool false,.slice none 0 0] 99)) w2).trans HXE.out
   clear hT hvq d1 d2 d3 HD;have HBK:Hid (∀W,Ext wr W->W.heap[w.heap.size+1]? =some (.cells #[.bool false,.slice none 0 0] 99 (0,0))):=Zh (fun W e=>zk (hxq.trans e) (by
    have:=heap_alloc_new (w.alloc (.cells #[.bool na,.slice A n c] 99)) (.cells #[.bool false,.slice none 0 0] 99);simpa using this))
   have hx1:Ext w wr:=zta.trans HXE.out;go_wp2_with (go_at_call 175;refine(HT2.out _ Zi).mono ?_;rintro e w3 ⟨g3,B3,k3,d3,rfl,hz3,hs3⟩;have hb7:=HBK.out w3 Zi;obtain⟨t1,t2,t3,t4,t5⟩:=zR hb7;have tq:Typed (w.heap.size+1) 99 w3:=⟨_,_,hb7⟩;clear hb7)
   have zyH:Ext w w3:=hx1.trans Zi;exact bodyPost_ret (v:= .tuple #[.agg #[.bool g3,.slice B3 k3 d3],.bool true]) (by simp[results,Tryz.results125,go_sem,t1,t2]) rfl ⟨_,_,_,_,R,rfl,hz3.keeps,HDN.out.1,HDN.out.2.1,HDN.out.2.2,Step.of _ _⟩
  |succ i=>
   rw[show ((i+1:Nat):Int)-1=(i:Int) by omega];obtain⟨q0,hq0,hcq⟩:=HD.out.row.cell (i:=i / 32) (by rw[HD.out.len];omega);have hq':=HD.out.limbs.get hq0;obtain⟨Q,hQ⟩:=HD.out.sq.dvd;have hz:=zhc HD.out.limbs hq0 (s:=i%32) (by omega) (Q:=Q) (by rw[HD.out.q,hQ];congr 2;omega);obtain⟨o1,o2⟩:=zhd hq'.1 hq'.2 (s:=i%32) (by omega) hz;have an:=zo5 hq'.1 (s:=i%32) (by omega) hz o2;have hfq:=HD.out.row.frozen (i / 32)
   have zv7:val (p.set (i / 32) (q0+2^(i%32)))=R+2^i:=by
    rw[zal hq0,HD.out.q,show q0+2^(i%32)-q0=2^(i%32) by omega,zaC,<-Int.pow_add,show 32*(i / 32)+i%32=i by omega]
   have zv8:Limbs (p.set (i / 32) (q0+2^(i%32))):=HD.out.limbs.set _ (by have:=Int.pow_pos (n:=2) (m:=i%32) (by decide);omega) o2;have HB:=Zh (And.intro hq0 (And.intro zv7 zv8));have HAN:=Zh an;have HOR:=Zh o1;have zuf:=HD.out.row.lt;obtain⟨a,hai⟩:=Yz (i / 32);obtain⟨s,hsi⟩:=Yz (i%32);rw[hai,hsi]at HB;rw[hsi]at HAN HOR;rw[hai]at hcq hfq;have hia:(i:Int) / 32=(a:Int):=by omega
   have his:(i:Int)%32=(s:Int):=by omega
   have htd:Int.tdiv (i:Int) 32=(a:Int):=by rw[Int.tdiv_eq_ediv_of_nonneg (by omega)];exact hia
   have htm:Int.tmod (i:Int) 32=(s:Int):=by rw[Int.tmod_eq_emod_of_nonneg (by omega)];exact his
   have ha0:(0:Int)<=(a:Int):=by omega
   have ha1:(a:Int)<(L:Int):=by omega
   have hs0:(0:Int)<=(s:Int):=by omega
   have zvn:(s:Int)<32:=by omega
   have hwa:IntKind.i64.wrap (a:Int)=(a:Int):=by rw[IntKind.wrap_i64];omega
   have hws:IntKind.i64.wrap (s:Int)=(s:Int):=by rw[IntKind.wrap_i64];omega
   clear hq0 hai hsi hia his o1 o2 an zv7 zv8 hz hQ hq';go_wp2_with fail
   go_region_law fail
   go_wp2_with fail
   rw[HOR.out];have hdr:∀W:World,Ext W W.drew:=fun W=>Zi
   have zv9:=(HD.out.row.set a (q0+2^s)).ext (hdr _);have hxs:Ext w2 (wr.setCell ⟨w2.heap.size,a,none⟩ (.int .u32 (q0+2^s))).drew:=(HD.out.ext.setCell (p:=⟨w2.heap.size,a,none⟩) Zr _).trans (hdr _);generalize (wr.setCell ⟨w2.heap.size,a,none⟩ (.int .u32 (q0+2^s))).drew=ws at*
   have HR1:=Zh zv9;have HSQ:=Zh HD.out.sq;have HLP:=Zh HD.out.len;have HLM:=Zh HD.out.limbs;have HQP:=Zh HD.out.q;have zrY:Hid (∀W,Ext ws W->Cq 175 #[.bool false,.slice (some ⟨w2.heap.size,0,none⟩) L L] W (zz W (R+2^i))):=Zh (fun W e=>by
    have hl:(p.set a (q0+2^s)).length=L:=by rw[length_set];exact HLP.out
    have:=JT (w:=W) (c:=L) false HR1.out.ints HB.out.2.2 (by omega) (by omega) (by omega);rw[HB.out.2.1,hl]at this;exact this)
   have HK4:Hid (∀(W:World)g B k d,IntV W g B k d (R+2^i)->k<=L):=Zh (fun W g B k d h=>h.len (by
    have h1:=qi HB.out.2.2;have h2:=Qm HB.out.2.2;rw[length_set,HLP.out,HB.out.2.1]at h1;rw[HB.out.2.1]at h2;omega))
   have HK5:Hid (∀(W:World)g B k d,IntV W g B k d ((R+2^i)*(R+2^i))->k<=2*L):=Zh (fun W g B k d h=>h.len (by
    have h1:=qi HB.out.2.2;have h2:=Qm HB.out.2.2;rw[length_set,HLP.out,HB.out.2.1]at h1;rw[HB.out.2.1]at h2;rw[show 2*L=L+L by omega,Int.pow_add];have h3:=Int.mul_lt_mul h1 (Int.le_of_lt h1) (by have h5:=HSQ.out.r0;have h6:=Int.pow_pos (n:=2) (m:=i) (by decide);omega) (by omega);have h4:=Int.mul_nonneg h2 h2;omega))
   have HMU:Hid (∀(W0 W:World)g B k d,IntV W0 g B k d (R+2^i)->Ext W0 W->Cq 123 #[.agg #[.bool g,.slice B k d],.agg #[.bool g,.slice B k d]] W (zz W ((R+2^i)*(R+2^i)))):=Zh (fun W0 W g B k d h e=>by
    have:=HK4.out _ _ _ _ _ h;exact Jr h h (by omega) (by omega))
   have HCM:Hid (∀(W0 W:World)g B k d,IntV W0 g B k d ((R+2^i)*(R+2^i))->Ext W0 W->Ext w0 W->Cq 137 #[.agg #[.bool g,.slice B k d],.agg #[.bool na,.slice A n c]] W (zF W (.int .i64 (zm ((R+2^i)*(R+2^i)) x)))):=Zh (fun W0 W g B k d h e e0=>by
    have:=HK5.out _ _ _ _ _ h;exact zas h HA.out (by omega) HN.out)
   have hxq:Ext (w.alloc (.cells #[.bool na,.slice A n c] 99)) ws:=(Zi:Ext (w.alloc (.cells #[.bool na,.slice A n c] 99)) w2).trans hxs;have hxw:Ext w ws:=zta.trans hxs;have hx0:Ext w0 ws:=hx.trans hxw;clear zv9;have HHI:Hid (x<(R+2^i)*(R+2^i)->SqI x i R):=Zh HSQ.out.drop;have HLO:Hid ((R+2^i)*(R+2^i)<=x->SqI x i (R+2^i)):=Zh HSQ.out.keep;generalize R+2^i=R1 at*
   clear hcq hfq;by_cases hgt:x<R1*R1
   ·have hcm:decide (0<zm (R1*R1) x)=true:=by rw[qM hgt];rfl
    generalize zm (R1*R1) x=cm at*
    have HGT:=Zh hgt;clear hgt;generalize R1*R1=RR at*
    go_wp2_with (go_at_call 175;refine(zrY.out _ Zi).mono ?_;rintro e w4 ⟨g4,B4,k4,d4,rfl,hz4,hs4⟩;obtain⟨r1,r2⟩:=QS w w4 (.bool na) (.slice A n c) 99)
    have ztv:Ext w w4:=Zi;have zxD:Ext w0 w4:=hx.trans ztv;have HKP:Hid (∀W,Ext (w4.alloc (.cells #[.bool g4,.slice B4 k4 d4] 99)) W->W.cell? ⟨w.heap.size,0,none⟩=some (.bool na)/\W.cell? ⟨w.heap.size,1,none⟩=some (.slice A n c)/\W.cell? ⟨w4.heap.size,0,none⟩=some (.bool g4)/\W.cell? ⟨w4.heap.size,1,none⟩=some (.slice B4 k4 d4)):=Zh (fun W e=>by
     have e4:Ext w4 W:=Ext.trans Zi e;have e5:Ext (w.alloc (.cells #[.bool na,.slice A n c] 99)) W:=hxq.trans (Ext.trans Zi e4);obtain⟨a1,a2⟩:=QS w W (.bool na) (.slice A n c) 99;obtain⟨a3,a4⟩:=QS w4 W (.bool g4) (.slice B4 k4 d4) 99;exact⟨a1,a2,a3,a4⟩)
    go_region_held3 (fun w'=>w'.cell? ⟨w.heap.size,0,none⟩=some (.bool na)/\w'.cell? ⟨w.heap.size,1,none⟩=some (.slice A n c)/\w'.cell? ⟨w4.heap.size,0,none⟩=some (.bool g4)/\w'.cell? ⟨w4.heap.size,1,none⟩=some (.slice B4 k4 d4))
     (exact HKP.out _ Zi)
     ((first
      |(go_at_call 123;refine(HMU.out _ _ _ _ _ _ hz4 Zi).mono ?_;rintro e w5 ⟨g5,B5,k5,d5,rfl,hz5,hs5⟩)
      |(go_at_call 137;refine(HCM.out _ _ _ _ _ _ hz5 Zi Zi).mono ?_;rintro e w6 ⟨rfl,hs6⟩)))
    have hx6:Ext ws w6:=Zi;have hR6:=HR1.out.ext hx6;have hcq:w6.cell? ⟨w2.heap.size,a,none⟩=some (.int .u32 (q0+2^s)):=by
     obtain⟨y,hy,hc⟩:=hR6.cell (i:=a) (by rw[length_set,HLP.out];omega);rw[List.getElem?_set_self (by rw[HLP.out];omega)]at hy;injection hy with hy
     rw[hy];exact hc
    have hfq:=hR6.frozen a;have zyI:=hR6.lt;have zrs:Hid (∀W:World,Ext (w6.setCell ⟨w2.heap.size,a,none⟩ (.int .u32 q0)) W->SqM w2 W w2.heap.size L x i R p):=Zh (fun W e=>by
     have h1:=(hR6.set a q0).ext e;have h2:(p.set a (q0+2^s)).set a q0=p:=by
      rw[List.set_set];obtain⟨ha',he⟩:=Zg.1 HB.out.1;rw[<-he,List.set_getElem_self]
     rw[h2]at h1;exact⟨HHI.out HGT.out,HLP.out,HLM.out,HQP.out,h1,((hxs.trans hx6).setCell (p:=⟨w2.heap.size,a,none⟩) Zr _).trans e⟩)
    clear hR6;go_wp2_with fail
    go_region_law fail
    all_goals
     go_wp2_with fail
     rw[HAN.out];exact⟨⟨i,R,p,by omega,rfl,Zh (zrs.out _ Zi)⟩,by simp[intOf]<;>omega⟩
   ·have hcm:decide (0<zm (R1*R1) x)=false:=by
     unfold zm;split<;>(try split)<;>simp<;>omega
    generalize zm (R1*R1) x=cm at*
    have HGT:=Zh (show R1*R1<=x by omega);clear hgt;generalize R1*R1=RR at*
    go_wp2_with (go_at_call 175;refine(zrY.out _ Zi).mono ?_;rintro e w4 ⟨g4,B4,k4,d4,rfl,hz4,hs4⟩;obtain⟨r1,r2⟩:=QS w w4 (.bool na) (.slice A n c) 99)
    have ztv:Ext w w4:=Zi;have zxD:Ext w0 w4:=hx.trans ztv;have HKP:Hid (∀W,Ext (w4.alloc (.cells #[.bool g4,.slice B4 k4 d4] 99)) W->W.cell? ⟨w.heap.size,0,none⟩=some (.bool na)/\W.cell? ⟨w.heap.size,1,none⟩=some (.slice A n c)/\W.cell? ⟨w4.heap.size,0,none⟩=some (.bool g4)/\W.cell? ⟨w4.heap.size,1,none⟩=some (.slice B4 k4 d4)):=Zh (fun W e=>by
     have e4:Ext w4 W:=Ext.trans Zi e;have e5:Ext (w.alloc (.cells #[.bool na,.slice A n c] 99)) W:=hxq.trans (Ext.trans Zi e4);obtain⟨a1,a2⟩:=QS w W (.bool na) (.slice A n c) 99;obtain⟨a3,a4⟩:=QS w4 W (.bool g4) (.slice B4 k4 d4) 99;exact⟨a1,a2,a3,a4⟩)
    go_region_held3 (fun w'=>w'.cell? ⟨w.heap.size,0,none⟩=some (.bool na)/\w'.cell? ⟨w.heap.size,1,none⟩=some (.slice A n c)/\w'.cell? ⟨w4.heap.size,0,none⟩=some (.bool g4)/\w'.cell? ⟨w4.heap.size,1,none⟩=some (.slice B4 k4 d4))
     (exact HKP.out _ Zi)
     ((first
      |(go_at_call 123;refine(HMU.out _ _ _ _ _ _ hz4 Zi).mono ?_;rintro e w5 ⟨g5,B5,k5,d5,rfl,hz5,hs5⟩)
      |(go_at_call 137;refine(HCM.out _ _ _ _ _ _ hz5 Zi Zi).mono ?_;rintro e w6 ⟨rfl,hs6⟩)))
    go_wp2_with fail
    have hx6:Ext ws w6:=Zi;exact⟨⟨i,R1,p.set a (q0+2^s),by omega,rfl,Zh ⟨HLO.out HGT.out,by rw[length_set];exact HLP.out,HB.out.2.2,HB.out.2.1,HR1.out.ext (hx6.trans Zi),hxs.trans (hx6.trans Zi)⟩⟩,by simp[intOf]<;>omega⟩
end
section
open Go.RowKit
open La
structure Bb(x:Int):Prop where
 bd:Bd 200000 x
section
variable {w1 w2 w:World} {g h:Bool} {A B:Option Addr} {n k c d:Nat} {x y:Int}
theorem zcD(ha:IntV w1 g A n c x)(hb:IntV w2 h B k d y)(h1:Bb x)(h2:Bb y)[e1:Ext w1 w][e2:Ext w2 w]:Cq 123 #[.agg #[.bool g,.slice A n c],.agg #[.bool h,.slice B k d]] w (zz w (x*y)):=
 Jr ha hb (by have:=ha.bd h1.bd (by omega);omega) (by have:=hb.bd h2.bd (by omega);omega)
theorem zic(ha:IntV w1 g A n c x)(hb:IntV w2 h B k d y)(h1:Bb x)(h2:Bb y)[e1:Ext w1 w][e2:Ext w2 w]:Cq 122 #[.agg #[.bool g,.slice A n c],.agg #[.bool h,.slice B k d]] w (zz w (x+y)):=
 JU ha hb (by have:=ha.bd h1.bd (by omega);omega) (by have:=hb.bd h2.bd (by omega);omega)
theorem zeE(ha:IntV w1 g A n c x)(hb:IntV w2 h B k d y)(h1:Bb x)(h2:Bb y)[e1:Ext w1 w][e2:Ext w2 w]:Cq 124 #[.agg #[.bool g,.slice A n c],.agg #[.bool h,.slice B k d]] w (zz w (x-y)):=
 zdm ha hb (by have:=ha.bd h1.bd (by omega);omega) (by have:=hb.bd h2.bd (by omega);omega)
theorem zid(ha:IntV w1 g A n c x)(hb:IntV w2 h B k d y)(h1:Bb x)(h2:Bb y)(h3:0<y)[e1:Ext w1 w][e2:Ext w2 w]:Cq 126 #[.agg #[.bool g,.slice A n c],.agg #[.bool h,.slice B k d]] w (zz w (x / y)):=
 zbp ha hb (ha.bd h1.bd (by omega)) (hb.bd h2.bd (by omega)) (by omega)
theorem zo8(ha:IntV w1 g A n c x)(h1:Bb x)[e1:Ext w1 w]:Cq 127 #[.agg #[.bool g,.slice A n c]] w (zz w (-x)):=
 zbY ha (by have:=ha.bd h1.bd (by omega);omega)
theorem IntV.bdK(ha:IntV w1 g A n c x){kk:Nat}(hb:Bd kk x):n<=kk / 32+1:=by
 refine ha.len ?_;have h2:x.natAbs<2^(32*(kk / 32+1)):=Nat.lt_of_lt_of_le hb (Nat.pow_le_pow_right (by omega) (by omega));rw[<-zhg]at h2;have h3:=Int.ofNat_lt.2 h2;rw[Int.natCast_pow]at h3;exact h3
theorem IntV.bdLen(ha:IntV w1 g A n c x)(h1:Bb x):n<=1000000:=by
 have:=ha.bdK h1.bd;omega
def zo9(w:World)(x:Int)(e:Ending)(w':World):Prop:=∃g B k d,e= .returned (.tuple #[.agg #[.bool g,.slice B k d],.bool true])/\IntV w' g B k d (zu x.toNat:Int)/\Step w w'
theorem zpa(ha:IntV w1 g A n c x)(h1:Bb x)(h0:0<=x)[e1:Ext w1 w]:Cq 125 #[.agg #[.bool g,.slice A n c]] w (zo9 w x):=by
 refine(zo7 ha h0 (ha.bdLen h1)).mono ?_;rintro e w' ⟨g,B,k,d,r,rfl,hz,r0,r1,r2,hs⟩;refine⟨g,B,k,d,rfl,?_,hs⟩;obtain⟨r',rfl⟩:∃r':Nat,r=r':=⟨r.toNat,by omega⟩;have e:zu x.toNat=r':=by
  refine zfN ?_ ?_
  ·have:((r'*r':Nat):Int)<=x:=by simpa using r1
   omega
  ·have:x<(((r'+1)*(r'+1):Nat):Int):=by simpa using r2
   omega
 rw[e];exact hz
end
theorem zpb(h0:0<=x)(h:Bd k x):Bd k (zu x.toNat:Int):=by
 refine h.le ?_;have h1:=(Qf x.toNat).1;generalize zu x.toNat=r at*
 have:r<=r*r:=Nat.le_mul_self r;omega
theorem zie(hi:i<m.length-s):(ql m s)[i]? =some ((List.range (m.length-s)).map fun j=>fB m s i j):=by
 unfold ql tab;rw[List.getElem?_map,List.getElem?_range hi];rfl
def ja(m:List (List Int))(s i:Nat):List Int:=((List.range (m.length-s)).map fun j=>fB m s i j).drop 1
theorem zpc(h:m.length=s+q+1)(hj:j<q):(ja m s i).getD j 0=fB m s i (j+1):=by
 unfold ja;have h1:1+j<m.length-s:=by omega
 simp only[List.getD_eq_getElem?_getD,getElem?_drop,List.getElem?_map,List.getElem?_range h1,Option.map_some,Option.getD_some];rw[Nat.add_comm]
theorem zif(h:m.length=s+q+1):(ja m s i).length=q:=by
 simp[ja];omega
theorem zig(h:∀i j,Bd k (fB m s i j)):Q8 k (ja m s i):=fun j=>by
 unfold ja;rw[List.getD_eq_getElem?_getD,getElem?_drop,List.getElem?_map]
 cases (List.range (m.length-s))[1+j]? with
 |none=>exact Bd.zero _
 |some y=>exact h i y
def fD(m:List (List Int))(s q:Nat)(t:List Int)(i:Nat):Int:=zj q fun j=>(ja m s i).getD j 0*t.getD j 0
theorem zih(t:List Int)(h:m.length=s+q+1):fD m s q t i=zj q fun j=>fB m s i (j+1)*t.getD j 0:=
 zX fun j hj=>by rw[zpc h hj]
theorem zeF(hL:LLLed m)(hs:s<m.length)(i j:Nat):Bd 51200 (fB m s i j):=by
 have h8:=hL.len8;have:=zaH (b:=199) (k:=s) (i:=s+i) (j:=s+j) (m:=m) (by omega) (by omega) hL.bd;rw[zaA (fun l hl=>by have:=qt hL.pos (show l<m.length by omega);omega)]at this;exact this
theorem zpd(hL:LLLed m)(hs:s<=m.length):Bd 51200 (zx (ent m) s):=by
 cases s with
 |zero=>exact Bd.one (by omega)
 |succ s=>exact zeF hL (s:=s) (by omega) 0 0
theorem zbx(h:∀a∈t,-9223372036854775808<=a/\a<=9223372036854775807):Q8 64 t:=fun i=>by
 rw[List.getD_eq_getElem?_getD]
 cases e:t[i]? with
 |none=>exact Bd.zero _
 |some y=>have:=h y (Zm e);exact Bd.of64 this.1 this.2
structure IvB(m:List (List Int))(s q:Nat)(t:List Int)(za:Int):Prop where
 b0:Bb (fB m s 0 0)
 l:Bb (fD m s q t 0)
 d:∀i,Bb (fD m s q t i)
 y:∀i,Bb (t.getD i 0)
 p:∀i,Bb (t.getD i 0*fD m s q t (i+1))
 c:∀k,k<=q->Bb (zj k fun i=>t.getD i 0*fD m s q t (i+1))
 bo:Bb za
 ls:Bb (zx (ent m) s)
 bl:Bb (za*zx (ent m) s)
 c2:Bb (fC m s t-za*zx (ent m) s)
 ll:Bb (fD m s q t 0*fD m s q t 0)
 bc:Bb (fB m s 0 0*(fC m s t-za*zx (ent m) s))
 di:Bb (fD m s q t 0*fD m s q t 0-fB m s 0 0*(fC m s t-za*zx (ent m) s))
 fL:fD m s q t 0=fL m s t
 fC:(zj q fun i=>t.getD i 0*fD m s q t (i+1))=fC m s t
 rt:0<=fD m s q t 0*fD m s q t 0-fB m s 0 0*(Go.Proofs.YtcmkopogafchiaaGreat.fC m s t-za*zx (ent m) s)->Bb (zu (fD m s q t 0*fD m s q t 0-fB m s 0 0*(Go.Proofs.YtcmkopogafchiaaGreat.fC m s t-za*zx (ent m) s)).toNat:Int)
 df:0<=fD m s q t 0*fD m s q t 0-fB m s 0 0*(Go.Proofs.YtcmkopogafchiaaGreat.fC m s t-za*zx (ent m) s)->Bb ((zu (fD m s q t 0*fD m s q t 0-fB m s 0 0*(Go.Proofs.YtcmkopogafchiaaGreat.fC m s t-za*zx (ent m) s)).toNat:Int)-fD m s q t 0)
 sm:0<=fD m s q t 0*fD m s q t 0-fB m s 0 0*(Go.Proofs.YtcmkopogafchiaaGreat.fC m s t-za*zx (ent m) s)->Bb ((zu (fD m s q t 0*fD m s q t 0-fB m s 0 0*(Go.Proofs.YtcmkopogafchiaaGreat.fC m s t-za*zx (ent m) s)).toNat:Int)+fD m s q t 0)
theorem ivB(hL:LLLed m)(hq:m.length=s+q+1)(ht:t.length=q)(htb:∀a∈t,-9223372036854775808<=a/\a<=9223372036854775807)(hb0:-9223372036854775808<=za)(hb1:za<=9223372036854775807):IvB m s q t za:=by
 have h8:=hL.len8;have hB:=zeF hL (s:=s) (by omega);have hY:=zbx htb;have hR:∀i,Q8 51200 (ja m s i):=fun i=>zig hB
 have hD:∀i,Bd 51272 (fD m s q t i):=fun i=>(J5 (k:=51264) (n:=q) (fun j _=>((hR i j).mul (hY j)).mono (by omega)) q Zr).mono (by omega)
 have hP:∀i,Bd 51336 (t.getD i 0*fD m s q t (i+1)):=fun i=>((hY i).mul (hD (i+1))).mono (by omega)
 have hC:∀k,k<=q->Bd 51344 (zj k fun i=>t.getD i 0*fD m s q t (i+1)):=fun k hk=>(J5 (k:=51336) (n:=q) (fun j _=>hP j) k hk).mono (by omega)
 have hbo:Bd 64 za:=Bd.of64 hb0 hb1;have hls:=zpd hL (s:=s) (by omega);have hbl:Bd 51264 (za*zx (ent m) s):=(hbo.mul hls).mono (by omega);have eL:fD m s q t 0=Go.Proofs.YtcmkopogafchiaaGreat.fL m s t:=by rw[zih t hq];unfold Go.Proofs.YtcmkopogafchiaaGreat.fL;rw[ht]
 have eC:(zj q fun i=>t.getD i 0*fD m s q t (i+1))=Go.Proofs.YtcmkopogafchiaaGreat.fC m s t:=by
  unfold Go.Proofs.YtcmkopogafchiaaGreat.fC;rw[ht];exact zX fun i _=>by rw[zih t hq]
 have hc2:Bd 51345 (Go.Proofs.YtcmkopogafchiaaGreat.fC m s t-za*zx (ent m) s):=by
  rw[<-eC];exact(hC q Zr).sub (hbl.mono (by omega))
 have hll:Bd 102544 (fD m s q t 0*fD m s q t 0):=((hD 0).mul (hD 0)).mono (by omega);have hbc:Bd 102545 (fB m s 0 0*(Go.Proofs.YtcmkopogafchiaaGreat.fC m s t-za*zx (ent m) s)):=((hB 0 0).mul hc2).mono (by omega);have hdi:Bd 102546 (fD m s q t 0*fD m s q t 0-fB m s 0 0*(Go.Proofs.YtcmkopogafchiaaGreat.fC m s t-za*zx (ent m) s)):=(hll.mono (by omega)).sub hbc;have hrb:=fun(h0:0<=fD m s q t 0*fD m s q t 0-fB m s 0 0*(Go.Proofs.YtcmkopogafchiaaGreat.fC m s t-za*zx (ent m) s))=>zpb h0 hdi
 have hrt:0<=fD m s q t 0*fD m s q t 0-fB m s 0 0*(Go.Proofs.YtcmkopogafchiaaGreat.fC m s t-za*zx (ent m) s)->Bb (zu (fD m s q t 0*fD m s q t 0-fB m s 0 0*(Go.Proofs.YtcmkopogafchiaaGreat.fC m s t-za*zx (ent m) s)).toNat:Int):=fun h0=>⟨(hrb h0).mono (by omega)⟩
 have hdf:0<=fD m s q t 0*fD m s q t 0-fB m s 0 0*(Go.Proofs.YtcmkopogafchiaaGreat.fC m s t-za*zx (ent m) s)->Bb ((zu (fD m s q t 0*fD m s q t 0-fB m s 0 0*(Go.Proofs.YtcmkopogafchiaaGreat.fC m s t-za*zx (ent m) s)).toNat:Int)-fD m s q t 0):=fun h0=>⟨((hrb h0).sub ((hD 0).mono (by omega))).mono (by omega)⟩
 have hsm:0<=fD m s q t 0*fD m s q t 0-fB m s 0 0*(Go.Proofs.YtcmkopogafchiaaGreat.fC m s t-za*zx (ent m) s)->Bb ((zu (fD m s q t 0*fD m s q t 0-fB m s 0 0*(Go.Proofs.YtcmkopogafchiaaGreat.fC m s t-za*zx (ent m) s)).toNat:Int)+fD m s q t 0):=fun h0=>⟨((hrb h0).add ((hD 0).mono (by omega))).mono (by omega)⟩
 exact⟨⟨(hB 0 0).mono (by omega)⟩,⟨(hD 0).mono (by omega)⟩,fun i=>⟨(hD i).mono (by omega)⟩,fun i=>⟨(hY i).mono (by omega)⟩,fun i=>⟨(hP i).mono (by omega)⟩,fun k hk=>⟨(hC k hk).mono (by omega)⟩,⟨hbo.mono (by omega)⟩,⟨hls.mono (by omega)⟩,⟨hbl.mono (by omega)⟩,⟨hc2.mono (by omega)⟩,⟨hll.mono (by omega)⟩,⟨hbc.mono (by omega)⟩,⟨((hll.mono (by omega)).sub (hbc.mono (l:=102545) (by omega))).mono (by omega)⟩,eL,eC,hrt,hdf,hsm⟩
set_option maxRecDepth 20000 in
theorem zii{TA:Option Addr}{sc dc tc:Nat}(hF':FrV w0 m SB DB)(hL:LLLed m)(h1:m.length=n)(hq:n=s+q+1)(hT:Ints w1 TA 2 .i64 t)(htl:t.length=q)(htb:∀a∈t,-9223372036854775808<=a/\a<=9223372036854775807)(hb0:-9223372036854775808<=za)(hb1:za<=9223372036854775807)(h0:0<=left (ent m) za (s+1) t)
  (hl0:-9223372036854775808<=zJ m za s t) (hl1:zJ m za s t<=9223372036854775807) (hh0:-9223372036854775808<=Zb m za s t) (hh1:Zb m za s t<=9223372036854775807) [hx:Ext w0 w] [hy:Ext w1 w]:
  Cq 73 #[.agg #[.int .i64 n,.slice SB n sc,.slice DB (n+1) dc],.int .i64 za,.slice TA q tc] w (zF w (.tuple #[.int .i64 (zJ m za s t),.int .i64 (Zb m za s t)])):=by
 have hr:=Qi hL.red;have hn8:=hL.len8;have hs:s<m.length:=by omega
 obtain⟨e1,e2,e3,e4⟩:=zoV hr hs za t (by omega) h0;have hF:=hF'.ext hx;have hB:=ivB hL (s:=s) (q:=q) (t:=t) (za:=za) (by omega) htl htb hb0 hb1;-- the memory of the stage
 have hms:((List.range m.length).map (ql m))[s]? =some (ql m s):=by simp[hs]
 obtain⟨bs,os,BM,cM,rfl,g1,hM,-,-,g2⟩:=hF.1.at_ hms;rw[zcz,show m.length-s=q+1 by omega]at g1;obtain⟨bm,om,B0,c0,rfl,g3,hI0,g4,g5,g6⟩:=hM.at_ (zie (m:=m) (s:=s) (i:=0) (by omega));have hrl:∀i,((List.range (m.length-s)).map fun j=>fB m s i j).length=q+1:=fun i=>by simp;omega
 rw[hrl]at g3 g4;obtain⟨b0,o0,gE,BE,kE,dE,rfl,p1,p2,hzE,p3⟩:=hI0.atD (i:=0) (by rw[hrl];omega);have hE0:((List.range (m.length-s)).map fun j=>fB m s 0 j).getD 0 0=fB m s 0 0:=by
  have:0<m.length-s:=by omega
  simp[List.getD,this]
 rw[hE0]at hzE;obtain⟨bd,od,gD,BD,kD,dD,rfl,d1,d2,hzD,d3⟩:=hF.2.atD (i:=s) (by rw[length_cons,QN];omega);have hDs:(1::zw m).getD s 0=zx (ent m) s:=by
  cases s with
  |zero=>rfl
  |succ s=>rw[List.getD_cons_succ,zdO hL.pos (by omega)];rfl
 rw[hDs]at hzD;have zrv:Hid (∀i,i<=q->∃bi oi ci,w.cell? ⟨bm,om+i,none⟩=some (.slice (some ⟨bi,oi,none⟩) (q+1) ci)/\IntsV w (some ⟨bi,oi+2,none⟩) (ja m s i)/\q+1<=ci/\ci<=9223372036854775807):=Zh (fun i hi=>by
  obtain⟨b',o',Bi,ci,e,a1,a2,a3,a4,-⟩:=hM.at_ (zie (m:=m) (s:=s) (i:=i) (by omega));injection e with e
  injection e with x1 x2
  subst x1 x2;rw[hrl]at a1 a3;obtain⟨bi,oi,-,-,-,-,rfl,-⟩:=a2.atD (i:=0) (by rw[hrl];omega);exact⟨bi,oi,ci,a1,a2.drop 1,a3,a4⟩)
 obtain⟨b0',o0',c0',f1,hR0,f3,f4⟩:=zrv.out 0 (by omega);rw[Nat.add_zero]at f1 g3;rw[g3]at f1;injection f1 with f1
 injection f1 with x1 x2 x3
 injection x1 with x1
 injection x1 with x1 x4
 subst x1 x4 x3;simp only[Nat.zero_mul,Nat.add_zero]at p1 p2;have HCO:Hid (∀W,Ext w1 W->Cq 82 #[.slice TA q tc] W (zcy W t)):=Zh (fun W e=>by
  have:=zhW (w:=W) (c:=tc) hT (by omega) htb;rwa [htl]at this)
 have HDT:Hid (∀(W1 W2 W:World)(A1 A2:Option Addr)(c1 c2 i:Nat),IntsV W1 A1 (ja m s i)->IntsV W2 A2 t->Ext W1 W->Ext W2 W->Cq 83 #[.slice A1 q c1,.slice A2 q c2] W (zz W (fD m s q t i))):=Zh (fun W1 W2 W A1 A2 c1 c2 i i1 i2 x1 x2=>
  zcj i1 i2 (zif (by omega)) htl (by omega) (k:=51200) (by omega) (zig (zeF hL hs)) (fun i=>(zbx htb i).mono (by omega)))
 have hnq:(n:Int)-(q:Int)=((s+1:Nat):Int):=by omega
 have hns:((s+1:Nat):Int)-1=(s:Int):=by omega
 have hw1:IntKind.i64.wrap ((n:Int)-(q:Int))=((s+1:Nat):Int):=by rw[hnq];exact Iw
 have hw2:IntKind.i64.wrap (((s+1:Nat):Int)-1)=(s:Int):=by rw[hns];exact Iw
 have hsn:s<n:=by omega
 have HTL:=Zh htl;rw[<-hB.fL]at e1 e2 e3;have HB:=Zh hB;have HE:=Zh (And.intro e1 (And.intro e2 (And.intro e3 e4)));generalize zJ m za s t=lo at*
 generalize Zb m za s t=hi at*
 have HLO:=Zh (And.intro hl0 hl1);have HHI:=Zh (And.intro hh0 hh1);clear e1 e2 e3 hl0 hl1 hh0 hh1 hB hrl hM hI0 hF hF' hms hE0 hDs h0 hr hL hT htb htl hs x2 hnq hns;have hn9:n<=8:=by omega
 have hqn:q<n:=by omega
 have HQ:Hid (m.length=s+q+1):=Zh (by omega);clear hq hn8 h1;have oa:Old bs w:=⟨g2⟩;have ob:Old bm w:=⟨g6⟩;have oc:Old b0 w:=⟨p3⟩;have ox4:Old bd w:=⟨d3⟩;have HZE:=Zh hzE;have HZD:=Zh hzD;have HR0:=Zh hR0;clear hzE hzD hR0;go_enter Tryz.func73,Tryz.ntmps73;go_upto_region 4 with (go_at_call 82;refine(HCO.out _ Zi).mono ?_;rintro e w3 ⟨A3,c3,rfl,hI3,zvi,zxl,hs3⟩;have HI3:=Zh hI3;clear hI3;rw[HTL.out]at zvi|-)
 have HR1:Hid (q=0->∀W,IntsV W (some ⟨b0,o0,none⟩) (ja m s 0)):=Zh (fun e W=>by
  have:ja m s 0=[]:=List.eq_nil_of_length_eq_zero (by rw[zif (q:=q) (HQ.out)];exact e);rw[this];exact IntsV.nil _ _)
 have hxf:Ext (w.alloc (.cells #[.int .i64 n,.slice (some ⟨bs,os,none⟩) n sc,.slice (some ⟨bd,od,none⟩) (n+1) dc] 88)) w3:=Zi;go_cut [11] (fun s11 wx=>∃p,s11= .pointer (some ⟨p,0,none⟩)/\Hid (Box wx p (fD m s q t 0))/\Ext w3 wx)
 case first=>
  go_wp2_with fail
  ·refine(HDT.out w3 w3 w3 _ _ _ _ 0 (HR1.out (by omega) _) HI3.out Zi Zi).mono ?_;rintro e w4 ⟨g4,B4,k4,d4,rfl,hz4,hs4⟩;go_wp2_with fail
   go_meet
   exact⟨_,rfl,Zh ⟨g4,B4,k4,d4,BlkAt.eq,hz4.keeps⟩,Zi⟩
  ·refine(HDT.out w w3 w3 _ _ _ _ 0 HR0.out HI3.out Zi Zi).mono ?_;rintro e w4 ⟨g4,B4,k4,d4,rfl,hz4,hs4⟩;go_wp2_with fail
   go_meet
   exact⟨_,rfl,Zh ⟨g4,B4,k4,d4,BlkAt.eq,hz4.keeps⟩,Zi⟩
 case rest=>
  obtain⟨wl,rfl⟩:∃wl:World,wl=wc:=⟨_,rfl⟩;obtain⟨p,rfl,HBX,hxc⟩:=hcut;obtain⟨gl,Bl,kl,dl,zxE,l1,l2,l3,l4,l5,hzl⟩:=HBX.out.cells;have oP:Old p wl:=⟨l5⟩;have HZL:=Zh hzl;have HCL:=Zh (And.intro l1 l2);have hx3:Ext w3 wl:=hxc;have hxw:Ext w wl:=(Zi:Ext w w3).trans hxc;clear zxE hzl l1 l2 l3 l4;go_wp2_with fail
  go_loopw [42] (fun i wr=>∃k:Nat,k<=q/\i= .int .i64 k/\Hid (Box wr wl.heap.size (zj k fun i=>t.getD i 0*fD m s q t (i+1)))/\Ext wl wr) (fun i _=>q-(intOf i).toNat)
  case atStart=>
   refine⟨0,by omega,rfl,Zh ⟨false,none,0,0,?_,IntV.zero _ _ _ (by omega)⟩,Zi⟩;exact BlkAt.eq
  case round=>
   obtain⟨k,hk,rfl,HC,hxr⟩:=hrel;have zsW:Ext w wr:=hxw.trans hxr;have zwa:Ext w3 wr:=hx3.trans hxr;by_cases hlt:k<q
   ·obtain⟨gc,Bc,kc,dc',zul,r1,r2,r3,r4,r5,hzc⟩:=HC.out.cells;obtain⟨by_,oy,gy,By,ky,dy,rfl,y1,y2,hzy,y3⟩:=(HI3.out.ext zwa).atD (i:=k) (by rw[HTL.out];exact hlt);obtain⟨bi,oi,ci,i1,hIi,i3,i4⟩:=zrv.out (k+1) (by omega);have hi1:wr.cell? ⟨bm,om+(k+1),none⟩=some (.slice (some ⟨bi,oi,none⟩) (q+1) ci):=(zh w).trans i1;have HS:=Zh (And.intro r1 (And.intro r2 (And.intro y1 (And.intro y2 hi1))));have oC:Old wl.heap.size wr:=⟨r5⟩
    have oY:Old by_ wr:=⟨y3⟩;have oM:Old bm wr:=⟨Nat.lt_of_lt_of_le g6 zsW.size⟩;have HZC:=Zh hzc;have HZY:=Zh hzy;have HII:=Zh hIi;have HBK:=Zh zul;have HNX:Hid ((zj k fun i=>t.getD i 0*fD m s q t (i+1))+t.getD k 0*fD m s q t (k+1)=zj (k+1) fun i=>t.getD i 0*fD m s q t (i+1)):=Zh (by rw[ZD]);have HB1:=Zh (HB.out.c k (by omega));have HF3:=Zh (And.intro r3 r4);generalize (zj k fun i=>t.getD i 0*fD m s q t (i+1))=ck at*
    have hwk:IntKind.i64.wrap ((k:Int)+1)=((k+1:Nat):Int):=Iw;have hci:1<ci:=by omega
    have zyJ:ci≠1:=by omega
    have hk0:(0:Int)<=(k:Int)+1:=by omega
    have hq1:(1:Int)<=(q:Int)+1:=by omega
    have hq2:(q:Int)+1<=(ci:Int):=by omega
    have hk1:(k:Int)+1<(q:Int)+1:=by omega
    clear zul r1 r2 r3 r4 hzc y1 y2 hzy i1 hIi hi1;go_wp2_with fail
    have a1:wr.cell? ⟨wl.heap.size,0,none⟩=some (.bool gc):=HS.out.1;have a2:wr.cell? ⟨wl.heap.size,1,none⟩=some (.slice Bc kc dc'):=HS.out.2.1;have a3:wr.cell? ⟨by_,oy+k*2,none⟩=some (.bool gy):=HS.out.2.2.1;have a4:wr.cell? ⟨by_,oy+k*2+1,none⟩=some (.slice By ky dy):=HS.out.2.2.2.1;have a5:wr.cell? ⟨bm,om+(k+1),none⟩=some (.slice (some ⟨bi,oi,none⟩) (q+1) ci):=HS.out.2.2.2.2;go_region_law (first
     |(go_simp;go_at_call 83;refine(HDT.out w w3 _ _ _ _ _ (k+1) HII.out HI3.out Zi Zi).mono ?_;rintro e w5 ⟨g5,B5,k5,d5,rfl,hz5,hs5⟩;have b1:w5.cell? ⟨wl.heap.size,0,none⟩=some (.bool gc):=(zh wr).trans HS.out.1;have b2:w5.cell? ⟨wl.heap.size,1,none⟩=some (.slice Bc kc dc'):=(zh wr).trans HS.out.2.1;have b3:w5.cell? ⟨by_,oy+k*2,none⟩=some (.bool gy):=(zh wr).trans HS.out.2.2.1;have b4:w5.cell? ⟨by_,oy+k*2+1,none⟩=some (.slice By ky dy):=(zh wr).trans HS.out.2.2.2.1;have b5:w5.cell? ⟨bm,om+(k+1),none⟩=some (.slice (some ⟨bi,oi,none⟩) (q+1) ci):=(zh wr).trans HS.out.2.2.2.2)
     |(go_simp;go_at_call 123;refine(zcD HZY.out hz5 (HB.out.y k) (HB.out.d (k+1))).mono ?_;rintro e w6 ⟨g6',B6,k6,d6,rfl,hz6,hs6⟩;have c1:w6.cell? ⟨wl.heap.size,0,none⟩=some (.bool gc):=(zh wr).trans HS.out.1;have c2:w6.cell? ⟨wl.heap.size,1,none⟩=some (.slice Bc kc dc'):=(zh wr).trans HS.out.2.1;have c3:w6.cell? ⟨by_,oy+k*2,none⟩=some (.bool gy):=(zh wr).trans HS.out.2.2.1;have c4:w6.cell? ⟨by_,oy+k*2+1,none⟩=some (.slice By ky dy):=(zh wr).trans HS.out.2.2.2.1;have c5:w6.cell? ⟨bm,om+(k+1),none⟩=some (.slice (some ⟨bi,oi,none⟩) (q+1) ci):=(zh wr).trans HS.out.2.2.2.2)
     |(go_simp;go_at_call 122;refine(zic HZC.out hz6 HB1.out (HB.out.p k)).mono ?_;rintro e w7 ⟨g7,B7,k7,d7,rfl,hz7,hs7⟩;rw[HNX.out]at hz7;have f1:w7.frozen? ⟨wl.heap.size,0,none⟩=false:=(qh wr).trans HF3.out.1;have f2:w7.frozen? ⟨wl.heap.size,1,none⟩=false:=(qh wr).trans HF3.out.2;have d1:w7.cell? ⟨wl.heap.size,0,none⟩=some (.bool gc):=(zh wr).trans HS.out.1;have d2:w7.cell? ⟨wl.heap.size,1,none⟩=some (.slice Bc kc dc'):=(zh wr).trans HS.out.2.1;have d3:w7.cell? ⟨by_,oy+k*2,none⟩=some (.bool gy):=(zh wr).trans HS.out.2.2.1;have d4:w7.cell? ⟨by_,oy+k*2+1,none⟩=some (.slice By ky dy):=(zh wr).trans HS.out.2.2.2.1;have d5:w7.cell? ⟨bm,om+(k+1),none⟩=some (.slice (some ⟨bi,oi,none⟩) (q+1) ci):=(zh wr).trans HS.out.2.2.2.2))
    all_goals
     go_wp2;refine⟨⟨k+1,by omega,by go_num,Zh ?_,?_⟩,by simp[intOf]<;>omega⟩
     ·exact Box.put (zk (Zi:Ext wr w7) HBK.out) hz7
     ·exact((hxr.trans (Zi:Ext wr w7)).setCell (p:=⟨wl.heap.size,0,none⟩) Zr _).setCell (p:=⟨wl.heap.size,1,none⟩) Zr _
   ·obtain rfl:k=q:=by omega
    have HC1:=HC.out;rw[HB.out.fC]at HC1;obtain⟨gc,Bc,kc,dc',zul,r1,r2,r3,r4,r5,hzc⟩:=HC1.cells;have HCS:=Zh (show Bb (fC m s t) by have:=HB.out.c k Zr;rwa [HB.out.fC]at this);have oC:Old wl.heap.size wr:=⟨r5⟩;have HZC:=Zh hzc;have HBK:=Zh zul;have HF3:=Zh (And.intro r3 r4);have hfb:wr.heap[w.heap.size]? =some (.cells #[.int .i64 n,.slice (some ⟨bs,os,none⟩) n sc,.slice (some ⟨bd,od,none⟩) (n+1) dc] 88 (0,0)):=zk (hxf.trans zwa) (heap_alloc_new w _)
    obtain⟨⟨-,-,f2⟩,-,f5⟩:=Jd hfb;have oF:Old w.heap.size wr:=⟨f5⟩;have oD:Old bd wr:=⟨Nat.lt_of_lt_of_le d3 zsW.size⟩;have oB:Old bm wr:=⟨Nat.lt_of_lt_of_le g6 zsW.size⟩;have oE:Old b0 wr:=⟨Nat.lt_of_lt_of_le p3 zsW.size⟩;have oP2:Old p wr:=⟨Nat.lt_of_lt_of_le l5 hxr.size⟩;have e1:wr.cell? ⟨bd,od+s*2,none⟩=some (.bool gD):=(zh w).trans d1;have e2:wr.cell? ⟨bd,od+s*2+1,none⟩=some (.slice BD kD dD):=(zh w).trans d2
    have HS:=Zh (And.intro r1 (And.intro r2 (And.intro e1 (And.intro e2 f2))));have HSM:=Zh (fun W=>Qg za hb0 hb1 W);have zyK:(s:Int)<(n:Int)+1:=by omega
    clear zul r3 r4 hzc HC HC1 hfb;go_wp2_with fail
    go_cut [] (fun wx=>Hid (Box wx wl.heap.size (fC m s t-za*zx (ent m) s))/\Ext wl wx)
    case first=>
     go_region_law (first
      |(go_simp;go_at_call 72;refine(HSM.out _).mono ?_;rintro e w5 ⟨g5,B5,k5,d5,rfl,hz5,hs5⟩;have b1:w5.cell? ⟨wl.heap.size,0,none⟩=some (.bool gc):=(zh wr).trans HS.out.1;have b2:w5.cell? ⟨wl.heap.size,1,none⟩=some (.slice Bc kc dc'):=(zh wr).trans HS.out.2.1;have b3:w5.cell? ⟨bd,od+s*2,none⟩=some (.bool gD):=(zh wr).trans HS.out.2.2.1;have b4:w5.cell? ⟨bd,od+s*2+1,none⟩=some (.slice BD kD dD):=(zh wr).trans HS.out.2.2.2.1;have b5:w5.cell? ⟨w.heap.size,2,none⟩=some (.slice (some ⟨bd,od,none⟩) (n+1) dc):=(zh wr).trans HS.out.2.2.2.2)
      |(go_simp;go_at_call 123;refine(zcD hz5 HZD.out HB.out.bo HB.out.ls).mono ?_;rintro e w6 ⟨g6',B6,k6,d6,rfl,hz6,hs6⟩;have c1:w6.cell? ⟨wl.heap.size,0,none⟩=some (.bool gc):=(zh wr).trans HS.out.1;have c2:w6.cell? ⟨wl.heap.size,1,none⟩=some (.slice Bc kc dc'):=(zh wr).trans HS.out.2.1;have c3:w6.cell? ⟨bd,od+s*2,none⟩=some (.bool gD):=(zh wr).trans HS.out.2.2.1;have c4:w6.cell? ⟨bd,od+s*2+1,none⟩=some (.slice BD kD dD):=(zh wr).trans HS.out.2.2.2.1;have c5:w6.cell? ⟨w.heap.size,2,none⟩=some (.slice (some ⟨bd,od,none⟩) (n+1) dc):=(zh wr).trans HS.out.2.2.2.2)
      |(go_simp;go_at_call 124;refine(zeE HZC.out hz6 HCS.out HB.out.bl).mono ?_;rintro e w7 ⟨g7,B7,k7,d7,rfl,hz7,hs7⟩;have f1:w7.frozen? ⟨wl.heap.size,0,none⟩=false:=(qh wr).trans HF3.out.1;have f2:w7.frozen? ⟨wl.heap.size,1,none⟩=false:=(qh wr).trans HF3.out.2;have d1:w7.cell? ⟨wl.heap.size,0,none⟩=some (.bool gc):=(zh wr).trans HS.out.1;have d2:w7.cell? ⟨wl.heap.size,1,none⟩=some (.slice Bc kc dc'):=(zh wr).trans HS.out.2.1;have d3:w7.cell? ⟨bd,od+s*2,none⟩=some (.bool gD):=(zh wr).trans HS.out.2.2.1;have d4:w7.cell? ⟨bd,od+s*2+1,none⟩=some (.slice BD kD dD):=(zh wr).trans HS.out.2.2.2.1;have d5:w7.cell? ⟨w.heap.size,2,none⟩=some (.slice (some ⟨bd,od,none⟩) (n+1) dc):=(zh wr).trans HS.out.2.2.2.2))
     all_goals
      go_wp2;go_meet
      exact⟨Zh (Box.put (zk (Zi:Ext wr w7) HBK.out) hz7),((hxr.trans (Zi:Ext wr w7)).setCell (p:=⟨wl.heap.size,0,none⟩) Zr _).setCell (p:=⟨wl.heap.size,1,none⟩) Zr _⟩
    case rest=>
     obtain⟨w2,rfl⟩:∃w2:World,w2=wc:=⟨_,rfl⟩;obtain⟨HC2,hx2⟩:=hcut;have zta:Ext w w2:=hxw.trans hx2;obtain⟨gd,Bd',kd,dd',-,r1,r2,-,-,r5,hzc⟩:=HC2.out.cells;have zsm:=Zh hzc;have oC2:Old wl.heap.size w2:=⟨r5⟩;have oB2:Old bm w2:=⟨Nat.lt_of_lt_of_le g6 zta.size⟩;have oE2:Old b0 w2:=⟨Nat.lt_of_lt_of_le p3 zta.size⟩;have oP3:Old p w2:=⟨Nat.lt_of_lt_of_le l5 hx2.size⟩;have z1:w2.cell? ⟨p,0,none⟩=some (.bool gl):=(zh wl).trans HCL.out.1
     have z2:w2.cell? ⟨p,1,none⟩=some (.slice Bl kl dl):=(zh wl).trans HCL.out.2;have z3:w2.cell? ⟨bm,om,none⟩=some (.slice (some ⟨b0,o0,none⟩) (k+1) c0):=(zh w).trans g3;have z4:w2.cell? ⟨b0,o0,none⟩=some (.bool gE):=(zh w).trans p1;have z5:w2.cell? ⟨b0,o0+1,none⟩=some (.slice BE kE dE):=(zh w).trans p2;have HS2:=Zh (And.intro r1 (And.intro r2 (And.intro z1 (And.intro z2 (And.intro z3 (And.intro z4 z5))))))
     clear r1 r2 z1 z2 z3 z4 z5 hzc HBK HF3 HS HZC HCS HC2;go_wp2_with fail
     go_cut [14] (fun s14 wx=>∃p4,s14= .pointer (some ⟨p4,0,none⟩)/\Hid (Box wx p4 (zu (fD m s k t 0*fD m s k t 0-fB m s 0 0*(fC m s t-za*zx (ent m) s)).toNat:Int))/\Ext w2 wx)
     case first=>
      go_region_held3 (fun w'=>w'.cell? ⟨wl.heap.size,0,none⟩=some (.bool gd)/\w'.cell? ⟨wl.heap.size,1,none⟩=some (.slice Bd' kd dd')/\w'.cell? ⟨p,0,none⟩=some (.bool gl)/\w'.cell? ⟨p,1,none⟩=some (.slice Bl kl dl)/\w'.cell? ⟨bm,om,none⟩=some (.slice (some ⟨b0,o0,none⟩) (k+1) c0)/\w'.cell? ⟨b0,o0,none⟩=some (.bool gE)/\w'.cell? ⟨b0,o0+1,none⟩=some (.slice BE kE dE))
       (exact⟨(zh w2).trans HS2.out.1,(zh w2).trans HS2.out.2.1,(zh w2).trans HS2.out.2.2.1,(zh w2).trans HS2.out.2.2.2.1,(zh w2).trans HS2.out.2.2.2.2.1,(zh w2).trans HS2.out.2.2.2.2.2.1,(zh w2).trans HS2.out.2.2.2.2.2.2⟩)
       (first
        |(go_at_call_of 123 (Value.agg #[.bool gl,.slice Bl kl dl]);refine(zcD HZL.out HZL.out HB.out.l HB.out.l).mono ?_;rintro e w5 ⟨g5,B5,k5,d5,rfl,hz5,hs5⟩)
        |(go_at_call_of 123 (Value.agg #[.bool gE,.slice BE kE dE]);refine(zcD HZE.out zsm.out HB.out.b0 HB.out.c2).mono ?_;rintro e w6 ⟨g6',B6,k6,d6,rfl,hz6,hs6⟩)
        |(go_at_call 124;refine(zeE hz5 hz6 HB.out.ll HB.out.bc).mono ?_;rintro e w7 ⟨g7,B7,k7,d7,rfl,hz7,hs7⟩)
        |(go_at_call 125;refine(zpa hz7 HB.out.di HE.out.1).mono ?_;rintro e w8 ⟨g8,B8,k8,d8,rfl,hz8,hs8⟩))
      all_goals (go_wp2_with fail;go_meet;exact⟨_,rfl,Zh ⟨g8,B8,k8,d8,BlkAt.eq,hz8.keeps⟩,Zi⟩)
     case rest=>
      obtain⟨w9,rfl⟩:∃w9:World,w9=wc:=⟨_,rfl⟩;obtain⟨p4,rfl,HR4,hx9⟩:=hcut;obtain⟨gr,Br,kr,dr,-,r1,r2,-,-,r5,hzr⟩:=HR4.out.cells;have HZR:=Zh hzr;have oR9:Old p4 w9:=⟨r5⟩;have zxF:Ext w w9:=zta.trans hx9;have zxG:Ext wl w9:=hx2.trans hx9;have HSS:=Zh (And.intro (HB.out.rt HE.out.1) (And.intro (HB.out.df HE.out.1) (HB.out.sm HE.out.1)));have HE2:=Zh HE.out.2;generalize (zu (fD m s k t 0*fD m s k t 0-fB m s 0 0*(fC m s t-za*zx (ent m) s)).toNat:Int)=R at*
      have HKP:Hid (∀W,Ext w9 W->W.cell? ⟨p4,0,none⟩=some (.bool gr)/\W.cell? ⟨p4,1,none⟩=some (.slice Br kr dr)/\W.cell? ⟨p,0,none⟩=some (.bool gl)/\W.cell? ⟨p,1,none⟩=some (.slice Bl kl dl)/\W.cell? ⟨bm,om,none⟩=some (.slice (some ⟨b0,o0,none⟩) (k+1) c0)/\W.cell? ⟨b0,o0,none⟩=some (.bool gE)/\W.cell? ⟨b0,o0+1,none⟩=some (.slice BE kE dE)):=Zh (fun W e=>by
       have e2:Ext w2 W:=hx9.trans e;exact⟨(zh w9).trans r1,(zh w9).trans r2,(zh w2).trans HS2.out.2.2.1,(zh w2).trans HS2.out.2.2.2.1,(zh w2).trans HS2.out.2.2.2.2.1,(zh w2).trans HS2.out.2.2.2.2.2.1,(zh w2).trans HS2.out.2.2.2.2.2.2⟩)
      clear r1 r2 hzr HR4;go_wp2_with fail
      go_cut [16] (fun s16 wx=>s16= .int .i64 hi/\Ext w9 wx)
      case first=>
       go_region_held3 (fun w'=>w'.cell? ⟨p4,0,none⟩=some (.bool gr)/\w'.cell? ⟨p4,1,none⟩=some (.slice Br kr dr)/\w'.cell? ⟨p,0,none⟩=some (.bool gl)/\w'.cell? ⟨p,1,none⟩=some (.slice Bl kl dl)/\w'.cell? ⟨bm,om,none⟩=some (.slice (some ⟨b0,o0,none⟩) (k+1) c0)/\w'.cell? ⟨b0,o0,none⟩=some (.bool gE)/\w'.cell? ⟨b0,o0+1,none⟩=some (.slice BE kE dE))
        (exact HKP.out _ Zi)
        (first
         |(go_at_call 124;refine(zeE HZR.out HZL.out HSS.out.1 HB.out.l).mono ?_;rintro e w5 ⟨g5,B5,k5,d5,rfl,hz5,hs5⟩)
         |(go_at_call 126;refine(zid hz5 HZE.out HSS.out.2.1 HB.out.b0 HE2.out.2.2).mono ?_;rintro e w6 ⟨g6',B6,k6,d6,rfl,hz6,hs6⟩;rw[HE2.out.1]at hz6)
         |(go_at_call 75;refine(zb0 hz6 HHI.out.1 HHI.out.2).mono ?_;rintro e w7 ⟨rfl,hs7⟩))
       all_goals (go_wp2_with fail;go_meet;exact⟨rfl,Zi⟩)
      case rest=>
       obtain⟨wz,rfl⟩:∃wz:World,wz=wc:=⟨_,rfl⟩;obtain⟨rfl,hxz⟩:=hcut;have zyL:Ext w wz:=zxF.trans hxz;have zyM:Ext wl wz:=zxG.trans hxz;go_wp2_with fail
       go_region_held3 (fun w'=>w'.cell? ⟨p4,0,none⟩=some (.bool gr)/\w'.cell? ⟨p4,1,none⟩=some (.slice Br kr dr)/\w'.cell? ⟨p,0,none⟩=some (.bool gl)/\w'.cell? ⟨p,1,none⟩=some (.slice Bl kl dl)/\w'.cell? ⟨bm,om,none⟩=some (.slice (some ⟨b0,o0,none⟩) (k+1) c0)/\w'.cell? ⟨b0,o0,none⟩=some (.bool gE)/\w'.cell? ⟨b0,o0+1,none⟩=some (.slice BE kE dE))
        (exact HKP.out _ (hxz.trans Zi))
        (first
         |(go_at_call 122;refine(zic HZR.out HZL.out HSS.out.1 HB.out.l).mono ?_;rintro e w5 ⟨g5,B5,k5,d5,rfl,hz5,hs5⟩)
         |(go_at_call 126;refine(zid hz5 HZE.out HSS.out.2.2 HB.out.b0 HE2.out.2.2).mono ?_;rintro e w6 ⟨g6',B6,k6,d6,rfl,hz6,hs6⟩)
         |(go_at_call 127;refine(zo8 hz6 ⟨(HSS.out.2.2.bd).div _⟩).mono ?_;rintro e w7 ⟨g7,B7,k7,d7,rfl,hz7,hs7⟩;rw[HE2.out.2.1]at hz7)
         |(go_at_call 75;refine(zb0 hz7 HLO.out.1 HLO.out.2).mono ?_;rintro e w8 ⟨rfl,hs8⟩))
       all_goals
        go_wp2_with fail
        go_ret2
        exact⟨rfl,Step.of _ _⟩
theorem Only.oth{g:Nat}{cs:Array Value}{fr:Nat×Nat}(h:Only g w w')(hg:w.heap[g]? =some (.cells cs T fr)):Oth T w w':=fun b cs' e fr' hn hb=>by
 rcases Nat.lt_trichotomy b g with hlt|rfl|hgt
 ·exact(h.below.block b hlt).trans hb
 ·rw[hg]at hb;injection hb with hb
  injection hb with _ he
  exact absurd he.symm hn
 ·exact(h.rest b hgt (zD hb)).trans hb
def zaN(w:World)(m:List (List Int))(za:Int)(budget:Int)(k:Nat)(t cs:List Int)(g:Nat)(e:Ending)(w':World):Prop:=∃(ok:Bool) (cs':List Int),e= .returned (.bool ok)/\Only g w w'/\Row w' g 3 .i64 cs'/\cs'.length=cs.length/\(ok=true->cs'=Zt cs (ZY m za k t)/\cs.sum+zI (ZY m za k t)<=budget)/\(ok=false->budget<cs.sum+zI (ZY m za k t))
theorem zby(h:∀x∈cs,0<=x)(i:Nat):0<=cs.getD i 0/\cs.getD i 0<=cs.sum:=by
 induction cs generalizing i with
 |nil=>simp
 |cons a cs ih=>
  have ha:=h a (by simp);have hc:=fun i=>ih (fun x hx=>h x (by simp[hx])) i
  have h0:0<=cs.sum:=by have:=hc 0;omega
  cases i with
  |zero=>simp only[List.getD_cons_zero,List.sum_cons];omega
  |succ i=>have:=hc i;simp only[List.getD_cons_succ,List.sum_cons];omega
theorem zij{ys:List (Int×Int)}(h:∀x∈cs,0<=x)(hy:∀p∈ys,0<=p.2):∀x∈Zt cs ys,0<=x:=fun x hx=>by
 unfold Zt at hx;rw[List.mem_map]at hx;obtain⟨i,-,rfl⟩:=hx;have:=(zby h i).1;have:=zg4 hy i;omega
theorem zpe(h:∀x∈cs,0<=x)(k:Nat):0<=(cs.take k).sum/\(cs.take k).sum<=cs.sum:=by
 have h1:=zby (cs:=cs.take k) (fun x hx=>h x (List.mem_of_mem_take hx)) 0;have h2:=zby (cs:=cs.drop k) (fun x hx=>h x (List.mem_of_mem_drop hx)) 0;have e:cs.sum=(cs.take k).sum+(cs.drop k).sum:=by rw[<-List.sum_append,List.take_append_drop]
 omega
set_option maxRecDepth 20000 in
theorem zpf{budget:Int}(hL:LLLed m)(h1:m.length=n)(hb:0<=za)(hb1:za<1073741824)(hu0:0<=budget)(hu1:budget<=1000000)(k:Nat):
  ∀(w:World)(SB DB TA:Option Addr)(sc dc tc q g:Nat)(t cs:List Int),n=k+q+1->FrV w m SB DB->Ints w TA 2 .i64 t->t.length=q->(∀a∈t,-9223372036854775808<=a/\a<=9223372036854775807)->0<=left (ent m) za (k+1) t->Row w g 3 .i64 cs->cs.length=n->(∀x∈cs,0<=x)->cs.sum<=budget->
  Cq 94 #[.agg #[.int .i64 n,.slice SB n sc,.slice DB (n+1) dc],.int .i64 za,.slice TA q tc,.slice (some ⟨g,0,none⟩) n n,.int .i64 budget] w (zaN w m za budget k t cs g):=by
 induction k using Nat.strongRecOn with
 |ind k ih=>
  intro w SB DB TA sc dc tc q g t cs hq hF hT htl htb h0 hR hcl hc0 hcs;have IH:=Zh ih;clear ih;have hr:=Qi hL.red;have hn8:=hL.len8;have hkm:k<m.length:=by omega
  have htm:t.length=m.length-1-k:=by omega
  obtain⟨v1,v2,v3,v4,v5,v6⟩:=zeC hr hb hb1 hkm htm h0;have HIV:Hid (∀W,Ext w W->Cq 73 #[.agg #[.int .i64 n,.slice SB n sc,.slice DB (n+1) dc],.int .i64 za,.slice TA q tc] W (zF W (.tuple #[.int .i64 (zJ m za k t),.int .i64 (Zb m za k t)]))):=Zh (fun W e=>
   zii hF hL h1 hq hT htl htb (by omega) (by omega) h0 (by omega) (by omega) (by omega) (by omega))
  have hys:=zo0 hr hkm za t htm;have hok:=zeB hr hb hb1 hkm htm h0;rw[h1]at hys;unfold zaN;have hgs:g<w.heap.size:=hR.lt;have hq8:q<cs.length:=by omega
  have hgd:=zby hc0 q;obtain⟨y0,hy0,zsZ⟩:=hR.cell (i:=q) hq8;have hyd:cs.getD q 0=y0:=by simp[List.getD,hy0]
  rw[hyd]at hgd;have zs3:=zoX (cs:=cs) (i:=q) (z:=Zb m za k t-zJ m za k t+1) hq8;rw[hyd]at zs3;have hnk:(n:Int)-(k:Nat)=(q:Int)+1:=by omega
  rw[hnk]at hys;have ztP:∀p∈[((q:Int)+1,Zb m za k t-zJ m za k t+1)],0<=p.2/\1<=p.1/\p.1<=(cs.length:Int):=fun p hp=>by
   have:=hok p (by rw[hys];exact List.mem_cons.2 (.inl (by simpa using hp)));omega
  have zum:=zh5 (cs:=cs) (ys:=[((q:Int)+1,Zb m za k t-zJ m za k t+1)]) (fun p hp=>(ztP p hp).2);rw[zs3]at zum;simp only[zI,Int.add_zero]at zum;have hn1:∀x∈cs.set q (y0+(Zb m za k t-zJ m za k t+1)),0<=x:=by
   rw[<-zs3];exact zij hc0 (fun p hp=>(ztP p hp).1)
  have ztA:∀p∈ysR m za k t,0<=p.2/\1<=p.1/\p.1<=(m.length:Int):=fun p hp=>hok p (by rw[hys];exact List.mem_cons_of_mem _ hp)
  have hrt:=zh6 (fun p hp=>(ztA p hp).1);have ztZ:zI (ZY m za k t)=(Zb m za k t-zJ m za k t+1)+zI (ysR m za k t):=by rw[hys];rfl
  have zwb:Zt cs (ZY m za k t)=Zt (cs.set q (y0+(Zb m za k t-zJ m za k t+1))) (ysR m za k t):=by rw[<-zs3,zh4,hys];rfl
  have zwc:Zb m za k t-zJ m za k t+1=0->ysR m za k t=[]/\cs.set q (y0+(Zb m za k t-zJ m za k t+1))=cs:=fun e=>by
   refine⟨?_,?_⟩
   ·cases k with
    |zero=>rfl
    |succ k=>show ZF m za k t (qc m za (k+1) t)=[];rw[show qc m za (k+1) t=0 by unfold qc;omega];rfl
   ·rw[e,Int.add_zero];obtain⟨h5,h6⟩:=Zg.1 hy0;rw[<-h6,List.set_getElem_self]
  rw[ztZ,zwb];have HZR:=Zh zwc;have HN1:=Zh hn1;have HFV:=Zh hF;have HTV:=Zh hT;have HTB:=Zh htb;have H0:=Zh h0;have HH1:=Zh h1;have HTL:=Zh htl;have HQ:=Zh hq;have HRW:=Zh hR;have hfr:=hR.frozen q;clear hok hys zs3 ztP ztA ztZ zwb zwc hn1 hy0 hyd hF hT htb h0 hR htm hr hc0;obtain⟨rest,hrs⟩:=Xz (ysR m za k t);have HRS:=Zh hrs;rw[<-hrs]at hrt HZR|-
  clear hrs;obtain⟨lo,hlo⟩:=Xz (zJ m za k t);obtain⟨hi,hhi⟩:=Xz (Zb m za k t);have HLO:=Zh (And.intro hlo hhi);rw[<-hlo]at v1 v2 v3 v4 zum HZR HN1 HIV|-
  rw[<-hhi]at v1 v2 v5 v6 zum HZR HN1 HIV|-
  have hqn:q<n:=by omega
  have hn9:n<=8:=by omega
  clear hlo hhi h1 hkm hq hnk htl;obtain⟨cs1,zuL⟩:=Xz (cs.set q (y0+(hi-lo+1)));have zyN:cs1.length=n:=by rw[zuL,length_set];exact hcl
  have zrZ:=Zh zuL;rw[<-zuL]at zum HZR HN1|-
  clear zuL;have ogw:Old g w:=⟨hgs⟩;go_enter Tryz.func94,Tryz.ntmps94;by_cases zsF:hi<lo
  ·have HH:=Zh (HZR.out (by omega));have HX0:=Zh HRW.out;go_wp2_with (go_at_call 73;refine(HIV.out _ Zi).mono ?_;rintro e w1 ⟨rfl,hs1⟩)
   go_ret;refine⟨true,cs,rfl,Only.of_ext Zi (Nat.le_of_lt hgs),HX0.out.ext Zi,rfl,fun _=>⟨?_,?_⟩,fun h=>by cases h⟩
   ·rw[HH.out.1,HH.out.2,zeA]
   ·rw[HH.out.1];simp only[zI];omega
  ·by_cases zuY:budget<=hi-lo
   ·have HX0:=Zh HRW.out;have HCL:=Zh (show budget<cs.sum+(hi-lo+1+zI rest) by have:=hgd;omega);have hbb:decide (budget<=hi-lo)=true:=by simpa using zuY
    go_wp2_with (go_at_call 73;refine(HIV.out _ Zi).mono ?_;rintro e w1 ⟨rfl,hs1⟩)
    go_ret;exact⟨false,cs,rfl,Only.of_ext Zi (Nat.le_of_lt hgs),HX0.out.ext Zi,rfl,(fun h=>by cases h),fun _=>HCL.out⟩
   ·have hw1:IntKind.i64.wrap (y0+(hi-lo+1))=y0+(hi-lo+1):=by rw[IntKind.wrap_i64];omega
    go_upto_region 7 with (go_at_call 73;refine(HIV.out _ Zi).mono ?_;rintro e w1 ⟨rfl,hs1⟩)
    have hc1:w1.cell? ⟨g,q,none⟩=some (.int .i64 y0):=(zh w).trans zsZ;have hf1:w1.frozen? ⟨g,q,none⟩=false:=(qh w).trans hfr;have hg1:g<w1.heap.size:=Nat.lt_of_lt_of_le hgs (Zi:Ext w w1).size;have hR1:Row (w1.setCell ⟨g,q,none⟩ (.int .i64 (y0+(hi-lo+1)))) g 3 .i64 cs1:=by
     rw[zrZ.out];exact(HRW.out.ext (Zi:Ext w w1)).set q _
    have hO1:Only g w (w1.setCell ⟨g,q,none⟩ (.int .i64 (y0+(hi-lo+1)))):=(Only.of_ext (Zi:Ext w w1) (Nat.le_of_lt hgs)).trans (Only.set hg1 q _);have hfb:w1.heap[w.heap.size]? =some (.cells #[.int .i64 n,.slice SB n sc,.slice DB (n+1) dc] 88 (0,0)):=zk (Zi:Ext (w.alloc (.cells #[.int .i64 n,.slice SB n sc,.slice DB (n+1) dc] 88)) w1) (heap_alloc_new w _);have zwd:(w1.setCell ⟨g,q,none⟩ (.int .i64 (y0+(hi-lo+1)))).heap[w.heap.size]? =some (.cells #[.int .i64 n,.slice SB n sc,.slice DB (n+1) dc] 88 (0,0)):=(Below.heap_setCell w1 ⟨g,q,none⟩ _ w.heap.size (by simp;omega)).trans hfb
    have HFB:=Zh zwd;have HR1:=Zh hR1;have HO1:=Zh hO1;clear hfb zwd hR1 hO1;go_upto_region 8 with fail
    have hgl:g<w.heap.size:=hgs;generalize w1.setCell ⟨g,q,none⟩ (.int .i64 (y0+(hi-lo+1)))=ws at*
    have zwe:g<ws.heap.size:=HR1.out.lt;have hws:w.heap.size<ws.heap.size:=zD HFB.out;have HSB:Hid (∀j,0<=(cs1.take j).sum/\(cs1.take j).sum<=cs1.sum):=Zh (fun j=>zpe HN1.out j);have hc2:cs1.sum<=2000001:=by omega
    have HOT:=Zh (HO1.out.oth HRW.out);clear zsZ hfr hc1 hf1 hs1 hw1 HRW zrZ;go_wp2_with fail
    go_loopw [14,47] (fun s14 i wr=>∃j:Nat,j<=n/\i= .int .i64 j/\s14= .int .i64 (cs1.take j).sum/\Ext ws wr) (fun _ i _=>n-(intOf i).toNat)
    case atStart=>exact⟨0,by omega,rfl,by simp,Zi⟩
    case round=>
     obtain⟨j,hj,rfl,rfl,hxr⟩:=hrel;by_cases hlt:j<n
     ·obtain⟨y,hy,hcy⟩:=(HR1.out.ext hxr).cell (i:=j) (by omega);have hsb:=HSB.out j;have zxH:=HSB.out (j+1);have hts:=zb9 cs1 j y hy;rw[hts]at zxH;have HT:=Zh hts;have hw2:IntKind.i64.wrap ((cs1.take j).sum+y)=(cs1.take j).sum+y:=by rw[IntKind.wrap_i64];omega
      clear hts hy;go_wp2_with fail
      exact⟨⟨j+1,by omega,by go_num,by rw[HT.out],Zi⟩,by simp[intOf]<;>omega⟩
     ·obtain rfl:j=n:=by omega
      have htk:(cs1.take j).sum=cs1.sum:=by rw[List.take_of_length_le (by omega)]
      rw[htk];obtain⟨wt,hwt⟩:∃wt:World,wt=wr:=⟨_,rfl⟩;by_cases hov:budget<cs1.sum
      ·have zxI:decide (budget<cs1.sum)=true:=by simpa using hov
       go_wp2_with fail
       go_ret;exact⟨false,cs1,rfl,(HO1.out.trans (Only.of_ext (Zi:Ext ws wr) (Nat.le_of_lt zwe))),HR1.out.ext Zi,by omega,(fun h=>by cases h),fun _=>by omega⟩
      ·have zxI:decide (budget<cs1.sum)=false:=by simpa using hov
       obtain⟨wL,rfl⟩:∃wL:World,wL=wr:=⟨_,rfl⟩;clear hwt htk;have HRL:=Zh (HR1.out.ext hxr);have HOL:=Zh (HO1.out.trans (Only.of_ext hxr (Nat.le_of_lt zwe)));have HFL:=Zh (zk hxr HFB.out);have zsn:=Zh (HOT.out.trans (Oth.of_ext hxr));have hgL:g<wL.heap.size:=HRL.out.lt;have hwL:w.heap.size<wL.heap.size:=zD HFL.out;have HFW:Hid (∀W,Only g wL W->W.heap[w.heap.size]? =some (.cells #[.int .i64 j,.slice SB j sc,.slice DB (j+1) dc] 88 (0,0))):=Zh (fun W h=>(h.rest w.heap.size hgl hwL).trans HFL.out)
       clear hlt hj
       cases k with
       |zero=>
        have hb0:decide ((q:Int)+1<(j:Int))=false:=by have:=HQ.out;simp;omega
        obtain⟨⟨f0,-,-⟩,-,-⟩:=Jd (HFW.out wL (Only.refl _ _));have hre:rest=[]:=HRS.out;go_wp2_with fail
        go_loopw [17] (fun x wr=>x= .int .i64 lo/\Ext wL wr) (fun _ _=>0)
        case atStart=>exact⟨rfl,Zi⟩
        case round=>
         obtain⟨rfl,hxq⟩:=hrel;have oW:Old w.heap.size wL:=⟨hwL⟩;have f1:wr.cell? ⟨w.heap.size,0,none⟩=some (.int .i64 j):=(zh wL).trans f0;go_wp2_with fail
         go_ret;refine⟨true,cs1,rfl,HOL.out.trans (Only.of_ext hxq (Nat.le_of_lt hgL)),HRL.out.ext hxq,by omega,fun _=>⟨?_,?_⟩,fun h=>by cases h⟩
         ·rw[hre,zeA]
         ·rw[hre];simp only[zI];omega
       |succ k=>
        have hr:=Qi hL.red;have hq0:=HQ.out;have hmj:=HH1.out;have htq:=HTL.out;have hkm:k+1<m.length:=by omega
        have htm:t.length=m.length-1-(k+1):=by omega
        obtain⟨hlo,hhi⟩:=HLO.out;obtain⟨J,hJ⟩:=Xz (qc m za (k+1) t);have hJ2:J=(hi-lo+1).toNat:=by rw[hJ,hlo,hhi];rfl
        have hre:rest=ZF m za k t J:=by rw[hJ];exact HRS.out
        have HK1:Hid (∀i,i<J->0<=left (ent m) za (k+1) ((lo+(i:Int))::t)):=Zh (fun i hi'=>by
         rw[hlo];exact Ja hr t hkm htm H0.out (j:=i) (by rw[hJ]at hi';exact hi'))
        have HK2:Hid (∀i,i<=J->(Zt cs1 (ZF m za k t i)).sum=cs1.sum+zI (ZF m za k t i)/\(∀x∈Zt cs1 (ZF m za k t i),0<=x)/\zI (ZF m za k t i)<=zI rest):=Zh (fun i hi'=>by
         have hk:=zoY hr hb hb1 hkm htm H0.out (q:=i) (by omega);refine⟨zh5 (fun p hp=>by have:=hk p hp;omega),zij HN1.out (fun p hp=>(hk p hp).1),?_⟩;rw[hre];exact zoZ hr hb hb1 hkm htm H0.out hi' (by omega))
        have HK4:Hid (∀i:Nat,Zt (Zt cs1 (ZF m za k t i)) (ZY m za k ((lo+(i:Int))::t))=Zt cs1 (ZF m za k t (i+1))/\zI (ZF m za k t (i+1))=zI (ZF m za k t i)+zI (ZY m za k ((lo+(i:Int))::t))):=Zh (fun i=>by
         rw[zh4,zey,<-hlo,zdY];exact⟨rfl,rfl⟩)
        have HRE:=Zh hre;have zrG:Hid (∀i,i<J->∀a∈(lo+(i:Int))::t,-9223372036854775808<=a/\a<=9223372036854775807):=Zh (fun i hi' a ha=>by
         rcases List.mem_cons.1 ha with rfl|ha
         ·omega
         ·exact HTB.out a ha)
        have hq1:q+1<j:=by omega
        have hJn:0<J:=by omega
        have hhl:hi-lo+1=(J:Int):=by omega
        have HIH:=Zh (IH.out k (by omega));clear hre hr hq0 hmj htq hkm htm hlo hhi hJ hJ2 IH;go_wp2_with fail
        go_loopw [17] (fun x wr=>∃i:Nat,i<=J/\x= .int .i64 (lo+(i:Int))/\Hid (Row wr g 3 .i64 (Zt cs1 (ZF m za k t i)))/\Hid (Only g wL wr)/\Hid (cs1.sum+zI (ZF m za k t i)<=budget)) (fun x _=>(hi-intOf x+1).toNat)
        case atStart=>exact⟨0,by omega,by simp,Zh (by show Row wL g _ _ (Zt cs1 []);rw[zeA];exact HRL.out),Zh (Only.refl _ _),Zh (by show cs1.sum+0<=budget;omega)⟩
        case round=>
         obtain⟨i,hi',rfl,HRI,HOI,HBI⟩:=hrel;have hfr:=HFW.out wr HOI.out;obtain⟨⟨f0,f1,f2⟩,-,f3⟩:=Jd hfr;have oW:Old w.heap.size wr:=⟨f3⟩;by_cases hlt:i<J
         ·have hgr:g<wr.heap.size:=HRI.out.lt;have hOT:Oth 3 w wr:=zsn.out.trans (HOI.out.oth HRL.out);have hF:=HFV.out.oth hOT (by decide) (by decide) (by decide) (by decide);have hT:=HTV.out.oth hOT (by decide);obtain⟨k1,k2,k3⟩:=HK2.out i (by omega);obtain⟨k4,k5⟩:=HK4.out i;have k6:=(HK2.out (i+1) (by omega)).2.2;have HK6:=Zh (show cs1.sum+zI (ZF m za k t i)+zI (ZY m za k ((lo+(i:Int))::t))<=cs1.sum+zI rest by omega)
          have hle:lo+(i:Int)<=hi:=by omega
          have HLG:Hid (∀W,Ext wr W->Cq 74 #[.int .i64 (lo+(i:Int)),.slice TA q tc] W (fun e w'=>∃A c,e= .returned (.slice A (q+1) c)/\Ints w' A 2 .i64 ((lo+(i:Int))::t)/\Step W w')):=Zh (fun W e=>by
           have:=zia (w:=W) (c:=tc) (lo+(i:Int)) hT (by rw[HTL.out];omega);rw[HTL.out]at this;refine this.mono ?_;rintro e w' ⟨A,c,rfl,a1,-,-,a4⟩;exact⟨A,c,by rw[length_cons,HTL.out],a1,a4⟩)
          have HCN:Hid (∀(W:World)(A:Option Addr)(c:Nat),Ints W A 2 .i64 ((lo+(i:Int))::t)->Ext wr W->Cq 94 #[.agg #[.int .i64 j,.slice SB j sc,.slice DB (j+1) dc],.int .i64 za,.slice A (q+1) c,.slice (some ⟨g,0,none⟩) j j,.int .i64 budget] W (zaN W m za budget k ((lo+(i:Int))::t) (Zt cs1 (ZF m za k t i)) g)):=Zh (fun W A c hI e=>
           HIH.out W SB DB A sc dc c (q+1) g _ _ (by have:=HQ.out;omega) (hF.ext e) hI (by rw[length_cons,HTL.out]) (zrG.out i hlt) (HK1.out i hlt) (HRI.out.ext e) (by rw[zcC];omega) k2 (by have:=HBI.out;omega))
          have HEX:Hid (∀W,Ext wr W->W.cell? ⟨w.heap.size,0,none⟩=some (.int .i64 j)/\W.cell? ⟨w.heap.size,1,none⟩=some (.slice SB j sc)/\W.cell? ⟨w.heap.size,2,none⟩=some (.slice DB (j+1) dc)):=Zh (fun W e=>(Jd (zk e hfr)).1);have HEO:Hid (∀W,Only g wr W->W.cell? ⟨w.heap.size,0,none⟩=some (.int .i64 j)/\W.cell? ⟨w.heap.size,1,none⟩=some (.slice SB j sc)/\W.cell? ⟨w.heap.size,2,none⟩=some (.slice DB (j+1) dc)):=Zh (fun W e=>(Jd (HFW.out W (HOI.out.trans e))).1)
          unfold zaN at HCN;obtain⟨t2,ht2⟩:∃t2,t2=(lo+(i:Int))::t:=⟨_,rfl⟩;rw[<-ht2]at HLG HCN HK6 k4 k5;rw[k1]at HCN;have zr0:=Zh (And.intro k4 k5);clear hF hT hOT k1 k2 k3 k4 k5 k6 ht2 hfr;generalize ZY m za k t2=yT at*
          go_wp2_with fail
          go_region_held3 (fun w'=>w'.cell? ⟨w.heap.size,0,none⟩=some (.int .i64 j)/\w'.cell? ⟨w.heap.size,1,none⟩=some (.slice SB j sc)/\w'.cell? ⟨w.heap.size,2,none⟩=some (.slice DB (j+1) dc))
           (first|exact HEX.out _ Zi|exact HEO.out _ hOx)
           (first
            |(go_at_call 74;refine(HLG.out _ Zi).mono ?_;rintro e w5 ⟨A5,c5,rfl,hI5,hs5⟩)
            |(go_at_call 94;refine(HCN.out _ _ _ hI5 Zi).mono ?_;rintro e w6 ⟨ok,cs2,rfl,hO6,hR6,hl6,ht6,hf6⟩;have hOx:Only g wr w6:=(Only.of_ext (Zi:Ext wr w5) (Nat.le_of_lt hgr)).trans hO6))
          have zwf:g<w6.heap.size:=hR6.lt;have HR6:=Zh hR6;have HT6:=Zh ht6;have HF6:=Zh hf6;have HO6:=Zh hOx;have HXW:=Zh (HOL.out.trans (HOI.out.trans hOx));have hal:=zcC cs1 (ZF m za k t i);have hl7:cs2.length=cs.length:=by omega
          clear hR6 ht6 hf6 hO6 hOx
          cases ok with
          |false=>
           go_wp2_with fail
           go_ret;have h8:=HF6.out trivial;have h9:=HK6.out;exact .inl ⟨rfl,HXW.out.trans (Only.of_ext Zi (Nat.le_of_lt zwf)),cs2,HR6.out.ext Zi,by omega,by omega⟩
          |true=>
           obtain⟨h8,h9⟩:=HT6.out rfl;have hw3:IntKind.i64.wrap (lo+(i:Int)+1)=lo+((i+1:Nat):Int):=by rw[IntKind.wrap_i64];omega
           have HS8:=Zh h8;have HK9:=Zh h9;clear h8 h9;go_wp2_with fail
           refine⟨⟨i+1,by omega,by first|rfl|(congr 1;omega),Zh ?_,Zh ?_,Zh ?_⟩,by simp[intOf]<;>omega⟩
           ·have h1:=HR6.out;rw[HS8.out,zr0.out.1]at h1;exact h1.ext Zi
           ·exact(HOI.out.trans HO6.out).trans (Only.of_ext Zi (Nat.le_of_lt zwf))
           ·rw[zr0.out.2];have:=HK9.out;omega
         ·obtain rfl:i=J:=by omega
          have ztc:decide (lo+(i:Int)<=hi)=false:=by simp;omega
          have ztn:Only g w wr:=HOL.out.trans HOI.out;go_wp2_with fail
          go_ret;refine⟨true,_,rfl,ztn.trans (Only.of_ext Zi (by have:=HRI.out.lt;omega)),HRI.out.ext Zi,by rw[zcC];omega,fun _=>⟨by rw[HRE.out],?_⟩,fun h=>by cases h⟩;have:=HBI.out;rw[HRE.out];omega
end
end Go.Proofs.YtcmkopogafchiaaGreat
