/- Ref3 Ref4 Bd0 Lp Gmm Rq Boxs -/
import Derived.Test.YtijfjailmilkfaaGreatG12
import Derived.Test.YtijfjailmilkfaaGreatProg
import Derived.Test.YtijfjailmilkfaaGreatG11
import Derived.Test.YtijfjailmilkfaaGreatShelf
set_option maxHeartbeats 8000000
set_option linter.unusedVariables false
set_option linter.unusedSimpArgs false
set_option linter.constructorNameAsVariable false
namespace Go.Proofs.YtijfjailmilkfaaGreat
open Go.RowKit
theorem or_even (x cy:Int) (hc0:0<=cy) (hc1:cy<=1):bits .or .u32 (x*2%4294967296) cy=(2*x+cy)%4294967296:=by
 rw [u32_or _ _ (by omega) (by omega) hc0 (by omega)]
 rcases (by omega:cy=0∨cy=1) with h |h
 ·subst h;simp;omega
 ·subst h
  have :=or_bit (x*2%4294967296).toNat 0 (by omega)
  simp only [Nat.pow_zero] at this
  rw [show (1:Int).toNat=1 from rfl,this]
  omega
theorem rdouble_any {w0 w:World} {A:Option Addr} {c:Nat} {l:List Int} (bit:Int) (hb0:0<=bit) (hb1:bit<=1) (ha':Ints w0 A 280 .u32 l) (hl:Limbs l) (h1:l.length<=274877906944) [hx:Ext w0 w]:
  Calls Tryz.prog 290 #[.slice A l.length c,.int .u32 bit] w (RetLimbs w (2*val l+bit) (l.length+1)):=by
 have ha:=ha'.ext hx
 obtain ⟨bit0,hbit0⟩:∃b,b=bit:=⟨_,rfl⟩
 have HB0:=Lib.hid hbit0
 clear hbit0
 go_enter Tryz.func290,Tryz.ntmps290
 go_wp2
 go_loopw [1,5,7,10] (fun bv v _ i wr=>∃(k:Nat) (s:List Int) (cy:Int) (A1:Option Addr) (c1:Nat),k<=l.length/\i= .int .i64 k/\v= .slice A1 k c1/\bv= .int .u32 cy/\0<=cy/\cy<=1/\Hid (s.length=k)/\Hid (Limbs s)/\Hid (val s+(4294967296:Int)^k*cy=2*val (l.take k)+bit0)/\Hid (Own wr w.heap.size 280 1 A1 k c1 (s.map (Value.int .u32)))/\Ext w wr) (fun _ _ _ i _=>l.length-(intOf i).toNat)
 case atStart=>exact ⟨0,[],bit,none,0,by omega,rfl,rfl,rfl,by omega,by omega,Lib.hid rfl,Lib.hid Limbs.nil,Lib.hid (by simp [val,HB0.out]),Lib.hid (Own.nil _ _ _ _),inferInstance⟩
 case round=>
  obtain ⟨k,s,cy,A1,c1,hk,rfl,rfl,rfl,hc0,hc1,HS,HLs,HV,HO,hxr⟩:=hrel
  by_cases hkl:k<l.length
  ·obtain ⟨b,o,x,rfl,hx',hcx,hbx⟩:=(ha.ext hxr).at_ (i:=k) (by omega)
   obtain ⟨hx0,hx1⟩:=hl.get hx'
   have HX:=Lib.hid (val_take_succ hx')
   clear hx'
   go_wp2_with (at_builtin;refine wpList_app _ rfl _ _ 115 rfl w.heap.size 280 (.int .u32 0) 1 4 Tryz.underlying115 Tryz.infoU32 rfl (by omega) (by omega) A1 k c1 (s.map (Value.int .u32)) rfl (HO.out.ext inferInstance) _ 1 1 _ rfl (arr_one _ _) rfl (one_u32 _) (by omega) (by have :=hxr.size;simp;omega) ?_;intro A2 c2 w2 hown hg;have HO2:=Lib.hid (own_snoc HS.out hown);have hx2:Ext w w2:=hg.ext inferInstance (Nat.le_refl _);clear hown hg)
   rw [or_even x cy hc0 hc1] at HO2
   have hcd:x / 2147483648=(2*x+cy) / 4294967296:=by omega
   refine ⟨⟨k+1,s++[(2*x+cy)%4294967296],x / 2147483648,A2,c2,by omega,by go_num,rfl,rfl,by omega,by omega,Lib.hid (snoc_len HS.out _),Lib.hid (HLs.out.snoc (by omega) (by omega)),Lib.hid ?_,HO2,inferInstance⟩,by simp [intOf]<;>omega⟩
   rw [hcd,val_carry HS.out cy (2*x+cy) _ (2*((4294967296:Int)^k*x)) HV.out (by rw [show 2*x+cy-cy=2*x by omega,Int.mul_left_comm]),HX.out]
   omega
  ·obtain rfl:k=l.length:=by omega
   have hfin:=HV.out
   rw [val_take_all (Nat.le_refl _)] at hfin
   have HF:=Lib.hid hfin
   clear hfin HV
   go_wp2_with (at_builtin;refine wpList_app _ rfl _ _ 115 rfl w.heap.size 280 (.int .u32 0) 1 4 Tryz.underlying115 Tryz.infoU32 rfl (by omega) (by omega) A1 l.length c1 (s.map (Value.int .u32)) rfl (HO.out.ext inferInstance) _ 1 1 _ rfl (arr_one _ _) rfl (one_u32 _) (by omega) (by have :=hxr.size;simp;omega) ?_;intro A2 c2 w2 hown hg;have HO2:=Lib.hid (own_snoc HS.out hown);have hx2:Ext w w2:=hg.ext inferInstance (Nat.le_refl _);clear hown hg)
   go_ret
   have e1:(s++[cy]).length=l.length+1:=snoc_len HS.out _
   have :=retLimbs_own (w:=w) (n:=l.length+1) (HLs.out.snoc hc0 (by omega)) (show val (s++[cy])=2*val l+bit by rw [val_snoc,HS.out,HF.out,HB0.out]) (by omega) (by rw [e1];exact HO2.out) inferInstance
   rw [e1] at this
   simpa using this
theorem run_fieldI1 (g:Bool) (B:Option Addr) (k d:Nat) (w:World):(Instr.field 117 (.agg #[.bool g,.slice B k d]) 1).run Tryz.prog w= .ok (.slice B k d) w:=by
 simp [Instr.field,run_underlying Tryz.underlying117,asAgg,part,sizeOf,typeInfo,go_sem]
theorem run_fieldI0 (g:Bool) (B:Option Addr) (k d:Nat) (w:World):(Instr.field 117 (.agg #[.bool g,.slice B k d]) 0).run Tryz.prog w= .ok (.bool g) w:=by
 simp [Instr.field,run_underlying Tryz.underlying117,asAgg,part,sizeOf,typeInfo,go_sem]
attribute [go_sem] run_fieldI1 run_fieldI0
def RetDiv (w:World) (q r:Int) (e:Ending) (w':World):Prop:=∃B k d B' k' d',e= .returned (.tuple #[.slice B k d,.slice B' k' d'])/\NatV w' B k d q/\NatV w' B' k' d' r/\Step w w'
theorem NatV.bound {w:World} {A:Option Addr} {n c:Nat} {z:Int} (h:NatV w A n c z) (h2:n<=2):0<=z/\z<18446744073709551616:=by
 obtain ⟨l,rfl,a1,a2,a3,rfl,a5,a6⟩:=h
 have :=val_lt a2
 have :=pow_mono_B h2
 exact ⟨val_nonneg a2,by omega⟩
theorem rlowN {w0 w:World} {A:Option Addr} {n c:Nat} {z:Int} (h:NatV w0 A n c z) (h2:n<=2) [hx:Ext w0 w]:Calls Tryz.prog 186 #[.slice A n c] w (RetSame w (.int .u64 z)):=by
 obtain ⟨l,rfl,a1,a2,a3,rfl,a5,a6⟩:=h
 have :=rlow_any (w:=w) (c:=c) a1 a2 (by omega)
 rwa [take_trim h2] at this
theorem NatV.of_int {w:World} {g:Bool} {B:Option Addr} {k d:Nat} {q:Int} (h:IntV w g B k d (sgn false q)) (h0:0<=q):NatV w B k d q:=by
 have :=h.nat
 rwa [show ((sgn false q).natAbs:Int)=q by simp [sgn];omega] at this
theorem rdivide_small {w0 w1 w:World} {A B:Option Addr} {n k c d:Nat} {x y:Int} (ha:NatV w0 A n c x) (hb:NatV w1 B k d y) (hn:n<=2) (hk:k<=2) (hy0:0<y) [hx:Ext w0 w] [hy:Ext w1 w]:
  Calls Tryz.prog 267 #[.slice A n c,.slice B k d] w (RetDiv w (x / y) (x%y)):=by
 obtain ⟨x0,x1⟩:=ha.bound hn
 obtain ⟨y0,y1⟩:=hb.bound hk
 have q0:0<=x / y:=Int.ediv_nonneg x0 (by omega)
 have q1:x / y<18446744073709551616:=by have :=Int.ediv_le_self (a:=x) y x0;omega
 have r0:0<=x%y:=Int.emod_nonneg x (by omega)
 have r1:x%y<18446744073709551616:=by have :=Int.emod_lt_of_pos x hy0;omega
 have hla:=fun W (hh:Ext w0 W)=>rlowN (w:=W) ha hn
 have hlb:=fun W (hh:Ext w1 W)=>rlowN (w:=W) hb hk
 have HLA:=Lib.hid hla
 have HLB:=Lib.hid hlb
 have HQ:=Lib.hid (fun W=>rword_any false (x / y) q0 q1 W)
 have HR:=Lib.hid (fun W=>rword_any false (x%y) r0 r1 W)
 have htq:Int.tdiv x y=x / y:=Int.tdiv_eq_ediv_of_nonneg x0
 have htr:Int.tmod x y=x%y:=Int.tmod_eq_emod_of_nonneg x0
 obtain ⟨qq,hqq⟩:∃q,x / y=q:=⟨_,rfl⟩
 obtain ⟨rr,hrr⟩:∃r,x%y=r:=⟨_,rfl⟩
 rw [hqq] at HQ htq q0 q1 |-
 rw [hrr] at HR htr r0 r1 |-
 have hyz:(y==0)=false:=by simp;omega
 have hyn:¬y=0:=by omega
 have e3:IntKind.u64.wrap qq=qq:=by rw [IntKind.wrap_u64];omega
 have e4:IntKind.u64.wrap rr=rr:=by rw [IntKind.wrap_u64];omega
 clear hla hlb
 go_enter Tryz.func267,Tryz.ntmps267
 go_wp2_with (first
  |(go_at_call_of 186 (Value.slice A n c);refine (HLA.out _ inferInstance).mono ?_;rintro e w4 ⟨rfl,rfl⟩)
  |(go_at_call_of 186 (Value.slice B k d);refine (HLB.out _ inferInstance).mono ?_;rintro e w5 ⟨rfl,rfl⟩))
 go_region_held3 (fun _=>True) (trivial)
  (first
   |(go_at_call_of 179 (Value.int IntKind.u64 qq);refine (HQ.out _).mono ?_;rintro e w6 ⟨g6,B6,k6,d6,rfl,hz6,hs6⟩)
   |(go_at_call_of 179 (Value.int IntKind.u64 rr);refine (HR.out _).mono ?_;rintro e w7 ⟨g7,B7,k7,d7,rfl,hz7,hs7⟩))
 all_goals
  go_wp2
  go_ret2
  first
   |exact ⟨B6,k6,d6,B7,k7,d7,rfl,(NatV.of_int hz6 q0).ext inferInstance,(NatV.of_int hz7 r0).ext inferInstance,Step.of _ _⟩
theorem rtrimL {w0 w':World} {z:Int} {n:Nat} {e:Ending} (h:RetLimbs w0 z n e w') (hn:n<=1099511627776):∃B k d,e= .returned (.slice B k d)/\Step w0 w'/\(∀W,Ext w' W->Calls Tryz.prog 185 #[.slice B k d] W (RetNatX W z)):=by
 obtain ⟨B,d,l',rfl,q2,q3,rfl,q5,q6,q7,q8⟩:=h
 exact ⟨B,l'.length,d,rfl,q8,fun W hh=>rtrimX_any q2 q3 q6 q7 (by omega)⟩
theorem rdoubleN {w0 w:World} {A:Option Addr} {n c:Nat} {z bit:Int} (h:NatV w0 A n c z) (hb0:0<=bit) (hb1:bit<=1) (h1:n<=274877906944) [hx:Ext w0 w]:Calls Tryz.prog 290 #[.slice A n c,.int .u32 bit] w (RetLimbs w (2*z+bit) 274877906945):=by
 obtain ⟨l,rfl,a1,a2,a3,rfl,a5,a6⟩:=h
 refine (rdouble_any bit hb0 hb1 a1 a2 h1).mono ?_
 rintro e w' ⟨B,d,l',q1,q2,q3,q4,q5,q6,q7,q8⟩
 exact ⟨B,d,l',q1,q2,q3,q4,by omega,q6,q7,q8⟩
structure DivM (w wr:World) (l:List Int) (N:Int) (j:Nat) (Q R:Int) (p:List Int) (B:Option Addr) (k d:Nat):Prop where
 div:DivI (val l) N j Q R
 len:p.length=l.length
 limbs:Limbs p
 q:val p=Q*2^j
 row:Row wr w.heap.size 280 .u32 p
 rest:NatX (w.heap.size+1) wr B k d R
 small:k<=274877906944
 ext:Ext w wr
theorem and_bit (x:Int) (k:Nat) (h0:0<=x) (h1:x<4294967296):bits .and .u32 (x / 2^k) 1=(x / 2^k)%2:=by
 have a1:0<=x / 2^k:=Int.ediv_nonneg h0 (Int.le_of_lt (Int.pow_pos (by decide)))
 have a2:x / 2^k<=x:=Int.ediv_le_self _ h0
 rw [u32_and _ _ a1 (by omega) (by omega) (by omega),show (1:Int).toNat=1 from rfl,Nat.and_one_is_mod]
 omega
theorem low_zero {p:List Int} (hp:Limbs p) {j s:Nat} {q0 Q:Int} (hq:p[j]? =some q0) (hs:s<32) (h:val p=Q*2^(32*j+s+1)):q0%2^(s+1)=0:=by
 have h1:=val_cut hq
 have h2:=val_nonneg (hp.take j)
 have h3:=val_lt (hp.take j)
 have hj:j<p.length:=(List.getElem?_eq_some_iff.1 hq).1
 rw [List.length_take,Nat.min_eq_left (by omega)] at h3
 have hpp:=pow_pos_B j
 have e1:val p / (4294967296:Int)^j=q0+4294967296*val (p.drop (j+1)):=by
  rw [h1,Int.add_mul_ediv_left _ _ (by omega),Int.ediv_eq_zero_of_lt h2 h3];omega
 have e2:val p / (4294967296:Int)^j=Q*2^(s+1):=by
  rw [h,show 32*j+s+1=32*j+(s+1) by omega,Int.pow_add,<-powB_eq,<-Int.mul_assoc,Int.mul_comm Q,Int.mul_assoc,Int.mul_ediv_cancel_left _ (by omega)]
 obtain ⟨t,ht⟩:∃t,32=(s+1)+t:=⟨31-s,by omega⟩
 have e3:(4294967296:Int)=2^(s+1)*2^t:=by
  rw [<-Int.pow_add,<-ht];rfl
 have e4:q0=2^(s+1)*(Q-2^t*val (p.drop (j+1))):=by
  have :q0+2^(s+1)*2^t*val (p.drop (j+1))=Q*2^(s+1):=by rw [<-e3,<-e1,e2]
  grind
 rw [e4,Int.mul_emod_right]
theorem or_put {q0:Int} {s:Nat} (h0:0<=q0) (h1:q0<4294967296) (hs:s<32) (hz:q0%2^(s+1)=0):bits .or .u32 q0 (2^s%4294967296)=q0+2^s/\q0+2^s<4294967296:=by
 have hp:(2:Nat)^s<2^32:=Nat.pow_lt_pow_right (by omega) hs
 have hp2:((2^s:Nat):Int)=(2:Int)^s:=by simp
 have hp1:((2^(s+1):Nat):Int)=(2:Int)^(s+1):=by simp
 have e1:(2:Int)^s%4294967296=2^s:=Int.emod_eq_of_lt (Int.le_of_lt (Int.pow_pos (by decide))) (by omega)
 obtain ⟨n,rfl⟩:∃n:Nat,q0=n:=⟨q0.toNat,by omega⟩
 have hn:n%2^(s+1)=0:=by
  have :((n%2^(s+1):Nat):Int)=0:=by rw [Int.natCast_emod,hp1];exact hz
  omega
 have ho:=or_bit n s hn
 rw [e1,<-hp2,u32_or _ _ (by omega) h1 (by omega) (by omega),Int.toNat_natCast,Int.toNat_natCast,ho]
 refine ⟨by simp,?_⟩
 obtain ⟨t,ht⟩:∃t,32=(s+1)+t:=⟨31-s,by omega⟩
 obtain ⟨a,ha⟩:=Nat.dvd_of_mod_eq_zero hn
 have e3:(4294967296:Nat)=2^(s+1)*2^t:=by rw [<-Nat.pow_add,<-ht]
 have h5:a<2^t:=by
  have :2^(s+1)*a<2^(s+1)*2^t:=by rw [<-ha,<-e3];omega
  exact Nat.lt_of_mul_lt_mul_left this
 have h6:2^(s+1)*(a+1)<=2^(s+1)*2^t:=Nat.mul_le_mul_left _ h5
 have h7:2^s<2^(s+1):=Nat.pow_lt_pow_right (by omega) (by omega)
 rw [Nat.mul_add,<-ha,<-e3] at h6
 omega
theorem DivM.low {w wr W:World} {l:List Int} {N:Int} {i:Nat} {Q R bt:Int} {p:List Int} {B B':Option Addr} {k d k' d':Nat} (h:DivM w wr l N (i+1) Q R p B k d) (hb:(val l / 2^i)%2=bt) (hlt:2*R+bt<N) (hx:Ext wr W) (hN:NatX (w.heap.size+1) W B' k' d' (2*R+bt)) (hk:k'<=274877906944):DivM w W l N i (2*Q) (2*R+bt) p B' k' d':=by
 subst hb
 exact ⟨h.div.low hlt,h.len,h.limbs,by rw [h.q,Int.pow_succ];grind,h.row.ext hx,hN,hk,h.ext.trans hx⟩
theorem DivM.high {w wr W:World} {l:List Int} {N:Int} {i:Nat} {Q R bt q0:Int} {p:List Int} {B B':Option Addr} {k d k' d':Nat} (h:DivM w wr l N (i+1) Q R p B k d) (hb:(val l / 2^i)%2=bt) (hge:N<=2*R+bt) (hx:Ext wr W) (hN:NatX (w.heap.size+1) W B' k' d' (2*R+bt-N)) (hk:k'<=274877906944) (hq:p[i / 32]? =some q0):
  DivM w ((W.setCell ⟨w.heap.size,i / 32,none⟩ (.int .u32 (bits .or .u32 q0 (2^(i%32)%4294967296)))).drew) l N i (2*Q+1) (2*R+bt-N) (p.set (i / 32) (q0+2^(i%32))) B' k' d':=by
 subst hb
 have hq':=h.limbs.get hq
 have hz:=low_zero h.limbs hq (s:=i%32) (by omega) (Q:=Q) (by rw [h.q];congr 2;omega)
 obtain ⟨o1,o2⟩:=or_put hq'.1 hq'.2 (s:=i%32) (by omega) hz
 have hps:(0:Int)<2^(i%32):=Int.pow_pos (by decide)
 rw [o1]
 refine ⟨h.div.high hge,by rw [List.length_set];exact h.len,h.limbs.set _ (by omega) o2,?_,?_,?_,hk,?_⟩
 ·rw [val_set hq,h.q,show q0+2^(i%32)-q0=2^(i%32) by omega,powB_eq,<-Int.pow_add,show 32*(i / 32)+i%32=i by omega,Int.pow_succ];grind
 ·exact ((h.row.ext hx).set _ _).ext inferInstance
 ·exact (hN.set (p:=⟨w.heap.size,i / 32,none⟩) (by simp) (.int .u32 (q0+2^(i%32)))).ext inferInstance
 ·exact ((h.ext.trans hx).setCell (p:=⟨w.heap.size,i / 32,none⟩) (Nat.le_refl _) (.int .u32 (q0+2^(i%32)))).trans inferInstance
theorem rdivide_big {w0 w1 w:World} {A B:Option Addr} {c k d:Nat} {l:List Int} {y:Int} (ha':Ints w0 A 280 .u32 l) (hl:Limbs l) (hb:NatV w1 B k d y) (hbig:2<l.length∨2<k) (h1:l.length<=274877906943) (h2:k<=274877906943) (hy0:0<y) [hx:Ext w0 w] [hy:Ext w1 w]:
  Calls Tryz.prog 267 #[.slice A l.length c,.slice B k d] w (RetDiv w (val l / y) (val l%y)):=by
 have ha:=ha'.ext hx
 have hmk:=run_make_ints (P:=Tryz.prog) Tryz.underlying115 Tryz.infoU32 (by omega) (l.length:Int) (by omega) (by omega)
 have HB:=Lib.hid hb
 have HY:Hid (∀(W:World) A1 n1 c1 z,NatV W A1 n1 c1 z->z<2*y->n1<=274877906944):=Lib.hid (by
  intro W A1 n1 c1 z hN hz
  obtain ⟨m,rfl,b1,b2,b3,rfl,b5,b6⟩:=hb
  have h3:=val_lt b2
  have h4:=hN.len (k:=m.length+1) (by rw [Int.pow_succ];omega)
  omega)
 clear hb
 go_enter Tryz.func267,Tryz.ntmps267
 by_cases hl2:l.length<=2
 all_goals
  first
   |(have hkb:decide ((k:Int)<=2)=false:=by simp;omega)
   |skip
  go_wp2
  go_loopw [5,8] (fun v i wr=>∃(j:Nat) (Q R:Int) (p:List Int) (B1:Option Addr) (k1 d1:Nat),j<=32*l.length/\i= .int .i64 ((j:Int)-1)/\v= .slice B1 k1 d1/\Hid (DivM w wr l y j Q R p B1 k1 d1)) (fun _ i _=>(intOf i+1).toNat)
  case atStart=>
   refine ⟨32*l.length,0,0,List.replicate l.length 0,none,0,0,by omega,by simp,rfl,Lib.hid ⟨DivI.start (val_nonneg hl) (by rw [<-powB_eq];exact val_lt hl) hy0,by simp,?_,by rw [val_replicate];simp,Row.made w _ _ _,⟨[],rfl,Own.nil _ _ _ _,Limbs.nil,Tight.nil,rfl⟩,by omega,inferInstance⟩⟩
   intro x hx;rw [List.eq_of_mem_replicate hx];omega
  case round=>
   obtain ⟨j,Q,R,p,B1,k1,d1,hj,rfl,rfl,HD⟩:=hrel
   cases j with
   |zero=>
    obtain ⟨e1,e2⟩:=HD.out.div.done
    have hvq:=HD.out.q
    rw [Int.pow_zero,Int.mul_one,e1] at hvq
    have hT:=fun W (hh:Ext wr W)=>rtrim_any (w:=W) (c:=l.length) HD.out.row.ints HD.out.limbs (by rw [HD.out.len];omega) (by omega) (by rw [HD.out.len];omega)
    rw [hvq,HD.out.len] at hT
    have HT:=Lib.hid hT
    have hrn:=HD.out.rest.nat
    rw [e2] at hrn
    have HRN:=Lib.hid hrn
    have HXE:=Lib.hid HD.out.ext
    clear hT e1 e2 hvq hrn HD
    go_wp2_with (go_at_call 185;refine (HT.out _ inferInstance).mono ?_;intro e w3 hr;obtain ⟨B3,n3,d3,rfl,hN3,hs3⟩:=NatV.of_ret hr;clear hr)
    go_ret2
    exact ⟨B3,n3,d3,B1,k1,d1,rfl,hN3,HRN.out.ext inferInstance,(HXE.out.trans inferInstance).toStep⟩
   |succ i=>
    rw [show ((i+1:Nat):Int)-1=(i:Int) by omega]
    obtain ⟨b,o,x,rfl,hx',hcx,hbx⟩:=(ha.ext HD.out.ext).at_ (i:=i / 32) (by omega)
    obtain ⟨hx0,hx1⟩:=hl.get hx'
    have HX:=Lib.hid hx'
    clear hx'
    have hbit:(x / 2^(i%32))%2=(val l / 2^i)%2:=by
     have :=bit_at hl HX.out (k:=i%32) (by omega)
     rwa [show 32*(i / 32)+i%32=i by omega] at this
    have HBT:=Lib.hid ((and_bit x (i%32) hx0 hx1).trans hbit)
    clear hbit
    obtain ⟨bt,hbt⟩:∃bt,(val l / 2^i)%2=bt:=⟨_,rfl⟩
    have hbt0:0<=bt:=by omega
    have hbt1:bt<=1:=by omega
    rw [hbt] at HBT
    have HBV:=Lib.hid hbt
    clear hbt
    have hR2:R<y:=HD.out.div.r1
    have hR0:0<=R:=HD.out.div.r0
    go_wp2_with fail
    rw [HBT.out]
    refine (rdoubleN HD.out.rest.nat hbt0 hbt1 HD.out.small).mono ?_
    rintro e w2 hR
    obtain ⟨B2,k2,d2,rfl,hs2,hT2⟩:=rtrimL hR (by omega)
    have HT2:=Lib.hid hT2
    clear hR hT2
    have hxw:Ext wr w2:=inferInstance
    have HXW:=Lib.hid (HD.out.ext.trans hxw)
    clear hxw
    have HC:Hid (∀(W0 W:World) B1 k1 d1,NatV W0 B1 k1 d1 (2*R+bt)->Ext W0 W->Ext w W->Calls Tryz.prog 207 #[.slice B1 k1 d1,.slice B k d] W (RetVal W (.int .i64 (cmpI (2*R+bt) y)))):=Lib.hid (fun W0 W B1 k1 d1 a e1 e2=>have :Ext w1 W:=hy.trans e2;rcmp_any a HB.out)
    by_cases hge:y<=2*R+bt
    ·have hcge:0<=cmpI (2*R+bt) y:=by unfold cmpI;split;omega;split<;>omega
     obtain ⟨t,ht⟩:∃t,cmpI (2*R+bt) y=t:=⟨_,rfl⟩
     rw [ht] at HC hcge
     have hgb:decide (0<=t)=true:=by simpa using hcge
     have HDF:Hid (∀(W0 W:World) B1 k1 d1,NatV W0 B1 k1 d1 (2*R+bt)->Ext W0 W->Ext w W->Calls Tryz.prog 231 #[.slice B1 k1 d1,.slice B k d] W (RetLimbs W (2*R+bt-y) 274877906945)):=Lib.hid (fun W0 W B1 k1 d1 a e1 e2=>have :Ext w1 W:=hy.trans e2;rdiffN a HB.out (HY.out _ _ _ _ _ a (by omega)) hge)
     clear ht hcge
     go_wp2_with (first
      |(go_at_call_of 185 (Value.slice B2 k2 d2);refine (HT2.out _ inferInstance).mono ?_;rintro e w3 ⟨B3,k3,d3,rfl,hN3,hs3⟩;have hxw3:Ext w w3:=HXW.out.trans inferInstance)
      |(go_at_call 207;refine (HC.out _ _ _ _ _ hN3.nat inferInstance hxw3).mono ?_;rintro e w4 ⟨rfl,hs4⟩;have hxw4:Ext w w4:=hxw3.trans inferInstance)
      |(go_at_call 231;refine (HDF.out _ _ _ _ _ hN3.nat inferInstance hxw4).mono ?_;rintro e w5 hR5;obtain ⟨B5,k5,d5,rfl,hs5,hT5⟩:=rtrimL hR5 (by omega);have HT5:=Lib.hid hT5;clear hR5 hT5)
      |(go_at_call_of 185 (Value.slice B5 k5 d5);refine (HT5.out _ inferInstance).mono ?_;rintro e w6 ⟨B6,k6,d6,rfl,hN6,hs6⟩))
     have hrow6:=HD.out.row.ext (inferInstance:Ext wr w6)
     have ha32:i / 32<p.length:=by rw [HD.out.len];omega
     obtain ⟨q0,hq0,hcq⟩:=hrow6.cell ha32
     have hfq:=hrow6.frozen (i / 32)
     have hszw:=HD.out.row.lt
     have HFIN:=Lib.hid (HD.out.high HBV.out hge (inferInstance:Ext wr w6) (hN6.lower (by have h2:=(inferInstance:Ext wr w5).size;omega)) (HY.out _ _ _ _ _ hN6.nat (by omega)) hq0)
     obtain ⟨a,hai⟩:∃a,i / 32=a:=⟨_,rfl⟩
     obtain ⟨s,hsi⟩:∃s,i%32=s:=⟨_,rfl⟩
     rw [hai,hsi] at HFIN
     rw [hai] at hcq hfq
     have hia:(i:Int) / 32=(a:Int):=by omega
     have his:(i:Int)%32=(s:Int):=by omega
     have htd:Int.tdiv (i:Int) 32=(a:Int):=by rw [Int.tdiv_eq_ediv_of_nonneg (by omega)];exact hia
     have htm:Int.tmod (i:Int) 32=(s:Int):=by rw [Int.tmod_eq_emod_of_nonneg (by omega)];exact his
     have ha0:(0:Int)<=(a:Int):=by omega
     have ha1:(a:Int)<(l.length:Int):=by omega
     have hs0:(0:Int)<=(s:Int):=by omega
     have hs1:(s:Int)<32:=by omega
     have hwa:IntKind.i64.wrap (a:Int)=(a:Int):=by rw [IntKind.wrap_i64];omega
     have hws:IntKind.i64.wrap (s:Int)=(s:Int):=by rw [IntKind.wrap_i64];omega
     have hsz:w.heap.size<w6.heap.size:=hrow6.lt
     clear hq0 hrow6 hai hsi hia his hszw
     go_region_law fail
     all_goals
      go_wp2
      exact ⟨⟨i,_,_,_,B6,k6,d6,by omega,rfl,rfl,HFIN⟩,by simp [intOf]<;>omega⟩
    ·have hclt:=cmpI_lt (show 2*R+bt<y by omega)
     rw [hclt] at HC
     have hlt:2*R+bt<y:=by omega
     clear hge hclt
     have hszw:=HD.out.row.lt
     have HSW:=Lib.hid hszw
     clear hszw
     go_wp2_with (first
      |(go_at_call_of 185 (Value.slice B2 k2 d2);refine (HT2.out _ inferInstance).mono ?_;rintro e w3 ⟨B3,k3,d3,rfl,hN3,hs3⟩;have hxw3:Ext w w3:=HXW.out.trans inferInstance)
      |(go_at_call 207;refine (HC.out _ _ _ _ _ hN3.nat inferInstance hxw3).mono ?_;rintro e w4 ⟨rfl,hs4⟩))
     exact ⟨⟨i,_,_,_,B3,k3,d3,by omega,rfl,rfl,Lib.hid (HD.out.low HBV.out hlt (inferInstance:Ext wr w4) ((hN3.lower (by have h2:=(inferInstance:Ext wr w2).size;have :=HSW.out;omega)).ext inferInstance) (HY.out _ _ _ _ _ hN3.nat (by omega)))⟩,by simp [intOf]<;>omega⟩
end Go.Proofs.YtijfjailmilkfaaGreat
namespace Go.Proofs.YtijfjailmilkfaaGreat
open Go.RowKit
theorem rdivideN {w0 w1 w:World} {A B:Option Addr} {n k c d:Nat} {x y:Int} (ha:NatV w0 A n c x) (hb:NatV w1 B k d y) (h1:n<=274877906943) (h2:k<=274877906943) (hy0:0<y) [hx:Ext w0 w] [hy:Ext w1 w]:
  Calls Tryz.prog 267 #[.slice A n c,.slice B k d] w (RetDiv w (x / y) (x%y)):=by
 by_cases hs:n<=2/\k<=2
 ·exact rdivide_small ha hb hs.1 hs.2 hy0
 ·obtain ⟨l,rfl,a1,a2,a3,rfl,a5,a6⟩:=ha
  exact rdivide_big a1 a2 hb (by omega) h1 h2 hy0
theorem rMakeN {w0 w:World} {A:Option Addr} {n c:Nat} {z:Int} (g:Bool) (h:NatV w0 A n c z) (h40:n<=1099511627776) [hx:Ext w0 w]:Calls Tryz.prog 208 #[.bool g,.slice A n c] w (RetInt w (sgn g z)):=by
 obtain ⟨l,rfl,a1,a2,a3,rfl,a5,a6⟩:=h
 exact rMake_any g a1 a2 a5 a6 h40
theorem lt_of_cell {w:World} {b i:Nat} {v:Value} (h:w.cell? ⟨b,i,none⟩=some v):b<w.heap.size:=by
 rcases Nat.lt_or_ge b w.heap.size with h1 |h1
 ·exact h1
 ·simp [World.cell?,Array.getElem?_eq_none h1] at h
theorem NatV.le_len {w w':World} {A A':Option Addr} {n n' c c':Nat} {z z':Int} (h:NatV w A n c z) (h':NatV w' A' n' c' z') (hz:z'<=z):n'<=n:=by
 obtain ⟨l,rfl,a1,a2,a3,rfl,a5,a6⟩:=h
 exact h'.len (k:=l.length) (by have :=val_lt a2;omega)
theorem rDivMod_neg {w0 w1 w:World} {na nb:Bool} {A B:Option Addr} {n k c d:Nat} {x y:Int} (ha:IntV w0 na A n c x) (hb:IntV w1 nb B k d y) (h1:n<=274877906943) (h2:k<=274877906943) (hy0:y≠0) (hneg:x<0) (hrz:(x.natAbs:Int)%y.natAbs≠0) [hx:Ext w0 w] [hy:Ext w1 w]:
  Calls Tryz.prog 232 #[.agg #[.bool na,.slice A n c],.agg #[.bool nb,.slice B k d]] w (RetInt2 w (x / y) (x%y) true):=by
 have hta:=fun W (hh:Ext w0 W)=>rtrimV (w:=W) ha (by omega)
 have htb:=fun W (hh:Ext w1 W)=>rtrimV (w:=W) hb (by omega)
 have HTA:=Lib.hid hta
 have HTB:=Lib.hid htb
 have hna:=ha.neg_eq
 have hnb:=hb.neg_eq
 have HDV:Hid (∀(W0 W1 W:World) B1 k1 d1 B2 k2 d2,NatV W0 B1 k1 d1 x.natAbs->NatV W1 B2 k2 d2 y.natAbs->Ext W0 W->Ext W1 W->Calls Tryz.prog 267 #[.slice B1 k1 d1,.slice B2 k2 d2] W (RetDiv W ((x.natAbs:Int) / y.natAbs) ((x.natAbs:Int)%y.natAbs))):=Lib.hid (fun W0 W1 W B1 k1 d1 B2 k2 d2 a b e1 e2=>rdivideN a b (by have :=ha.nat.le_len a (Int.le_refl _);omega) (by have :=hb.nat.le_len b (Int.le_refl _);omega) (by omega))
 have HK0:Hid (∀(W:World) B1 k1 d1,NatV W B1 k1 d1 (y.natAbs:Int)->((k1:Int)==0)=false):=Lib.hid (by intro W B1 k1 d1 h;have :=h.zero_iff;simp;omega)
 have hr0:=Int.emod_nonneg (x.natAbs:Int) (show (y.natAbs:Int)≠0 by omega)
 have hr1:=Int.emod_lt_of_pos (x.natAbs:Int) (show 0<(y.natAbs:Int) by omega)
 have hq0:0<=(x.natAbs:Int) / y.natAbs:=Int.ediv_nonneg (by omega) (by omega)
 have hq1:(x.natAbs:Int) / y.natAbs<=x.natAbs:=Int.ediv_le_self _ (by omega)
 have HLQ:Hid (∀(W:World) B1 k1 d1,NatV W B1 k1 d1 ((x.natAbs:Int) / y.natAbs)->k1<=274877906943):=Lib.hid (by intro W B1 k1 d1 h;have :=ha.nat.le_len h hq1;omega)
 have HLR:Hid (∀(W:World) B1 k1 d1,NatV W B1 k1 d1 ((x.natAbs:Int)%y.natAbs)->k1<=274877906943):=Lib.hid (by intro W B1 k1 d1 h;have :=hb.nat.le_len h (by omega);omega)
 have HLY:Hid (∀(W:World) g1 B1 k1 d1 z,IntV W g1 B1 k1 d1 z->z.natAbs<=y.natAbs->k1<=274877906943):=Lib.hid (by intro W g1 B1 k1 d1 z h hz;have :=hb.nat.le_len h.nat (by omega);omega)
 have HLX:Hid (∀(W:World) g1 B1 k1 d1 z,IntV W g1 B1 k1 d1 z->z.natAbs<=x.natAbs->k1<=274877906943):=Lib.hid (by intro W g1 B1 k1 d1 z h hz;have :=ha.nat.le_len h.nat (by omega);omega)
 clear hta htb
 obtain rfl:na=true:=by simp [hna,hneg]
 have HLN:Hid (∀(W:World) B1 k1 d1,NatV W B1 k1 d1 (y.natAbs:Int)->k1<=274877906943):=Lib.hid (by intro W B1 k1 d1 h;have :=hb.nat.le_len h (Int.le_refl _);omega)
 have HE:=Lib.hid (div_neg_case x y hneg hy0 hrz)
 rw [<-hnb] at HE
 generalize (x.natAbs:Int) / y.natAbs=q at*
 generalize (x.natAbs:Int)%y.natAbs=r at*
 have hsr:decide (cmpI (sgn true r) 0<0)=true:=by simp only [sgn];unfold cmpI;simp;omega
 obtain ⟨ts,hts⟩:∃t,cmpI (sgn true r) 0=t:=⟨_,rfl⟩
 rw [hts] at hsr
 have HTS:=Lib.hid hts
 clear hts
 have HNB:=Lib.hid hnb
 clear hna hnb hneg hrz
 go_enter Tryz.func232,Tryz.ntmps232
 go_wp2
 go_region_held3 (fun w'=>w'.cell? ⟨w.heap.size,1,none⟩=some (.slice A n c)/\w'.cell? ⟨w.heap.size+1,1,none⟩=some (.slice B k d)) (exact boxes2s w _ (.bool true) (.slice A n c) (.bool nb) (.slice B k d) 117 117)
  (first
   |(go_at_call_of 185 (Value.slice A n c);refine (HTA.out _ inferInstance).mono ?_;rintro e w4 ⟨B4,k4,d4,rfl,hN4,hs4⟩)
   |(go_at_call_of 185 (Value.slice B k d);refine (HTB.out _ inferInstance).mono ?_;rintro e w5 ⟨B5,k5,d5,rfl,hN5,hs5⟩))
 have hk5:=HK0.out _ _ _ _ hN5
 go_wp2_with (go_at_call 267;refine (HDV.out _ _ _ _ _ _ _ _ _ hN4 hN5 inferInstance inferInstance).mono ?_;rintro e w6 ⟨B6,k6,d6,B7,k7,d7,rfl,hN6,hN7,hs6⟩;obtain ⟨c1,c2,c3,c4⟩:=boxes2 w w6 (.bool true) (.slice A n c) (.bool nb) (.slice B k d) 117 117)
 have hqm:=HLQ.out _ _ _ _ hN6
 have hrm:=HLR.out _ _ _ _ hN7
 have o0:Old w.heap.size w6:=inferInstance
 have o1:Old (w.heap.size+1) w6:=inferInstance
 have HC:=Lib.hid (And.intro c1 c3)
 have hx6:Ext ((((w.alloc (.cells #[.bool true,.slice A n c] 117)).alloc (.cells #[.bool nb,.slice B k d] 117)).alloc (.cells #[.bool false,.slice none 0 0] 117)).alloc (.cells #[.bool false,.slice none 0 0] 117)) w6:=inferInstance
 have HX6:=Lib.hid hx6
 clear c1 c2 c3 c4 hx6
 go_cut [11,12] (fun s11 s12 wx=>∃(p p':Nat) (g8 g9:Bool) (B8 B9:Option Addr) (k8 d8 k9 d9:Nat),s11= .pointer (some ⟨p,0,none⟩)/\s12= .pointer (some ⟨p',0,none⟩)/\wx.cell? ⟨p,0,none⟩=some (.bool g8)/\wx.cell? ⟨p,1,none⟩=some (.slice B8 k8 d8)/\wx.cell? ⟨p',0,none⟩=some (.bool g9)/\wx.cell? ⟨p',1,none⟩=some (.slice B9 k9 d9)/\IntV wx g8 B8 k8 d8 (sgn (!nb) q)/\IntV wx g9 B9 k9 d9 (sgn true r)/\Ext w6 wx/\w6.heap.size<=p/\w6.heap.size<=p'/\p≠p'/\wx.frozen? ⟨p',0,none⟩=false/\wx.frozen? ⟨p',1,none⟩=false/\Typed p' 117 wx)
 case first=>
  go_region_held3 (fun w'=>w'.cell? ⟨w.heap.size,0,none⟩=some (.bool true)/\w'.cell? ⟨w.heap.size+1,0,none⟩=some (.bool nb)) ((simp only [cellE w6];exact HC.out))
   (first
    |(go_at_call_of 208 (Value.slice B6 k6 d6);refine (rMakeN _ hN6 (by omega)).mono ?_;rintro e w8 ⟨g8,B8,k8,d8,rfl,hz8,hs8⟩)
    |(go_at_call_of 208 (Value.slice B7 k7 d7);refine (rMakeN _ hN7 (by omega)).mono ?_;rintro e w9 ⟨g9,B9,k9,d9,rfl,hz9,hs9⟩))
  all_goals (go_wp2_with fail;go_meet;refine ⟨_,_,g8,g9,B8,B9,k8,d8,k9,d9,rfl,rfl,by go_simp,by go_simp,by go_simp,by go_simp,?_,hz9.keeps,inferInstance,New.le,New.le,by first |omega |exact Apart.ne |(simp;done),by go_simp,by go_simp,inferInstance⟩;simpa using hz8.keeps)
 case rest=>
  obtain ⟨p,p',g8,g9,B8,B9,k8,d8,k9,d9,rfl,rfl,e1,e2,e3,e4,hz8,hz9,hxc,hp6,hp6',hpp,HFZ0,HFZ1,htyp⟩:=hcut
  have hs6':w.heap.size+1+1+1<w6.heap.size:=by have :=HX6.out.size;simp at this;omega
  have hk9:=HLY.out _ _ _ _ _ _ hz9 (by simp only [sgn];simp;omega)
  have hsg:=fun W (hh:Ext wc W)=>rSign_any (w:=W) hz9 (by omega)
  rw [HTS.out] at hsg
  have HSG:=Lib.hid hsg
  have op:p<wc.heap.size:=lt_of_cell e1
  have op':p'<wc.heap.size:=lt_of_cell e3
  have oP:Old p wc:=⟨op⟩
  have oP':Old p' wc:=⟨op'⟩
  have H8:=Lib.hid hz8
  have hx4:=Lib.hid (HX6.out.trans hxc)
  have hk5':k5<=274877906943:=by have :=HLN.out _ _ _ _ hN5;omega
  have HMK:Hid (∀W,Ext w5 W->Calls Tryz.prog 208 #[.bool false,.slice B5 k5 d5] W (RetInt W (sgn false y.natAbs))):=Lib.hid (fun W hh=>rMakeN false hN5 (by omega))
  have HAD:Hid (∀(W1 W:World) g2 B2 k2 d2,IntV W1 g2 B2 k2 d2 (sgn false y.natAbs)->Ext wc W->Ext W1 W->Calls Tryz.prog 180 #[.agg #[.bool g9,.slice B9 k9 d9],.agg #[.bool g2,.slice B2 k2 d2]] W (RetInt W (x%y))):=Lib.hid (by
   intro W1 W g2 B2 k2 d2 hz e1 e2
   have h2:=HLY.out _ _ _ _ _ _ hz (by simp [sgn])
   have :=rAdd_any (w:=W) hz9 hz (by omega) (by omega)
   rwa [show sgn true r+sgn false (y.natAbs:Int)=x%y by rw [<-HE.out.2];simp [sgn];omega] at this)
  have hxw5:Hid (Ext w5 wc):=Lib.hid ((inferInstance:Ext w5 w6).trans hxc)
  clear hsg hz8 hz9 op op'
  go_wp2_with (go_at_call 175;refine (HSG.out _ inferInstance).mono ?_;rintro e w10 ⟨rfl,hs10⟩;have f3:w10.cell? ⟨p',0,none⟩=some (.bool g9):=(cellE wc).trans e3;have f4:w10.cell? ⟨p',1,none⟩=some (.slice B9 k9 d9):=(cellE wc).trans e4)
  have hx10:Ext w5 w10:=hxw5.out.trans inferInstance
  have oP10:Old p' w10:=inferInstance
  go_region_with (first
    |(go_at_call 208;refine (HMK.out _ inferInstance).mono ?_;rintro e w11 ⟨g11,B11,k11,d11,rfl,hz11,hs11⟩;have r3:w11.cell? ⟨p',0,none⟩=some (.bool g9):=(cellE wc).trans e3;have r4:w11.cell? ⟨p',1,none⟩=some (.slice B9 k9 d9):=(cellE wc).trans e4)
    |(go_at_call 180;refine (HAD.out _ _ _ _ _ _ hz11 inferInstance inferInstance).mono ?_;rintro e w12 ⟨g12,B12,k12,d12,rfl,hz12,hs12⟩;have s3:w12.cell? ⟨p',0,none⟩=some (.bool g9):=(cellE wc).trans e3;have s4:w12.cell? ⟨p',1,none⟩=some (.slice B9 k9 d9):=(cellE wc).trans e4;have fz0:w12.frozen? ⟨p',0,none⟩=false:=(frozenE wc).trans HFZ0;have fz1:w12.frozen? ⟨p',1,none⟩=false:=(frozenE wc).trans HFZ1))
  all_goals
   have HW:Hid (∃W,W=((w12.setCell ⟨p',0,none⟩ (.bool g12)).setCell ⟨p',1,none⟩ (.slice B12 k12 d12))):=Lib.hid ⟨_,rfl⟩
   obtain ⟨W,hW⟩:=HW.out
   have hxcW:Ext w6 W:=by
    rw [hW]
    exact ((hxc.trans (inferInstance:Ext wc w12)).setCell (p:=⟨p',0,none⟩) hp6' (.bool g12)).setCell (p:=⟨p',1,none⟩) hp6' (.slice B12 k12 d12)
   have hoth:Oth 117 w12 W:=by
    obtain ⟨cs,fr,ht⟩:=(inferInstance:Typed p' 117 w12).ex
    rw [hW]
    refine (Oth.set (p:=⟨p',0,none⟩) ht (.bool g12)).trans ?_
    obtain ⟨cs2,fr2,ht2⟩:=(inferInstance:Typed p' 117 (w12.setCell ⟨p',0,none⟩ (.bool g12))).ex
    exact Oth.set (p:=⟨p',1,none⟩) ht2 (.slice B12 k12 d12)
   have hz12':IntV W g12 B12 k12 d12 (x%y):=hz12.oth hoth (by decide)
   have hz8':IntV W g8 B8 k8 d8 (sgn (!nb) q):=(H8.out.ext (inferInstance:Ext wc w12)).oth hoth (by decide)
   have w12p0:w12.cell? ⟨p,0,none⟩=some (.bool g8):=(cellE wc).trans e1
   have w12p1:w12.cell? ⟨p,1,none⟩=some (.slice B8 k8 d8):=(cellE wc).trans e2
   have ap:Apart p p':=⟨hpp⟩
   have t1:W.cell? ⟨p,0,none⟩=some (.bool g8):=by rw [hW];go_simp
   have t2:W.cell? ⟨p,1,none⟩=some (.slice B8 k8 d8):=by rw [hW];go_simp
   have t3:W.cell? ⟨p',0,none⟩=some (.bool g12):=by rw [hW];go_simp
   have t4:W.cell? ⟨p',1,none⟩=some (.slice B12 k12 d12):=by rw [hW];go_simp
   rw [<-hW]
   have hx4W:=HX6.out.trans hxcW
   have hxwW:Ext w W:=Ext.trans inferInstance hx4W
   have hx1W:Ext w1 W:=hy.trans hxwW
   obtain ⟨⟨-,-,b1,b2⟩,-,-⟩:=box4 w W (.bool true) (.slice A n c) (.bool nb) (.slice B k d) (.bool false) (.slice none 0 0) (.bool false) (.slice none 0 0) 117
   have HSB:Hid (∀W',Ext W W'->Calls Tryz.prog 175 #[.agg #[.bool nb,.slice B k d]] W' (RetVal W' (.int .i64 (cmpI y 0)))):=Lib.hid (fun W' hh=>have :Ext w1 W':=hx1W.trans hh;rSign_any hb (by omega))
   have H8:=Lib.hid hz8'
   have H12:=Lib.hid hz12'
   have HT:=Lib.hid (And.intro t1 (And.intro t2 (And.intro t3 t4)))
   have HX4:=Lib.hid hx4W
   have oPW:Old p W:=⟨lt_of_cell t1⟩
   have oPW':Old p' W:=⟨lt_of_cell t3⟩
   have hs6w:w.heap.size+1+1+1<w6.heap.size:=by have :=HX6.out.size;simp at this;omega
   have a1:Apart p (w.heap.size+1+1):=⟨by omega⟩
   have a2:Apart p (w.heap.size+1+1+1):=⟨by omega⟩
   have a3:Apart p' (w.heap.size+1+1):=⟨by omega⟩
   have a4:Apart p' (w.heap.size+1+1+1):=⟨by omega⟩
   have hk8:=HLX.out _ _ _ _ _ _ hz8' (by cases nb<;>simp [sgn]<;>omega)
   clear hz8' hz12' t1 t2 t3 t4 hx4W hoth hW
   cases nb
   ·have hys:decide (cmpI y 0<0)=false:=by have :=HNB.out;simp at this;unfold cmpI;simp;split<;>omega
    generalize cmpI y 0=ty at*
    have HSU:Hid (∀(W1 W':World) g2 B2 k2 d2,IntV W1 g2 B2 k2 d2 1->Ext W W'->Ext W1 W'->Calls Tryz.prog 182 #[.agg #[.bool g8,.slice B8 k8 d8],.agg #[.bool g2,.slice B2 k2 d2]] W' (RetInt W' (x / y))):=Lib.hid (by
     intro W1 W' g2 B2 k2 d2 hz e1 e2
     have h2:=hz.len (k:=1) (by decide)
     have :=rSub_any (w:=W') H8.out hz (by omega) (by omega)
     rwa [show sgn (!false) q-1=x / y by rw [<-HE.out.1];simp [sgn]<;>omega] at this)
    go_wp2_with (go_at_call 175;refine (HSB.out _ inferInstance).mono ?_;rintro e w13 ⟨rfl,hs13⟩)
    have u1:w13.cell? ⟨p,0,none⟩=some (.bool g8):=(cellE W).trans HT.out.1
    have u2:w13.cell? ⟨p,1,none⟩=some (.slice B8 k8 d8):=(cellE W).trans HT.out.2.1
    have u3:w13.cell? ⟨p',0,none⟩=some (.bool g12):=(cellE W).trans HT.out.2.2.1
    have u4:w13.cell? ⟨p',1,none⟩=some (.slice B12 k12 d12):=(cellE W).trans HT.out.2.2.2
    go_region_with (first
     |(go_at_call 113;refine (rSmall_any 1 (by omega) (by omega) _).mono ?_;rintro e w14 ⟨g14,B14,k14,d14,rfl,hz14,hs14⟩;have v1:w14.cell? ⟨p,0,none⟩=some (.bool g8):=(cellE W).trans HT.out.1;have v2:w14.cell? ⟨p,1,none⟩=some (.slice B8 k8 d8):=(cellE W).trans HT.out.2.1;have v3:w14.cell? ⟨p',0,none⟩=some (.bool g12):=(cellE W).trans HT.out.2.2.1;have v4:w14.cell? ⟨p',1,none⟩=some (.slice B12 k12 d12):=(cellE W).trans HT.out.2.2.2)
     |(go_at_call 182;refine (HSU.out _ _ _ _ _ _ hz14 inferInstance inferInstance).mono ?_;rintro e w15 ⟨g15,B15,k15,d15,rfl,hz15,hs15⟩;have x3:w15.cell? ⟨p',0,none⟩=some (.bool g12):=(cellE W).trans HT.out.2.2.1;have x4:w15.cell? ⟨p',1,none⟩=some (.slice B12 k12 d12):=(cellE W).trans HT.out.2.2.2;have hx15:=HX4.out.trans (inferInstance:Ext W w15);obtain ⟨-,⟨p0,p1,p2,p3,p4,p5⟩,⟨q0',q1',q2',q3',q4',q5'⟩⟩:=box4 w w15 (.bool true) (.slice A n c) (.bool false) (.slice B k d) (.bool false) (.slice none 0 0) (.bool false) (.slice none 0 0) 117;have tp:Typed (w.heap.size+1+1) 117 w15:=⟨_,_,p0⟩;have tq:Typed (w.heap.size+1+1+1) 117 w15:=⟨_,_,q0'⟩;have hxw15:Ext w w15:=Ext.trans inferInstance hx15;clear p0 q0'))
    all_goals
     go_wp2
     exact bodyPost_ret (v:= .tuple #[.agg #[.bool g15,.slice B15 k15 d15],.agg #[.bool g12,.slice B12 k12 d12],.bool true]) (by simp [results,Tryz.results232,go_sem,p1,p2,q1',q2']) rfl ⟨_,_,_,_,_,_,_,_,rfl,hz15.keeps,H12.out.keeps,Step.of _ _⟩
   ·have hys:decide (cmpI y 0<0)=true:=by have :=HNB.out;simp at this;unfold cmpI;simp;omega
    generalize cmpI y 0=ty at*
    have HSU:Hid (∀(W1 W':World) g2 B2 k2 d2,IntV W1 g2 B2 k2 d2 1->Ext W W'->Ext W1 W'->Calls Tryz.prog 180 #[.agg #[.bool g8,.slice B8 k8 d8],.agg #[.bool g2,.slice B2 k2 d2]] W' (RetInt W' (x / y))):=Lib.hid (by
     intro W1 W' g2 B2 k2 d2 hz e1 e2
     have h2:=hz.len (k:=1) (by decide)
     have :=rAdd_any (w:=W') H8.out hz (by omega) (by omega)
     rwa [show sgn (!true) q+1=x / y by rw [<-HE.out.1];simp [sgn]<;>omega] at this)
    go_wp2_with (go_at_call 175;refine (HSB.out _ inferInstance).mono ?_;rintro e w13 ⟨rfl,hs13⟩)
    have u1:w13.cell? ⟨p,0,none⟩=some (.bool g8):=(cellE W).trans HT.out.1
    have u2:w13.cell? ⟨p,1,none⟩=some (.slice B8 k8 d8):=(cellE W).trans HT.out.2.1
    have u3:w13.cell? ⟨p',0,none⟩=some (.bool g12):=(cellE W).trans HT.out.2.2.1
    have u4:w13.cell? ⟨p',1,none⟩=some (.slice B12 k12 d12):=(cellE W).trans HT.out.2.2.2
    go_region_with (first
     |(go_at_call 113;refine (rSmall_any 1 (by omega) (by omega) _).mono ?_;rintro e w14 ⟨g14,B14,k14,d14,rfl,hz14,hs14⟩;have v1:w14.cell? ⟨p,0,none⟩=some (.bool g8):=(cellE W).trans HT.out.1;have v2:w14.cell? ⟨p,1,none⟩=some (.slice B8 k8 d8):=(cellE W).trans HT.out.2.1;have v3:w14.cell? ⟨p',0,none⟩=some (.bool g12):=(cellE W).trans HT.out.2.2.1;have v4:w14.cell? ⟨p',1,none⟩=some (.slice B12 k12 d12):=(cellE W).trans HT.out.2.2.2)
     |(go_at_call 180;refine (HSU.out _ _ _ _ _ _ hz14 inferInstance inferInstance).mono ?_;rintro e w15 ⟨g15,B15,k15,d15,rfl,hz15,hs15⟩;have x3:w15.cell? ⟨p',0,none⟩=some (.bool g12):=(cellE W).trans HT.out.2.2.1;have x4:w15.cell? ⟨p',1,none⟩=some (.slice B12 k12 d12):=(cellE W).trans HT.out.2.2.2;have hx15:=HX4.out.trans (inferInstance:Ext W w15);obtain ⟨-,⟨p0,p1,p2,p3,p4,p5⟩,⟨q0',q1',q2',q3',q4',q5'⟩⟩:=box4 w w15 (.bool true) (.slice A n c) (.bool true) (.slice B k d) (.bool false) (.slice none 0 0) (.bool false) (.slice none 0 0) 117;have tp:Typed (w.heap.size+1+1) 117 w15:=⟨_,_,p0⟩;have tq:Typed (w.heap.size+1+1+1) 117 w15:=⟨_,_,q0'⟩;have hxw15:Ext w w15:=Ext.trans inferInstance hx15;clear p0 q0'))
    all_goals
     go_wp2
     exact bodyPost_ret (v:= .tuple #[.agg #[.bool g15,.slice B15 k15 d15],.agg #[.bool g12,.slice B12 k12 d12],.bool true]) (by simp [results,Tryz.results232,go_sem,p1,p2,q1',q2']) rfl ⟨_,_,_,_,_,_,_,_,rfl,hz15.keeps,H12.out.keeps,Step.of _ _⟩
theorem rDivMod_any {w0 w1 w:World} {na nb:Bool} {A B:Option Addr} {n k c d:Nat} {x y:Int} (ha:IntV w0 na A n c x) (hb:IntV w1 nb B k d y) (h1:n<=274877906943) (h2:k<=274877906943) (hy0:y≠0) [hx:Ext w0 w] [hy:Ext w1 w]:
  Calls Tryz.prog 232 #[.agg #[.bool na,.slice A n c],.agg #[.bool nb,.slice B k d]] w (RetInt2 w (x / y) (x%y) true):=by
 have hta:=fun W (hh:Ext w0 W)=>rtrimV (w:=W) ha (by omega)
 have htb:=fun W (hh:Ext w1 W)=>rtrimV (w:=W) hb (by omega)
 have HTA:=Lib.hid hta
 have HTB:=Lib.hid htb
 have hna:=ha.neg_eq
 have hnb:=hb.neg_eq
 have HDV:Hid (∀(W0 W1 W:World) B1 k1 d1 B2 k2 d2,NatV W0 B1 k1 d1 x.natAbs->NatV W1 B2 k2 d2 y.natAbs->Ext W0 W->Ext W1 W->Calls Tryz.prog 267 #[.slice B1 k1 d1,.slice B2 k2 d2] W (RetDiv W ((x.natAbs:Int) / y.natAbs) ((x.natAbs:Int)%y.natAbs))):=Lib.hid (fun W0 W1 W B1 k1 d1 B2 k2 d2 a b e1 e2=>rdivideN a b (by have :=ha.nat.le_len a (Int.le_refl _);omega) (by have :=hb.nat.le_len b (Int.le_refl _);omega) (by omega))
 have HK0:Hid (∀(W:World) B1 k1 d1,NatV W B1 k1 d1 (y.natAbs:Int)->((k1:Int)==0)=false):=Lib.hid (by intro W B1 k1 d1 h;have :=h.zero_iff;simp;omega)
 have hr0:=Int.emod_nonneg (x.natAbs:Int) (show (y.natAbs:Int)≠0 by omega)
 have hr1:=Int.emod_lt_of_pos (x.natAbs:Int) (show 0<(y.natAbs:Int) by omega)
 have hq0:0<=(x.natAbs:Int) / y.natAbs:=Int.ediv_nonneg (by omega) (by omega)
 have hq1:(x.natAbs:Int) / y.natAbs<=x.natAbs:=Int.ediv_le_self _ (by omega)
 have HLQ:Hid (∀(W:World) B1 k1 d1,NatV W B1 k1 d1 ((x.natAbs:Int) / y.natAbs)->k1<=274877906943):=Lib.hid (by intro W B1 k1 d1 h;have :=ha.nat.le_len h hq1;omega)
 have HLR:Hid (∀(W:World) B1 k1 d1,NatV W B1 k1 d1 ((x.natAbs:Int)%y.natAbs)->k1<=274877906943):=Lib.hid (by intro W B1 k1 d1 h;have :=hb.nat.le_len h (by omega);omega)
 have HLY:Hid (∀(W:World) g1 B1 k1 d1 z,IntV W g1 B1 k1 d1 z->z.natAbs<=y.natAbs->k1<=274877906943):=Lib.hid (by intro W g1 B1 k1 d1 z h hz;have :=hb.nat.le_len h.nat (by omega);omega)
 have HLX:Hid (∀(W:World) g1 B1 k1 d1 z,IntV W g1 B1 k1 d1 z->z.natAbs<=x.natAbs->k1<=274877906943):=Lib.hid (by intro W g1 B1 k1 d1 z h hz;have :=ha.nat.le_len h.nat (by omega);omega)
 clear hta htb
 by_cases hneg:x<0
 ·obtain rfl:na=true:=by simp [hna,hneg]
  by_cases hrz:(x.natAbs:Int)%y.natAbs=0
  ·have HE:=Lib.hid (div_neg_exact x y hneg hy0 hrz)
   rw [<-hnb] at HE
   generalize (x.natAbs:Int) / y.natAbs=q at*
   generalize (x.natAbs:Int)%y.natAbs=r at*
   have HR0:=Lib.hid hrz
   have hsr:decide (cmpI (sgn true r) 0<0)=false:=by simp only [sgn];unfold cmpI;simp;omega
   obtain ⟨ts,hts⟩:∃t,cmpI (sgn true r) 0=t:=⟨_,rfl⟩
   rw [hts] at hsr
   have HTS:=Lib.hid hts
   clear hts
   clear hna hnb hneg hrz
   go_enter Tryz.func232,Tryz.ntmps232
   go_wp2
   go_region_held3 (fun w'=>w'.cell? ⟨w.heap.size,1,none⟩=some (.slice A n c)/\w'.cell? ⟨w.heap.size+1,1,none⟩=some (.slice B k d)) (exact boxes2s w _ (.bool true) (.slice A n c) (.bool nb) (.slice B k d) 117 117)
    (first
     |(go_at_call_of 185 (Value.slice A n c);refine (HTA.out _ inferInstance).mono ?_;rintro e w4 ⟨B4,k4,d4,rfl,hN4,hs4⟩)
     |(go_at_call_of 185 (Value.slice B k d);refine (HTB.out _ inferInstance).mono ?_;rintro e w5 ⟨B5,k5,d5,rfl,hN5,hs5⟩))
   have hk5:=HK0.out _ _ _ _ hN5
   go_wp2_with (go_at_call 267;refine (HDV.out _ _ _ _ _ _ _ _ _ hN4 hN5 inferInstance inferInstance).mono ?_;rintro e w6 ⟨B6,k6,d6,B7,k7,d7,rfl,hN6,hN7,hs6⟩;obtain ⟨c1,c2,c3,c4⟩:=boxes2 w w6 (.bool true) (.slice A n c) (.bool nb) (.slice B k d) 117 117)
   have hqm:=HLQ.out _ _ _ _ hN6
   have hrm:=HLR.out _ _ _ _ hN7
   have o0:Old w.heap.size w6:=inferInstance
   have o1:Old (w.heap.size+1) w6:=inferInstance
   have HC:=Lib.hid (And.intro c1 c3)
   have hx6:Ext ((((w.alloc (.cells #[.bool true,.slice A n c] 117)).alloc (.cells #[.bool nb,.slice B k d] 117)).alloc (.cells #[.bool false,.slice none 0 0] 117)).alloc (.cells #[.bool false,.slice none 0 0] 117)) w6:=inferInstance
   have HX6:=Lib.hid hx6
   clear c1 c2 c3 c4 hx6
   go_cut [11,12] (fun s11 s12 wx=>∃(p p':Nat) (g8 g9:Bool) (B8 B9:Option Addr) (k8 d8 k9 d9:Nat),s11= .pointer (some ⟨p,0,none⟩)/\s12= .pointer (some ⟨p',0,none⟩)/\wx.cell? ⟨p,0,none⟩=some (.bool g8)/\wx.cell? ⟨p,1,none⟩=some (.slice B8 k8 d8)/\wx.cell? ⟨p',0,none⟩=some (.bool g9)/\wx.cell? ⟨p',1,none⟩=some (.slice B9 k9 d9)/\IntV wx g8 B8 k8 d8 (sgn (!nb) q)/\IntV wx g9 B9 k9 d9 (sgn true r)/\Ext w6 wx/\w6.heap.size<=p/\w6.heap.size<=p')
   case first=>
    go_region_held3 (fun w'=>w'.cell? ⟨w.heap.size,0,none⟩=some (.bool true)/\w'.cell? ⟨w.heap.size+1,0,none⟩=some (.bool nb)) ((simp only [cellE w6];exact HC.out))
     (first
      |(go_at_call_of 208 (Value.slice B6 k6 d6);refine (rMakeN _ hN6 (by omega)).mono ?_;rintro e w8 ⟨g8,B8,k8,d8,rfl,hz8,hs8⟩)
      |(go_at_call_of 208 (Value.slice B7 k7 d7);refine (rMakeN _ hN7 (by omega)).mono ?_;rintro e w9 ⟨g9,B9,k9,d9,rfl,hz9,hs9⟩))
    all_goals (go_wp2_with fail;go_meet;refine ⟨_,_,g8,g9,B8,B9,k8,d8,k9,d9,rfl,rfl,by go_simp,by go_simp,by go_simp,by go_simp,?_,hz9.keeps,inferInstance,New.le,New.le⟩;simpa using hz8.keeps)
   case rest=>
    obtain ⟨p,p',g8,g9,B8,B9,k8,d8,k9,d9,rfl,rfl,e1,e2,e3,e4,hz8,hz9,hxc,hp6,hp6'⟩:=hcut
    have hs6':w.heap.size+1+1+1<w6.heap.size:=by have :=HX6.out.size;simp at this;omega
    have a1:Apart p (w.heap.size+1+1):=⟨by omega⟩
    have a2:Apart p (w.heap.size+1+1+1):=⟨by omega⟩
    have a3:Apart p' (w.heap.size+1+1):=⟨by omega⟩
    have a4:Apart p' (w.heap.size+1+1+1):=⟨by omega⟩
    have hk9:=HLY.out _ _ _ _ _ _ hz9 (by have :=HR0.out;simp only [sgn];simp;omega)
    have hsg:=fun W (hh:Ext wc W)=>rSign_any (w:=W) hz9 (by omega)
    rw [HTS.out] at hsg
    have HSG:=Lib.hid hsg
    have op:p<wc.heap.size:=lt_of_cell e1
    have op':p'<wc.heap.size:=lt_of_cell e3
    have oP:Old p wc:=⟨op⟩
    have oP':Old p' wc:=⟨op'⟩
    have H8:=Lib.hid hz8
    have H9:=Lib.hid hz9
    have hx4:=Lib.hid (HX6.out.trans hxc)
    clear hsg hz8 hz9 op op'
    go_wp2_with (go_at_call 175;refine (HSG.out _ inferInstance).mono ?_;rintro e w10 ⟨rfl,hs10⟩;have f1:w10.cell? ⟨p,0,none⟩=some (.bool g8):=(cellE wc).trans e1;have f2:w10.cell? ⟨p,1,none⟩=some (.slice B8 k8 d8):=(cellE wc).trans e2;have f3:w10.cell? ⟨p',0,none⟩=some (.bool g9):=(cellE wc).trans e3;have f4:w10.cell? ⟨p',1,none⟩=some (.slice B9 k9 d9):=(cellE wc).trans e4)
    have hx10:Ext ((((w.alloc (.cells #[.bool true,.slice A n c] 117)).alloc (.cells #[.bool nb,.slice B k d] 117)).alloc (.cells #[.bool false,.slice none 0 0] 117)).alloc (.cells #[.bool false,.slice none 0 0] 117)) w10:=hx4.out.trans inferInstance
    obtain ⟨-,⟨p0,p1,p2,p3,p4,p5⟩,⟨q0',q1',q2',q3',q4',q5'⟩⟩:=box4 w w10 (.bool true) (.slice A n c) (.bool nb) (.slice B k d) (.bool false) (.slice none 0 0) (.bool false) (.slice none 0 0) 117
    have P0:=Lib.hid p0
    have Q0:=Lib.hid q0'
    clear p0 q0' e1 e2 e3 e4
    have tp:Typed (w.heap.size+1+1) 117 w10:=⟨_,_,P0.out⟩
    have tq:Typed (w.heap.size+1+1+1) 117 w10:=⟨_,_,Q0.out⟩
    have hxw10:Ext w w10:=Ext.trans inferInstance hx10
    go_region_law fail
    all_goals
     go_wp2
     refine bodyPost_ret (v:= .tuple #[.agg #[.bool g8,.slice B8 k8 d8],.agg #[.bool g9,.slice B9 k9 d9],.bool true]) (by simp [results,Tryz.results232,go_sem,p1,p2,q1',q2']) rfl ⟨_,_,_,_,_,_,_,_,rfl,?_,?_,?_⟩
     ·rw [<-HE.out.1]
      exact H8.out.keeps
     ·rw [<-HE.out.2]
      have h9:=H9.out
      rw [show sgn true r=r by have :=HR0.out;simp [sgn];omega] at h9
      exact h9.keeps
     ·exact Step.of _ _
  ·exact rDivMod_neg ha hb h1 h2 hy0 hneg hrz
 ·obtain rfl:na=false:=by simp [hna];omega
  have HE:=Lib.hid (div_pos_case x y (by omega) hy0)
  rw [<-hnb] at HE
  generalize (x.natAbs:Int) / y.natAbs=q at*
  generalize (x.natAbs:Int)%y.natAbs=r at*
  have hsr:decide (cmpI (sgn false r) 0<0)=false:=by simp only [sgn];unfold cmpI;simp;split<;>omega
  obtain ⟨ts,hts⟩:∃t,cmpI (sgn false r) 0=t:=⟨_,rfl⟩
  rw [hts] at hsr
  have HTS:=Lib.hid hts
  clear hts
  clear hna hnb hneg
  go_enter Tryz.func232,Tryz.ntmps232
  go_wp2
  go_region_held3 (fun w'=>w'.cell? ⟨w.heap.size,1,none⟩=some (.slice A n c)/\w'.cell? ⟨w.heap.size+1,1,none⟩=some (.slice B k d)) (exact boxes2s w _ (.bool false) (.slice A n c) (.bool nb) (.slice B k d) 117 117)
   (first
    |(go_at_call_of 185 (Value.slice A n c);refine (HTA.out _ inferInstance).mono ?_;rintro e w4 ⟨B4,k4,d4,rfl,hN4,hs4⟩)
    |(go_at_call_of 185 (Value.slice B k d);refine (HTB.out _ inferInstance).mono ?_;rintro e w5 ⟨B5,k5,d5,rfl,hN5,hs5⟩))
  have hk5:=HK0.out _ _ _ _ hN5
  go_wp2_with (go_at_call 267;refine (HDV.out _ _ _ _ _ _ _ _ _ hN4 hN5 inferInstance inferInstance).mono ?_;rintro e w6 ⟨B6,k6,d6,B7,k7,d7,rfl,hN6,hN7,hs6⟩;obtain ⟨c1,c2,c3,c4⟩:=boxes2 w w6 (.bool false) (.slice A n c) (.bool nb) (.slice B k d) 117 117)
  have hqm:=HLQ.out _ _ _ _ hN6
  have hrm:=HLR.out _ _ _ _ hN7
  have o0:Old w.heap.size w6:=inferInstance
  have o1:Old (w.heap.size+1) w6:=inferInstance
  have HC:=Lib.hid (And.intro c1 c3)
  have hx6:Ext ((((w.alloc (.cells #[.bool false,.slice A n c] 117)).alloc (.cells #[.bool nb,.slice B k d] 117)).alloc (.cells #[.bool false,.slice none 0 0] 117)).alloc (.cells #[.bool false,.slice none 0 0] 117)) w6:=inferInstance
  have HX6:=Lib.hid hx6
  clear c1 c2 c3 c4 hx6
  go_cut [11,12] (fun s11 s12 wx=>∃(p p':Nat) (g8 g9:Bool) (B8 B9:Option Addr) (k8 d8 k9 d9:Nat),s11= .pointer (some ⟨p,0,none⟩)/\s12= .pointer (some ⟨p',0,none⟩)/\wx.cell? ⟨p,0,none⟩=some (.bool g8)/\wx.cell? ⟨p,1,none⟩=some (.slice B8 k8 d8)/\wx.cell? ⟨p',0,none⟩=some (.bool g9)/\wx.cell? ⟨p',1,none⟩=some (.slice B9 k9 d9)/\IntV wx g8 B8 k8 d8 (sgn nb q)/\IntV wx g9 B9 k9 d9 (sgn false r)/\Ext w6 wx/\w6.heap.size<=p/\w6.heap.size<=p')
  case first=>
   go_region_held3 (fun w'=>w'.cell? ⟨w.heap.size,0,none⟩=some (.bool false)/\w'.cell? ⟨w.heap.size+1,0,none⟩=some (.bool nb)) ((simp only [cellE w6];exact HC.out))
    (first
     |(go_at_call_of 208 (Value.slice B6 k6 d6);refine (rMakeN _ hN6 (by omega)).mono ?_;rintro e w8 ⟨g8,B8,k8,d8,rfl,hz8,hs8⟩)
     |(go_at_call_of 208 (Value.slice B7 k7 d7);refine (rMakeN _ hN7 (by omega)).mono ?_;rintro e w9 ⟨g9,B9,k9,d9,rfl,hz9,hs9⟩))
   all_goals (go_wp2_with fail;go_meet;refine ⟨_,_,g8,g9,B8,B9,k8,d8,k9,d9,rfl,rfl,by go_simp,by go_simp,by go_simp,by go_simp,?_,hz9.keeps,inferInstance,New.le,New.le⟩;simpa using hz8.keeps)
  case rest=>
   obtain ⟨p,p',g8,g9,B8,B9,k8,d8,k9,d9,rfl,rfl,e1,e2,e3,e4,hz8,hz9,hxc,hp6,hp6'⟩:=hcut
   have hs6':w.heap.size+1+1+1<w6.heap.size:=by have :=HX6.out.size;simp at this;omega
   have a1:Apart p (w.heap.size+1+1):=⟨by omega⟩
   have a2:Apart p (w.heap.size+1+1+1):=⟨by omega⟩
   have a3:Apart p' (w.heap.size+1+1):=⟨by omega⟩
   have a4:Apart p' (w.heap.size+1+1+1):=⟨by omega⟩
   have hk9:=HLY.out _ _ _ _ _ _ hz9 (by simp only [sgn];simp;omega)
   have hsg:=fun W (hh:Ext wc W)=>rSign_any (w:=W) hz9 (by omega)
   rw [HTS.out] at hsg
   have HSG:=Lib.hid hsg
   have op:p<wc.heap.size:=lt_of_cell e1
   have op':p'<wc.heap.size:=lt_of_cell e3
   have oP:Old p wc:=⟨op⟩
   have oP':Old p' wc:=⟨op'⟩
   have H8:=Lib.hid hz8
   have H9:=Lib.hid hz9
   have hx4:=Lib.hid (HX6.out.trans hxc)
   clear hsg hz8 hz9 op op'
   go_wp2_with (go_at_call 175;refine (HSG.out _ inferInstance).mono ?_;rintro e w10 ⟨rfl,hs10⟩;have f1:w10.cell? ⟨p,0,none⟩=some (.bool g8):=(cellE wc).trans e1;have f2:w10.cell? ⟨p,1,none⟩=some (.slice B8 k8 d8):=(cellE wc).trans e2;have f3:w10.cell? ⟨p',0,none⟩=some (.bool g9):=(cellE wc).trans e3;have f4:w10.cell? ⟨p',1,none⟩=some (.slice B9 k9 d9):=(cellE wc).trans e4)
   have hx10:Ext ((((w.alloc (.cells #[.bool false,.slice A n c] 117)).alloc (.cells #[.bool nb,.slice B k d] 117)).alloc (.cells #[.bool false,.slice none 0 0] 117)).alloc (.cells #[.bool false,.slice none 0 0] 117)) w10:=hx4.out.trans inferInstance
   obtain ⟨-,⟨p0,p1,p2,p3,p4,p5⟩,⟨q0',q1',q2',q3',q4',q5'⟩⟩:=box4 w w10 (.bool false) (.slice A n c) (.bool nb) (.slice B k d) (.bool false) (.slice none 0 0) (.bool false) (.slice none 0 0) 117
   have P0:=Lib.hid p0
   have Q0:=Lib.hid q0'
   clear p0 q0' e1 e2 e3 e4
   have tp:Typed (w.heap.size+1+1) 117 w10:=⟨_,_,P0.out⟩
   have tq:Typed (w.heap.size+1+1+1) 117 w10:=⟨_,_,Q0.out⟩
   have hxw10:Ext w w10:=Ext.trans inferInstance hx10
   go_region_law fail
   all_goals
    go_wp2
    refine bodyPost_ret (v:= .tuple #[.agg #[.bool g8,.slice B8 k8 d8],.agg #[.bool g9,.slice B9 k9 d9],.bool true]) (by simp [results,Tryz.results232,go_sem,p1,p2,q1',q2']) rfl ⟨_,_,_,_,_,_,_,_,rfl,?_,?_,?_⟩
    ·rw [<-HE.out.1]
     exact H8.out.keeps
    ·rw [<-HE.out.2]
     exact H9.out.keeps
    ·exact Step.of _ _
end Go.Proofs.YtijfjailmilkfaaGreat
namespace Go.Proofs.YtijfjailmilkfaaGreat
/-! ## Sizes in bits -/
def Bd (k:Nat) (z:Int):Prop:=z.natAbs<2^k
theorem Bd.mono {k l:Nat} {z:Int} (h:Bd k z) (hl:k<=l):Bd l z:=Nat.lt_of_lt_of_le h (Nat.pow_le_pow_right (by omega) hl)
theorem Bd.mul {k l:Nat} {x y:Int} (h:Bd k x) (h':Bd l y):Bd (k+l) (x*y):=by
 unfold Bd at*
 rw [Int.natAbs_mul,Nat.pow_add]
 exact Nat.mul_lt_mul_of_lt_of_lt h h'
theorem Bd.neg {k:Nat} {x:Int} (h:Bd k x):Bd k (-x):=by unfold Bd at*;rwa [Int.natAbs_neg]
theorem Bd.abs {k:Nat} {x:Int} (h:Bd k x):Bd k (x.natAbs:Int):=by unfold Bd at*;rwa [Int.natAbs_natCast]
theorem Bd.add {k:Nat} {x y:Int} (h:Bd k x) (h':Bd k y):Bd (k+1) (x+y):=by
 unfold Bd at*;rw [Nat.pow_succ];omega
theorem Bd.sub {k:Nat} {x y:Int} (h:Bd k x) (h':Bd k y):Bd (k+1) (x-y):=by
 unfold Bd at*;rw [Nat.pow_succ];omega
theorem Bd.div {k:Nat} {x:Int} (y:Int) (h:Bd k x):Bd k (x / y):=Nat.lt_of_le_of_lt (Int.natAbs_ediv_le_natAbs x y) h
theorem Bd.zero (k:Nat):Bd k 0:=Nat.pow_pos (by omega)
theorem Bd.le {k:Nat} {x y:Int} (h:Bd k x) (hy:y.natAbs<=x.natAbs):Bd k y:=Nat.lt_of_le_of_lt hy h
theorem Bd.one {k:Nat} (h:1<=k):Bd k 1:=Nat.lt_of_lt_of_le (by decide:(1:Int).natAbs<2^1) (Nat.pow_le_pow_right (by omega) h)
theorem Bd.of64 {x:Int} (h0:-9223372036854775808<=x) (h1:x<=9223372036854775807):Bd 64 x:=by
 unfold Bd
 have :(2:Nat)^64=18446744073709551616:=by decide
 omega
theorem pow32 (k:Nat):(4294967296:Nat)^k=2^(32*k):=by rw [Nat.pow_mul]
end Go.Proofs.YtijfjailmilkfaaGreat
namespace Go.Proofs.YtijfjailmilkfaaGreat
open La
def BdM (k:Nat) (a:List (List Int)):Prop:=∀i j,Bd k (ent a i j)
theorem BdM.mono {k l:Nat} {a:List (List Int)} (h:BdM k a) (hl:k<=l):BdM l a:=fun i j=>(h i j).mono hl
theorem BdM.tab {k n r:Nat} {F:Nat->Nat->Int} (h:∀i j,i<n->j<r->Bd k (F i j)):BdM k (tab F n r):=fun i j=>by
 by_cases hi:i<n/\j<r
 ·rw [ent_tab _ _ _ _ _ hi.1 hi.2];exact h i j hi.1 hi.2
 ·rw [ent_out (tab_allLen F n r) (by rw [tab_len];omega)];exact Bd.zero k
theorem ent_swap {a:List (List Int)} {p k:Nat} (hp:p<a.length) (hk:k<a.length) (i j:Nat):ent (swapRows a p k) i j=ent a (if i=k then p else if i=p then k else i) j:=by
 unfold swapRows ent
 simp only [List.getD_eq_getElem?_getD]
 by_cases h1:i=k
 ·subst h1
  rw [List.getElem?_set_self (by rw [List.length_set];exact hk),if_pos rfl,Option.getD_some]
 ·rw [List.getElem?_set_ne (by omega),if_neg h1]
  by_cases h2:i=p
  ·subst h2
   rw [List.getElem?_set_self hp,if_pos rfl,Option.getD_some]
  ·rw [List.getElem?_set_ne (by omega),if_neg h2]
theorem BdM.swap {k:Nat} {a:List (List Int)} (h:BdM k a) {p q:Nat} (hp:p<a.length) (hq:q<a.length):BdM k (swapRows a p q):=fun i j=>by
 rw [ent_swap hp hq];exact h _ _
theorem BdM.elim {k:Nat} {a:List (List Int)} (h:BdM k a) (n c:Nat) (last:Int):BdM (2*k+1) (elimStep n c last a):=by
 refine BdM.tab fun i j hi hj=>?_
 split
 ·refine Bd.div _ ?_
  have :=((h c c).mul (h i j)).sub ((h i c).mul (h c j))
  rwa [show k+k=2*k by omega] at this
 ·exact (h i j).mono (by omega)
def bitsAt (b s:Nat):Nat:=2^s*(b+1)-1
theorem bitsAt_zero (b:Nat):bitsAt b 0=b:=by simp [bitsAt]
theorem bitsAt_succ (b s:Nat):bitsAt b (s+1)=2*bitsAt b s+1:=by
 unfold bitsAt
 have :1<=2^s*(b+1):=Nat.mul_pos (Nat.pow_pos (by omega)) (by omega)
 rw [Nat.pow_succ,Nat.mul_comm (2^s) 2,Nat.mul_assoc];omega
theorem bitsAt_le {b s:Nat} (hs:s<=8):bitsAt b s<=256*(b+1):=by
 unfold bitsAt
 have :2^s<=2^8:=Nat.pow_le_pow_right (by omega) hs
 have :=Nat.mul_le_mul_right (b+1) this
 omega
/-! ## The state of the loop -/
def bigA:Rat:=((2^200:Nat):Rat)
inductive Rel (n:Nat) (a:List (List Int)):List (List Int)->Prop
 |refl:Rel n a a
 |red {h:List (List Int)} (i j:Nat) (q:Int):Rel n a h->j<i->i<n->Rel n a (congM n h (idRed n i j q))
 |swap {h:List (List Int)} (p:Nat):Rel n a h->p+1<n->Rel n a (congM n h (idSwap n p))
structure LS (n:Nat) (a h:List (List Int)) (N s i c:Nat):Prop where
 ll:LL n bigA (bigA^n) (bigA*n) (bigA*n*bigA^n) ((bigA^n)^n) N (ofZ (ent h)) s i c
 len:h.length=n
 all:AllLen h n
 det:dd (ofZ (ent h)) n<=10000
 n8:n<=8
 rel:Rel n a h
def nearQ (h:List (List Int)) (i j:Nat):Int:=(2*E (ent h) j i j+E (ent h) j j j) / (2*E (ent h) j j j)
theorem LS.red {n:Nat} {a h:List (List Int)} {N s i c:Nat} (hl:LS n a h N s i c) {i' j:Nat} (ha:AtRed (ofZ (ent h)) n i' j):
  LS n a (congM n h (idRed n i' j (nearQ h i' j))) N s i' (i'-j)/\rounds n N s i' (i'-j)<rounds n N s i c:=by
 have hpos:=hl.ll.j.pos
 have hj:j<n:=by have :=ha.hi;have :=ha.hj;omega
 have hE:=E_eq (ent h) j (hpos.le (by omega)).piv
 have hn:Near (ofZ (ent h)) i' j ((nearQ h i' j:Int):Rat):=near_exists hpos hj (E_pos hpos hj) (hE.1 i' j) (hE.1 j j)
 obtain ⟨h1,h2⟩:=hl.ll.red ha ⟨nearQ h i' j,rfl⟩ hn
 have hf:=form_red (q:=nearQ h i' j) hl.len hl.all ha.hi ha.hj
 refine ⟨⟨by rw [hf];exact h1,congM_len _ _ _,congM_all _ _ _,?_,hl.n8,.red _ _ _ hl.rel ha.hj ha.hi⟩,h2⟩
 rw [hf,dd_red _ ha.hj n hpos.piv]
 exact hl.det
theorem LS.swap {n:Nat} {a h:List (List Int)} {N s i c:Nat} (hl:LS n a h N s i c) {p:Nat} (ha:AtSwap (ofZ (ent h)) n p):
  LS n a (congM n h (idSwap n p)) N (s+1) 0 0/\rounds n N (s+1) 0 0<rounds n N s i c:=by
 have hpos:=hl.ll.j.pos
 obtain ⟨h1,h2⟩:=hl.ll.swap ha
 have hf:=form_swap hl.len hl.all ha.hp
 refine ⟨⟨by rw [hf];exact h1,congM_len _ _ _,congM_all _ _ _,?_,hl.n8,.swap _ hl.rel ha.hp⟩,h2⟩
 have hq:=S_pos hl.ll.j.sym hpos (i:=p+1) (l:=p) ha.hp (by omega)
 obtain ⟨t,ht⟩:∃t,n=p+2+t:=⟨n-(p+2),by have :=ha.hp;omega⟩
 have :=dd_swf_gt (p:=p) (f:=ofZ (ent h)) (hpos.le (by omega)).piv (by grind) t
 rw [<-ht] at this
 rw [hf,this]
 exact hl.det
theorem LS.sym {n:Nat} {a h:List (List Int)} {N s i c:Nat} (hl:LS n a h N s i c) (x y:Nat):ent h x y=ent h y x:=by
 have :=hl.ll.j.sym x y
 exact Rat.intCast_inj.1 this
theorem bound_nat {n:Nat} (h8:n<=8):2^200+n*(2^n*(2^200*n*(2^200)^n)*(2^n*(2^200*n*(2^200)^n))*2^200)<=2^4000:=by
 have h1:(2^200)^n<=(2^200)^8:=Nat.pow_le_pow_right (Nat.pow_pos (by omega)) h8
 have h2:2^n<=2^8:=Nat.pow_le_pow_right (by omega) h8
 have h3:2^200*n*(2^200)^n<=2^200*8*(2^200)^8:=Nat.mul_le_mul (Nat.mul_le_mul_left _ h8) h1
 have h4:=Nat.mul_le_mul h2 h3
 have h5:=Nat.mul_le_mul h8 (Nat.mul_le_mul_right (2^200) (Nat.mul_le_mul h4 h4))
 refine Nat.le_trans (Nat.add_le_add_left h5 _) ?_
 decide+kernel
theorem LS.bd {n:Nat} {a h:List (List Int)} {N s i c:Nat} (hl:LS n a h N s i c):BdM 4001 h:=fun x y=>by
 by_cases hxy:x<n/\y<n
 ·have b1:=hl.ll.j.bound hl.ll.cst x hxy.1
  have b2:=hl.ll.j.bound hl.ll.cst y hxy.2
  obtain ⟨m1,m2⟩:=entry_mean hl.ll.j.sym hl.ll.j.pos hxy.1 hxy.2
  have hb0:=bound_nat hl.n8
  obtain ⟨k,hk⟩:∃k:Nat,k=4000:=⟨_,rfl⟩
  rw [<-hk] at hb0
  have hk2:k+1<=4001:=by omega
  clear hk
  refine Bd.mono ?_ hk2
  have hb:=Rat.natCast_le_natCast.2 hb0
  simp only [Rat.natCast_add,Rat.natCast_mul,Rat.natCast_pow] at hb
  have e:bigA=((2:Nat):Rat)^200:=by unfold bigA;rw [Rat.natCast_pow]
  rw [e] at b1 b2
  have e2:((2:Nat):Rat)=2:=rfl
  rw [e2] at hb b1 b2
  have g1:ofZ (ent h) x y<=2^k:=by grind
  have g2:-(2^k)<=ofZ (ent h) x y:=by grind
  have e3:(2:Rat)^k=((2^k:Int):Rat):=by rw [Rat.intCast_pow];rfl
  have e4:ofZ (ent h) x y=((ent h x y:Int):Rat):=rfl
  rw [e3,e4] at g1 g2
  rw [<-Rat.intCast_neg] at g2
  have k1:=Rat.intCast_le_intCast.1 g1
  have k2:=Rat.intCast_le_intCast.1 g2
  unfold Bd
  have e5:((2^k:Nat):Int)=2^k:=by rw [Int.natCast_pow];rfl
  rw [<-e5] at k1 k2
  rw [Nat.pow_succ]
  have :0<2^k:=Nat.pow_pos (by omega)
  generalize 2^k=T at*
  omega
 ·rw [ent_out hl.all (by rw [hl.len];omega)];exact Bd.zero _
theorem LS.done {n:Nat} {a h:List (List Int)} {N s i c:Nat} (hl:LS n a h N s i c) (h1:∀r,r<n->Full (ofZ (ent h)) r) (h2:∀p,p+1<n->Lov (ofZ (ent h)) p):LLLed h:=by
 have hn:=hl.ll.cst.n1
 have hpos:=hl.ll.j.pos
 refine ⟨by rw [hl.len];exact hn,by rw [hl.len];exact hl.n8,by rw [hl.len];exact hl.all,fun x y _ _=>hl.sym x y,by rw [hl.len];exact hpos,by rw [hl.len];exact h1,by rw [hl.len];exact h2,?_⟩
 rw [hl.len]
 have h3:=(E_eq (ent h) (n-1) (hpos.le (by omega)).piv).1 (n-1) (n-1)
 have h4:=hl.det
 obtain ⟨t,rfl⟩:∃t,n=t+1:=⟨n-1,by omega⟩
 rw [Nat.add_sub_cancel] at h3 |-
 have e:dd (ofZ (ent h)) (t+1)=dd (ofZ (ent h)) t*S (ofZ (ent h)) t t t:=rfl
 rw [e,<-h3] at h4
 exact Rat.intCast_le_intCast.1 (by simpa using h4)
/-! ## The start -/
structure Gm (n:Nat) (a:List (List Int)):Prop where
 n1:1<=n
 n8:n<=8
 len:a.length=n
 all:AllLen a n
 sym:∀i j,i<n->j<n->ent a i j=ent a j i
 pos:Pos (ofZ (ent a)) n
 det:E (ent a) (n-1) (n-1) (n-1)<=10000
 bd:BdM 199 a
theorem pow_64_27 (m:Nat):(3:Rat)^(3*m)*2^m<=4^(3*m):=by
 induction m with
 |zero=>simp
 |succ m ih=>
  have e:3*(m+1)=3*m+3:=by omega
  have h1:(3:Rat)^3=27:=rfl
  have h2:(4:Rat)^3=64:=rfl
  rw [e,rpow_add 3 (3*m) 3,rpow_add 4 (3*m) 3,h1,h2,Rat.pow_succ]
  have h3:=pow_pos' 4 (by grind) (3*m)
  have h4:=mul_le_left (c:=(54:Rat)) (by grind) ih
  grind
def swapsN (n:Nat):Nat:=3*(200*n*n+1)
theorem start_N (n:Nat):(3:Rat)^swapsN n*(bigA^n)^n<4^swapsN n:=by
 have h:=pow_64_27 (200*n*n+1)
 have e:(bigA^n)^n=(2:Rat)^(200*n*n):=by
  unfold bigA
  have e2:(((2^200:Nat):Rat)^n)^n=(((((2^200)^n)^n:Nat)):Rat):=by simp only [Rat.natCast_pow]
  rw [e2,<-Nat.pow_mul,<-Nat.pow_mul,Rat.natCast_pow];simp only [Nat.mul_assoc];rfl
 rw [e]
 unfold swapsN
 rw [Rat.pow_succ] at h
 have h3:=pow_pos' 3 (by grind) (3*(200*n*n+1))
 have h4:=pow_pos' 2 (by grind) (200*n*n)
 have h5:=Rat.mul_pos (show 0<(3:Rat)^(3*(200*n*n+1)) by grind) (show 0<(2:Rat)^(200*n*n) by grind)
 grind
theorem Gm.start {n:Nat} {a:List (List Int)} (g:Gm n a):LS n a a (swapsN n) 0 0 0:=by
 have hs:Sym (ofZ (ent a)):=sym_of (by rw [g.len];exact g.all) (by rw [g.len];exact g.sym)
 have hA:(1:Rat)<=bigA:=by
  unfold bigA
  have :=natCast_le (show 1<=2^200 from Nat.pow_pos (by omega))
  exact this
 refine ⟨LL.start g.n1 hA hs g.pos (fun x y=>⟨ent a x y,rfl⟩) (fun r hr=>?_) (start_N n),g.len,g.all,?_,g.n8,.refl⟩
 ·have h1:=g.bd r r
  unfold Bd at h1
  have h2:ent a r r<=((2^200:Nat):Int):=by
   have :(2:Nat)^200=2^199*2:=Nat.pow_succ ..
   rw [this]
   generalize (2:Nat)^199=T at*
   omega
  have h3:=Rat.intCast_le_intCast.2 h2
  show ((ent a r r:Int):Rat)<=bigA
  unfold bigA
  rw [Rat.intCast_natCast] at h3
  exact h3
 ·obtain ⟨t,rfl⟩:∃t,n=t+1:=⟨n-1,by have :=g.n1;omega⟩
  have h3:=(E_eq (ent a) t (g.pos.le (by omega)).piv).1 t t
  have e:dd (ofZ (ent a)) (t+1)=dd (ofZ (ent a)) t*S (ofZ (ent a)) t t t:=rfl
  rw [e,<-h3]
  have :=Rat.intCast_le_intCast.2 g.det
  simpa using this
theorem S_diag_row {f:Mx} (h:∀i j,i≠j->f i j=0) (k:Nat):∀i j,k<=i->S f k i j=f i j:=by
 induction k with
 |zero=>intro i j _;rfl
 |succ k ih=>
  intro i j hi
  have h1:=ih i j (by omega)
  have h2:=ih i k (by omega)
  have h3:f i k=0:=h i k (by omega)
  show elim (S f k) k i j=f i j
  unfold elim
  rw [h1,h2,h3]
  grind
theorem dd_diag_le {f:Mx} {n:Nat} (h:∀i j,i≠j->f i j=0) (hd:∀i,i<n->1<=f i i/\f i i<=2) (k:Nat):k<=n->0<=dd f k/\dd f k<=2^k:=by
 induction k with
 |zero=>intro _;exact ⟨by show (0:Rat)<=1;grind,by rw [Rat.pow_zero];exact Rat.le_refl⟩
 |succ k ih=>
  intro hk
  obtain ⟨h1,h2⟩:=ih (by omega)
  obtain ⟨h3,h4⟩:=hd k (by omega)
  have e:dd f (k+1)=dd f k*f k k:=by
   show dd f k*S f k k k=_
   rw [S_diag_row h k k k (Nat.le_refl _)]
  rw [e,Rat.pow_succ]
  have a1:=mul_le_left h1 h4
  have a2:=Rat.mul_nonneg h1 (show 0<=f k k by grind)
  exact ⟨a2,by grind⟩
theorem diag_gm {n:Nat} {a:List (List Int)} (n1:1<=n) (n8:n<=8) (len:a.length=n) (all:AllLen a n) (hoff:∀i j,i≠j->ent a i j=0) (hd:∀i,i<n->1<=ent a i i/\ent a i i<=2):Gm n a:=by
 have ho:∀i j,i≠j->ofZ (ent a) i j=0:=fun i j hij=>by
  show ((ent a i j:Int):Rat)=0
  rw [hoff i j hij];rfl
 have hd':∀i,i<n->1<=ofZ (ent a) i i/\ofZ (ent a) i i<=2:=fun i hi=>by
  obtain ⟨h1,h2⟩:=hd i hi
  exact ⟨Rat.intCast_le_intCast.2 h1,Rat.intCast_le_intCast.2 h2⟩
 have hp:Pos (ofZ (ent a)) n:=fun l hl=>by
  rw [S_diag_row ho l l l (Nat.le_refl _)]
  have :=(hd' l hl).1
  grind
 refine ⟨n1,n8,len,all,fun i j _ _=>?_,hp,?_,fun i j=>?_⟩
 ·by_cases e:i=j
  ·rw [e]
  ·rw [hoff i j e,hoff j i (fun h=>e h.symm)]
 ·obtain ⟨t,rfl⟩:∃t,n=t+1:=⟨n-1,by omega⟩
  rw [Nat.add_sub_cancel]
  have h3:=(E_eq (ent a) t (hp.le (by omega)).piv).1 t t
  have h4:=(dd_diag_le ho hd' (t+1) (Nat.le_refl _)).2
  have e:dd (ofZ (ent a)) (t+1)=dd (ofZ (ent a)) t*S (ofZ (ent a)) t t t:=rfl
  rw [e,<-h3] at h4
  have h5:(2:Rat)^(t+1)<=2^8:=pow_mono' (by grind) n8
  have h6:(2:Rat)^8=256:=by rfl
  have h7:((E (ent a) t t t:Int):Rat)<=((10000:Int):Rat):=by
   simp only [Rat.intCast_ofNat]
   grind
  exact Rat.intCast_le_intCast.1 h7
 ·by_cases e:i=j
  ·subst e
   by_cases hi:i<n
   ·obtain ⟨h1,h2⟩:=hd i hi
    refine Bd.mono (k:=2) ?_ (by omega)
    unfold Bd
    have :(2:Nat)^2=4:=rfl
    omega
   ·rw [ent_out all (by rw [len];omega)];exact Bd.zero _
  ·rw [hoff i j e];exact Bd.zero _
theorem val_gm {n:Nat} {a:List (List Int)} (n1:1<=n) (n8:n<=8) (len:a.length=n) (all:AllLen a n) (hs:∀i,i<n->∀j,j<i->ent a i j=ent a j i) (hl:∀x∈leadF a,0<x) (hdet:detF a<=10000) (hb:BdM 199 a):Gm n a:=by
 have hp:Pos (ofZ (ent a)) n:=by have :=lead_pos.1 hl;rwa [len] at this
 refine ⟨n1,n8,len,all,fun i j hi hj=>?_,hp,?_,hb⟩
 ·rcases Nat.lt_trichotomy i j with h |h |h
  ·exact (hs j hj i h).symm
  ·rw [h]
  ·exact hs i hi j h
 ·rw [det_E (by omega) (fun l hl=>by have :=E_pos hp (k:=l) (by omega);omega),len] at hdet
  exact hdet
end Go.Proofs.YtijfjailmilkfaaGreat
namespace Go.Proofs.YtijfjailmilkfaaGreat
theorem gcd_step (x y:Int):(Int.gcd y (x%y):Int)=Int.gcd x y:=by
 rw [Int.emod_def,Int.gcd_sub_mul_left_right,Int.gcd_comm]
theorem gcd_abs (a b:Int):Int.gcd (a.natAbs:Int) (b.natAbs:Int)=Int.gcd a b:=by
 simp [Int.gcd]
structure RatOf (num den p q:Int):Prop where
 pos:0<q
 eq:p*den=num*q
 le1:p.natAbs<=num.natAbs
 le2:q.natAbs<=den.natAbs
theorem gcd_pos_of {num den:Int} (hd:den≠0):0<(Int.gcd num den:Int):=by
 have :Int.gcd num den≠0:=fun h=>hd (Int.gcd_eq_zero_iff.1 h).2
 omega
theorem RatOf.new {num den:Int} (hd:0<den):RatOf num den (num / Int.gcd num den) (den / Int.gcd num den):=by
 have hg:=gcd_pos_of (num:=num) (by omega:den≠0)
 obtain ⟨a,ha⟩:=Int.gcd_dvd_left (a:=num) (b:=den)
 obtain ⟨b,hb⟩:=Int.gcd_dvd_right (a:=num) (b:=den)
 generalize (Int.gcd num den:Int)=g at*
 have e1:num / g=a:=by rw [ha];exact Int.mul_ediv_cancel_left _ (by omega)
 have e2:den / g=b:=by rw [hb];exact Int.mul_ediv_cancel_left _ (by omega)
 refine ⟨?_,?_,Int.natAbs_ediv_le_natAbs _ _,Int.natAbs_ediv_le_natAbs _ _⟩
 ·rw [e2]
  rw [hb] at hd
  exact Int.pos_of_mul_pos_right hd (by omega)
 ·rw [e1,e2,ha,hb];grind
theorem ediv_cross {a b c d:Int} (hb:0<b) (hd:0<d) (h:a*d=c*b):a / b=c / d:=by
 have h1:a / b=(a*d) / (b*d):=(Int.mul_ediv_mul_of_pos_left a b hd).symm
 have h2:c / d=(c*b) / (d*b):=(Int.mul_ediv_mul_of_pos_left c d hb).symm
 rw [h1,h2,h,Int.mul_comm b d]
end Go.Proofs.YtijfjailmilkfaaGreat
namespace Go.Proofs.YtijfjailmilkfaaGreat
open Go.RowKit
class BlkAt (b:Nat) (cs:outParam (Array Value)) (T:outParam TypeId) (w:World):Prop where
 eq:w.heap[b]? =some (.cells cs T (0,0))
instance BlkAt.new (w:World) (n:Nat) (cs:Array Value) (T:TypeId) [h:Sz w n]:BlkAt n cs T (w.alloc (.cells cs T)):=⟨by rw [<-h.eq];exact heap_alloc_new w _⟩
instance (priority:=900) BlkAt.alloc (w:World) (b:Nat) (cs:Array Value) (T:TypeId) (o:Obj) [h:BlkAt b cs T w]:BlkAt b cs T (w.alloc o):=⟨(Below.heap_alloc w o b (lt_of_heap h.eq)).trans h.eq⟩
instance BlkAt.drew (w:World) (b:Nat) (cs:Array Value) (T:TypeId) [h:BlkAt b cs T w]:BlkAt b cs T w.drew:=⟨h.eq⟩
instance BlkAt.drewN (w:World) (b k:Nat) (cs:Array Value) (T:TypeId) [h:BlkAt b cs T w]:BlkAt b cs T (w.drewN k):=⟨h.eq⟩
instance (priority:=50) BlkAt.step (W w':World) (b:Nat) (cs:Array Value) (T:TypeId) [s:Step W w'] [h:BlkAt b cs T W]:BlkAt b cs T w':=⟨heap_of_ext s.ext h.eq⟩
instance BlkAt.set (w:World) (b i:Nat) (cs:Array Value) (T:TypeId) (u:Value) [h:BlkAt b cs T w]:BlkAt b (cs.setIfInBounds i u) T (w.setCell ⟨b,i,none⟩ u):=⟨heap_setCell_self h.eq u⟩
instance (priority:=900) BlkAt.far (w:World) (b b' i:Nat) (cs:Array Value) (T:TypeId) (u:Value) [h:BlkAt b cs T w] [ha:Apart b b']:BlkAt b cs T (w.setCell ⟨b',i,none⟩ u):=⟨heap_setCell_far h.eq ha.ne u⟩
instance Apart.s1 (n:Nat):Apart n (n+1):=⟨by omega⟩
instance Apart.s1' (n:Nat):Apart (n+1) n:=⟨by omega⟩
instance Apart.s2 (n:Nat):Apart n (n+1+1):=⟨by omega⟩
instance Apart.s2' (n:Nat):Apart (n+1+1) n:=⟨by omega⟩
instance Apart.s3 (n:Nat):Apart n (n+1+1+1):=⟨by omega⟩
instance Apart.s3' (n:Nat):Apart (n+1+1+1) n:=⟨by omega⟩
def Box (w:World) (b:Nat) (z:Int):Prop:=∃g B n c,w.heap[b]? =some (.cells #[.bool g,.slice B n c] 117 (0,0))/\IntV w g B n c z
section
variable {w w':World} {b b':Nat} {z:Int}
theorem Box.ext (h:Box w b z) (hx:Ext w w'):Box w' b z:=by
 obtain ⟨g,B,n,c,h1,h2⟩:=h
 exact ⟨g,B,n,c,heap_of_ext hx h1,h2.ext hx⟩
theorem Box.lt (h:Box w b z):b<w.heap.size:=by
 obtain ⟨g,B,n,c,h1,h2⟩:=h
 exact lt_of_heap h1
theorem Box.cells (h:Box w b z):∃g B n c,w.heap[b]? =some (.cells #[.bool g,.slice B n c] 117 (0,0))/\w.cell? ⟨b,0,none⟩=some (.bool g)/\w.cell? ⟨b,1,none⟩=some (.slice B n c)/\w.frozen? ⟨b,0,none⟩=false/\w.frozen? ⟨b,1,none⟩=false/\b<w.heap.size/\IntV w g B n c z:=by
 obtain ⟨g,B,n,c,h1,h2⟩:=h
 obtain ⟨a1,a2,a3,a4,a5⟩:=box_cells2 h1
 exact ⟨g,B,n,c,h1,a1,a2,a3,a4,a5,h2⟩
theorem Box.put {g:Bool} {B:Option Addr} {n c:Nat} {x y:Value} (h:w.heap[b]? =some (.cells #[x,y] 117 (0,0))) (hz:IntV w g B n c z):Box ((w.setCell ⟨b,0,none⟩ (.bool g)).setCell ⟨b,1,none⟩ (.slice B n c)) b z:=by
 refine ⟨g,B,n,c,?_,hz.boxed (by decide) h _ _⟩
 exact box_set2_1 (box_set2_0 h)
theorem Box.far {cs:Array Value} (h:Box w b z) (h':w.heap[b']? =some (.cells cs 117 (0,0))) (hne:b≠b') (i j:Nat) (u v:Value):Box ((w.setCell ⟨b',i,none⟩ u).setCell ⟨b',j,none⟩ v) b z:=by
 obtain ⟨g,B,n,c,h1,h2⟩:=h
 refine ⟨g,B,n,c,heap_setCell_far (heap_setCell_far h1 hne u) hne v,?_⟩
 exact (h2.setCell (p:=⟨b',i,none⟩) h' (by decide) u).setCell (p:=⟨b',j,none⟩) (heap_setCell_self h' u) (by decide) v
theorem Box.oth {T:TypeId} (h:Box w b z) (ho:Oth T w w') (h1:117≠T) (h2:280≠T):Box w' b z:=by
 obtain ⟨g,B,n,c,a1,a2⟩:=h
 exact ⟨g,B,n,c,ho _ _ _ _ h1 a1,a2.oth ho h2⟩
end
end Go.Proofs.YtijfjailmilkfaaGreat
