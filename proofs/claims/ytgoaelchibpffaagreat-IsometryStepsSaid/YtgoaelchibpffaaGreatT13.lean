import Derived.Test.YtgoaelchibpffaaGreatT12
import Derived.Test.YtgoaelchibpffaaGreatT11
set_option maxHeartbeats 8000000
set_option linter.unusedVariables false
set_option linter.unusedSimpArgs false
namespace Go.Proofs.YtgoaelchibpffaaGreat
variable {g na:Bool} {Q R bt den q0 x y z:Int} {h:List (List Int)} {l p:List Int} {N b c d d' i k k' n s:Nat} {A B B':Option Addr} {W w w' w0 w1 wr:World}
section
open Go.RowKit
theorem znf(x cy:Int)(hc0:0<=cy)(hc1:cy<=1):bits .or .u32 (x*2%4294967296) cy=(2*x+cy)%4294967296:=by
 rw[u32_or _ _ aa aa hc0 aa];rcases(aa:cy=0∨cy=1) with h|h
 ·subst h;simp;omega
 ·subst h;have:=zg6 (x*2%4294967296).toNat 0 aa;simp only[Nat.pow_zero]at this;rw[show (1:Int).toNat=1 from rfl,this];omega
theorem zng(bit:Int)(hb0:0<=bit)(hb1:bit<=1)(ha':Ints w0 A 212 .u32 l)(hl:Limbs l)(h1:l.length<=274877906944)[hx:Ext w0 w]:
  Cq 283 #[.slice A l.length c,.int .u32 bit] w (QG w (2*val l+bit) (l.length+1)):=by
 have ha:=ha'.ext hx;obtain⟨bit0,zvC⟩:∃b,b=bit:=⟨_,rfl⟩;have HB0:=Zh zvC;clear zvC;go_enter Tryz.func283,Tryz.ntmps283;go_wp2;go_loopw [1,5,7,10] (fun bv v _ i wr=>∃(k:Nat) (s:List Int) (cy:Int) (A1:Option Addr) (c1:Nat),k<=l.length/\i= .int .i64 k/\v= .slice A1 k c1/\bv= .int .u32 cy/\0<=cy/\cy<=1/\Hid (s.length=k)/\Hid (Limbs s)/\Hid (val s+(4294967296:Int)^k*cy=2*val (l.take k)+bit0)/\Hid (Own wr w.heap.size 212 1 A1 k c1 (s.map (Value.int .u32)))/\Ext w wr) (fun _ _ _ i _=>l.length-(intOf i).toNat)
 case atStart=>exact⟨0,[],bit,none,0,aa,rfl,rfl,rfl,aa,aa,Zh rfl,Zh Limbs.nil,Zh (by simp[val,HB0.out]),Zh (Own.nil _ _ _ _),Zi⟩
 case round=>
  obtain⟨k,s,cy,A1,c1,hk,rfl,rfl,rfl,hc0,hc1,HS,HLs,HV,HO,hxr⟩:=hrel;by_cases hkl:k<l.length
  ·obtain⟨b,o,x,rfl,hx',hcx,hbx⟩:=(ha.ext hxr).at_ (i:=k) aa;obtain⟨hx0,hx1⟩:=hl.get hx';have HX:=Zh (ZK hx');clear hx';go_wp2_with (at_builtin;refine Zp _ rfl _ _ 100 rfl w.heap.size 212 (.int .u32 0) 1 4 Tryz.underlying100 Tryz.infoU32 rfl aa aa A1 k c1 (s.map (Value.int .u32)) rfl (HO.out.ext Zi) _ 1 1 _ rfl (jC _ _) rfl (jD _) aa (by have:=hxr.size;simp;omega) ?_;intro A2 c2 w2 zsq hg;have HO2:=Zh (jB HS.out zsq);have hx2:Ext w w2:=hg.ext Zi Zr;clear zsq hg)
   rw[znf x cy hc0 hc1]at HO2;have hcd:x / 2147483648=(2*x+cy) / 4294967296:=aa
   refine⟨⟨k+1,s++[(2*x+cy)%4294967296],x / 2147483648,A2,c2,aa,by go_num,rfl,rfl,aa,aa,Zh (qA HS.out _),Zh (HLs.out.snoc aa aa),Zh ?_,HO2,Zi⟩,by simp[intOf]<;>omega⟩;rw[hcd,Qn HS.out cy (2*x+cy) _ (2*((4294967296:Int)^k*x)) HV.out (by rw[(aa:2*x+cy-cy=2*x),Int.mul_left_comm]),HX.out];omega
  ·obtain rfl:k=l.length:=aa
   have zst:=HV.out;rw[ZU Zr]at zst;have HF:=Zh zst;clear zst HV;go_wp2_with (at_builtin;refine Zp _ rfl _ _ 100 rfl w.heap.size 212 (.int .u32 0) 1 4 Tryz.underlying100 Tryz.infoU32 rfl aa aa A1 l.length c1 (s.map (Value.int .u32)) rfl (HO.out.ext Zi) _ 1 1 _ rfl (jC _ _) rfl (jD _) aa (by have:=hxr.size;simp;omega) ?_;intro A2 c2 w2 zsq hg;have HO2:=Zh (jB HS.out zsq);have hx2:Ext w w2:=hg.ext Zi Zr;clear zsq hg)
   go_ret;have e1:(s++[cy]).length=l.length+1:=qA HS.out _;have:=zdt (w:=w) (n:=l.length+1) (HLs.out.snoc hc0 aa) (show val (s++[cy])=2*val l+bit by rw[JK,HS.out,HF.out,HB0.out]) aa (by rw[e1];exact HO2.out) Zi;rw[e1]at this;simpa using this
theorem znh(g:Bool)(B:Option Addr)(k d:Nat)(w:World):(Instr.field 102 (.agg #[.bool g,.slice B k d]) 1).run Tryz.prog w= .ok (.slice B k d) w:=by
 simp[Instr.field,run_underlying Tryz.underlying102,asAgg,part,sizeOf,typeInfo,go_sem]
theorem zni(g:Bool)(B:Option Addr)(k d:Nat)(w:World):(Instr.field 102 (.agg #[.bool g,.slice B k d]) 0).run Tryz.prog w= .ok (.bool g) w:=by
 simp[Instr.field,run_underlying Tryz.underlying102,asAgg,part,sizeOf,typeInfo,go_sem]
attribute [go_sem] znh zni
def zbj(w:World)(q r:Int)(e:Ending)(w':World):Prop:=∃B k d B' k' d',e= .returned (.tuple #[.slice B k d,.slice B' k' d'])/\NatV w' B k d q/\NatV w' B' k' d' r/\Step w w'
theorem NatV.za(h:NatV w A n c z)(h2:n<=2):0<=z/\z<18446744073709551616:=by
 obtain⟨l,rfl,a1,a2,a3,rfl,a5,a6⟩:=h;have:=qH a2;have:=zaV h2;exact⟨QC a2,aa⟩
theorem zg8(h:NatV w0 A n c z)(h2:n<=2)[hx:Ext w0 w]:Cq 120 #[.slice A n c] w (Zq w (.int .u64 z)):=by
 obtain⟨l,rfl,a1,a2,a3,rfl,a5,a6⟩:=h;have:=zfV (w:=w) (c:=c) a1 a2 aa;rwa [zfW h2]at this
theorem NatV.of_int{q:Int}(h:IntV w g B k d (zp false q))(h0:0<=q):NatV w B k d q:=by
 have:=h.nat;rwa [show ((zp false q).natAbs:Int)=q by simp[zp];omega]at this
theorem znj(ha:NatV w0 A n c x)(hb:NatV w1 B k d y)(hn:n<=2)(hk:k<=2)(hy0:0<y)[hx:Ext w0 w][hy:Ext w1 w]:
  Cq 244 #[.slice A n c,.slice B k d] w (zbj w (x / y) (x%y)):=by
 obtain⟨x0,x1⟩:=ha.za hn;obtain⟨y0,y1⟩:=hb.za hk;have q0:0<=x / y:=Int.ediv_nonneg x0 aa;have q1:x / y<18446744073709551616:=by have:=Int.ediv_le_self (a:=x) y x0;omega
 have r0:0<=x%y:=Int.emod_nonneg x aa;have r1:x%y<18446744073709551616:=by have:=Int.emod_lt_of_pos x hy0;omega
 have hla:=fun W(hh:Ext w0 W)=>zg8 (w:=W) ha hn
 have hlb:=fun W(hh:Ext w1 W)=>zg8 (w:=W) hb hk
 have HLA:=Zh hla;have HLB:=Zh hlb;have HQ:=Zh (fun W=>zbZ false (x / y) q0 q1 W);have HR:=Zh (fun W=>zbZ false (x%y) r0 r1 W);have htq:Int.tdiv x y=x / y:=Int.tdiv_eq_ediv_of_nonneg x0;have htr:Int.tmod x y=x%y:=Int.tmod_eq_emod_of_nonneg x0;obtain⟨qq,hqq⟩:∃q,x / y=q:=⟨_,rfl⟩;obtain⟨rr,hrr⟩:∃r,x%y=r:=⟨_,rfl⟩;rw[hqq]at HQ htq q0 q1|-
 rw[hrr]at HR htr r0 r1|-
 have hyz:(y==0)=false:=by simp;omega
 have hyn:¬y=0:=aa
 have e3:IntKind.u64.wrap qq=qq:=by rw[IntKind.wrap_u64];omega
 have e4:IntKind.u64.wrap rr=rr:=by rw[IntKind.wrap_u64];omega
 clear hla hlb;go_enter Tryz.func244,Tryz.ntmps244;go_wp2_with (first
  |(go_at_call_of 120 (Value.slice A n c);refine(HLA.out _ Zi).mono ?_;rintro e w4 ⟨rfl,rfl⟩)
  |(go_at_call_of 120 (Value.slice B k d);refine(HLB.out _ Zi).mono ?_;rintro e w5 ⟨rfl,rfl⟩))
 go_region_held3 (fun _=>True) (trivial)
  (first
   |(go_at_call_of 178 (Value.int IntKind.u64 qq);refine(HQ.out _).mono ?_;rintro e w6 ⟨g6,B6,k6,d6,rfl,hz6,hs6⟩)
   |(go_at_call_of 178 (Value.int IntKind.u64 rr);refine(HR.out _).mono ?_;rintro e w7 ⟨g7,B7,k7,d7,rfl,hz7,hs7⟩))
 all_goals
  go_wp2;go_ret2
  first
   |exact⟨B6,k6,d6,B7,k7,d7,rfl,(NatV.of_int hz6 q0).ext Zi,(NatV.of_int hz7 r0).ext Zi,Step.of _ _⟩
theorem zg9{e:Ending}(h:QG w0 z n e w')(hn:n<=1099511627776):∃B k d,e= .returned (.slice B k d)/\Step w0 w'/\(∀W,Ext w' W->Cq 119 #[.slice B k d] W (RetNatX W z)):=by
 obtain⟨B,d,l',rfl,q2,q3,rfl,q5,q6,q7,q8⟩:=h;exact⟨B,l'.length,d,rfl,q8,fun W hh=>zfT q2 q3 q6 q7 aa⟩
theorem znk{bit:Int}(h:NatV w0 A n c z)(hb0:0<=bit)(hb1:bit<=1)(h1:n<=274877906944)[hx:Ext w0 w]:Cq 283 #[.slice A n c,.int .u32 bit] w (QG w (2*z+bit) 274877906945):=by
 obtain⟨l,rfl,a1,a2,a3,rfl,a5,a6⟩:=h;refine(zng bit hb0 hb1 a1 a2 h1).mono ?_;rintro e w' ⟨B,d,l',q1,q2,q3,q4,q5,q6,q7,q8⟩;exact⟨B,d,l',q1,q2,q3,q4,aa,q6,q7,q8⟩
structure DivM(w wr:World)(l:List Int)(N:Int)(j:Nat)(Q R:Int)(p:List Int)(B:Option Addr)(k d:Nat):Prop where
 div:DivI (val l) N j Q R
 len:p.length=l.length
 limbs:Limbs p
 q:val p=Q*2^j
 row:Row wr w.heap.size 212 .u32 p
 rest:NatX (w.heap.size+1) wr B k d R
 small:k<=274877906944
 ext:Ext w wr
theorem znl(x:Int)(k:Nat)(h0:0<=x)(h1:x<4294967296):bits .and .u32 (x / 2^k) 1=(x / 2^k)%2:=by
 have a1:0<=x / 2^k:=Int.ediv_nonneg h0 (Int.le_of_lt (Int.pow_pos ac));have a2:x / 2^k<=x:=Int.ediv_le_self _ h0;rw[u32_and _ _ a1 aa aa aa,show (1:Int).toNat=1 from rfl,Nat.and_one_is_mod];omega
theorem znm(hp:Limbs p){j:Nat}(hq:p[j]? =some q0)(hs:s<32)(h:val p=Q*2^(32*j+s+1)):q0%2^(s+1)=0:=by
 have h1:=zg5 hq;have h2:=QC (hp.take j);have h3:=qH (hp.take j);have hj:j<p.length:=(Zg.1 hq).1;rw[List.length_take,Nat.min_eq_left aa]at h3;have hpp:=jf j;have e1:val p / (4294967296:Int)^j=q0+4294967296*val (p.drop (j+1)):=by
  rw[h1,Int.add_mul_ediv_left _ _ aa,Int.ediv_eq_zero_of_lt h2 h3];omega
 have e2:val p / (4294967296:Int)^j=Q*2^(s+1):=by
  rw[h,(aa:32*j+s+1=32*j+(s+1)),Int.pow_add,<-zch,<-Int.mul_assoc,Int.mul_comm Q,Int.mul_assoc,Int.mul_ediv_cancel_left _ aa]
 obtain⟨t,ht⟩:∃t,32=(s+1)+t:=⟨31-s,aa⟩;have e3:(4294967296:Int)=2^(s+1)*2^t:=by
  rw[<-Int.pow_add,<-ht];rfl
 have e4:q0=2^(s+1)*(Q-2^t*val (p.drop (j+1))):=by
  have:q0+2^(s+1)*2^t*val (p.drop (j+1))=Q*2^(s+1):=by rw[<-e3,<-e1,e2]
  grind
 rw[e4,Int.mul_emod_right]
theorem znn(h0:0<=q0)(h1:q0<4294967296)(hs:s<32)(hz:q0%2^(s+1)=0):bits .or .u32 q0 (2^s%4294967296)=q0+2^s/\q0+2^s<4294967296:=by
 have hp:(2:Nat)^s<2^32:=Nat.pow_lt_pow_right aa hs;have hp2:((2^s:Nat):Int)=(2:Int)^s:=af
 have hp1:((2^(s+1):Nat):Int)=(2:Int)^(s+1):=af
 have e1:(2:Int)^s%4294967296=2^s:=Int.emod_eq_of_lt (Int.le_of_lt (Int.pow_pos ac)) aa;obtain⟨n,rfl⟩:∃n:Nat,q0=n:=⟨q0.toNat,aa⟩;have hn:n%2^(s+1)=0:=by
  have:((n%2^(s+1):Nat):Int)=0:=by rw[Int.natCast_emod,hp1];exact hz
  omega
 have ho:=zg6 n s hn;rw[e1,<-hp2,u32_or _ _ aa h1 aa aa,Int.toNat_natCast,Int.toNat_natCast,ho];refine⟨af,?_⟩;obtain⟨t,ht⟩:∃t,32=(s+1)+t:=⟨31-s,aa⟩;obtain⟨a,ha⟩:=Nat.dvd_of_mod_eq_zero hn;have e3:(4294967296:Nat)=2^(s+1)*2^t:=by rw[<-Nat.pow_add,<-ht]
 have h5:a<2^t:=by
  have:2^(s+1)*a<2^(s+1)*2^t:=by rw[<-ha,<-e3];omega
  exact Nat.lt_of_mul_lt_mul_left this
 have h6:2^(s+1)*(a+1)<=2^(s+1)*2^t:=Nat.mul_le_mul_left _ h5;have h7:2^s<2^(s+1):=Nat.pow_lt_pow_right aa aa;rw[Nat.mul_add,<-ha,<-e3]at h6;omega
theorem DivM.low{N:Int}(h:DivM w wr l N (i+1) Q R p B k d)(hb:(val l / 2^i)%2=bt)(hlt:2*R+bt<N)(hx:Ext wr W)(hN:NatX (w.heap.size+1) W B' k' d' (2*R+bt))(hk:k'<=274877906944):DivM w W l N i (2*Q) (2*R+bt) p B' k' d':=by
 subst hb;exact⟨h.div.low hlt,h.len,h.limbs,by rw[h.q,Int.pow_succ];grind,h.row.ext hx,hN,hk,h.ext.trans hx⟩
theorem DivM.high{N:Int}(h:DivM w wr l N (i+1) Q R p B k d)(hb:(val l / 2^i)%2=bt)(hge:N<=2*R+bt)(hx:Ext wr W)(hN:NatX (w.heap.size+1) W B' k' d' (2*R+bt-N))(hk:k'<=274877906944)(hq:p[i / 32]? =some q0):
  DivM w ((W.setCell ⟨w.heap.size,i / 32,none⟩ (.int .u32 (bits .or .u32 q0 (2^(i%32)%4294967296)))).drew) l N i (2*Q+1) (2*R+bt-N) (p.set (i / 32) (q0+2^(i%32))) B' k' d':=by
 subst hb;have hq':=h.limbs.get hq;have hz:=znm h.limbs hq (s:=i%32) aa (Q:=Q) (by rw[h.q];congr 2;omega);obtain⟨o1,o2⟩:=znn hq'.1 hq'.2 (s:=i%32) aa hz;have hps:(0:Int)<2^(i%32):=Int.pow_pos ac;rw[o1];refine⟨h.div.high hge,by rw[List.length_set];exact h.len,h.limbs.set _ aa o2,?_,?_,?_,hk,?_⟩
 ·rw[zaY hq,h.q,(aa:q0+2^(i%32)-q0=2^(i%32)),zch,<-Int.pow_add,(aa:32*(i / 32)+i%32=i),Int.pow_succ];grind
 ·exact((h.row.ext hx).set _ _).ext Zi
 ·exact(hN.set (p:=⟨w.heap.size,i / 32,none⟩) af (.int .u32 (q0+2^(i%32)))).ext Zi
 ·exact((h.ext.trans hx).setCell (p:=⟨w.heap.size,i / 32,none⟩) Zr (.int .u32 (q0+2^(i%32)))).trans Zi
theorem zno(ha':Ints w0 A 212 .u32 l)(hl:Limbs l)(hb:NatV w1 B k d y)(zs4:2<l.length∨2<k)(h1:l.length<=274877906943)(h2:k<=274877906943)(hy0:0<y)[hx:Ext w0 w][hy:Ext w1 w]:
  Cq 244 #[.slice A l.length c,.slice B k d] w (zbj w (val l / y) (val l%y)):=by
 have ha:=ha'.ext hx;have hmk:=qz (P:=Tryz.prog) Tryz.underlying100 Tryz.infoU32 aa (l.length:Int) aa aa;have HB:=Zh hb;have HY:Hid (∀(W:World)A1 n1 c1 z,NatV W A1 n1 c1 z->z<2*y->n1<=274877906944):=Zh (by
  intro W A1 n1 c1 z hN hz;obtain⟨m,rfl,b1,b2,b3,rfl,b5,b6⟩:=hb;have h3:=qH b2;have h4:=hN.len (k:=m.length+1) (by rw[Int.pow_succ];omega);omega)
 clear hb;go_enter Tryz.func244,Tryz.ntmps244;by_cases hl2:l.length<=2
 all_goals
  first
   |(have hkb:decide ((k:Int)<=2)=false:=by simp;omega)
   |skip
  go_wp2;go_loopw [5,8] (fun v i wr=>∃(j:Nat) (Q R:Int) (p:List Int) (B1:Option Addr) (k1 d1:Nat),j<=32*l.length/\i= .int .i64 ((j:Int)-1)/\v= .slice B1 k1 d1/\Hid (DivM w wr l y j Q R p B1 k1 d1)) (fun _ i _=>(intOf i+1).toNat)
  case atStart=>
   refine⟨32*l.length,0,0,List.replicate l.length 0,none,0,0,aa,af,rfl,Zh ⟨DivI.start (QC hl) (by rw[<-zch];exact qH hl) hy0,af,?_,by rw[zdd];simp,Row.made w _ _ _,⟨[],rfl,Own.nil _ _ _ _,Limbs.nil,Tight.nil,rfl⟩,aa,Zi⟩⟩;intro x hx;rw[List.eq_of_mem_replicate hx];omega
  case round=>
   obtain⟨j,Q,R,p,B1,k1,d1,hj,rfl,rfl,HD⟩:=hrel
   cases j with
   |zero=>
    obtain⟨e1,e2⟩:=HD.out.div.done;have hvq:=HD.out.q;rw[Int.pow_zero,Int.mul_one,e1]at hvq;have hT:=fun W(hh:Ext wr W)=>zbY (w:=W) (c:=l.length) HD.out.row.ints HD.out.limbs (by rw[HD.out.len];omega) aa (by rw[HD.out.len];omega)
    rw[hvq,HD.out.len]at hT;have HT:=Zh hT;have hrn:=HD.out.rest.nat;rw[e2]at hrn;have HRN:=Zh hrn;have HXE:=Zh HD.out.ext;clear hT e1 e2 hvq hrn HD;go_wp2_with (go_at_call 119;refine(HT.out _ Zi).mono ?_;intro e w3 hr;obtain⟨B3,n3,d3,rfl,hN3,hs3⟩:=NatV.of_ret hr;clear hr)
    go_ret2
    exact⟨B3,n3,d3,B1,k1,d1,rfl,hN3,HRN.out.ext Zi,(HXE.out.trans Zi).toStep⟩
   |succ i=>
    rw[(aa:((i+1:Nat):Int)-1=(i:Int))];obtain⟨b,o,x,rfl,hx',hcx,hbx⟩:=(ha.ext HD.out.ext).at_ (i:=i / 32) aa;obtain⟨hx0,hx1⟩:=hl.get hx';have HX:=Zh hx';clear hx';have zvD:(x / 2^(i%32))%2=(val l / 2^i)%2:=by
     have:=zne hl HX.out (k:=i%32) aa;rwa [(aa:32*(i / 32)+i%32=i)]at this
    have HBT:=Zh ((znl x (i%32) hx0 hx1).trans zvD);clear zvD;obtain⟨bt,hbt⟩:=Yz ((val l / 2^i)%2);have zw2:0<=bt:=aa
    have zw3:bt<=1:=aa
    rw[hbt]at HBT;have HBV:=Zh hbt;clear hbt;have hR2:R<y:=HD.out.div.r1;have hR0:0<=R:=HD.out.div.r0;go_wp2_with fail
    rw[HBT.out];refine(znk HD.out.rest.nat zw2 zw3 HD.out.small).mono ?_;rintro e w2 hR;obtain⟨B2,k2,d2,rfl,hs2,hT2⟩:=zg9 hR aa;have HT2:=Zh hT2;clear hR hT2;have hxw:Ext wr w2:=Zi;have HXW:=Zh (HD.out.ext.trans hxw);clear hxw;have HC:Hid (∀(W0 W:World)B1 k1 d1,NatV W0 B1 k1 d1 (2*R+bt)->Ext W0 W->Ext w W->Cq 171 #[.slice B1 k1 d1,.slice B k d] W (zA W (.int .i64 (zo (2*R+bt) y)))):=Zh (fun W0 W B1 k1 d1 a e1 e2=>have:Ext w1 W:=hy.trans e2;zdr a HB.out)
    by_cases hge:y<=2*R+bt
    ·have zuR:0<=zo (2*R+bt) y:=by unfold zo;split;omega;split<;>omega
     obtain⟨t,ht⟩:=Yz (zo (2*R+bt) y);rw[ht]at HC zuR;have hgb:decide (0<=t)=true:=by simpa using zuR
     have HDF:Hid (∀(W0 W:World)B1 k1 d1,NatV W0 B1 k1 d1 (2*R+bt)->Ext W0 W->Ext w W->Cq 243 #[.slice B1 k1 d1,.slice B k d] W (QG W (2*R+bt-y) 274877906945)):=Zh (fun W0 W B1 k1 d1 a e1 e2=>have:Ext w1 W:=hy.trans e2;zdu a HB.out (HY.out _ _ _ _ _ a aa) hge);clear ht zuR;go_wp2_with (first
      |(go_at_call_of 119 (Value.slice B2 k2 d2);refine(HT2.out _ Zi).mono ?_;rintro e w3 ⟨B3,k3,d3,rfl,hN3,hs3⟩;have zsR:Ext w w3:=HXW.out.trans Zi)
      |(go_at_call 171;refine(HC.out _ _ _ _ _ hN3.nat Zi zsR).mono ?_;rintro e w4 ⟨rfl,hs4⟩;have ztY:Ext w w4:=zsR.trans Zi)
      |(go_at_call 243;refine(HDF.out _ _ _ _ _ hN3.nat Zi ztY).mono ?_;rintro e w5 hR5;obtain⟨B5,k5,d5,rfl,hs5,hT5⟩:=zg9 hR5 aa;have HT5:=Zh hT5;clear hR5 hT5)
      |(go_at_call_of 119 (Value.slice B5 k5 d5);refine(HT5.out _ Zi).mono ?_;rintro e w6 ⟨B6,k6,d6,rfl,hN6,hs6⟩))
     have ztw:=HD.out.row.ext (Zi:Ext wr w6);have zw4:i / 32<p.length:=by rw[HD.out.len];omega
     obtain⟨q0,hq0,hcq⟩:=ztw.cell zw4;have hfq:=ztw.frozen (i / 32);have zug:=HD.out.row.lt;have zrm:=Zh (HD.out.high HBV.out hge (Zi:Ext wr w6) (hN6.lower (by have h2:=(Zi:Ext wr w5).size;omega)) (HY.out _ _ _ _ _ hN6.nat aa) hq0);obtain⟨a,hai⟩:=Yz (i / 32);obtain⟨s,hsi⟩:=Yz (i%32);rw[hai,hsi]at zrm;rw[hai]at hcq hfq;have hia:(i:Int) / 32=(a:Int):=aa
     have his:(i:Int)%32=(s:Int):=aa
     have htd:Int.tdiv (i:Int) 32=(a:Int):=by rw[Int.tdiv_eq_ediv_of_nonneg aa];exact hia
     have htm:Int.tmod (i:Int) 32=(s:Int):=by rw[Int.tmod_eq_emod_of_nonneg aa];exact his
     have ha0:(0:Int)<=(a:Int):=aa
     have ha1:(a:Int)<(l.length:Int):=aa
     have hs0:(0:Int)<=(s:Int):=aa
     have hs1:(s:Int)<32:=aa
     have hwa:IntKind.i64.wrap (a:Int)=(a:Int):=by rw[IntKind.wrap_i64];omega
     have hws:IntKind.i64.wrap (s:Int)=(s:Int):=by rw[IntKind.wrap_i64];omega
     have hsz:w.heap.size<w6.heap.size:=ztw.lt;clear hq0 ztw hai hsi hia his zug;go_region_law fail
     all_goals
      go_wp2;exact⟨⟨i,_,_,_,B6,k6,d6,aa,rfl,rfl,zrm⟩,by simp[intOf]<;>omega⟩
    ·have zvE:=qr ((aa:2*R+bt<y));rw[zvE]at HC;have hlt:2*R+bt<y:=aa
     clear hge zvE;have zug:=HD.out.row.lt;have HSW:=Zh zug;clear zug;go_wp2_with (first
      |(go_at_call_of 119 (Value.slice B2 k2 d2);refine(HT2.out _ Zi).mono ?_;rintro e w3 ⟨B3,k3,d3,rfl,hN3,hs3⟩;have zsR:Ext w w3:=HXW.out.trans Zi)
      |(go_at_call 171;refine(HC.out _ _ _ _ _ hN3.nat Zi zsR).mono ?_;rintro e w4 ⟨rfl,hs4⟩))
     exact⟨⟨i,_,_,_,B3,k3,d3,aa,rfl,rfl,Zh (HD.out.low HBV.out hlt (Zi:Ext wr w4) ((hN3.lower (by have h2:=(Zi:Ext wr w2).size;have:=HSW.out;omega)).ext Zi) (HY.out _ _ _ _ _ hN3.nat aa))⟩,by simp[intOf]<;>omega⟩
end
section
open Go.RowKit
theorem zha(ha:NatV w0 A n c x)(hb:NatV w1 B k d y)(h1:n<=274877906943)(h2:k<=274877906943)(hy0:0<y)[hx:Ext w0 w][hy:Ext w1 w]:
  Cq 244 #[.slice A n c,.slice B k d] w (zbj w (x / y) (x%y)):=by
 by_cases hs:n<=2/\k<=2
 ·exact znj ha hb hs.1 hs.2 hy0
 ·obtain⟨l,rfl,a1,a2,a3,rfl,a5,a6⟩:=ha;exact zno a1 a2 hb aa h1 h2 hy0
theorem JY(g:Bool)(h:NatV w0 A n c z)(h40:n<=1099511627776)[hx:Ext w0 w]:Cq 179 #[.bool g,.slice A n c] w (zz w (zp g z)):=by
 obtain⟨l,rfl,a1,a2,a3,rfl,a5,a6⟩:=h;exact za5 g a1 a2 a5 a6 h40
theorem JA{v:Value}(h:w.cell? ⟨b,i,none⟩=some v):b<w.heap.size:=by
 rcases Zl b w.heap.size with h1|h1
 ·exact h1
 ·simp[World.cell?,Array.getElem?_eq_none h1]at h
theorem NatV.le_len{A':Option Addr}{n' c':Nat}{z':Int}(h:NatV w A n c z)(h':NatV w' A' n' c' z')(hz:z'<=z):n'<=n:=by
 obtain⟨l,rfl,a1,a2,a3,rfl,a5,a6⟩:=h;exact h'.len (k:=l.length) (by have:=qH a2;omega)
theorem znp{nb:Bool}(ha:IntV w0 na A n c x)(hb:IntV w1 nb B k d y)(h1:n<=274877906943)(h2:k<=274877906943)(hy0:y≠0)(zsu:x<0)(hrz:(x.natAbs:Int)%y.natAbs≠0)[hx:Ext w0 w][hy:Ext w1 w]:
  Cq 181 #[.agg #[.bool na,.slice A n c],.agg #[.bool nb,.slice B k d]] w (zbS w (x / y) (x%y) true):=by
 have hta:=fun W(hh:Ext w0 W)=>j4 (w:=W) ha aa
 have htb:=fun W(hh:Ext w1 W)=>j4 (w:=W) hb aa
 have HTA:=Zh hta;have HTB:=Zh htb;have hna:=ha.neg_eq;have hnb:=hb.neg_eq;have HDV:Hid (∀(W0 W1 W:World)B1 k1 d1 B2 k2 d2,NatV W0 B1 k1 d1 x.natAbs->NatV W1 B2 k2 d2 y.natAbs->Ext W0 W->Ext W1 W->Cq 244 #[.slice B1 k1 d1,.slice B2 k2 d2] W (zbj W ((x.natAbs:Int) / y.natAbs) ((x.natAbs:Int)%y.natAbs))):=Zh (fun W0 W1 W B1 k1 d1 B2 k2 d2 a b e1 e2=>zha a b (by have:=ha.nat.le_len a (Int.le_refl _);omega) (by have:=hb.nat.le_len b (Int.le_refl _);omega) aa)
 have HK0:Hid (∀(W:World)B1 k1 d1,NatV W B1 k1 d1 (y.natAbs:Int)->((k1:Int)==0)=false):=Zh (by intro W B1 k1 d1 h;have:=h.zero_iff;simp;omega);have hr0:=Int.emod_nonneg (x.natAbs:Int) ((aa:(y.natAbs:Int)≠0));have hr1:=Int.emod_lt_of_pos (x.natAbs:Int) ((aa:0<(y.natAbs:Int)));have hq0:0<=(x.natAbs:Int) / y.natAbs:=Int.ediv_nonneg aa aa;have hq1:(x.natAbs:Int) / y.natAbs<=x.natAbs:=Int.ediv_le_self _ aa
 have HLQ:Hid (∀(W:World)B1 k1 d1,NatV W B1 k1 d1 ((x.natAbs:Int) / y.natAbs)->k1<=274877906943):=Zh (by intro W B1 k1 d1 h;have:=ha.nat.le_len h hq1;omega);have HLR:Hid (∀(W:World)B1 k1 d1,NatV W B1 k1 d1 ((x.natAbs:Int)%y.natAbs)->k1<=274877906943):=Zh (by intro W B1 k1 d1 h;have:=hb.nat.le_len h aa;omega);have HLY:Hid (∀(W:World)g1 B1 k1 d1 z,IntV W g1 B1 k1 d1 z->z.natAbs<=y.natAbs->k1<=274877906943):=Zh (by intro W g1 B1 k1 d1 z h hz;have:=hb.nat.le_len h.nat aa;omega)
 have HLX:Hid (∀(W:World)g1 B1 k1 d1 z,IntV W g1 B1 k1 d1 z->z.natAbs<=x.natAbs->k1<=274877906943):=Zh (by intro W g1 B1 k1 d1 z h hz;have:=ha.nat.le_len h.nat aa;omega);clear hta htb;obtain rfl:na=true:=by simp[hna,zsu]
 have HLN:Hid (∀(W:World)B1 k1 d1,NatV W B1 k1 d1 (y.natAbs:Int)->k1<=274877906943):=Zh (by intro W B1 k1 d1 h;have:=hb.nat.le_len h (Int.le_refl _);omega);have HE:=Zh (zfv x y zsu hy0 hrz);rw[<-hnb]at HE;generalize (x.natAbs:Int) / y.natAbs=q at*
 generalize (x.natAbs:Int)%y.natAbs=r at*
 have hsr:decide (zo (zp true r) 0<0)=true:=by simp only[zp];unfold zo;simp;omega
 obtain⟨ts,hts⟩:∃t,zo (zp true r) 0=t:=⟨_,rfl⟩;rw[hts]at hsr;have HTS:=Zh hts;clear hts;have HNB:=Zh hnb;clear hna hnb zsu hrz;go_enter Tryz.func181,Tryz.ntmps181;go_wp2;go_region_held3 (fun w'=>w'.cell? ⟨w.heap.size,1,none⟩=some (.slice A n c)/\w'.cell? ⟨w.heap.size+1,1,none⟩=some (.slice B k d)) (exact zb0 w _ (.bool true) (.slice A n c) (.bool nb) (.slice B k d) 102 102)
  (first
   |(go_at_call_of 119 (Value.slice A n c);refine(HTA.out _ Zi).mono ?_;rintro e w4 ⟨B4,k4,d4,rfl,hN4,hs4⟩)
   |(go_at_call_of 119 (Value.slice B k d);refine(HTB.out _ Zi).mono ?_;rintro e w5 ⟨B5,k5,d5,rfl,hN5,hs5⟩))
 have hk5:=HK0.out _ _ _ _ hN5;go_wp2_with (go_at_call 244;refine(HDV.out _ _ _ _ _ _ _ _ _ hN4 hN5 Zi Zi).mono ?_;rintro e w6 ⟨B6,k6,d6,B7,k7,d7,rfl,hN6,hN7,hs6⟩;obtain⟨c1,c2,c3,c4⟩:=qp w w6 (.bool true) (.slice A n c) (.bool nb) (.slice B k d) 102 102)
 have hqm:=HLQ.out _ _ _ _ hN6;have hrm:=HLR.out _ _ _ _ hN7;have o0:Old w.heap.size w6:=Zi;have o1:Old (w.heap.size+1) w6:=Zi;have HC:=Zh (And.intro c1 c3);have hx6:Ext ((((w.alloc (.cells #[.bool true,.slice A n c] 102)).alloc (.cells #[.bool nb,.slice B k d] 102)).alloc (.cells #[.bool false,.slice none 0 0] 102)).alloc (.cells #[.bool false,.slice none 0 0] 102)) w6:=Zi;have HX6:=Zh hx6;clear c1 c2 c3 c4 hx6
 go_cut [11,12] (fun s11 s12 wx=>∃(p p':Nat) (g8 g9:Bool) (B8 B9:Option Addr) (k8 d8 k9 d9:Nat),s11= .pointer (some ⟨p,0,none⟩)/\s12= .pointer (some ⟨p',0,none⟩)/\wx.cell? ⟨p,0,none⟩=some (.bool g8)/\wx.cell? ⟨p,1,none⟩=some (.slice B8 k8 d8)/\wx.cell? ⟨p',0,none⟩=some (.bool g9)/\wx.cell? ⟨p',1,none⟩=some (.slice B9 k9 d9)/\IntV wx g8 B8 k8 d8 (zp (!nb) q)/\IntV wx g9 B9 k9 d9 (zp true r)/\Ext w6 wx/\w6.heap.size<=p/\w6.heap.size<=p'/\p≠p'/\wx.frozen? ⟨p',0,none⟩=false/\wx.frozen? ⟨p',1,none⟩=false/\Typed p' 102 wx)
 case first=>
  go_region_held3 (fun w'=>w'.cell? ⟨w.heap.size,0,none⟩=some (.bool true)/\w'.cell? ⟨w.heap.size+1,0,none⟩=some (.bool nb)) ((simp only[zk w6];exact HC.out))
   (first
    |(go_at_call_of 179 (Value.slice B6 k6 d6);refine(JY _ hN6 aa).mono ?_;rintro e w8 ⟨g8,B8,k8,d8,rfl,hz8,hs8⟩)
    |(go_at_call_of 179 (Value.slice B7 k7 d7);refine(JY _ hN7 aa).mono ?_;rintro e w9 ⟨g9,B9,k9,d9,rfl,hz9,hs9⟩))
  all_goals (go_wp2_with fail;go_meet;refine⟨_,_,g8,g9,B8,B9,k8,d8,k9,d9,rfl,rfl,by go_simp,by go_simp,by go_simp,by go_simp,?_,hz9.keeps,Zi,New.le,New.le,by first|omega|exact Apart.ne|(simp;done),by go_simp,by go_simp,Zi⟩;simpa using hz8.keeps)
 case rest=>
  obtain⟨p,p',g8,g9,B8,B9,k8,d8,k9,d9,rfl,rfl,e1,e2,e3,e4,hz8,hz9,hxc,hp6,zuh,hpp,zr3,zr4,zx9⟩:=hcut;have zui:w.heap.size+1+1+1<w6.heap.size:=by have:=HX6.out.size;simp at this;omega
  have hk9:=HLY.out _ _ _ _ _ _ hz9 (by simp only[zp];simp;omega);have hsg:=fun W(hh:Ext wc W)=>jA (w:=W) hz9 aa
  rw[HTS.out]at hsg;have HSG:=Zh hsg;have op:p<wc.heap.size:=JA e1;have op':p'<wc.heap.size:=JA e3;have oP:Old p wc:=⟨op⟩;have oP':Old p' wc:=⟨op'⟩;have H8:=Zh hz8;have hx4:=Zh (HX6.out.trans hxc);have zya:k5<=274877906943:=by have:=HLN.out _ _ _ _ hN5;omega
  have HMK:Hid (∀W,Ext w5 W->Cq 179 #[.bool false,.slice B5 k5 d5] W (zz W (zp false y.natAbs))):=Zh (fun W hh=>JY false hN5 aa);have HAD:Hid (∀(W1 W:World)g2 B2 k2 d2,IntV W1 g2 B2 k2 d2 (zp false y.natAbs)->Ext wc W->Ext W1 W->Cq 180 #[.agg #[.bool g9,.slice B9 k9 d9],.agg #[.bool g2,.slice B2 k2 d2]] W (zz W (x%y))):=Zh (by
   intro W1 W g2 B2 k2 d2 hz e1 e2;have h2:=HLY.out _ _ _ _ _ _ hz (by simp[zp]);have:=zam (w:=W) hz9 hz aa aa;rwa [show zp true r+zp false (y.natAbs:Int)=x%y by rw[<-HE.out.2];simp[zp];omega]at this)
  have ztZ:Hid (Ext w5 wc):=Zh ((Zi:Ext w5 w6).trans hxc);clear hsg hz8 hz9 op op';go_wp2_with (go_at_call 126;refine(HSG.out _ Zi).mono ?_;rintro e w10 ⟨rfl,zvF⟩;have f3:w10.cell? ⟨p',0,none⟩=some (.bool g9):=(zk wc).trans e3;have f4:w10.cell? ⟨p',1,none⟩=some (.slice B9 k9 d9):=(zk wc).trans e4)
  have zuj:Ext w5 w10:=ztZ.out.trans Zi;have oP10:Old p' w10:=Zi;go_region_with (first
    |(go_at_call 179;refine(HMK.out _ Zi).mono ?_;rintro e w11 ⟨g11,B11,k11,d11,rfl,zw5,zyb⟩;have r3:w11.cell? ⟨p',0,none⟩=some (.bool g9):=(zk wc).trans e3;have r4:w11.cell? ⟨p',1,none⟩=some (.slice B9 k9 d9):=(zk wc).trans e4)
    |(go_at_call 180;refine(HAD.out _ _ _ _ _ _ zw5 Zi Zi).mono ?_;rintro e w12 ⟨g12,B12,k12,d12,rfl,zw6,zyc⟩;have s3:w12.cell? ⟨p',0,none⟩=some (.bool g9):=(zk wc).trans e3;have s4:w12.cell? ⟨p',1,none⟩=some (.slice B9 k9 d9):=(zk wc).trans e4;have fz0:w12.frozen? ⟨p',0,none⟩=false:=(ZY wc).trans zr3;have fz1:w12.frozen? ⟨p',1,none⟩=false:=(ZY wc).trans zr4))
  all_goals
   have HW:Hid (∃W,W=((w12.setCell ⟨p',0,none⟩ (.bool g12)).setCell ⟨p',1,none⟩ (.slice B12 k12 d12))):=Zh ⟨_,rfl⟩;obtain⟨W,hW⟩:=HW.out;have hxcW:Ext w6 W:=by
    rw[hW];exact((hxc.trans (Zi:Ext wc w12)).setCell (p:=⟨p',0,none⟩) zuh (.bool g12)).setCell (p:=⟨p',1,none⟩) zuh (.slice B12 k12 d12)
   have zsJ:Oth 102 w12 W:=by
    obtain⟨cs,fr,ht⟩:=(Zi:Typed p' 102 w12).ex;rw[hW];refine(Oth.set (p:=⟨p',0,none⟩) ht (.bool g12)).trans ?_;obtain⟨cs2,fr2,ht2⟩:=(Zi:Typed p' 102 (w12.setCell ⟨p',0,none⟩ (.bool g12))).ex;exact Oth.set (p:=⟨p',1,none⟩) ht2 (.slice B12 k12 d12)
   have zvG:IntV W g12 B12 k12 d12 (x%y):=zw6.oth zsJ ac;have zuS:IntV W g8 B8 k8 d8 (zp (!nb) q):=(H8.out.ext (Zi:Ext wc w12)).oth zsJ ac;have w12p0:w12.cell? ⟨p,0,none⟩=some (.bool g8):=(zk wc).trans e1;have w12p1:w12.cell? ⟨p,1,none⟩=some (.slice B8 k8 d8):=(zk wc).trans e2;have ap:Apart p p':=⟨hpp⟩;have t1:W.cell? ⟨p,0,none⟩=some (.bool g8):=by rw[hW];go_simp
   have t2:W.cell? ⟨p,1,none⟩=some (.slice B8 k8 d8):=by rw[hW];go_simp
   have t3:W.cell? ⟨p',0,none⟩=some (.bool g12):=by rw[hW];go_simp
   have t4:W.cell? ⟨p',1,none⟩=some (.slice B12 k12 d12):=by rw[hW];go_simp
   rw[<-hW];have hx4W:=HX6.out.trans hxcW;have hxwW:Ext w W:=Ext.trans Zi hx4W;have hx1W:Ext w1 W:=hy.trans hxwW;obtain⟨⟨-,-,b1,b2⟩,-,-⟩:=jg w W (.bool true) (.slice A n c) (.bool nb) (.slice B k d) (.bool false) (.slice none 0 0) (.bool false) (.slice none 0 0) 102;have HSB:Hid (∀W',Ext W W'->Cq 126 #[.agg #[.bool nb,.slice B k d]] W' (zA W' (.int .i64 (zo y 0)))):=Zh (fun W' hh=>have:Ext w1 W':=hx1W.trans hh;jA hb aa)
   have H8:=Zh zuS;have H12:=Zh zvG;have HT:=Zh (And.intro t1 (And.intro t2 (And.intro t3 t4)));have HX4:=Zh hx4W;have oPW:Old p W:=⟨JA t1⟩;have oPW':Old p' W:=⟨JA t3⟩;have zyd:w.heap.size+1+1+1<w6.heap.size:=by have:=HX6.out.size;simp at this;omega
   have a1:Apart p (w.heap.size+1+1):=⟨aa⟩;have a2:Apart p (w.heap.size+1+1+1):=⟨aa⟩;have a3:Apart p' (w.heap.size+1+1):=⟨aa⟩;have a4:Apart p' (w.heap.size+1+1+1):=⟨aa⟩;have hk8:=HLX.out _ _ _ _ _ _ zuS (by cases nb<;>simp[zp]<;>omega);clear zuS zvG t1 t2 t3 t4 hx4W zsJ hW
   cases nb
   ·have hys:decide (zo y 0<0)=false:=by have:=HNB.out;simp at this;unfold zo;simp;split<;>omega
    generalize zo y 0=ty at*
    have HSU:Hid (∀(W1 W':World)g2 B2 k2 d2,IntV W1 g2 B2 k2 d2 1->Ext W W'->Ext W1 W'->Cq 128 #[.agg #[.bool g8,.slice B8 k8 d8],.agg #[.bool g2,.slice B2 k2 d2]] W' (zz W' (x / y))):=Zh (by
     intro W1 W' g2 B2 k2 d2 hz e1 e2;have h2:=hz.len (k:=1) ac;have:=zfY (w:=W') H8.out hz aa aa;rwa [show zp (!false) q-1=x / y by rw[<-HE.out.1];simp[zp]<;>omega]at this)
    go_wp2_with (go_at_call 126;refine(HSB.out _ Zi).mono ?_;rintro e w13 ⟨rfl,zw7⟩)
    have u1:w13.cell? ⟨p,0,none⟩=some (.bool g8):=(zk W).trans HT.out.1;have u2:w13.cell? ⟨p,1,none⟩=some (.slice B8 k8 d8):=(zk W).trans HT.out.2.1;have u3:w13.cell? ⟨p',0,none⟩=some (.bool g12):=(zk W).trans HT.out.2.2.1;have u4:w13.cell? ⟨p',1,none⟩=some (.slice B12 k12 d12):=(zk W).trans HT.out.2.2.2;go_region_with (first
     |(go_at_call 114;refine(QF 1 aa aa _).mono ?_;rintro e w14 ⟨g14,B14,k14,d14,rfl,zuT,zw8⟩;have v1:w14.cell? ⟨p,0,none⟩=some (.bool g8):=(zk W).trans HT.out.1;have v2:w14.cell? ⟨p,1,none⟩=some (.slice B8 k8 d8):=(zk W).trans HT.out.2.1;have v3:w14.cell? ⟨p',0,none⟩=some (.bool g12):=(zk W).trans HT.out.2.2.1;have v4:w14.cell? ⟨p',1,none⟩=some (.slice B12 k12 d12):=(zk W).trans HT.out.2.2.2)
     |(go_at_call 128;refine(HSU.out _ _ _ _ _ _ zuT Zi Zi).mono ?_;rintro e w15 ⟨g15,B15,k15,d15,rfl,zuU,zw9⟩;have x3:w15.cell? ⟨p',0,none⟩=some (.bool g12):=(zk W).trans HT.out.2.2.1;have x4:w15.cell? ⟨p',1,none⟩=some (.slice B12 k12 d12):=(zk W).trans HT.out.2.2.2;have zuV:=HX4.out.trans (Zi:Ext W w15);obtain⟨-,⟨p0,p1,p2,p3,p4,p5⟩,⟨q0',q1',q2',q3',q4',q5'⟩⟩:=jg w w15 (.bool true) (.slice A n c) (.bool false) (.slice B k d) (.bool false) (.slice none 0 0) (.bool false) (.slice none 0 0) 102;have tp:Typed (w.heap.size+1+1) 102 w15:=⟨_,_,p0⟩;have tq:Typed (w.heap.size+1+1+1) 102 w15:=⟨_,_,q0'⟩;have zxa:Ext w w15:=Ext.trans Zi zuV;clear p0 q0'))
    all_goals
     go_wp2;exact bodyPost_ret (v:= .tuple #[.agg #[.bool g15,.slice B15 k15 d15],.agg #[.bool g12,.slice B12 k12 d12],.bool true]) (by simp[results,Tryz.results181,go_sem,p1,p2,q1',q2']) rfl ⟨_,_,_,_,_,_,_,_,rfl,zuU.keeps,H12.out.keeps,Step.of _ _⟩
   ·have hys:decide (zo y 0<0)=true:=by have:=HNB.out;simp at this;unfold zo;simp;omega
    generalize zo y 0=ty at*
    have HSU:Hid (∀(W1 W':World)g2 B2 k2 d2,IntV W1 g2 B2 k2 d2 1->Ext W W'->Ext W1 W'->Cq 180 #[.agg #[.bool g8,.slice B8 k8 d8],.agg #[.bool g2,.slice B2 k2 d2]] W' (zz W' (x / y))):=Zh (by
     intro W1 W' g2 B2 k2 d2 hz e1 e2;have h2:=hz.len (k:=1) ac;have:=zam (w:=W') H8.out hz aa aa;rwa [show zp (!true) q+1=x / y by rw[<-HE.out.1];simp[zp]<;>omega]at this)
    go_wp2_with (go_at_call 126;refine(HSB.out _ Zi).mono ?_;rintro e w13 ⟨rfl,zw7⟩)
    have u1:w13.cell? ⟨p,0,none⟩=some (.bool g8):=(zk W).trans HT.out.1;have u2:w13.cell? ⟨p,1,none⟩=some (.slice B8 k8 d8):=(zk W).trans HT.out.2.1;have u3:w13.cell? ⟨p',0,none⟩=some (.bool g12):=(zk W).trans HT.out.2.2.1;have u4:w13.cell? ⟨p',1,none⟩=some (.slice B12 k12 d12):=(zk W).trans HT.out.2.2.2;go_region_with (first
     |(go_at_call 114;refine(QF 1 aa aa _).mono ?_;rintro e w14 ⟨g14,B14,k14,d14,rfl,zuT,zw8⟩;have v1:w14.cell? ⟨p,0,none⟩=some (.bool g8):=(zk W).trans HT.out.1;have v2:w14.cell? ⟨p,1,none⟩=some (.slice B8 k8 d8):=(zk W).trans HT.out.2.1;have v3:w14.cell? ⟨p',0,none⟩=some (.bool g12):=(zk W).trans HT.out.2.2.1;have v4:w14.cell? ⟨p',1,none⟩=some (.slice B12 k12 d12):=(zk W).trans HT.out.2.2.2)
     |(go_at_call 180;refine(HSU.out _ _ _ _ _ _ zuT Zi Zi).mono ?_;rintro e w15 ⟨g15,B15,k15,d15,rfl,zuU,zw9⟩;have x3:w15.cell? ⟨p',0,none⟩=some (.bool g12):=(zk W).trans HT.out.2.2.1;have x4:w15.cell? ⟨p',1,none⟩=some (.slice B12 k12 d12):=(zk W).trans HT.out.2.2.2;have zuV:=HX4.out.trans (Zi:Ext W w15);obtain⟨-,⟨p0,p1,p2,p3,p4,p5⟩,⟨q0',q1',q2',q3',q4',q5'⟩⟩:=jg w w15 (.bool true) (.slice A n c) (.bool true) (.slice B k d) (.bool false) (.slice none 0 0) (.bool false) (.slice none 0 0) 102;have tp:Typed (w.heap.size+1+1) 102 w15:=⟨_,_,p0⟩;have tq:Typed (w.heap.size+1+1+1) 102 w15:=⟨_,_,q0'⟩;have zxa:Ext w w15:=Ext.trans Zi zuV;clear p0 q0'))
    all_goals
     go_wp2;exact bodyPost_ret (v:= .tuple #[.agg #[.bool g15,.slice B15 k15 d15],.agg #[.bool g12,.slice B12 k12 d12],.bool true]) (by simp[results,Tryz.results181,go_sem,p1,p2,q1',q2']) rfl ⟨_,_,_,_,_,_,_,_,rfl,zuU.keeps,H12.out.keeps,Step.of _ _⟩
theorem zhb{nb:Bool}(ha:IntV w0 na A n c x)(hb:IntV w1 nb B k d y)(h1:n<=274877906943)(h2:k<=274877906943)(hy0:y≠0)[hx:Ext w0 w][hy:Ext w1 w]:
  Cq 181 #[.agg #[.bool na,.slice A n c],.agg #[.bool nb,.slice B k d]] w (zbS w (x / y) (x%y) true):=by
 have hta:=fun W(hh:Ext w0 W)=>j4 (w:=W) ha aa
 have htb:=fun W(hh:Ext w1 W)=>j4 (w:=W) hb aa
 have HTA:=Zh hta;have HTB:=Zh htb;have hna:=ha.neg_eq;have hnb:=hb.neg_eq;have HDV:Hid (∀(W0 W1 W:World)B1 k1 d1 B2 k2 d2,NatV W0 B1 k1 d1 x.natAbs->NatV W1 B2 k2 d2 y.natAbs->Ext W0 W->Ext W1 W->Cq 244 #[.slice B1 k1 d1,.slice B2 k2 d2] W (zbj W ((x.natAbs:Int) / y.natAbs) ((x.natAbs:Int)%y.natAbs))):=Zh (fun W0 W1 W B1 k1 d1 B2 k2 d2 a b e1 e2=>zha a b (by have:=ha.nat.le_len a (Int.le_refl _);omega) (by have:=hb.nat.le_len b (Int.le_refl _);omega) aa)
 have HK0:Hid (∀(W:World)B1 k1 d1,NatV W B1 k1 d1 (y.natAbs:Int)->((k1:Int)==0)=false):=Zh (by intro W B1 k1 d1 h;have:=h.zero_iff;simp;omega);have hr0:=Int.emod_nonneg (x.natAbs:Int) ((aa:(y.natAbs:Int)≠0));have hr1:=Int.emod_lt_of_pos (x.natAbs:Int) ((aa:0<(y.natAbs:Int)));have hq0:0<=(x.natAbs:Int) / y.natAbs:=Int.ediv_nonneg aa aa;have hq1:(x.natAbs:Int) / y.natAbs<=x.natAbs:=Int.ediv_le_self _ aa
 have HLQ:Hid (∀(W:World)B1 k1 d1,NatV W B1 k1 d1 ((x.natAbs:Int) / y.natAbs)->k1<=274877906943):=Zh (by intro W B1 k1 d1 h;have:=ha.nat.le_len h hq1;omega);have HLR:Hid (∀(W:World)B1 k1 d1,NatV W B1 k1 d1 ((x.natAbs:Int)%y.natAbs)->k1<=274877906943):=Zh (by intro W B1 k1 d1 h;have:=hb.nat.le_len h aa;omega);have HLY:Hid (∀(W:World)g1 B1 k1 d1 z,IntV W g1 B1 k1 d1 z->z.natAbs<=y.natAbs->k1<=274877906943):=Zh (by intro W g1 B1 k1 d1 z h hz;have:=hb.nat.le_len h.nat aa;omega)
 have HLX:Hid (∀(W:World)g1 B1 k1 d1 z,IntV W g1 B1 k1 d1 z->z.natAbs<=x.natAbs->k1<=274877906943):=Zh (by intro W g1 B1 k1 d1 z h hz;have:=ha.nat.le_len h.nat aa;omega);clear hta htb;by_cases zsu:x<0
 ·obtain rfl:na=true:=by simp[hna,zsu]
  by_cases hrz:(x.natAbs:Int)%y.natAbs=0
  ·have HE:=Zh (zfu x y zsu hy0 hrz);rw[<-hnb]at HE;generalize (x.natAbs:Int) / y.natAbs=q at*
   generalize (x.natAbs:Int)%y.natAbs=r at*
   have HR0:=Zh hrz;have hsr:decide (zo (zp true r) 0<0)=false:=by simp only[zp];unfold zo;simp;omega
   obtain⟨ts,hts⟩:∃t,zo (zp true r) 0=t:=⟨_,rfl⟩;rw[hts]at hsr;have HTS:=Zh hts;clear hts;clear hna hnb zsu hrz;go_enter Tryz.func181,Tryz.ntmps181;go_wp2;go_region_held3 (fun w'=>w'.cell? ⟨w.heap.size,1,none⟩=some (.slice A n c)/\w'.cell? ⟨w.heap.size+1,1,none⟩=some (.slice B k d)) (exact zb0 w _ (.bool true) (.slice A n c) (.bool nb) (.slice B k d) 102 102)
    (first
     |(go_at_call_of 119 (Value.slice A n c);refine(HTA.out _ Zi).mono ?_;rintro e w4 ⟨B4,k4,d4,rfl,hN4,hs4⟩)
     |(go_at_call_of 119 (Value.slice B k d);refine(HTB.out _ Zi).mono ?_;rintro e w5 ⟨B5,k5,d5,rfl,hN5,hs5⟩))
   have hk5:=HK0.out _ _ _ _ hN5;go_wp2_with (go_at_call 244;refine(HDV.out _ _ _ _ _ _ _ _ _ hN4 hN5 Zi Zi).mono ?_;rintro e w6 ⟨B6,k6,d6,B7,k7,d7,rfl,hN6,hN7,hs6⟩;obtain⟨c1,c2,c3,c4⟩:=qp w w6 (.bool true) (.slice A n c) (.bool nb) (.slice B k d) 102 102)
   have hqm:=HLQ.out _ _ _ _ hN6;have hrm:=HLR.out _ _ _ _ hN7;have o0:Old w.heap.size w6:=Zi;have o1:Old (w.heap.size+1) w6:=Zi;have HC:=Zh (And.intro c1 c3);have hx6:Ext ((((w.alloc (.cells #[.bool true,.slice A n c] 102)).alloc (.cells #[.bool nb,.slice B k d] 102)).alloc (.cells #[.bool false,.slice none 0 0] 102)).alloc (.cells #[.bool false,.slice none 0 0] 102)) w6:=Zi;have HX6:=Zh hx6;clear c1 c2 c3 c4 hx6
   go_cut [11,12] (fun s11 s12 wx=>∃(p p':Nat) (g8 g9:Bool) (B8 B9:Option Addr) (k8 d8 k9 d9:Nat),s11= .pointer (some ⟨p,0,none⟩)/\s12= .pointer (some ⟨p',0,none⟩)/\wx.cell? ⟨p,0,none⟩=some (.bool g8)/\wx.cell? ⟨p,1,none⟩=some (.slice B8 k8 d8)/\wx.cell? ⟨p',0,none⟩=some (.bool g9)/\wx.cell? ⟨p',1,none⟩=some (.slice B9 k9 d9)/\IntV wx g8 B8 k8 d8 (zp (!nb) q)/\IntV wx g9 B9 k9 d9 (zp true r)/\Ext w6 wx/\w6.heap.size<=p/\w6.heap.size<=p')
   case first=>
    go_region_held3 (fun w'=>w'.cell? ⟨w.heap.size,0,none⟩=some (.bool true)/\w'.cell? ⟨w.heap.size+1,0,none⟩=some (.bool nb)) ((simp only[zk w6];exact HC.out))
     (first
      |(go_at_call_of 179 (Value.slice B6 k6 d6);refine(JY _ hN6 aa).mono ?_;rintro e w8 ⟨g8,B8,k8,d8,rfl,hz8,hs8⟩)
      |(go_at_call_of 179 (Value.slice B7 k7 d7);refine(JY _ hN7 aa).mono ?_;rintro e w9 ⟨g9,B9,k9,d9,rfl,hz9,hs9⟩))
    all_goals (go_wp2_with fail;go_meet;refine⟨_,_,g8,g9,B8,B9,k8,d8,k9,d9,rfl,rfl,by go_simp,by go_simp,by go_simp,by go_simp,?_,hz9.keeps,Zi,New.le,New.le⟩;simpa using hz8.keeps)
   case rest=>
    obtain⟨p,p',g8,g9,B8,B9,k8,d8,k9,d9,rfl,rfl,e1,e2,e3,e4,hz8,hz9,hxc,hp6,zuh⟩:=hcut;have zui:w.heap.size+1+1+1<w6.heap.size:=by have:=HX6.out.size;simp at this;omega
    have a1:Apart p (w.heap.size+1+1):=⟨aa⟩;have a2:Apart p (w.heap.size+1+1+1):=⟨aa⟩;have a3:Apart p' (w.heap.size+1+1):=⟨aa⟩;have a4:Apart p' (w.heap.size+1+1+1):=⟨aa⟩;have hk9:=HLY.out _ _ _ _ _ _ hz9 (by have:=HR0.out;simp only[zp];simp;omega);have hsg:=fun W(hh:Ext wc W)=>jA (w:=W) hz9 aa
    rw[HTS.out]at hsg;have HSG:=Zh hsg;have op:p<wc.heap.size:=JA e1;have op':p'<wc.heap.size:=JA e3;have oP:Old p wc:=⟨op⟩;have oP':Old p' wc:=⟨op'⟩;have H8:=Zh hz8;have H9:=Zh hz9;have hx4:=Zh (HX6.out.trans hxc);clear hsg hz8 hz9 op op';go_wp2_with (go_at_call 126;refine(HSG.out _ Zi).mono ?_;rintro e w10 ⟨rfl,zvF⟩;have f1:w10.cell? ⟨p,0,none⟩=some (.bool g8):=(zk wc).trans e1;have f2:w10.cell? ⟨p,1,none⟩=some (.slice B8 k8 d8):=(zk wc).trans e2;have f3:w10.cell? ⟨p',0,none⟩=some (.bool g9):=(zk wc).trans e3;have f4:w10.cell? ⟨p',1,none⟩=some (.slice B9 k9 d9):=(zk wc).trans e4)
    have zuj:Ext ((((w.alloc (.cells #[.bool true,.slice A n c] 102)).alloc (.cells #[.bool nb,.slice B k d] 102)).alloc (.cells #[.bool false,.slice none 0 0] 102)).alloc (.cells #[.bool false,.slice none 0 0] 102)) w10:=hx4.out.trans Zi;obtain⟨-,⟨p0,p1,p2,p3,p4,p5⟩,⟨q0',q1',q2',q3',q4',q5'⟩⟩:=jg w w10 (.bool true) (.slice A n c) (.bool nb) (.slice B k d) (.bool false) (.slice none 0 0) (.bool false) (.slice none 0 0) 102
    have P0:=Zh p0;have Q0:=Zh q0';clear p0 q0' e1 e2 e3 e4;have tp:Typed (w.heap.size+1+1) 102 w10:=⟨_,_,P0.out⟩;have tq:Typed (w.heap.size+1+1+1) 102 w10:=⟨_,_,Q0.out⟩;have zxb:Ext w w10:=Ext.trans Zi zuj;go_region_law fail
    all_goals
     go_wp2;refine bodyPost_ret (v:= .tuple #[.agg #[.bool g8,.slice B8 k8 d8],.agg #[.bool g9,.slice B9 k9 d9],.bool true]) (by simp[results,Tryz.results181,go_sem,p1,p2,q1',q2']) rfl ⟨_,_,_,_,_,_,_,_,rfl,?_,?_,?_⟩
     ·rw[<-HE.out.1];exact H8.out.keeps
     ·rw[<-HE.out.2];have h9:=H9.out;rw[show zp true r=r by have:=HR0.out;simp[zp];omega]at h9;exact h9.keeps
     ·exact Step.of _ _
  ·exact znp ha hb h1 h2 hy0 zsu hrz
 ·obtain rfl:na=false:=by simp[hna];omega
  have HE:=Zh (zft x y aa hy0);rw[<-hnb]at HE;generalize (x.natAbs:Int) / y.natAbs=q at*
  generalize (x.natAbs:Int)%y.natAbs=r at*
  have hsr:decide (zo (zp false r) 0<0)=false:=by simp only[zp];unfold zo;simp;split<;>omega
  obtain⟨ts,hts⟩:∃t,zo (zp false r) 0=t:=⟨_,rfl⟩;rw[hts]at hsr;have HTS:=Zh hts;clear hts;clear hna hnb zsu;go_enter Tryz.func181,Tryz.ntmps181;go_wp2;go_region_held3 (fun w'=>w'.cell? ⟨w.heap.size,1,none⟩=some (.slice A n c)/\w'.cell? ⟨w.heap.size+1,1,none⟩=some (.slice B k d)) (exact zb0 w _ (.bool false) (.slice A n c) (.bool nb) (.slice B k d) 102 102)
   (first
    |(go_at_call_of 119 (Value.slice A n c);refine(HTA.out _ Zi).mono ?_;rintro e w4 ⟨B4,k4,d4,rfl,hN4,hs4⟩)
    |(go_at_call_of 119 (Value.slice B k d);refine(HTB.out _ Zi).mono ?_;rintro e w5 ⟨B5,k5,d5,rfl,hN5,hs5⟩))
  have hk5:=HK0.out _ _ _ _ hN5;go_wp2_with (go_at_call 244;refine(HDV.out _ _ _ _ _ _ _ _ _ hN4 hN5 Zi Zi).mono ?_;rintro e w6 ⟨B6,k6,d6,B7,k7,d7,rfl,hN6,hN7,hs6⟩;obtain⟨c1,c2,c3,c4⟩:=qp w w6 (.bool false) (.slice A n c) (.bool nb) (.slice B k d) 102 102)
  have hqm:=HLQ.out _ _ _ _ hN6;have hrm:=HLR.out _ _ _ _ hN7;have o0:Old w.heap.size w6:=Zi;have o1:Old (w.heap.size+1) w6:=Zi;have HC:=Zh (And.intro c1 c3);have hx6:Ext ((((w.alloc (.cells #[.bool false,.slice A n c] 102)).alloc (.cells #[.bool nb,.slice B k d] 102)).alloc (.cells #[.bool false,.slice none 0 0] 102)).alloc (.cells #[.bool false,.slice none 0 0] 102)) w6:=Zi;have HX6:=Zh hx6;clear c1 c2 c3 c4 hx6
  go_cut [11,12] (fun s11 s12 wx=>∃(p p':Nat) (g8 g9:Bool) (B8 B9:Option Addr) (k8 d8 k9 d9:Nat),s11= .pointer (some ⟨p,0,none⟩)/\s12= .pointer (some ⟨p',0,none⟩)/\wx.cell? ⟨p,0,none⟩=some (.bool g8)/\wx.cell? ⟨p,1,none⟩=some (.slice B8 k8 d8)/\wx.cell? ⟨p',0,none⟩=some (.bool g9)/\wx.cell? ⟨p',1,none⟩=some (.slice B9 k9 d9)/\IntV wx g8 B8 k8 d8 (zp nb q)/\IntV wx g9 B9 k9 d9 (zp false r)/\Ext w6 wx/\w6.heap.size<=p/\w6.heap.size<=p')
  case first=>
   go_region_held3 (fun w'=>w'.cell? ⟨w.heap.size,0,none⟩=some (.bool false)/\w'.cell? ⟨w.heap.size+1,0,none⟩=some (.bool nb)) ((simp only[zk w6];exact HC.out))
    (first
     |(go_at_call_of 179 (Value.slice B6 k6 d6);refine(JY _ hN6 aa).mono ?_;rintro e w8 ⟨g8,B8,k8,d8,rfl,hz8,hs8⟩)
     |(go_at_call_of 179 (Value.slice B7 k7 d7);refine(JY _ hN7 aa).mono ?_;rintro e w9 ⟨g9,B9,k9,d9,rfl,hz9,hs9⟩))
   all_goals (go_wp2_with fail;go_meet;refine⟨_,_,g8,g9,B8,B9,k8,d8,k9,d9,rfl,rfl,by go_simp,by go_simp,by go_simp,by go_simp,?_,hz9.keeps,Zi,New.le,New.le⟩;simpa using hz8.keeps)
  case rest=>
   obtain⟨p,p',g8,g9,B8,B9,k8,d8,k9,d9,rfl,rfl,e1,e2,e3,e4,hz8,hz9,hxc,hp6,zuh⟩:=hcut;have zui:w.heap.size+1+1+1<w6.heap.size:=by have:=HX6.out.size;simp at this;omega
   have a1:Apart p (w.heap.size+1+1):=⟨aa⟩;have a2:Apart p (w.heap.size+1+1+1):=⟨aa⟩;have a3:Apart p' (w.heap.size+1+1):=⟨aa⟩;have a4:Apart p' (w.heap.size+1+1+1):=⟨aa⟩;have hk9:=HLY.out _ _ _ _ _ _ hz9 (by simp only[zp];simp;omega);have hsg:=fun W(hh:Ext wc W)=>jA (w:=W) hz9 aa
   rw[HTS.out]at hsg;have HSG:=Zh hsg;have op:p<wc.heap.size:=JA e1;have op':p'<wc.heap.size:=JA e3;have oP:Old p wc:=⟨op⟩;have oP':Old p' wc:=⟨op'⟩;have H8:=Zh hz8;have H9:=Zh hz9;have hx4:=Zh (HX6.out.trans hxc);clear hsg hz8 hz9 op op';go_wp2_with (go_at_call 126;refine(HSG.out _ Zi).mono ?_;rintro e w10 ⟨rfl,zvF⟩;have f1:w10.cell? ⟨p,0,none⟩=some (.bool g8):=(zk wc).trans e1;have f2:w10.cell? ⟨p,1,none⟩=some (.slice B8 k8 d8):=(zk wc).trans e2;have f3:w10.cell? ⟨p',0,none⟩=some (.bool g9):=(zk wc).trans e3;have f4:w10.cell? ⟨p',1,none⟩=some (.slice B9 k9 d9):=(zk wc).trans e4)
   have zuj:Ext ((((w.alloc (.cells #[.bool false,.slice A n c] 102)).alloc (.cells #[.bool nb,.slice B k d] 102)).alloc (.cells #[.bool false,.slice none 0 0] 102)).alloc (.cells #[.bool false,.slice none 0 0] 102)) w10:=hx4.out.trans Zi;obtain⟨-,⟨p0,p1,p2,p3,p4,p5⟩,⟨q0',q1',q2',q3',q4',q5'⟩⟩:=jg w w10 (.bool false) (.slice A n c) (.bool nb) (.slice B k d) (.bool false) (.slice none 0 0) (.bool false) (.slice none 0 0) 102
   have P0:=Zh p0;have Q0:=Zh q0';clear p0 q0' e1 e2 e3 e4;have tp:Typed (w.heap.size+1+1) 102 w10:=⟨_,_,P0.out⟩;have tq:Typed (w.heap.size+1+1+1) 102 w10:=⟨_,_,Q0.out⟩;have zxb:Ext w w10:=Ext.trans Zi zuj;go_region_law fail
   all_goals
    go_wp2;refine bodyPost_ret (v:= .tuple #[.agg #[.bool g8,.slice B8 k8 d8],.agg #[.bool g9,.slice B9 k9 d9],.bool true]) (by simp[results,Tryz.results181,go_sem,p1,p2,q1',q2']) rfl ⟨_,_,_,_,_,_,_,_,rfl,?_,?_,?_⟩
    ·rw[<-HE.out.1];exact H8.out.keeps
    ·rw[<-HE.out.2];exact H9.out.keeps
    ·exact Step.of _ _
end
section
def Bd(k:Nat)(z:Int):Prop:=z.natAbs<2^k
theorem Bd.mono{l:Nat}(h:Bd k z)(hl:k<=l):Bd l z:=Nat.lt_of_lt_of_le h (Nat.pow_le_pow_right aa hl)
theorem Bd.mul{l:Nat}(h:Bd k x)(h':Bd l y):Bd (k+l) (x*y):=by
 unfold Bd at*
 rw[Int.natAbs_mul,Nat.pow_add];exact Nat.mul_lt_mul_of_lt_of_lt h h'
theorem Bd.neg(h:Bd k x):Bd k (-x):=by unfold Bd at*;rwa [Int.natAbs_neg]
theorem Bd.abs(h:Bd k x):Bd k (x.natAbs:Int):=by unfold Bd at*;rwa [Int.natAbs_natCast]
theorem Bd.add(h:Bd k x)(h':Bd k y):Bd (k+1) (x+y):=by
 unfold Bd at*;rw[Nat.pow_succ];omega
theorem Bd.sub(h:Bd k x)(h':Bd k y):Bd (k+1) (x-y):=by
 unfold Bd at*;rw[Nat.pow_succ];omega
theorem Bd.div(y:Int)(h:Bd k x):Bd k (x / y):=Nat.lt_of_le_of_lt (Int.natAbs_ediv_le_natAbs x y) h
theorem Bd.zero(k:Nat):Bd k 0:=Nat.pow_pos aa
theorem Bd.le(h:Bd k x)(hy:y.natAbs<=x.natAbs):Bd k y:=Nat.lt_of_le_of_lt hy h
theorem Bd.one(h:1<=k):Bd k 1:=Nat.lt_of_lt_of_le (ac:(1:Int).natAbs<2^1) (Nat.pow_le_pow_right aa h)
theorem Bd.of64(h0:-9223372036854775808<=x)(h1:x<=9223372036854775807):Bd 64 x:=by
 unfold Bd;have:(2:Nat)^64=18446744073709551616:=ac
 omega
theorem znq(k:Nat):(4294967296:Nat)^k=2^(32*k):=by rw[Nat.pow_mul]
end
section
open La
def BdM(k:Nat)(a:List (List Int)):Prop:=∀i j,Bd k (ent a i j)
theorem BdM.mono{l:Nat}{a:List (List Int)}(h:BdM k a)(hl:k<=l):BdM l a:=fun i j=>(h i j).mono hl
theorem BdM.tab{r:Nat}{F:Nat->Nat->Int}(h:∀i j,i<n->j<r->Bd k (F i j)):BdM k (tab F n r):=fun i j=>by
 by_cases hi:i<n/\j<r
 ·rw[qg _ _ _ _ _ hi.1 hi.2];grind
 ·rw[qL (Qa F n r) (by rw[zdR];omega)];exact Bd.zero k
theorem zd6{a:List (List Int)}{p:Nat}(hp:p<a.length)(hk:k<a.length)(i j:Nat):ent (jn a p k) i j=ent a (if i=k then p else if i=p then k else i) j:=by
 unfold jn ent;grind
theorem BdM.swap{a:List (List Int)}(h:BdM k a){p q:Nat}(hp:p<a.length)(hq:q<a.length):BdM k (jn a p q):=fun i j=>by
 rw[zd6 hp hq];exact h _ _
theorem BdM.elim{a:List (List Int)}(h:BdM k a)(n c:Nat)(zd:Int):BdM (2*k+1) (Qu n c zd a):=by
 refine BdM.tab fun i j hi hj=>?_
 split
 ·refine Bd.div _ ?_;have:=((h c c).mul (h i j)).sub ((h i c).mul (h c j));grind
 ·exact(h i j).mono aa
def ZP(b s:Nat):Nat:=2^s*(b+1)-1
theorem zci(b:Nat):ZP b 0=b:=by simp[ZP]
theorem zd7(b s:Nat):ZP b (s+1)=2*ZP b s+1:=by
 unfold ZP;have:1<=2^s*(b+1):=Nat.mul_pos (Nat.pow_pos aa) aa;rw[Nat.pow_succ,Nat.mul_comm (2^s) 2,Nat.mul_assoc];omega
theorem zhc(hs:s<=8):ZP b s<=256*(b+1):=by
 unfold ZP;have:2^s<=2^8:=Nat.pow_le_pow_right aa hs;have:=Nat.mul_le_mul_right (b+1) this;omega
def QL:Rat:=((2^200:Nat):Rat)
inductive Rel (n:Nat) (a:List (List Int)):List (List Int)->Prop
 |refl:Rel n a a
 |red {h:List (List Int)} (i j:Nat) (q:Int):Rel n a h->j<i->i<n->Rel n a (Zb n h (qk n i j q))
 |swap {h:List (List Int)} (p:Nat):Rel n a h->p+1<n->Rel n a (Zb n h (qu n p))
structure LS(n:Nat)(a h:List (List Int))(N s i c:Nat):Prop where
 ll:LL n QL (QL^n) (QL*n) (QL*n*QL^n) ((QL^n)^n) N (zf (ent h)) s i c
 len:h.length=n
 all:AllLen h n
 det:dd (zf (ent h)) n<=10000
 n8:n<=8
 rel:Rel n a h
def qW(h:List (List Int))(i j:Nat):Int:=(2*E (ent h) j i j+E (ent h) j j j) / (2*E (ent h) j j j)
theorem LS.red{n:Nat}{a h:List (List Int)}{N s i c:Nat}(hl:LS n a h N s i c){i' j:Nat}(ha:AtRed (zf (ent h)) n i' j):
  LS n a (Zb n h (qk n i' j (qW h i' j))) N s i' (i'-j)/\q9 n N s i' (i'-j)<q9 n N s i c:=by
 have zsC:=hl.ll.j.pos;have hj:j<n:=by have:=ha.hi;have:=ha.hj;omega
 have hE:=ZX (ent h) j (zsC.le aa).piv;have hn:=zj7 zsC hj (QI zsC hj) (hE.1 i' j) (hE.1 j j);obtain⟨h1,h2⟩:=hl.ll.red ha ⟨qW h i' j,rfl⟩ hn;have hf:=zgF (q:=qW h i' j) hl.len hl.all ha.hi ha.hj;refine⟨⟨ae,zaw _ _ _,zbd _ _ _,?_,hl.n8,.red _ _ _ hl.rel ha.hj ha.hi⟩,h2⟩;rw[hf,zbI _ ha.hj n zsC.piv];exact hl.det
theorem LS.swap{a:List (List Int)}(hl:LS n a h N s i c){p:Nat}(ha:AtSwap (zf (ent h)) n p):
  LS n a (Zb n h (qu n p)) N (s+1) 0 0/\q9 n N (s+1) 0 0<q9 n N s i c:=by
 have zsC:=hl.ll.j.pos;obtain⟨h1,h2⟩:=hl.ll.swap ha;have hf:=zgG hl.len hl.all ha.hp;refine⟨⟨ae,zaw _ _ _,zbd _ _ _,?_,hl.n8,.swap _ hl.rel ha.hp⟩,h2⟩;have hq:=Jh hl.ll.j.sym zsC (i:=p+1) (l:=p) ha.hp aa;obtain⟨t,ht⟩:∃t,n=p+2+t:=⟨n-(p+2),by have:=ha.hp;omega⟩;have:=zbJ (p:=p) (f:=zf (ent h)) (zsC.le aa).piv ae t;rw[<-ht]at this;rw[hf,this];exact hl.det
theorem LS.sym{a:List (List Int)}(hl:LS n a h N s i c)(x y:Nat):ent h x y=ent h y x:=by
 have:=hl.ll.j.sym x y;exact Rat.intCast_inj.1 this
theorem znr(h8:n<=8):2^200+n*(2^n*(2^200*n*(2^200)^n)*(2^n*(2^200*n*(2^200)^n))*2^200)<=2^4000:=by
 have h1:(2^200)^n<=(2^200)^8:=Nat.pow_le_pow_right (Nat.pow_pos aa) h8;have h2:2^n<=2^8:=Nat.pow_le_pow_right aa h8;have h3:2^200*n*(2^200)^n<=2^200*8*(2^200)^8:=Nat.mul_le_mul (Nat.mul_le_mul_left _ h8) h1;have h4:=Nat.mul_le_mul h2 h3;have h5:=Nat.mul_le_mul h8 (Nat.mul_le_mul_right (2^200) (Nat.mul_le_mul h4 h4));grind
theorem LS.bd{a:List (List Int)}(hl:LS n a h N s i c):BdM 4001 h:=fun x y=>by
 by_cases hxy:x<n/\y<n
 ·have b1:=hl.ll.j.za hl.ll.cst x hxy.1;have b2:=hl.ll.j.za hl.ll.cst y hxy.2;obtain⟨m1,m2⟩:=ze6 hl.ll.j.sym hl.ll.j.pos hxy.1 hxy.2;have hb0:=znr hl.n8;obtain⟨k,hk⟩:∃k:Nat,k=4000:=⟨_,rfl⟩;rw[<-hk]at hb0;have hk2:k+1<=4001:=aa
  clear hk;refine Bd.mono ?_ hk2;have hb:=Rat.natCast_le_natCast.2 hb0;simp only[Rat.natCast_add,Rat.natCast_mul,Rat.natCast_pow]at hb;have e:QL=((2:Nat):Rat)^200:=by rfl
  rw[e]at b1 b2;have e2:((2:Nat):Rat)=2:=rfl;rw[e2]at hb b1 b2;have g1:zf (ent h) x y<=2^k:=ae
  have g2:-(2^k)<=zf (ent h) x y:=ae
  have e3:(2:Rat)^k=((2^k:Int):Rat):=ae
  have e4:zf (ent h) x y=((ent h x y:Int):Rat):=rfl;rw[e3,e4]at g1 g2;rw[<-Rat.intCast_neg]at g2;have k1:=Rat.intCast_le_intCast.1 g1;have k2:=Rat.intCast_le_intCast.1 g2;unfold Bd;grind
 ·rw[qL hl.all (by rw[hl.len];omega)];exact Bd.zero _
theorem LS.done{a:List (List Int)}(hl:LS n a h N s i c)(h1:∀r,r<n->QB (zf (ent h)) r)(h2:∀p,p+1<n->qF (zf (ent h)) p):LLLed h:=by
 have hn:=hl.ll.cst.n1;have zsC:=hl.ll.j.pos;refine⟨by rw[hl.len];grind,by rw[hl.len];exact hl.n8,by rw[hl.len];exact hl.all,fun x y _ _=>hl.sym x y,by rw[hl.len];grind,by rw[hl.len];grind,by rw[hl.len];grind,?_⟩;rw[hl.len];have h3:=(ZX (ent h) (n-1) (zsC.le aa).piv).1 (n-1) (n-1);have h4:=hl.det;obtain⟨t,rfl⟩:∃t,n=t+1:=⟨n-1,aa⟩;have e:dd (zf (ent h)) (t+1)=dd (zf (ent h)) t*S (zf (ent h)) t t t:=rfl
 exact Rat.intCast_le_intCast.1 ae
structure Gm(n:Nat)(a:List (List Int)):Prop where
 n1:1<=n
 n8:n<=8
 len:a.length=n
 all:AllLen a n
 sym:∀i j,i<n->j<n->ent a i j=ent a j i
 pos:Pos (zf (ent a)) n
 det:E (ent a) (n-1) (n-1) (n-1)<=10000
 bd:BdM 199 a
theorem zns(m:Nat):(3:Rat)^(3*m)*2^m<=4^(3*m):=by
 induction m with
 |zero=>simp
 |succ m ih=>
  have e:3*(m+1)=3*m+3:=aa
  have h1:(3:Rat)^3=27:=rfl;have h2:(4:Rat)^3=64:=rfl;rw[e,zaR 3 (3*m) 3,zaR 4 (3*m) 3,h1,h2,Rat.pow_succ];have h3:=QR 4 ae (3*m);grind
def jo(n:Nat):Nat:=3*(200*n*n+1)
theorem znt(n:Nat):(3:Rat)^jo n*(QL^n)^n<4^jo n:=by
 have h:=zns (200*n*n+1);have e:(QL^n)^n=(2:Rat)^(200*n*n):=by
  unfold QL;have e2:(((2^200:Nat):Rat)^n)^n=(((((2^200)^n)^n:Nat)):Rat):=ae
  rw[e2,<-Nat.pow_mul,<-Nat.pow_mul,Rat.natCast_pow];grind
 unfold jo;rw[Rat.pow_succ]at h;have h3:=QR 3 ae (3*(200*n*n+1));have h4:=QR 2 ae (200*n*n);have h5:=Rat.mul_pos (show 0<(3:Rat)^(3*(200*n*n+1)) by grind) (show 0<(2:Rat)^(200*n*n) by grind);grind
theorem Gm.start{a:List (List Int)}(g:Gm n a):LS n a a (jo n) 0 0 0:=by
 have hs:=QX (by rw[g.len];exact g.all) (by rw[g.len];exact g.sym);have hA:(1:Rat)<=QL:=by rfl
 refine⟨LL.start g.n1 hA hs g.pos (fun x y=>⟨ent a x y,rfl⟩) (fun r hr=>?_) (znt n),g.len,g.all,?_,g.n8,.refl⟩
 ·have h1:=g.bd r r;unfold Bd at h1;have h2:ent a r r<=((2^200:Nat):Int):=ae
  have h3:=Rat.intCast_le_intCast.2 h2;show ((ent a r r:Int):Rat)<=QL;unfold QL;grind
 ·obtain⟨t,rfl⟩:∃t,n=t+1:=⟨n-1,by have:=g.n1;omega⟩;have h3:=(ZX (ent a) t (g.pos.le aa).piv).1 t t;have e:dd (zf (ent a)) (t+1)=dd (zf (ent a)) t*S (zf (ent a)) t t t:=rfl;have:=Rat.intCast_le_intCast.2 g.det;grind
theorem zhd{f:Mx}(h:∀i j,i≠j->f i j=0)(k:Nat):∀i j,k<=i->S f k i j=f i j:=by
 induction k with
 |zero=>intro i j _;rfl
 |succ k ih=>
  intro i j hi;have h1:=ih i j aa;have h2:=ih i k aa;have h3:f i k=0:=h i k aa;show elim (S f k) k i j=f i j;unfold elim;rw[h1,h2,h3];grind
theorem znu{f:Mx}(h:∀i j,i≠j->f i j=0)(hd:∀i,i<n->1<=f i i/\f i i<=2)(k:Nat):k<=n->0<=dd f k/\dd f k<=2^k:=by
 induction k with
 |zero=>intro _;exact⟨by show (0:Rat)<=1;grind,by rw[Rat.pow_zero];exact Rat.le_refl⟩
 |succ k ih=>
  intro hk;obtain⟨h1,h2⟩:=ih aa;obtain⟨h3,h4⟩:=hd k aa;have e:dd f (k+1)=dd f k*f k k:=by
   show dd f k*S f k k k=_;rw[zhd h k k k Zr]
  rw[e,Rat.pow_succ];have a1:=zL h1 h4;have a2:=Rat.mul_nonneg h1 (show 0<=f k k by grind);exact⟨a2,ae⟩
theorem znv{a:List (List Int)}(n1:1<=n)(n8:n<=8)(len:a.length=n)(all:AllLen a n)(zuk:∀i j,i≠j->ent a i j=0)(hd:∀i,i<n->1<=ent a i i/\ent a i i<=2):Gm n a:=by
 have ho:∀i j,i≠j->zf (ent a) i j=0:=fun i j hij=>by
  show ((ent a i j:Int):Rat)=0;rw[zuk i j hij];rfl
 have hd':∀i,i<n->1<=zf (ent a) i i/\zf (ent a) i i<=2:=fun i hi=>by
  obtain⟨h1,h2⟩:=hd i hi;exact⟨Rat.intCast_le_intCast.2 h1,Rat.intCast_le_intCast.2 h2⟩
 have hp:Pos (zf (ent a)) n:=fun l hl=>by
  rw[zhd ho l l l Zr];have:=(hd' l hl).1;grind
 refine⟨n1,n8,len,all,fun i j _ _=>?_,hp,?_,fun i j=>?_⟩
 ·by_cases e:i=j
  ·rw[e]
  ·rw[zuk i j e,zuk j i (fun h=>e h.symm)]
 ·obtain⟨t,rfl⟩:∃t,n=t+1:=⟨n-1,aa⟩;rw[Nat.add_sub_cancel];have h3:=(ZX (ent a) t (hp.le aa).piv).1 t t;have h4:=(znu ho hd' (t+1) Zr).2;have e:dd (zf (ent a)) (t+1)=dd (zf (ent a)) t*S (zf (ent a)) t t t:=rfl;rw[e,<-h3]at h4;have h5:(2:Rat)^(t+1)<=2^8:=zc7 ae n8;have h6:(2:Rat)^8=256:=by rfl
  have h7:((E (ent a) t t t:Int):Rat)<=((10000:Int):Rat):=by
   simp only[Rat.intCast_ofNat];grind
  exact Rat.intCast_le_intCast.1 h7
 ·by_cases e:i=j
  ·subst e;by_cases hi:i<n
   ·obtain⟨h1,h2⟩:=hd i hi;refine Bd.mono (k:=2) ?_ aa;unfold Bd;have:(2:Nat)^2=4:=rfl;omega
   ·rw[qL all (by rw[len];omega)];exact Bd.zero _
  ·rw[zuk i j e];exact Bd.zero _
theorem znw{a:List (List Int)}(n1:1<=n)(n8:n<=8)(len:a.length=n)(all:AllLen a n)(hs:∀i,i<n->∀j,j<i->ent a i j=ent a j i)(hl:∀x∈zt a,0<x)(zsY:detF a<=10000)(hb:BdM 199 a):Gm n a:=by
 have hp:Pos (zf (ent a)) n:=by have:=zgL.1 hl;rwa [len]at this
 refine⟨n1,n8,len,all,fun i j hi hj=>?_,hp,?_,hb⟩
 ·rcases Nat.lt_trichotomy i j with h|h|h
  ·exact(hs j hj i h).symm
  ·rw[h]
  ·exact hs i hi j h
 ·rw[zgK aa (fun l hl=>by have:=QI hp (k:=l) aa;omega),len]at zsY;exact zsY
end
section
theorem znx(x y:Int):(Int.gcd y (x%y):Int)=Int.gcd x y:=by
 rw[Int.emod_def,Int.gcd_sub_mul_left_right,Int.gcd_comm]
theorem zny(a b:Int):Int.gcd (a.natAbs:Int) (b.natAbs:Int)=Int.gcd a b:=by
 simp[Int.gcd]
structure RatOf(num den p q:Int):Prop where
 pos:0<q
 eq:p*den=num*q
 le1:p.natAbs<=num.natAbs
 le2:q.natAbs<=den.natAbs
theorem zhe{num:Int}(hd:den≠0):0<(Int.gcd num den:Int):=by
 have:Int.gcd num den≠0:=fun h=>hd (Int.gcd_eq_zero_iff.1 h).2
 omega
theorem RatOf.new{num:Int}(hd:0<den):RatOf num den (num / Int.gcd num den) (den / Int.gcd num den):=by
 have hg:=zhe (num:=num) (aa:den≠0);obtain⟨a,ha⟩:=Int.gcd_dvd_left (a:=num) (b:=den);obtain⟨b,hb⟩:=Int.gcd_dvd_right (a:=num) (b:=den);generalize (Int.gcd num den:Int)=g at*
 have e1:num / g=a:=by rw[ha];exact Int.mul_ediv_cancel_left _ aa
 have e2:den / g=b:=by rw[hb];exact Int.mul_ediv_cancel_left _ aa
 refine⟨?_,?_,Int.natAbs_ediv_le_natAbs _ _,Int.natAbs_ediv_le_natAbs _ _⟩
 ·rw[e2];rw[hb]at hd;exact Int.pos_of_mul_pos_right hd aa
 ·rw[e1,e2,ha,hb];grind
theorem zd8{a b c d:Int}(hb:0<b)(hd:0<d)(h:a*d=c*b):a / b=c / d:=by
 have h1:a / b=(a*d) / (b*d):=(Int.mul_ediv_mul_of_pos_left a b hd).symm;have h2:c / d=(c*b) / (d*b):=(Int.mul_ediv_mul_of_pos_left c d hb).symm;rw[h1,h2,h,Int.mul_comm b d]
end
section
open Go.RowKit
class BlkAt(b:Nat)(cs:outParam (Array Value))(T:outParam TypeId)(w:World):Prop where
 eq:w.heap[b]? =some (.cells cs T (0,0))
instance BlkAt.new (w:World) (n:Nat) (cs:Array Value) (T:TypeId) [h:Sz w n]:BlkAt n cs T (w.alloc (.cells cs T)):=⟨by rw[<-h.eq];exact heap_alloc_new w _⟩
instance (priority:=900) BlkAt.alloc (w:World) (b:Nat) (cs:Array Value) (T:TypeId) (o:Obj) [h:BlkAt b cs T w]:BlkAt b cs T (w.alloc o):=⟨(Below.heap_alloc w o b (zi h.eq)).trans h.eq⟩
instance BlkAt.drew (w:World) (b:Nat) (cs:Array Value) (T:TypeId) [h:BlkAt b cs T w]:BlkAt b cs T w.drew:=⟨h.eq⟩
instance BlkAt.drewN (w:World) (b k:Nat) (cs:Array Value) (T:TypeId) [h:BlkAt b cs T w]:BlkAt b cs T (w.drewN k):=⟨h.eq⟩
instance (priority:=50) BlkAt.step (W w':World) (b:Nat) (cs:Array Value) (T:TypeId) [s:Step W w'] [h:BlkAt b cs T W]:BlkAt b cs T w':=⟨zg s.ext h.eq⟩
instance BlkAt.set (w:World) (b i:Nat) (cs:Array Value) (T:TypeId) (u:Value) [h:BlkAt b cs T w]:BlkAt b (cs.setIfInBounds i u) T (w.setCell ⟨b,i,none⟩ u):=⟨zX h.eq u⟩
instance (priority:=900) BlkAt.far (w:World) (b b' i:Nat) (cs:Array Value) (T:TypeId) (u:Value) [h:BlkAt b cs T w] [ha:Apart b b']:BlkAt b cs T (w.setCell ⟨b',i,none⟩ u):=⟨ZD h.eq ha.ne u⟩
instance Apart.s1 (n:Nat):Apart n (n+1):=⟨aa⟩
instance Apart.s1' (n:Nat):Apart (n+1) n:=⟨aa⟩
instance Apart.s2 (n:Nat):Apart n (n+1+1):=⟨aa⟩
instance Apart.s2' (n:Nat):Apart (n+1+1) n:=⟨aa⟩
instance Apart.s3 (n:Nat):Apart n (n+1+1+1):=⟨aa⟩
instance Apart.s3' (n:Nat):Apart (n+1+1+1) n:=⟨aa⟩
def Box(w:World)(b:Nat)(z:Int):Prop:=∃g B n c,w.heap[b]? =some (.cells #[.bool g,.slice B n c] 102 (0,0))/\IntV w g B n c z
section
variable {w w':World} {b b':Nat} {z:Int}
theorem Box.ext(h:Box w b z)(hx:Ext w w'):Box w' b z:=by
 obtain⟨g,B,n,c,h1,h2⟩:=h;exact⟨g,B,n,c,zg hx h1,h2.ext hx⟩
theorem Box.lt(h:Box w b z):b<w.heap.size:=by
 obtain⟨g,B,n,c,h1,h2⟩:=h;exact zi h1
theorem Box.cells(h:Box w b z):∃g B n c,w.heap[b]? =some (.cells #[.bool g,.slice B n c] 102 (0,0))/\w.cell? ⟨b,0,none⟩=some (.bool g)/\w.cell? ⟨b,1,none⟩=some (.slice B n c)/\w.frozen? ⟨b,0,none⟩=false/\w.frozen? ⟨b,1,none⟩=false/\b<w.heap.size/\IntV w g B n c z:=by
 obtain⟨g,B,n,c,h1,h2⟩:=h;obtain⟨a1,a2,a3,a4,a5⟩:=zN h1;exact⟨g,B,n,c,h1,a1,a2,a3,a4,a5,h2⟩
theorem Box.put{x y:Value}(h:w.heap[b]? =some (.cells #[x,y] 102 (0,0)))(hz:IntV w g B n c z):Box ((w.setCell ⟨b,0,none⟩ (.bool g)).setCell ⟨b,1,none⟩ (.slice B n c)) b z:=by
 refine⟨g,B,n,c,?_,hz.boxed ac h _ _⟩;exact zaj (zbW h)
theorem Box.far{cs:Array Value}(h:Box w b z)(h':w.heap[b']? =some (.cells cs 102 (0,0)))(hne:b≠b')(i j:Nat)(u v:Value):Box ((w.setCell ⟨b',i,none⟩ u).setCell ⟨b',j,none⟩ v) b z:=by
 obtain⟨g,B,n,c,h1,h2⟩:=h;refine⟨g,B,n,c,ZD (ZD h1 hne u) hne v,?_⟩;exact(h2.setCell (p:=⟨b',i,none⟩) h' ac u).setCell (p:=⟨b',j,none⟩) (zX h' u) ac v
theorem Box.oth{T:TypeId}(h:Box w b z)(ho:Oth T w w')(h1:102≠T)(h2:212≠T):Box w' b z:=by
 obtain⟨g,B,n,c,a1,a2⟩:=h;exact⟨g,B,n,c,ho _ _ _ _ h1 a1,a2.oth ho h2⟩
end
end
end Go.Proofs.YtgoaelchibpffaaGreat
