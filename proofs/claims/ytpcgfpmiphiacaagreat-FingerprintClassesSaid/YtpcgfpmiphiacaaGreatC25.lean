import Derived.Test.YtpcgfpmiphiacaaGreatC24
import Derived.Shelf.SlSortCmp.PdqK
set_option maxHeartbeats 8000000
set_option linter.unusedVariables false
set_option linter.unusedSimpArgs false
namespace Go.Proofs.YtpcgfpmiphiacaaGreat
open List (mem_singleton)
variable {p:Addr} {cur:Array Value} {L m:List (List Int)} {a c cap g k mb n zf:Nat} {A:Option Addr} {T:TypeId} {w w':World}
section
open Go.RowKit Go.Shelf Go.Lib Go.Sort
section
variable {α:Type} [Inhabited α] {enc:α->List Value} {k:Nat} {w0:World} {blk off:Nat} {d0:Array α} {cf:α->α->Int}
set_option maxRecDepth 1000000 in
theorem zqb{d:Array α}(aE:∀w,(isAgg 52).run Tryz.prog w= .ok true w)(zE:∀w,(Go.sizeOf 52).run Tryz.prog w= .ok k w)(O:SWO (ltOf cf))(cap a m b:Nat)(zsi:CmpLays Tryz.prog 39 #[] enc k cf blk off d0.size w0)(R:RowK enc k w0 blk off d0)(hs:d0.size=d.size)(S:SWK enc k w0 blk off d w)(h1:a<m)(h2:m<b)(h3:b<=d.size)(hsz:d.size<4611686018427387904)(s1:SortedIn (ltOf cf) a m d)(s2:SortedIn (ltOf cf) m b d)(hm:m=a+1):
  Cq 146 #[.slice (some ⟨blk,off,none⟩) d.size cap,.int .i64 a,.int .i64 m,.int .i64 b,.func (.func 39) #[] #[]] w (qQ enc k w0 blk off fun dk=>PermIn a b d dk/\SortedIn (ltOf cf) a b dk):=by
 have eg:∀args w,(callFunc 39 args).run Tryz.prog w= .ok (.enter 39 args) w:=enters_of Tryz.func39 (by kernel_rfl) rfl;have HC:Hid (CmpLays Tryz.prog 39 #[] enc k cf blk off d0.size w0):=zsi;have S0:Hid (SWK enc k w0 blk off d w):=S;have H1:=Zh s1;have H2:=Zh s2;unfold qQ;clear S zsi s1 s2;have hw1:IntKind.i64.wrap ((m:Int)-(a:Int))=1:=by rw[Iw];omega
 have HM:Hid (Jw (fun c=>ltOf cf d[c]! d[a]!) m b):=Zh (zp4 O _ H2.out);have HMM:=Zh hm;clear hm;have mixed:Tryz.prog.follows Departure.mixedOrders=true:=by kernel_rfl
 go_enter Tryz.func146,Tryz.ntmps146;go_wp2_with fail
 go_loopw [10,11,12] (fun iv jv _ wr=>∃(i j:Nat),iv= .int .i64 i/\jv= .int .i64 j/\m<=i/\i<=j/\j<=b/\Hid (Bis (fun c=>ltOf cf d[c]! d[a]!) m b i j)/\Hid (SWK enc k w0 blk off d wr)) (fun iv jv _ _=>(intOf jv).toNat-(intOf iv).toNat)
 case atStart=>exact⟨m,b,rfl,rfl,Zr,by omega,Zr,Zh (Bis.start (by omega)),S0⟩
 case round=>
  clear S0;obtain⟨i,j,rfl,rfl,hi1,hij,hjb,HB,S1⟩:=hrel;by_cases hlt:i<j
  ·obtain⟨h,hh⟩:=Xz ((i+j) / 2);have hhz:((i:Int)+(j:Int)) / 2=(h:Int):=by omega
   have hh2:i<=h/\h<j:=by omega
   have HH:=Zh hh;clear hh
   cases hlv:ltOf cf d[h]! d[a]! with
   |true=>
    have HB2:=Zh (HB.out.up HM.out hh2.1 hh2.2 hlv);have ea:((h:Int):Int).toNat=h:=by omega
    have pa:(0:Int)<=(h:Int):=by omega
    have ba:(h:Int)<(d.size:Int):=by omega
    have ra:IntKind.i64.wrap ((h:Int))=(h:Int):=by rw[IntKind.wrap_i64];omega
    have ec:((a:Int):Int).toNat=a:=by omega
    have pc:(0:Int)<=(a:Int):=by omega
    have bc:(a:Int)<(d.size:Int):=by omega
    have rc:IntKind.i64.wrap ((a:Int))=(a:Int):=by rw[IntKind.wrap_i64];omega
    obtain⟨x,hx⟩:=Xz (d[h]! );obtain⟨y,hy⟩:=Xz (d[a]! );have la:=S1.out.ld R (by omega) Tryz.prog (h) (by omega);have lb:=S1.out.ld R (by omega) Tryz.prog (a) (by omega);rw[<-hx]at la;rw[<-hy]at lb;have hc:=S1.out.cmp HC.out (by omega) x y;have hv:cf x y<0:=by rw[hx,hy];exact of_decide_eq_true hlv
    have hd:decide (cf x y<0)=true:=decide_eq_true hv;have HXY:=Zh (And.intro hx hy);clear hx hy;go_wp2_with fail
    go_quiet_grown (first|(go_at_fn 39;refine Calls.grown_of (hc _ _)))
    have SU2:Hid (SWK enc k w0 blk off d (grow (wr.drewN nq) osq)):=S1.out.grown nq osq;clear la lb hc S1 HC;generalize grow (wr.drewN nq) osq=wu at SU2|-
    clear nq osq;go_wp2;exact⟨⟨h+1,j,by go_num,rfl,by omega,by omega,hjb,HB2,SU2⟩,by simp[intOf];omega⟩
   |false=>
    have HB2:=Zh (HB.out.down HM.out hh2.1 hh2.2 hlv);have ea:((h:Int):Int).toNat=h:=by omega
    have pa:(0:Int)<=(h:Int):=by omega
    have ba:(h:Int)<(d.size:Int):=by omega
    have ra:IntKind.i64.wrap ((h:Int))=(h:Int):=by rw[IntKind.wrap_i64];omega
    have ec:((a:Int):Int).toNat=a:=by omega
    have pc:(0:Int)<=(a:Int):=by omega
    have bc:(a:Int)<(d.size:Int):=by omega
    have rc:IntKind.i64.wrap ((a:Int))=(a:Int):=by rw[IntKind.wrap_i64];omega
    obtain⟨x,hx⟩:=Xz (d[h]! );obtain⟨y,hy⟩:=Xz (d[a]! );have la:=S1.out.ld R (by omega) Tryz.prog (h) (by omega);have lb:=S1.out.ld R (by omega) Tryz.prog (a) (by omega);rw[<-hx]at la;rw[<-hy]at lb;have hc:=S1.out.cmp HC.out (by omega) x y;have hv:¬cf x y<0:=by rw[hx,hy];exact of_decide_eq_false hlv
    have hd:decide (cf x y<0)=false:=decide_eq_false hv;have HXY:=Zh (And.intro hx hy);clear hx hy;go_wp2_with fail
    go_quiet_grown (first|(go_at_fn 39;refine Calls.grown_of (hc _ _)))
    have SU2:Hid (SWK enc k w0 blk off d (grow (wr.drewN nq) osq)):=S1.out.grown nq osq;clear la lb hc S1 HC;generalize grow (wr.drewN nq) osq=wu at SU2|-
    clear nq osq;go_wp2;exact⟨⟨i,h,rfl,rfl,hi1,hh2.1,by omega,HB2,SU2⟩,by simp[intOf];omega⟩
  ·obtain rfl:i=j:=by omega
   obtain⟨p,hp⟩:=Xz (i-1);have hwp:IntKind.i64.wrap ((i:Int)-1)=(p:Int):=by rw[Iw];omega
   have hpi:p+1=i:=by omega
   clear hp;go_wp2_with fail
   go_loopw [13] (fun kv wr=>∃(q:Nat) (dk:Array α),kv= .int .i64 q/\a<=q/\q<=p/\dk.size=d.size/\Hid (RotIn a (a+1) (q+1) d dk)/\Hid (PermIn a b d dk)/\Hid (SWK enc k w0 blk off dk wr)) (fun kv _=>p-(intOf kv).toNat)
   case atStart=>exact⟨a,d,rfl,Zr,by omega,rfl,Zh (zeK (.inr Zr)),Zh (permIn_refl _ _ _),S1⟩
   case round=>
    clear S1;obtain⟨q,dk,rfl,hq1,hq2,hds,HR,HP,S1⟩:=hrel;by_cases hlq:q<p
    ·have HR2:=Zh (HR.out.up hq1 (by omega));have HP2:Hid (PermIn a b d (swp dk q (q+1))):=Zh (permIn_trans _ _ _ _ _ HP.out (swp_permIn _ _ _ _ _ (by omega) (by omega) (by omega) (by omega) (by omega)));have ea1:((q:Int):Int).toNat=q:=by omega
     have pa1:(0:Int)<=(q:Int):=by omega
     have ba1:(q:Int)<(d.size:Int):=by omega
     have ra1:IntKind.i64.wrap ((q:Int))=(q:Int):=by rw[IntKind.wrap_i64];omega
     have ec1:((q:Int)+1:Int).toNat=q+1:=by omega
     have pc1:(0:Int)<=(q:Int)+1:=by omega
     have bc1:(q:Int)+1<(d.size:Int):=by omega
     have rc1:IntKind.i64.wrap ((q:Int)+1)=(q:Int)+1:=by rw[IntKind.wrap_i64];omega
     have S2:Hid (SWK enc k w0 blk off (swp dk (q) (q+1)) ((wr.drew.setCells blk (off+(q)*k) (enc dk[q+1]!)).setCells blk (off+(q+1)*k) (enc dk[q]!))):=S1.out.swapped R (q) (q+1) (by omega) (by omega);have l1a:=S1.out.ld1 R (by omega) Tryz.prog (q) (by omega);have l1b:=S1.out.ld1 R (by omega) Tryz.prog (q+1) (by omega);have s1a:=S1.out.st1 R (by omega) Tryz.prog (q) (by omega) dk[q+1]!;have s1b:=S1.out.st2 R (by omega) Tryz.prog (q) (q+1) (by omega) (by omega) dk[q+1]! dk[q]!
     have n1a:(enc dk[q]!).length=k:=R.hk _;have n1b:(enc dk[q+1]!).length=k:=R.hk _;generalize enc dk[q]! =cI at S2 l1a s1b n1a;generalize enc dk[q+1]! =cJ at S2 l1b s1a s1b n1b;clear S1;go_wp2_with fail
     go_big_region_o
     clear l1a l1b s1a s1b;generalize (wr.drew.setCells blk (off+(q)*k) cJ).setCells blk (off+(q+1)*k) cI=w2 at S2|-
     go_wp2;exact⟨⟨q+1,swp dk q (q+1),by go_num,by omega,by omega,by rw[size_swp];exact hds,HR2,HP2,S2⟩,by simp[intOf];omega⟩
    ·obtain rfl:q=p:=by omega
     go_wp2;refine bodyPost_ret (results_none rfl _ _ _) rfl ?_;obtain⟨b1,b2,b3,q1,q2⟩:=HB.out;have hr:=HR.out;rw[hpi]at hr;have hsm:=H2.out;rw[HMM.out]at hsm;simp only[HMM.out]at q1;exact⟨rfl,dk,S1.out,HP.out,zp2 O hsm (by omega) hjb q1 q2 hr⟩
set_option maxRecDepth 1000000 in
theorem zqc{d:Array α}(aE:∀w,(isAgg 52).run Tryz.prog w= .ok true w)(zE:∀w,(Go.sizeOf 52).run Tryz.prog w= .ok k w)(O:SWO (ltOf cf))(cap a m b:Nat)(zsi:CmpLays Tryz.prog 39 #[] enc k cf blk off d0.size w0)(R:RowK enc k w0 blk off d0)(hs:d0.size=d.size)(S:SWK enc k w0 blk off d w)(h1:a<m)(h2:m<b)(h3:b<=d.size)(hsz:d.size<4611686018427387904)(s1:SortedIn (ltOf cf) a m d)(s2:SortedIn (ltOf cf) m b d)(hm:m≠a+1)(hb:b=m+1):
  Cq 146 #[.slice (some ⟨blk,off,none⟩) d.size cap,.int .i64 a,.int .i64 m,.int .i64 b,.func (.func 39) #[] #[]] w (qQ enc k w0 blk off fun dk=>PermIn a b d dk/\SortedIn (ltOf cf) a b dk):=by
 have eg:∀args w,(callFunc 39 args).run Tryz.prog w= .ok (.enter 39 args) w:=enters_of Tryz.func39 (by kernel_rfl) rfl;have HC:Hid (CmpLays Tryz.prog 39 #[] enc k cf blk off d0.size w0):=zsi;have S0:Hid (SWK enc k w0 blk off d w):=S;have H1:=Zh s1;have H2:=Zh s2;unfold qQ;clear S zsi s1 s2;obtain⟨u,hu⟩:=Xz (m-a);have hw1:IntKind.i64.wrap ((m:Int)-(a:Int))=(u:Int):=by rw[Iw];omega
 have hu1:((u:Int)==1)=false:=by simp;omega
 have hw2:IntKind.i64.wrap ((b:Int)-(m:Int))=1:=by rw[Iw];omega
 have HM:Hid (Jw (fun c=>!ltOf cf d[m]! d[c]!) a m):=Zh (zp5 O _ H1.out);have HBB:=Zh hb;clear hu hb;have mixed:Tryz.prog.follows Departure.mixedOrders=true:=by kernel_rfl
 go_enter Tryz.func146,Tryz.ntmps146;go_wp2_with fail
 go_loopw [14,15,16] (fun iv jv _ wr=>∃(i j:Nat),iv= .int .i64 i/\jv= .int .i64 j/\a<=i/\i<=j/\j<=m/\Hid (Bis (fun c=>!ltOf cf d[m]! d[c]!) a m i j)/\Hid (SWK enc k w0 blk off d wr)) (fun iv jv _ _=>(intOf jv).toNat-(intOf iv).toNat)
 case atStart=>exact⟨a,m,rfl,rfl,Zr,by omega,Zr,Zh (Bis.start (by omega)),S0⟩
 case round=>
  clear S0;obtain⟨i,j,rfl,rfl,hi1,hij,hjb,HB,S1⟩:=hrel;by_cases hlt:i<j
  ·obtain⟨h,hh⟩:=Xz ((i+j) / 2);have hhz:((i:Int)+(j:Int)) / 2=(h:Int):=by omega
   have hh2:i<=h/\h<j:=by omega
   have HH:=Zh hh;clear hh
   cases hlv:ltOf cf d[m]! d[h]! with
   |false=>
    have HB2:=Zh (HB.out.up HM.out hh2.1 hh2.2 (by simp only[hlv,Bool.not_false]));have ea:((m:Int):Int).toNat=m:=by omega
    have pa:(0:Int)<=(m:Int):=by omega
    have ba:(m:Int)<(d.size:Int):=by omega
    have ra:IntKind.i64.wrap ((m:Int))=(m:Int):=by rw[IntKind.wrap_i64];omega
    have ec:((h:Int):Int).toNat=h:=by omega
    have pc:(0:Int)<=(h:Int):=by omega
    have bc:(h:Int)<(d.size:Int):=by omega
    have rc:IntKind.i64.wrap ((h:Int))=(h:Int):=by rw[IntKind.wrap_i64];omega
    obtain⟨x,hx⟩:=Xz (d[m]! );obtain⟨y,hy⟩:=Xz (d[h]! );have la:=S1.out.ld R (by omega) Tryz.prog (m) (by omega);have lb:=S1.out.ld R (by omega) Tryz.prog (h) (by omega);rw[<-hx]at la;rw[<-hy]at lb;have hc:=S1.out.cmp HC.out (by omega) x y;have hv:¬cf x y<0:=by rw[hx,hy];exact of_decide_eq_false hlv
    have hd:decide (cf x y<0)=false:=decide_eq_false hv;have HXY:=Zh (And.intro hx hy);clear hx hy;go_wp2_with fail
    go_quiet_grown (first|(go_at_fn 39;refine Calls.grown_of (hc _ _)))
    have SU2:Hid (SWK enc k w0 blk off d (grow (wr.drewN nq) osq)):=S1.out.grown nq osq;clear la lb hc S1 HC;generalize grow (wr.drewN nq) osq=wu at SU2|-
    clear nq osq;go_wp2;exact⟨⟨h+1,j,by go_num,rfl,by omega,by omega,hjb,HB2,SU2⟩,by simp[intOf];omega⟩
   |true=>
    have HB2:=Zh (HB.out.down HM.out hh2.1 hh2.2 (by simp only[hlv,Bool.not_true]));have ea:((m:Int):Int).toNat=m:=by omega
    have pa:(0:Int)<=(m:Int):=by omega
    have ba:(m:Int)<(d.size:Int):=by omega
    have ra:IntKind.i64.wrap ((m:Int))=(m:Int):=by rw[IntKind.wrap_i64];omega
    have ec:((h:Int):Int).toNat=h:=by omega
    have pc:(0:Int)<=(h:Int):=by omega
    have bc:(h:Int)<(d.size:Int):=by omega
    have rc:IntKind.i64.wrap ((h:Int))=(h:Int):=by rw[IntKind.wrap_i64];omega
    obtain⟨x,hx⟩:=Xz (d[m]! );obtain⟨y,hy⟩:=Xz (d[h]! );have la:=S1.out.ld R (by omega) Tryz.prog (m) (by omega);have lb:=S1.out.ld R (by omega) Tryz.prog (h) (by omega);rw[<-hx]at la;rw[<-hy]at lb;have hc:=S1.out.cmp HC.out (by omega) x y;have hv:cf x y<0:=by rw[hx,hy];exact of_decide_eq_true hlv
    have hd:decide (cf x y<0)=true:=decide_eq_true hv;have HXY:=Zh (And.intro hx hy);clear hx hy;go_wp2_with fail
    go_quiet_grown (first|(go_at_fn 39;refine Calls.grown_of (hc _ _)))
    have SU2:Hid (SWK enc k w0 blk off d (grow (wr.drewN nq) osq)):=S1.out.grown nq osq;clear la lb hc S1 HC;generalize grow (wr.drewN nq) osq=wu at SU2|-
    clear nq osq;go_wp2;exact⟨⟨i,h,rfl,rfl,hi1,hh2.1,by omega,HB2,SU2⟩,by simp[intOf];omega⟩
  ·obtain rfl:i=j:=by omega
   go_wp2_with fail
   go_loopw [17] (fun kv wr=>∃(q:Nat) (dk:Array α),kv= .int .i64 q/\i<=q/\q<=m/\dk.size=d.size/\Hid (RotIn q m (m+1) d dk)/\Hid (PermIn a b d dk)/\Hid (SWK enc k w0 blk off dk wr)) (fun kv _=>(intOf kv).toNat-i)
   case atStart=>exact⟨m,d,rfl,hjb,Zr,rfl,Zh (zeK (.inl rfl)),Zh (permIn_refl _ _ _),S1⟩
   case round=>
    clear S1;obtain⟨q,dk,rfl,hq1,hq2,hds,HR,HP,S1⟩:=hrel;by_cases hlq:i<q
    ·obtain⟨p,hp⟩:∃p,q=p+1:=⟨q-1,by omega⟩;have hwp:IntKind.i64.wrap ((q:Int)-1)=(p:Int):=by rw[Iw];omega
     have hr:=HR.out;rw[hp]at hr;have HR2:=Zh (hr.down (by omega) (by omega));rw[<-hp]at HR2;have HP2:Hid (PermIn a b d (swp dk q p)):=Zh (permIn_trans _ _ _ _ _ HP.out (swp_permIn _ _ _ _ _ (by omega) (by omega) (by omega) (by omega) (by omega)));have hpq:p+1=q:=by omega
     clear hr hp;have ea1:((q:Int):Int).toNat=q:=by omega
     have pa1:(0:Int)<=(q:Int):=by omega
     have ba1:(q:Int)<(d.size:Int):=by omega
     have ra1:IntKind.i64.wrap ((q:Int))=(q:Int):=by rw[IntKind.wrap_i64];omega
     have ec1:((p:Int):Int).toNat=p:=by omega
     have pc1:(0:Int)<=(p:Int):=by omega
     have bc1:(p:Int)<(d.size:Int):=by omega
     have rc1:IntKind.i64.wrap ((p:Int))=(p:Int):=by rw[IntKind.wrap_i64];omega
     have S2:Hid (SWK enc k w0 blk off (swp dk (q) (p)) ((wr.drew.setCells blk (off+(q)*k) (enc dk[p]!)).setCells blk (off+(p)*k) (enc dk[q]!))):=S1.out.swapped R (q) (p) (by omega) (by omega);have l1a:=S1.out.ld1 R (by omega) Tryz.prog (q) (by omega);have l1b:=S1.out.ld1 R (by omega) Tryz.prog (p) (by omega);have s1a:=S1.out.st1 R (by omega) Tryz.prog (q) (by omega) dk[p]!;have s1b:=S1.out.st2 R (by omega) Tryz.prog (q) (p) (by omega) (by omega) dk[p]! dk[q]!
     have n1a:(enc dk[q]!).length=k:=R.hk _;have n1b:(enc dk[p]!).length=k:=R.hk _;generalize enc dk[q]! =cI at S2 l1a s1b n1a;generalize enc dk[p]! =cJ at S2 l1b s1a s1b n1b;clear S1;go_wp2_with fail
     go_big_region_o
     clear l1a l1b s1a s1b;generalize (wr.drew.setCells blk (off+(q)*k) cJ).setCells blk (off+(p)*k) cI=w2 at S2|-
     go_wp2;exact⟨⟨p,swp dk q p,by first|rfl|go_num,by omega,by omega,by rw[size_swp];exact hds,HR2,HP2,S2⟩,by simp[intOf];omega⟩
    ·obtain rfl:q=i:=by omega
     go_wp2;refine bodyPost_ret (results_none rfl _ _ _) rfl ?_;obtain⟨b1,b2,b3,q1,q2⟩:=HB.out;simp only[Bool.not_eq_true',Bool.not_eq_false']at q1 q2;exact⟨rfl,dk,S1.out,HP.out,by rw[HBB.out];exact zp3 O H1.out b1 b3 q1 q2 HR.out⟩
def zeN (cap:Nat) (enc:α->List Value) (k:Nat) (w0:World) (blk off:Nat) (cf:α->α->Int) (sz N:Nat):Prop:=∀(a m b:Nat) (d:Array α) (W:World),b-a<N->a<m->m<b->b<=sz->d.size=sz->SortedIn (ltOf cf) a m d->SortedIn (ltOf cf) m b d->SWK enc k w0 blk off d W->
    Cq 146 #[.slice (some ⟨blk,off,none⟩) sz cap,.int .i64 a,.int .i64 m,.int .i64 b,.func (.func 39) #[] #[]] W (qQ enc k w0 blk off fun dk=>PermIn a b d dk/\SortedIn (ltOf cf) a b dk)
set_option maxRecDepth 1000000 in
theorem zqd{d:Array α}(aE:∀w,(isAgg 52).run Tryz.prog w= .ok true w)(zE:∀w,(Go.sizeOf 52).run Tryz.prog w= .ok k w)(O:SWO (ltOf cf))(cap a m b:Nat)(zsi:CmpLays Tryz.prog 39 #[] enc k cf blk off d0.size w0)(R:RowK enc k w0 blk off d0)(hs:d0.size=d.size)(S:SWK enc k w0 blk off d w)(h1:a<m)(h2:m<b)(h3:b<=d.size)(hsz:d.size<4611686018427387904)(s1:SortedIn (ltOf cf) a m d)(s2:SortedIn (ltOf cf) m b d)(hm:m≠a+1)(hb:b≠m+1)(zsN:zeN cap enc k w0 blk off cf d.size (b-a)):
  Cq 146 #[.slice (some ⟨blk,off,none⟩) d.size cap,.int .i64 a,.int .i64 m,.int .i64 b,.func (.func 39) #[] #[]] w (qQ enc k w0 blk off fun dk=>PermIn a b d dk/\SortedIn (ltOf cf) a b dk):=by
 have eg:∀args w,(callFunc 39 args).run Tryz.prog w= .ok (.enter 39 args) w:=enters_of Tryz.func39 (by kernel_rfl) rfl;have HC:Hid (CmpLays Tryz.prog 39 #[] enc k cf blk off d0.size w0):=zsi;have S0:Hid (SWK enc k w0 blk off d w):=S;have H1:=Zh s1;have H2:=Zh s2;unfold qQ;clear S zsi s1 s2;have HRC:=Zh zsN;have zrx:Hid (∀(W:World)(dk:Array α)(a m b:Nat),SWK enc k w0 blk off dk W->dk.size=d.size->a<m->m<b->b<=d.size->Cq 211 #[.slice (some ⟨blk,off,none⟩) d.size cap,.int .i64 a,.int .i64 m,.int .i64 b,.func (.func 39) #[] #[]] W (qQ enc k w0 blk off fun dk'=>RotIn a m b dk dk'/\PermIn a b dk dk')):=Zh (fun W dk a m b h1 h2 h3 h4 h5=>by
  have h:=zqa aE zE 39 cap a m b #[] R (by omega) h1 h3 h4 (by omega) (by omega);rw[h2]at h;exact h)
 unfold zeN at HRC;unfold qQ at HRC zrx;obtain⟨u,hu⟩:=Xz (m-a);obtain⟨v,hv⟩:=Xz (b-m);have hw1:IntKind.i64.wrap ((m:Int)-(a:Int))=(u:Int):=by rw[Iw];omega
 have hu1:((u:Int)==1)=false:=by simp;omega
 have hw2:IntKind.i64.wrap ((b:Int)-(m:Int))=(v:Int):=by rw[Iw];omega
 have hv1:((v:Int)==1)=false:=by simp;omega
 obtain⟨mid,ztk⟩:=Xz ((a+b) / 2);have hmz:((a:Int)+(b:Int)) / 2=(mid:Int):=by omega
 have hm3:a<mid/\mid<b:=by omega
 have hwn:IntKind.i64.wrap ((mid:Int)+(m:Int))=(mid:Int)+(m:Int):=Iw;obtain⟨n,hn⟩:=Xz (mid+m);have hnz:(mid:Int)+(m:Int)=(n:Int):=by omega
 obtain⟨s0,r0,hR0,zsJ⟩:∃s0 r0,zeL a m b mid s0 r0/\((m<=mid/\s0=a/\r0=m)∨(mid<m/\s0=n-b/\r0=mid)):=by
  rcases Zl mid m with h|h
  ·exact⟨n-b,mid,⟨h1,h2,ztk,.inr ⟨h,by rw[hn],rfl⟩⟩,.inr ⟨h,rfl,rfl⟩⟩
  ·exact⟨a,m,⟨h1,h2,ztk,.inl ⟨h,rfl,rfl⟩⟩,.inl ⟨h,rfl,rfl⟩⟩
 have HR0:=Zh hR0;have HM:Hid (Jw (fun c=>!ltOf cf d[mid+m-1-c]! d[c]!) s0 r0):=Zh (zp6 O hR0 H1.out H2.out);obtain⟨pp,hpp⟩:=Xz (n-1);have hwp:IntKind.i64.wrap ((n:Int)-1)=(pp:Int):=by rw[Iw];omega
 have hsr:a<=s0/\s0<=r0/\r0<=m/\r0<=mid/\n-s0<=b/\m<=n-r0/\mid<=n-r0:=by omega
 have hwb:mid<m->IntKind.i64.wrap ((n:Int)-(b:Int))=(s0:Int):=fun h=>by rw[Iw];omega
 have HNN:=Zh (And.intro hn hpp);have HCS:=Zh zsJ;have zr4:=Zh ztk;have zyz:n<=pp+1:=by omega
 have zyA:pp+1<=n:=by omega
 clear hu hv ztk hn hpp zsJ hR0 zsN;have mixed:Tryz.prog.follows Departure.mixedOrders=true:=by kernel_rfl
 go_enter Tryz.func146,Tryz.ntmps146;go_upto_if 140 with fail
 go_cut [20,21] (fun sv rv W=>sv= .int .i64 s0/\rv= .int .i64 r0/\W=w)
 case first=>as_aux_lemma=>
  rcases HCS.out with ⟨hc1,hc2,hc3⟩|⟨hc1,hc2,hc3⟩
  ·have hd:decide ((m:Int)>(mid:Int))=false:=by simp;omega
   subst hc2 hc3;go_wp2_with fail
   go_meet
   exact⟨rfl,rfl,rfl⟩
  ·have zyB:=hwb hc1;subst hc3;go_wp2_with fail
   go_meet
   exact⟨by rw[hc2],rfl,rfl⟩
 case rest=>
  obtain⟨rfl,rfl,hW⟩:=hcut;rw[hW];clear hW hwb;go_wp2_with fail
  go_loopw [20,21,23] (fun sv rv _ wr=>∃(s r:Nat),sv= .int .i64 s/\rv= .int .i64 r/\s0<=s/\s<=r/\r<=r0/\Hid (Bis (fun c=>!ltOf cf d[mid+m-1-c]! d[c]!) s0 r0 s r)/\Hid (SWK enc k w0 blk off d wr)) (fun sv rv _ _=>(intOf rv).toNat-(intOf sv).toNat)
  case atStart=>exact⟨s0,r0,rfl,rfl,Zr,by omega,Zr,Zh (Bis.start (by omega)),S0⟩
  case round=>
   clear S0;obtain⟨s,r,rfl,rfl,hs1,zyC,hr1,HB,S1⟩:=hrel;by_cases hlt:s<r
   ·obtain⟨h,hh⟩:=Xz ((s+r) / 2);have hhz:((s:Int)+(r:Int)) / 2=(h:Int):=by omega
    have hh2:s<=h/\h<r:=by omega
    obtain⟨z,hz⟩:=Xz (pp-h);have hwz:IntKind.i64.wrap ((pp:Int)-(h:Int))=(z:Int):=by rw[Iw];omega
    have hzl:z<d.size:=by omega
    have hpi:mid+m-1-h=z:=by have:=HNN.out;omega
    have HPI:=Zh hpi;clear hh hpi hz
    cases hlv:ltOf cf d[z]! d[h]! with
    |false=>as_aux_lemma=>
     have HB2:=Zh (HB.out.up HM.out hh2.1 hh2.2 (by simp only[HPI.out,hlv,Bool.not_false]));have ea:((z:Int):Int).toNat=z:=by omega
     have pa:(0:Int)<=(z:Int):=by omega
     have ba:(z:Int)<(d.size:Int):=by omega
     have ra:IntKind.i64.wrap ((z:Int))=(z:Int):=by rw[IntKind.wrap_i64];omega
     have ec:((h:Int):Int).toNat=h:=by omega
     have pc:(0:Int)<=(h:Int):=by omega
     have bc:(h:Int)<(d.size:Int):=by omega
     have rc:IntKind.i64.wrap ((h:Int))=(h:Int):=by rw[IntKind.wrap_i64];omega
     obtain⟨x,hx⟩:=Xz (d[z]! );obtain⟨y,hy⟩:=Xz (d[h]! );have la:=S1.out.ld R (by omega) Tryz.prog (z) (by omega);have lb:=S1.out.ld R (by omega) Tryz.prog (h) (by omega);rw[<-hx]at la;rw[<-hy]at lb;have hc:=S1.out.cmp HC.out (by omega) x y;have hv:¬cf x y<0:=by rw[hx,hy];exact of_decide_eq_false hlv
     have hd:decide (cf x y<0)=false:=decide_eq_false hv;have HXY:=Zh (And.intro hx hy);clear hx hy;go_wp2_with fail
     go_quiet_grown (first|(go_at_fn 39;refine Calls.grown_of (hc _ _)))
     have SU2:Hid (SWK enc k w0 blk off d (grow (wr.drewN nq) osq)):=S1.out.grown nq osq;clear la lb hc S1 HC;generalize grow (wr.drewN nq) osq=wu at SU2|-
     clear nq osq;go_wp2;exact⟨⟨h+1,r,by go_num,rfl,by omega,by omega,hr1,HB2,SU2⟩,by simp[intOf];omega⟩
    |true=>as_aux_lemma=>
     have HB2:=Zh (HB.out.down HM.out hh2.1 hh2.2 (by simp only[HPI.out,hlv,Bool.not_true]));have ea:((z:Int):Int).toNat=z:=by omega
     have pa:(0:Int)<=(z:Int):=by omega
     have ba:(z:Int)<(d.size:Int):=by omega
     have ra:IntKind.i64.wrap ((z:Int))=(z:Int):=by rw[IntKind.wrap_i64];omega
     have ec:((h:Int):Int).toNat=h:=by omega
     have pc:(0:Int)<=(h:Int):=by omega
     have bc:(h:Int)<(d.size:Int):=by omega
     have rc:IntKind.i64.wrap ((h:Int))=(h:Int):=by rw[IntKind.wrap_i64];omega
     obtain⟨x,hx⟩:=Xz (d[z]! );obtain⟨y,hy⟩:=Xz (d[h]! );have la:=S1.out.ld R (by omega) Tryz.prog (z) (by omega);have lb:=S1.out.ld R (by omega) Tryz.prog (h) (by omega);rw[<-hx]at la;rw[<-hy]at lb;have hc:=S1.out.cmp HC.out (by omega) x y;have hv:cf x y<0:=by rw[hx,hy];exact of_decide_eq_true hlv
     have hd:decide (cf x y<0)=true:=decide_eq_true hv;have HXY:=Zh (And.intro hx hy);clear hx hy;go_wp2_with fail
     go_quiet_grown (first|(go_at_fn 39;refine Calls.grown_of (hc _ _)))
     have SU2:Hid (SWK enc k w0 blk off d (grow (wr.drewN nq) osq)):=S1.out.grown nq osq;clear la lb hc S1 HC;generalize grow (wr.drewN nq) osq=wu at SU2|-
     clear nq osq;go_wp2;exact⟨⟨s,h,rfl,rfl,hs1,hh2.1,by omega,HB2,SU2⟩,by simp[intOf];omega⟩
   ·obtain rfl:s=r:=by omega
    obtain⟨t,ht⟩:=Xz (n-s);have hwt:IntKind.i64.wrap ((n:Int)-(s:Int))=(t:Int):=by rw[Iw];omega
    have ht2:mid<=t/\m<=t/\t<=b:=by omega
    have hmt:mid+m-s=t:=by have:=HNN.out;omega
    have HT:=Zh (And.intro ht hmt);clear ht hmt;obtain⟨cb,hcb⟩:∃cb:Bool,cb=decide (s<m/\m<t):=⟨_,rfl⟩;have HCB:=Zh hcb;clear hcb;go_upto_region 39 with fail
    go_cut [185] (fun c W=>c= .bool cb/\W=wr)
    case first=>as_aux_lemma=>
     by_cases hc1:s<m
     ·by_cases hc2:m<t
      ·go_wp2_with fail
       go_meet
       exact⟨by rw[HCB.out,decide_eq_true ⟨hc1,hc2⟩],rfl⟩
      ·go_wp2_with fail
       go_meet
       exact⟨by rw[HCB.out,decide_eq_false fun h=>hc2 h.2],rfl⟩
     ·go_wp2_with fail
      go_meet
      exact⟨by rw[HCB.out,decide_eq_false fun h=>hc1 h.1],rfl⟩
    case rest=>
    obtain⟨rfl,hW⟩:=hcut;rw[hW];clear hW;go_upto_if 185 with fail
    go_cut [] (fun W=>∃dk,dk.size=d.size/\Hid (SWK enc k w0 blk off dk W)/\Hid (RotIn s m t d dk)/\Hid (PermIn a b d dk))
    case first=>as_aux_lemma=>
     cases cb with
     |true=>
      ·have hc:=of_decide_eq_true HCB.out.symm;have hc1:=hc.1;have hc2:=hc.2;clear hc;have HCC:=Zh (zrx.out wr d s m t S1.out rfl hc1 hc2 (by omega));go_wp2_with (go_at_call 211;refine HCC.out.mono ?_;rintro e1 w1 ⟨rfl,dk',hS',hW,hP'⟩)
       go_meet
       exact⟨dk',hP'.1,Zh hS',Zh hW,Zh (permIn_mono _ _ _ _ _ _ (by omega) (by omega) (by omega) hP')⟩
     |false=>
      have hc:=of_decide_eq_false HCB.out.symm;go_wp2_with fail
      go_meet
      exact⟨d,rfl,S1,Zh (zeK (by omega)),Zh (permIn_refl _ _ _)⟩
    case rest=>
     obtain⟨dk,hds,S2,HRT,HP⟩:=hcut;have hst:=zp7 O HR0.out H1.out H2.out HB.out (d':=dk) (by rw[HT.out.2];exact HRT.out);rw[HT.out.2]at hst;have HST:=Zh hst;clear hst S1;obtain⟨wA,hwA⟩:=Xz wc;rw[<-hwA]at S2|-
     clear hwA;obtain⟨cb2,hcb⟩:∃cb:Bool,cb=decide (a<s/\s<mid):=⟨_,rfl⟩;have zra:=Zh hcb;clear hcb;go_upto_region 41 with fail
     go_cut [199] (fun c W=>c= .bool cb2/\W=wA)
     case first=>as_aux_lemma=>
      by_cases hc1:a<s
      ·by_cases hc2:s<mid
       ·go_wp2_with fail
        go_meet
        exact⟨by rw[zra.out,decide_eq_true ⟨hc1,hc2⟩],rfl⟩
       ·go_wp2_with fail
        go_meet
        exact⟨by rw[zra.out,decide_eq_false fun h=>hc2 h.2],rfl⟩
      ·go_wp2_with fail
       go_meet
       exact⟨by rw[zra.out,decide_eq_false fun h=>hc1 h.1],rfl⟩
     case rest=>
     obtain⟨rfl,hW⟩:=hcut;rw[hW];clear hW;go_upto_if 199 with fail
     go_cut [] (fun W=>∃d1,d1.size=d.size/\Hid (SWK enc k w0 blk off d1 W)/\Hid (PermIn a mid dk d1)/\Hid (SortedIn (ltOf cf) a mid d1))
     case first=>as_aux_lemma=>
      cases cb2 with
      |true=>
       ·have hc:=of_decide_eq_true zra.out.symm;have hc1:=hc.1;have hc2:=hc.2;clear hc;have HCC:=Zh (HRC.out a s mid dk _ (by omega) hc1 hc2 (by omega) hds HST.out.1 HST.out.2.1 S2.out);go_wp2_with (go_at_call 146;refine HCC.out.mono ?_;rintro e1 w1 ⟨rfl,dk',hS',hP',hs'⟩)
        go_meet
        exact⟨dk',hP'.1.trans hds,Zh hS',Zh hP',Zh hs'⟩
      |false=>
       have hc:=of_decide_eq_false zra.out.symm;have HF:Hid (SortedIn (ltOf cf) a mid dk):=Zh (by
        rcases Zl a s with h|h
        ·exact Q9 HST.out.1 Zr (by omega)
        ·exact Q9 HST.out.2.1 h Zr)
       go_wp2_with fail
       go_meet
       exact⟨dk,hds,S2,Zh (permIn_refl _ _ _),HF⟩
     case rest=>
      obtain⟨d1,zuu,S3,HP1,HS1⟩:=hcut;clear S2;have F3:=Zh (J3 HST.out.2.2.1 HP1.out (.inr Zr));have F4:=Zh (J3 HST.out.2.2.2.1 HP1.out (.inr (by omega)));have zqW:Hid (∀d2,PermIn mid b d1 d2->SortedIn (ltOf cf) mid b d2->PermIn a b d d2/\SortedIn (ltOf cf) a b d2):=Zh (fun d2 hp hs=>⟨permIn_trans _ _ _ _ _ (permIn_trans _ _ _ _ _ HP.out (permIn_mono _ _ _ _ _ _ (by omega) (by omega) (by omega) HP1.out)) (permIn_mono _ _ _ _ _ _ (by omega) (by omega) (by omega) hp),zp8 (by omega) (by omega) HST.out.2.2.2.2 HP1.out HS1.out hp hs⟩)
      as_aux_lemma=>
      by_cases hc1:mid<t
      ·by_cases hc2:t<b
       ·have HCC:=Zh (HRC.out mid t b d1 _ (by omega) hc1 hc2 (by omega) zuu F3.out F4.out S3.out);go_wp2_with (go_at_call 146;refine HCC.out.mono ?_;rintro e1 w1 ⟨rfl,dk',hS',hP',hs'⟩)
        go_end0
        exact⟨rfl,dk',hS',zqW.out dk' hP' hs'⟩
       ·go_wp2_with fail
        go_end0
        exact⟨rfl,d1,S3.out,zqW.out d1 (permIn_refl _ _ _) (Q9 F3.out Zr (by omega))⟩
      ·go_wp2_with fail
       go_end0
       exact⟨rfl,d1,S3.out,zqW.out d1 (permIn_refl _ _ _) (Q9 F4.out (by omega) Zr)⟩
theorem ziO(aE:∀w,(isAgg 52).run Tryz.prog w= .ok true w)(zE:∀w,(Go.sizeOf 52).run Tryz.prog w= .ok k w)(O:SWO (ltOf cf))(cap:Nat)(zsi:CmpLays Tryz.prog 39 #[] enc k cf blk off d0.size w0)(R:RowK enc k w0 blk off d0)(hsz:d0.size<4611686018427387904):∀N,zeN cap enc k w0 blk off cf d0.size N
 |0=>fun a m b d W h=>absurd h (by omega)
 |N+1=>fun a m b d W h h1 h2 h3 h4 s1 s2 S=>by
  have ih:=ziO aE zE O cap zsi R hsz N;rw[<-h4]at h3|-
  by_cases hm:m=a+1
  ·exact zqb aE zE O cap a m b zsi R h4.symm S h1 h2 h3 (by omega) s1 s2 hm
  ·by_cases hb:b=m+1
   ·exact zqc aE zE O cap a m b zsi R h4.symm S h1 h2 h3 (by omega) s1 s2 hm hb
   ·exact zqd aE zE O cap a m b zsi R h4.symm S h1 h2 h3 (by omega) s1 s2 hm hb (fun a' m' b' d' W' g g1 g2 g3 g4=>by
     rw[h4];exact ih a' m' b' d' W' (by omega) g1 g2 (by omega) (g4.trans h4))
end
section
variable {α:Type} [Inhabited α] {enc:α->List Value} {k:Nat} {w0:World} {blk off:Nat} {d0:Array α} {cf:α->α->Int}
set_option maxRecDepth 1000000 in
theorem zqe{d:Array α}(aE:∀w,(isAgg 52).run Tryz.prog w= .ok true w)(zE:∀w,(Go.sizeOf 52).run Tryz.prog w= .ok k w)(O:SWO (ltOf cf))(cap n:Nat)(zsi:CmpLays Tryz.prog 39 #[] enc k cf blk off d0.size w0)(R:RowK enc k w0 blk off d0)(hs:d0.size=n)(hd:d.size=n)(S:SWK enc k w0 blk off d w)(hsz:n<1152921504606846976):
  Cq 79 #[.slice (some ⟨blk,off,none⟩) n cap,.int .i64 n,.func (.func 39) #[] #[]] w (qQ enc k w0 blk off fun dk=>PermIn 0 n d dk/\SortedIn (ltOf cf) 0 n dk):=by
 have eg:∀args w,(callFunc 39 args).run Tryz.prog w= .ok (.enter 39 args) w:=enters_of Tryz.func39 (by kernel_rfl) rfl;have HI:Hid (∀(W:World)(dk:Array α)(a b:Nat),SWK enc k w0 blk off dk W->dk.size=n->a<=b->b<=n->Cq 145 #[.slice (some ⟨blk,off,none⟩) n cap,.int .i64 a,.int .i64 b,.func (.func 39) #[] #[]] W (qQ enc k w0 blk off fun dk'=>PermIn a b dk dk'/\SortedIn (ltOf cf) a b dk')):=Zh (fun W dk a b h1 h2 h3 h4=>by
  have h:=AnyQ.insertionSortCmpFunc_w (P:=Tryz.prog) Tryz.laysIns k aE zE enc cf 39 #[] blk off cap a b d0 dk w0 W eg zsi R (by omega) h1 O h3 (by omega) (by omega);rw[h2]at h;have hh:=insertionSort_holds O dk a b h3 (by omega);exact h.mono fun e w'⟨he,hw⟩=>⟨he,_,hw,hh.1,hh.2⟩)
 have HM:Hid (∀(W:World)(dk:Array α)(a m b:Nat),SWK enc k w0 blk off dk W->dk.size=n->a<m->m<b->b<=n->SortedIn (ltOf cf) a m dk->SortedIn (ltOf cf) m b dk->Cq 146 #[.slice (some ⟨blk,off,none⟩) n cap,.int .i64 a,.int .i64 m,.int .i64 b,.func (.func 39) #[] #[]] W (qQ enc k w0 blk off fun dk'=>PermIn a b dk dk'/\SortedIn (ltOf cf) a b dk')):=Zh (fun W dk a m b h1 h2 h3 h4 h5 h6 h7=>by
  have h:=ziO aE zE O cap zsi R (by omega) (b-a+1) a m b dk W (by omega) h3 h4 (by omega) (by omega) h6 h7 h1;rw[hs]at h;exact h)
 have S0:Hid (SWK enc k w0 blk off d w):=S;have HD:=Zh hd;unfold qQ at*
 clear S R zsi O hs hd eg aE zE;go_enter Tryz.func79,Tryz.ntmps79;go_wp2_with fail
 go_loopw [7,8] (fun av bv wr=>∃(t a b:Nat) (dk:Array α),av= .int .i64 a/\bv= .int .i64 b/\a<=n/\b<=a+20/\a+20<=b/\Hid (a=t*20)/\dk.size=n/\Hid (SWK enc k w0 blk off dk wr)/\Hid (FstIn (ltOf cf) t dk)/\Hid (PermIn 0 n d dk)) (fun av _ _=>n+20-(intOf av).toNat)
 case atStart=>exact⟨0,0,20,d,rfl,rfl,by omega,by omega,by omega,Zh rfl,HD.out,S0,Zh (fun u hu=>absurd hu (by omega)),Zh (permIn_refl _ _ _)⟩
 case round=>
  clear S0;obtain⟨t,a,b,dk,rfl,rfl,han,hb1,hb2,HT,hds,S1,HF,HP⟩:=hrel;by_cases hlt:b<=n
  ·have hd1:decide ((b:Int)<=(n:Int))=true:=by simp;omega
   have HCC:=Zh (HI.out wr dk a b S1.out hds (by omega) hlt);have hwb:IntKind.i64.wrap ((b:Int)+20)=(b:Int)+20:=Iw;clear HI HM;go_wp2_with (go_at_call 145;refine HCC.out.mono ?_;rintro e w1 ⟨rfl,dk',hS',hP',hs'⟩)
   have HT2:Hid (b=(t+1)*20):=Zh (by have:=HT.out;omega);have hF2:FstIn (ltOf cf) (t+1) dk':=HF.out.step (by rw[<-HT.out];rwa [show b=a+20 by omega]at hP') (by rw[<-HT.out];rwa [show b=a+20 by omega]at hs');exact⟨⟨t+1,b,b+20,dk',rfl,by go_num,hlt,by omega,by omega,HT2,hP'.1.trans hds,Zh hS',Zh hF2,Zh (permIn_trans _ _ _ _ _ HP.out (permIn_mono _ _ _ _ _ _ (by omega) (by omega) (by omega) hP'))⟩,by simp[intOf];omega⟩
  ·have hd1:decide ((b:Int)<=(n:Int))=false:=by simp;omega
   have HCC:=Zh (HI.out wr dk a n S1.out hds han Zr);clear HI;go_wp2_with (go_at_call 145;refine HCC.out.mono ?_;rintro e w1 ⟨rfl,dk1,hS1,hP1,hs1⟩)
   have zuu:dk1.size=n:=hP1.1.trans hds;have HB0:Hid (BlkIn (ltOf cf) 20 n dk1):=Zh (HF.out.end_ (by rw[<-HT.out];exact han) (by rw[<-HT.out];omega) (by rw[<-HT.out];exact hP1) (by rw[<-HT.out];exact hs1));have HP1:Hid (PermIn 0 n d dk1):=Zh (permIn_trans _ _ _ _ _ HP.out (permIn_mono _ _ _ _ _ _ (by omega) (by omega) (by omega) hP1));have HS1:=Zh hS1;clear S1 HF HP hP1 hs1 hS1 HCC HT hds hd1;go_loopw [6,7,8,9] (fun sv _ _ _ wz=>∃(s:Nat) (dz:Array α),sv= .int .i64 s/\20<=s/\s<=2*n+20/\dz.size=n/\Hid (SWK enc k w0 blk off dz wz)/\Hid (BlkIn (ltOf cf) s n dz)/\Hid (PermIn 0 n d dz)) (fun sv _ _ _ _=>n-(intOf sv).toNat)
   case atStart=>exact⟨20,dk1,rfl,by omega,by omega,zuu,HS1,HB0,HP1⟩
   case round=>
    clear HS1 HB0 HP1 zuu;obtain⟨s,dz,rfl,zyD,hsn,hdz,S2,HB,HP⟩:=hrel;by_cases zsI:s<n
    ·have hw2:IntKind.i64.wrap (2*(s:Int))=2*(s:Int):=Iw;have hw3:IntKind.i64.wrap ((s:Int)*2)=(s:Int)*2:=Iw;have hd2:decide ((s:Int)<(n:Int))=true:=by simp;omega
     go_wp2_with fail
     go_loopw [7,8] (fun av bv wy=>∃(t a b:Nat) (dy:Array α),av= .int .i64 a/\bv= .int .i64 b/\a<=n/\b<=a+2*s/\a+2*s<=b/\Hid (a=t*(2*s))/\dy.size=n/\Hid (SWK enc k w0 blk off dy wy)/\Hid (MidIn (ltOf cf) s t n dy)/\Hid (PermIn 0 n d dy)) (fun av _ _=>n+2*s-(intOf av).toNat)
     case atStart=>exact⟨0,0,2*s,dz,rfl,by go_num,by omega,by omega,by omega,Zh (by simp),hdz,S2,Zh (MidIn.zero HB.out),HP⟩
     case round=>
      clear S2 HB HP;obtain⟨t,a,b,dy,rfl,rfl,zv6,hb3,hb4,HT,hdy,S3,HM3,HP3⟩:=hrel;have hwm:IntKind.i64.wrap ((a:Int)+(s:Int))=(a:Int)+(s:Int):=Iw;obtain⟨m,hm⟩:=Xz (a+s);have hmz:(a:Int)+(s:Int)=(m:Int):=by omega
      have hm1:m<=a+s:=by omega
      have hm2:a+s<=m:=by omega
      have HMQ:=Zh hm;clear hm;by_cases zuY:b<=n
      ·have hd3:decide ((b:Int)<=(n:Int))=true:=by simp;omega
       have hpt:=HM3.out.parts (by rw[<-HT.out];omega);rw[<-HT.out,<-HMQ.out,show min (a+2*s) n=b by omega]at hpt;have HCC:=Zh (HM.out wr dy a m b S3.out hdy (by omega) (by omega) zuY hpt.1 hpt.2);have zyE:IntKind.i64.wrap ((b:Int)+2*(s:Int))=(b:Int)+2*(s:Int):=Iw;clear HM hpt;go_wp2_with (go_at_call 146;refine HCC.out.mono ?_;rintro e w2 ⟨rfl,dk',hS',hP',hs'⟩)
       have hT2:b=(t+1)*(2*s):=by rw[Nat.add_mul,Nat.one_mul,<-HT.out];omega
       have hF2:MidIn (ltOf cf) s (t+1) n dk':=HM3.out.step (by rw[<-HT.out];rwa [show b=a+2*s by omega]at hP') (by rw[<-HT.out];rwa [show b=a+2*s by omega]at hs');exact⟨⟨t+1,b,b+2*s,dk',rfl,by go_num,zuY,by omega,by omega,Zh hT2,hP'.1.trans hdy,Zh hS',Zh hF2,Zh (permIn_trans _ _ _ _ _ HP3.out (permIn_mono _ _ _ _ _ _ (by omega) (by omega) (by omega) hP'))⟩,by simp[intOf];omega⟩
      ·have hd3:decide ((b:Int)<=(n:Int))=false:=by simp;omega
       by_cases zvs:m<n
       ·have hd4:decide ((m:Int)<(n:Int))=true:=by simp;omega
        have hpt:=HM3.out.parts (by rw[<-HT.out];omega);rw[<-HT.out,<-HMQ.out,show min (a+2*s) n=n by omega]at hpt;have HCC:=Zh (HM.out wr dy a m n S3.out hdy (by omega) zvs Zr hpt.1 hpt.2);clear HM hpt;go_wp2_with (go_at_call 146;refine HCC.out.mono ?_;rintro e w2 ⟨rfl,dk',hS',hP',hs'⟩)
        have hF2:BlkIn (ltOf cf) (2*s) n dk':=HM3.out.end_ (by rw[<-HT.out];exact zv6) (by rw[<-HT.out];omega) (by rw[<-HT.out];exact hP') (by rw[<-HT.out];exact hs');exact⟨⟨2*s,dk',by go_num,by omega,by omega,hP'.1.trans hdy,Zh hS',Zh hF2,Zh (permIn_trans _ _ _ _ _ HP3.out (permIn_mono _ _ _ _ _ _ (by omega) (by omega) (by omega) hP'))⟩,by simp[intOf];omega⟩
       ·have hd4:decide ((m:Int)<(n:Int))=false:=by simp;omega
        have hla:=HM3.out.ze (by rw[<-HT.out];omega);rw[<-HT.out]at hla;have hF2:BlkIn (ltOf cf) (2*s) n dy:=HM3.out.end_ (by rw[<-HT.out];exact zv6) (by rw[<-HT.out];omega) (by rw[<-HT.out];exact permIn_refl _ _ _) (by rw[<-HT.out];exact hla);have HF2:=Zh hF2;clear HM hla hF2;go_wp2_with fail
        exact⟨⟨2*s,dy,by go_num,by omega,by omega,hdy,S3,HF2,HP3⟩,by simp[intOf];omega⟩
    ·have hd2:decide ((s:Int)<(n:Int))=false:=by simp;omega
     go_wp2_with fail
     go_end0
     exact⟨rfl,dz,S2.out,HP.out,HB.out.all (by omega)⟩
end
end
section
open Go.RowKit
structure ME where
 i:Int
 A:Option Addr
 c:Nat
 p:List Ct
def ME.enc(x:ME):List Value:=[.int .i64 x.i,.slice x.A x.p.length x.c]
def ME.ok(w:World)(x:ME):Prop:=Arr w x.A 71 (zz x.p)/\x.p.length<=1099511627776
theorem ME.ok.ext{x:ME}(h:x.ok w)(hx:Ext w w'):x.ok w':=⟨h.1.ext hx,h.2⟩
theorem ME.ok.ct{x:ME}(h:x.ok w):CtV w x.A x.p:=⟨_,h.1⟩
theorem GrowD.alloc(w:World)(o:Obj):GrowD w (w.alloc o):=⟨0,#[o],by rw[Sort.alloc_eq_grow];rfl⟩
theorem zqf{x y:ME}(hx:x.ok w)(hy:y.ok w):
  Cq 39 #[.agg #[.int .i64 x.i,.slice x.A x.p.length x.c],.agg #[.int .i64 y.i,.slice y.A y.p.length y.c]] w fun e w'=>e= .returned (.int .i64 (Zw x.p y.p))/\GrowD w w':=by
 have HC:=Zh (fun W(e:Ext w W)=>zeG (w:=W) (c:=x.c) (d:=y.c) (hx.ext e).ct (hy.ext e).ct hx.2 hy.2);obtain⟨xi,xA,xc,xp⟩:=x;obtain⟨yi,yA,yc,yp⟩:=y;simp only at HC|-
 generalize Zw xp yp=r at*
 generalize xp.length=xl at*
 generalize yp.length=yl at*
 have hg2:GrowD w ((w.alloc (.cells #[.int .i64 xi,.slice xA xl xc] 52)).alloc (.cells #[.int .i64 yi,.slice yA yl yc] 52)):=(GrowD.alloc w _).trans (GrowD.alloc _ _);clear hx hy;go_enter Tryz.func39,Tryz.ntmps39;go_wp2_with (go_at_call 20;refine(HC.out _ Zi).mono ?_;rintro e w1 ⟨rfl,hG⟩)
 go_ret;exact⟨rfl,hg2.trans hG⟩
def MRow(w:World)(g:Nat)(els:List ME):Prop:=∃cur,w.heap[g]? =some (.cells cur 52 (0,0))/\∀(i:Nat)(x:ME),els[i]? =some x->cur[2*i]? =some (.int .i64 x.i)/\cur[2*i+1]? =some (.slice x.A x.p.length x.c)
structure MEw(w:World)where
 val:ME
 ok:val.ok w
instance (w:World):Inhabited (MEw w):=⟨⟨⟨0,none,0,[]⟩,Arr.nil,by simp⟩⟩
def j8(w:World)(x:MEw w):List Value:=x.val.enc
def cfM(w:World)(x y:MEw w):Int:=Zw x.val.p y.val.p
theorem zqg(w:World):Sort.SWO (ltOf (cfM w)) where
 irrefl x:=by
  have:=(zeB x.1.p x.1.p).2 rfl;simp[ltOf,cfM,this]
 trans x y z h1 h2:=by
  have h1:Zw x.1.p y.1.p<0:=of_decide_eq_true h1;have h2:Zw y.1.p z.1.p<0:=of_decide_eq_true h2;have a1:zX x.1.p y.1.p=true:=by rw[<-zbz];exact decide_eq_true h1
  have a2:zX y.1.p z.1.p=true:=by rw[<-zbz];exact decide_eq_true h2
  have a3:=Jt a1 a2;rw[<-zbz]at a3;exact a3
 ntrans x y z h1 h2:=by
  have h1:¬Zw x.1.p y.1.p<0:=of_decide_eq_false h1;have h2:¬Zw y.1.p z.1.p<0:=of_decide_eq_false h2;refine decide_eq_false (fun(h3:Zw x.1.p z.1.p<0)=>?_);have a3:zX x.1.p z.1.p=true:=by rw[<-zbz];exact decide_eq_true h3
  have b1:x.1.p=y.1.p∨zX y.1.p x.1.p=true:=by rcases zby x.1.p y.1.p with ⟨-,h⟩|⟨h,-⟩|⟨h,-⟩<;>first|exact .inl h|exact .inr h|omega
  have b2:y.1.p=z.1.p∨zX z.1.p y.1.p=true:=by rcases zby y.1.p z.1.p with ⟨-,h⟩|⟨h,-⟩|⟨h,-⟩<;>first|exact .inl h|exact .inr h|omega
  have no:∀a:List Ct,zX a a=true->False:=fun a h=>by rw[Js]at h;cases h
  rcases b1 with b1|b1
  ·rcases b2 with b2|b2
   ·rw[b1,b2]at a3;exact no _ a3
   ·rw[b1]at a3;exact no _ (Jt a3 b2)
  ·rcases b2 with b2|b2
   ·rw[<-b2]at a3;exact no _ (Jt a3 b1)
   ·exact no _ (Jt a3 (Jt b2 b1))
theorem ME.ok_sort{α:Type}[Inhabited α](enc:α->List Value)(k:Nat){m:Nat}{d:Array α}{os:Array Obj}(hg:w.heap[g]? =some (.cells cur 52 (0,0))){x:ME}(h:x.ok w):x.ok (sortWorldK enc k w g 0 m d os):=by
 refine⟨h.1.keep fun b cs fr hb=>za9 enc k w g m d os (zF hb) (fun hh=>?_),h.2⟩;subst hh;rw[hg]at hb;injection hb with hb
 injection hb with _ he
 exact absurd he (by decide)
def zbD(w:World)(g:Nat)(els:List ME)(e:Ending)(w':World):Prop:=e= .returned (.tuple #[])/\∃els':List ME,els'.Perm els/\els'.Pairwise (fun x y=>¬Zw y.p x.p<0)/\MRow w' g els'/\(∀x∈els',x.ok w')/\Same g w w'
theorem zqh{els:List ME}(zr6:MRow w g els)(hok:∀x∈els,x.ok w)(hn:els.length<1152921504606846976):
  Cq 79 #[.slice (some ⟨g,0,none⟩) els.length cap,.int .i64 els.length,.func (.func 39) #[] #[]] w (zbD w g els):=by
 unfold zbD;obtain⟨cur,hg,zsO⟩:=zr6;obtain⟨D,hD⟩:∃D:List (MEw w),D.map MEw.val=els:=⟨els.pmap MEw.mk hok,by rw[List.map_pmap];simp⟩;have hDl:D.length=els.length:=by rw[<-hD];simp
 have zsi:CmpLays Tryz.prog 39 #[] (j8 w) 2 (cfM w) g 0 D.toArray.size w:=fun m os dk _ x y=>by
  have hx:=ME.ok_sort (j8 w) 2 (m:=m) (d:=dk) (os:=os) hg x.ok;have hy:=ME.ok_sort (j8 w) 2 (m:=m) (d:=dk) (os:=os) hg y.ok;exact zqf hx hy
 have hH:Sort.HoldsK (j8 w) 2 w g 0 D.toArray:=fun j hj=>by
  rw[Sort.size_flatK]at hj;have hj2:j / 2<D.length:=by simp at hj;omega
  obtain⟨x,hx⟩:∃x,D[j / 2]? =some x:=⟨_,Ze hj2⟩;have hel:els[j / 2]? =some x.val:=by rw[<-hD,List.getElem?_map,hx];rfl
  have hc:=zsO (j / 2) _ hel;have e1:(Sort.flatK (j8 w) 2 D.toArray)[j]! =(x.val.enc)[j%2]! :=by
   rw[Sort.get_flatK _ _ _ _ (by simpa using hj)];have:D.toArray[j / 2]! =x:=by simp[hx]
   rw[this];rfl
  refine⟨?_,by simp[World.frozen?,hg]⟩;rw[id,e1,Nat.zero_add,cell_of_row w g j _ _ _ hg];rcases Nat.mod_two_eq_zero_or_one j with h0|h0
  ·rw[h0];have:=hc.1;rw[show 2*(j / 2)=j by omega]at this;exact this
  ·rw[h0];have:=hc.2;rw[show 2*(j / 2)+1=j by omega]at this;exact this
 have e0:D.toArray.size=els.length:=by simpa using hDl
 have h:=zqe (k:=2) (w:=w) (w0:=w) (d0:=D.toArray) (d:=D.toArray) Tryz.isAgg52 Tryz.sizeOf52 (zqg w) cap els.length zsi ⟨fun x=>rfl,fun x v hv=>by
   simp only[j8,ME.enc,List.mem_cons,List.not_mem_nil,or_false]at hv;rcases hv with rfl|rfl<;>rfl,hH,zF hg⟩ e0 e0 (SWK.start hH) (by omega)
 refine h.mono ?_;rintro e w' ⟨he,d',⟨n,os,hw⟩,⟨hp1,-,hp2⟩,hs⟩;rw[e0]at hp1;refine⟨he,d'.toList.map MEw.val,?_,?_,?_,?_,?_⟩
 ·have e1:d'.extract 0 els.length=d':=by apply Array.ext';simp;rw[List.take_of_length_le (by simp;omega)]
  have e2:(D.toArray).extract 0 els.length=D.toArray:=by rw[<-e0];exact Array.extract_size
  rw[e1,e2]at hp2;rw[<-hD];exact hp2.map _
 ·rw[List.pairwise_map,List.pairwise_iff_getElem];intro i j hi hj hij;have:=hs i j (Nat.zero_le _) hij (by simp at hj;omega);have e3:d'[j]! =d'.toList[j]:=by simp at hj;simp[hj]
  have e4:d'[i]! =d'.toList[i]:=by simp at hi;simp[hi]
  rw[e3,e4]at this;exact of_decide_eq_false this
 ·refine⟨_,by rw[hw];exact zgf (j8 w) 2 w g n d' os hg,fun i x hx=>?_⟩;rw[List.getElem?_map]at hx;obtain⟨y,hy,rfl⟩:∃y,d'.toList[i]? =some y/\y.val=x:=by
   cases hh:d'.toList[i]? with
   |none=>rw[hh]at hx;cases hx
   |some y=>rw[hh]at hx;exact⟨y,rfl,by simpa using hx⟩
  have hi:i<d'.size:=by simpa using (Zg.1 hy).1
  have hdi:d'[i]! =y:=by
   have:=(Zg.1 hy).2;simp[hi];simpa using this
  have hcs:2*i+1<cur.size:=by
   have zr7:i<els.length:=by omega
   have:=(zsO i els[i] (by simp[zr7])).2;exact(Array.getElem?_eq_some_iff.1 this).1
  have key:∀t,t<2->(Sort.putCells id 0 (Sort.flatK (j8 w) 2 d') cur)[2*i+t]? =some ((y.val.enc)[t]!):=fun t ht=>by
   unfold Sort.putCells;rw[Array.getElem?_mapIdx,Array.getElem?_eq_getElem (by omega)];simp only[Option.map_some];rw[if_pos (by rw[Sort.size_flatK];omega),Nat.sub_zero,id,Sort.get_flatK _ _ _ _ (by omega),show (2*i+t) / 2=i by omega,show (2*i+t)%2=t by omega,hdi];rfl
  exact⟨key 0 (by omega),key 1 (by omega)⟩
 ·intro x hx;obtain⟨y,-,rfl⟩:=List.mem_map.1 hx;rw[hw];exact ME.ok_sort (j8 w) 2 hg y.ok
 ·rw[hw];exact⟨fun b hb hne=>za9 _ _ w g n d' os hb hne,fun B hB=>zgg _ _ w g n d' os hB (zF hg)⟩
theorem zqi{els:List ME}(zr6:MRow w g els)(hok:∀x∈els,x.ok w)(hl:els.length=n)(hn:n<1152921504606846976):
  Cq 38 #[.slice (some ⟨g,0,none⟩) n cap,.func (.func 39) #[] #[]] w (zbD w g els):=by
 have hi:=zqh (cap:=cap) zr6 hok (by omega);rw[hl]at hi;have HI:=Zh hi;unfold zbD at*
 clear zr6 hok hl hi;go_enter Tryz.func38,Tryz.ntmps38;go_wp2_with (go_at_call 79;refine HI.out.mono ?_;rintro e w1 ⟨rfl,hp⟩)
 go_end0
 exact⟨rfl,hp⟩
def MemOK(m L:List (List Int))(a k:Nat)(els:List ME):Prop:=
 (k=a+1/\els=[⟨a,none,0,[]⟩])∨(a+1<k/\(els.map fun x=>(x.i,x.p)).Perm ((List.range (k-a)).map fun j=>(((a+j:Nat):Int),zx m L (L.getD (a+j) [])))/\els.Pairwise (fun x y=>¬Zw y.p x.p<0))
def zaI(w:World)(mb:Nat)(m L:List (List Int))(a k:Nat)(e:Ending)(w':World):Prop:=
 ∃g c els,e= .returned (.slice (some ⟨g,0,none⟩) (List.length els) c)/\w.heap.size<=g/\MRow w' g els/\(∀x∈els,x.ok w')/\MapC w' mb 0 []/\Fm mb w w'/\MemOK m L a k els
def meV(x:ME):List Value:=[.int .i64 x.i,.slice x.A x.p.length x.c]
def jq(l:List ME):List Value:=l.flatMap meV
theorem zqj(p q:List ME):jq (p++q)=jq p++jq q:=List.flatMap_append
theorem ziP:∀(p:List ME)(i:Nat)(c:ME),p[i]? =some c->(jq p)[2*i]? =some (.int .i64 c.i)/\(jq p)[2*i+1]? =some (.slice c.A c.p.length c.c)
 |[],i,c,h=>by simp at h
 |y::l,0,c,h=>by simp at h;subst h;exact⟨rfl,rfl⟩
 |y::l,i+1,c,h=>by
  have:=ziP l i c (by simpa using h);rw[show 2*(i+1)=2*i+2 by omega];exact this
theorem ziQ:(Tryz.prog.info? 52).map (fun i=>(i.zero,i.size,i.bytes))=some (some (.agg #[.int .i64 0,.slice none 0 0]),2,32):=by kernel_rfl
theorem zqk{els:List ME}(ho:Own w zf 52 2 A n c (jq els))(h0:0<n):∃g:Nat,A=some ⟨g,0,none⟩/\zf<=g/\MRow w g els:=by
 rcases ho.2 with ⟨-,hn⟩|⟨g,cap,cur,hv,h1,h2,h3,h4,h5,h6⟩
 ·omega
 ·injection hv with z1 _ z3
  refine⟨g,z1,h1,cur,h2,fun i x hx=>?_⟩;obtain⟨f0,f1⟩:=ziP els i x hx;have key:∀(j:Nat)(u:Value),(jq els)[j]? =some u->cur[j]? =some u:=fun j u hu=>by
   rw[<-h6,List.getElem?_take]at hu;split at hu
   ·simpa using hu
   ·cases hu
  exact⟨key _ _ f0,key _ _ f1⟩
theorem Fm.meok{L:List Kc}(h:Fm mb w w')(hm:MapC w mb n L){x:ME}(hx:x.ok w):x.ok w':=⟨h.arr hm hx.1,hx.2⟩
set_option maxRecDepth 20000 in
theorem ziR{w0:World}{LA NA DA:Option Addr}{lc nc dc q:Nat}(hS:SysV w0 m L LA NA DA)(hq:L.length=q)(hq8:q<=100000)(hdc:q<=dc)(zv0:dc<=9223372036854775807)(hmn:m.length=n)(hn:n<=1000)
  (ztZ:(L.map (zg m)).Pairwise (·<=·)) (zr6:∀y∈L,y.length=n) (hnb:∀y∈L,0<=zg m y/\zg m y<=4611686018427387904) (hib:∀x∈L,∀y∈L,-4611686018427387904<=zG (zU m y) x/\zG (zU m y) x<=4611686018427387904)
  (hmb:w0.heap.size<=mb) (hM:MapC w mb 0 []) (hak:a<k) (hkq:k<=q) [hx:Ext w0 w]:
  Cq 19 #[.agg #[.slice LA q lc,.slice NA q nc,.slice DA q dc],.int .i64 a,.int .i64 k,.map (some mb)] w (zaI w mb m L a k):=by
 have zxs:=hM.lt;have hw1:IntKind.i64.wrap ((a:Int)+1)=(a:Int)+1:=Iw;obtain⟨w1,ztB⟩:=Xz (w.alloc (.cells #[.slice LA q lc,.slice NA q nc,.slice DA q dc] 45));have hbx:w1.heap[w.heap.size]? =some (.cells #[.slice LA q lc,.slice NA q nc,.slice DA q dc] 45 (0,0)):=by rw[ztB];exact heap_alloc_new w _
 have hx1:Ext w w1:=by rw[ztB];infer_instance
 have hs1:w1.heap.size=w.heap.size+1:=by rw[ztB];simp
 have HM1:Hid (MapC w1 mb 0 []):=Zh (hM.ext hx1);have ztn:Ext w0 w1:=hx.trans hx1;have HBX:=Zh hbx;have HS:=Zh hS;have HPR:Hid (∀(W:World)(XA:Option Addr)(xc:Nat)(x:List Int),x∈L->IntsA w0 XA x->Ext w0 W->MapC W mb 0 []->Cq 37 #[.agg #[.slice LA q lc,.slice NA q nc,.slice DA q dc],.slice XA n xc,.map (some mb)] W (jQ W mb (zx m L x))):=Zh (fun W XA xc x hxL hX e hMC=>
  zeJ (w0:=w0) (w:=W) hS hq hq8 hdc zv0 hmn hn ztZ hX (zr6 x hxL) hnb (hib x hxL) hmb hMC)
 have HQ:=Zh hq;have zqY:=Zh zr6;unfold zaI;clear hS hq ztZ zr6 hnb hib hM hbx;by_cases hk1:k=a+1
 ·have hd:((k:Int)==(a:Int)+1)=true:=by simp[hk1]
  have HK1:=Zh hk1;clear hk1;go_enter Tryz.func19,Tryz.ntmps19;go_wp2_with fail
  go_ret;have hxx:Ext w1 (w1.alloc (.cells #[.int .i64 a,.slice none 0 0] 52)):=Zi;rw[<-ztB];refine⟨w.heap.size+1,1,[⟨a,none,0,[]⟩],rfl,by omega,⟨_,by rw[<-hs1];exact heap_alloc_new w1 _,fun i x hi=>?_⟩,fun x hxm=>?_,HM1.out.ext hxx,Fm.of_ext (hx1.trans hxx),.inl ⟨HK1.out,rfl⟩⟩
  ·rcases i with _|i
   ·simp at hi;subst hi;exact⟨rfl,rfl⟩
   ·simp at hi
  ·obtain rfl:=mem_singleton.1 hxm;exact⟨Arr.nil,by simp⟩
 ·have hd:((k:Int)==(a:Int)+1)=false:=by simp;omega
  obtain⟨l,hl⟩:=Xz (k-a);have hl2:2<=l:=by omega
  have hw2:IntKind.i64.wrap ((k:Int)-(a:Int))=(l:Int):=by rw[Iw];omega
  obtain⟨i0,hi1,hz,hs,hby⟩:=info_parts ziQ;obtain⟨w2,hmk,ztY,ztC⟩:=run_make_own (P:=Tryz.prog) w1 w1.heap.size 53 52 i0 _ 2 Tryz.underlying53 hi1 hz hs .i64 .i64 l (by rw[hby];omega) (by simp[maxLen];omega) Zr;have zsU:Ext w1 w2:=⟨⟨ztC.os,ztC.tape,ztC.output,ztC.size,fun b hb=>ztC.block b hb (by simp)⟩⟩;have zrW:Hid (Own w2 w1.heap.size 52 2 (some ⟨w1.heap.size,0,none⟩) 0 l []):=Zh ztY;have HHL:=Zh hl
  have HW1:=Zh ztB;have HS1:=Zh hs1;clear ztY ztC hl hi1 hz hs hby ztB hs1;go_enter Tryz.func19,Tryz.ntmps19;go_upto_region 3 with fail
  rw[<-HW1.out];clear HW1;go_upto_region 5 with fail
  have zua:w1.heap.size<=w2.heap.size:=zsU.size;have HF2:Hid (Fm mb w1 w2):=Zh (Fm.of_ext zsU);have HM2:Hid (MapC w2 mb 0 []):=Zh (HM1.out.ext zsU);clear hmk;go_loopw [9,10] (fun ls i wr=>∃(j:Nat) (A:Option Addr) (c:Nat) (els:List ME),j<=l/\i= .int .i64 ((a:Int)+(j:Int))/\ls= .slice A j c/\Hid (Own wr w1.heap.size 52 2 A j c (jq els))/\Hid ((els.map fun x=>(x.i,x.p))=(List.range j).map fun r=>(((a+r:Nat):Int),zx m L (L.getD (a+r) [])))/\Hid (∀x∈els,x.ok wr)/\Hid (MapC wr mb 0 [])/\Hid (Fm mb w1 wr)) (fun _ i _=>k-(intOf i).toNat)
  case atStart=>exact⟨0,_,l,[],by omega,by simp,rfl,zrW,Zh rfl,Zh (fun x hx=>by simp at hx),HM2,HF2⟩
  case round=>
   obtain⟨j,A,c,els,hj,rfl,rfl,HO,HEL,HOK,HM,HF⟩:=hrel;have zs0:Ext w0 wr:=Fm.ext0 ztn hmb HF.out;have hsr:=HF.out.size;by_cases hjl:j<l
   ·obtain⟨y,hy⟩:∃y,L[a+j]? =some y:=⟨_,Ze (by rw[HQ.out];have:=HHL.out;omega)⟩;obtain⟨bl,ol,B,cb,rfl,e0,hB,e2,e3,e4⟩:=HS.out.list.a.at_ hy;rw[zqY.out y (Zm hy)]at e0 e2;have oL:Old bl w0:=⟨e4⟩;have e1:wr.cell? ⟨bl,ol+(a+j),none⟩=some (.slice B n cb):=(zi w0).trans e0;obtain⟨⟨c1,c2,c3⟩,-,c4⟩:=qF (HF.out.cells HM1.out HBX.out);have oB:Old w.heap.size wr:=⟨c4⟩;have oLr:Old bl wr:=⟨Nat.lt_of_lt_of_le e4 zs0.size⟩
    have HPC:=Zh (HPR.out wr.drew B cb y (Zm hy) hB (zs0.trans Zi) (HM.out.ext Zi));have hgd:L.getD (a+j) []=y:=by simp[List.getD_eq_getElem?_getD,hy]
    obtain⟨p,hp⟩:=Xz (zx m L y);have hpl:p.length<=100000:=by
     have:=zaG m L y;rw[hp];rw[HQ.out]at this;omega
    rw[<-hp]at HPC;have HP:=Zh hp;have HGD:=Zh hgd;have HMD:Hid (MapC wr.drew mb 0 []):=Zh (HM.out.ext Zi);unfold jQ at HPC;obtain⟨pl,hpe⟩:=Yz p.length;rw[hpe]at HPC hpl;have HPE:=Zh hpe;have zyF:a+j<q:=by have:=HHL.out;omega
    have zxv:a+j<k:=by have:=HHL.out;omega
    have hi0:(0:Int)<=(a:Int)+(j:Int):=by omega
    have hi1:(a:Int)+(j:Int)<(q:Int):=by omega
    have hi2:((a:Int)+(j:Int)).toNat=a+j:=by omega
    have hi3:((a:Int)+(j:Int))<(k:Int):=by omega
    clear hy hB e0 hgd hp hpe;go_wp2_with fail
    go_region_law (first
     |((refine QB _ rfl (.tmp 28) (.tmp 39) 53 rfl w1.heap.size 52 (.agg #[.int .i64 0,.slice none 0 0]) 2 32 Tryz.underlying53 ziQ rfl (by decide) (by decide) A j c (jq els) (by simp[Act.eval]) (HO5.out.ext Zi) (some ⟨w5.heap.size,0,none⟩) 1 1 [.int .i64 ((a:Int)+(j:Int)),.slice A5 pl c5] (by simp[Act.eval]) (Arr.new w5 52 #[.int .i64 ((a:Int)+(j:Int)),.slice A5 pl c5]) rfl (by simp[Value.oneCell']) (by omega) (by simp;omega) ?_);intro A6 c6 w6 zsd hg6)
     |(go_simp;go_at_call 37;refine HPC.out.mono ?_;rintro e w5 ⟨A5,c5,rfl,hO5,hM5,hF5⟩;have HO5:=Zh (hF5.own HMD.out (HO.out.ext (Zi:Ext wr wr.drew)));have zrX:=Zh hO5;have HM5:=Zh hM5;have HF5:=Zh hF5;have hs5:=hF5.size;have zyG:wr.heap.size<=w5.heap.size:=hs5;clear hO5 hM5 hF5))
    all_goals
     have hxa:Ext w5 (w5.alloc (.cells #[.int .i64 ((a:Int)+(j:Int)),.slice A5 pl c5] 52)):=Zi;have hO6:Own w6 w1.heap.size 52 2 A6 (j+1) c6 (jq (els++[⟨(a:Int)+(j:Int),A5,c5,p⟩])):=by
      rw[zqj,show jq [(⟨(a:Int)+(j:Int),A5,c5,p⟩:ME)]=[.int .i64 ((a:Int)+(j:Int)),.slice A5 pl c5] by rw[<-HPE.out];rfl];exact zsd
     have hM6:MapC w6 mb 0 []:=(HM5.out.ext hxa).grow hg6;have hF6:Fm mb w1 w6:=(((HF.out.trans (Fm.of_ext (Zi:Ext wr wr.drew))).trans HF5.out).trans (Fm.of_ext hxa)).new hg6.below;have hk6:∀x:ME,x.ok (w5.alloc (.cells #[.int .i64 ((a:Int)+(j:Int)),.slice A5 pl c5] 52))->x.ok w6:=fun x hx=>⟨hx.1.keep fun b cs fr hb=>(hg6.heap hb (by decide)).trans hb.symm,hx.2⟩
     have zv7:∀x∈els++[(⟨(a:Int)+(j:Int),A5,c5,p⟩:ME)],x.ok w6:=fun x hx=>by
      rcases List.mem_append.1 hx with hx|hx
      ·exact hk6 x ((HF5.out.meok HMD.out ((HOK.out x hx).ext Zi)).ext hxa)
      ·obtain rfl:=mem_singleton.1 hx;exact hk6 _ (ME.ok.ext (w:=w5) ⟨zrX.out.arr,by simp only[HPE.out];omega⟩ hxa)
     have zv8:((els++[(⟨(a:Int)+(j:Int),A5,c5,p⟩:ME)]).map fun x=>(x.i,x.p))=(List.range (j+1)).map fun r=>(((a+r:Nat):Int),zx m L (L.getD (a+r) [])):=by
      rw[List.map_append,HEL.out,List.range_succ,List.map_append];simp only[List.map_cons,List.map_nil,HGD.out,<-HP.out,Int.natCast_add]
     have HO6:=Zh hO6;have HM6:=Zh hM6;have HF6:=Zh hF6;have HK6:=Zh zv7;have HE6:=Zh zv8;clear hO6 hM6 hF6 zv7 zv8 hk6 zsd hg6;go_wp2_with fail
     exact⟨⟨j+1,A6,c6,_,by omega,by go_num,rfl,HO6,HE6,HK6,HM6,HF6⟩,by simp[intOf];omega⟩
   ·obtain rfl:j=l:=by omega
    obtain⟨g,rfl,hbg,hrw⟩:=zqk HO.out (by omega);have zr7:els.length=j:=by have:=congrArg List.length HEL.out;simpa using this
    have zxv:((a:Int)+(j:Int))<(k:Int)↔False:=by have:=HHL.out;simp;omega
    have HSO:=Zh (zqi (cap:=c) hrw HOK.out zr7 (by have:=HHL.out;omega));unfold zbD at HSO;go_wp2_with (go_at_call 38;refine HSO.out.mono ?_;rintro e w3 ⟨rfl,els',hp1,hp2,hp3,hp4,hs3⟩)
    go_ret;have hmg:mb≠g:=by have:=hx1.size;omega
    have hmw:mb<wr.heap.size:=HM.out.lt;refine⟨g,c,els',by rw[hp1.length_eq,zr7];rfl,by have:=hx1.size;omega,hp3,hp4,HM.out.at_block (hs3.1 mb hmw hmg),?_,.inr ⟨by have:=HHL.out;omega,?_,hp2.imp fun h=>by omega⟩⟩
    ·exact((Fm.of_ext hx1).trans HF.out).new (hs3.2 _ (by have:=hx1.size;omega))
    ·rw[<-HHL.out,<-HEL.out];exact hp1.map _
section
variable {κ:Type} [DecidableEq κ] {lt:κ->κ->Prop} [DecidableRel lt]
theorem ziS:∀(G:List (κ×Int))(k:κ),(∀c∈G,lt c.1 k)->Zk lt G k=G++[(k,1)]
 |[],_,_=>rfl
 |c::G,k,h=>by
  unfold Zk;rw[if_pos (h c (List.mem_cons_self ..)),ziS G k fun d hd=>h d (List.mem_cons_of_mem _ hd)];rfl
theorem ziT(O:STO lt):∀(G:List (κ×Int))(k:κ)(n:Int),(∀c∈G,lt c.1 k)->Zk lt (G++[(k,n)]) k=G++[(k,n+1)]
 |[],k,n,_=>by
  show Zk lt [(k,n)] k=_;unfold Zk;rw[if_neg (O.irr k),if_pos rfl];rfl
 |c::G,k,n,h=>by
  show Zk lt (c::(G++[(k,n)])) k=_;unfold Zk;rw[if_pos (h c (List.mem_cons_self ..)),ziT O G k n fun d hd=>h d (List.mem_cons_of_mem _ hd)];rfl
theorem CountOK.hit(O:STO lt){S:List κ}{C:List (κ×Int)}{k:κ}{n:Int}(h:CountOK lt S (C++[(k,n)])):CountOK lt (S++[k]) (C++[(k,n+1)]):=by
 rw[<-ziT O C k n fun c hc=>(List.pairwise_append.1 h.sorted).2.2 c hc _ (mem_singleton.2 rfl)];exact h.tally O k
theorem CountOK.fresh(O:STO lt){S:List κ}{C:List (κ×Int)}{k:κ}(h:CountOK lt S C)(hs:∀s∈S,¬lt k s)(hl:∀C0 d,C=C0++[d]->d.1≠k):CountOK lt (S++[k]) (C++[(k,1)]):=by
 rw[<-ziS (lt:=lt) C k]
 ·exact h.tally O k
 ·have hin:∀c∈C,c.1∈S:=fun c hc=>List.count_pos_iff.1 (by have:=(h.mem c).1 hc;omega)
  rcases List.eq_nil_or_concat C with rfl|⟨C0,d,rfl⟩
  ·intro c hc;simp at hc
  ·rw[List.concat_eq_append] at*
   have hd:lt d.1 k:=(O.tri (hl C0 d rfl)).resolve_right (hs _ (hin d (by simp)));intro c hc;rcases List.mem_append.1 hc with hc|hc
   ·exact O.trans ((List.pairwise_append.1 h.sorted).2.2 c hc d (mem_singleton.2 rfl)) hd
   ·rw[mem_singleton.1 hc];exact hd
end
structure CE where
 n:Int
 A:Option Addr
 c:Nat
 p:List Ct
 N:Int
def CE.key(x:CE):Ks×Int:=((x.n,x.p),x.N)
def Jy(x:CE):List Value:=[.int .i64 x.n,.slice x.A x.p.length x.c,.int .i64 x.N]
def zK(l:List CE):List Value:=l.flatMap Jy
theorem zcF(p q:List CE):zK (p++q)=zK p++zK q:=List.flatMap_append
theorem zaJ(p:List CE):(zK p).length=p.length*3:=by
 induction p with
 |nil=>rfl
 |cons x l ih=>simp only[zK,List.flatMap_cons,List.length_append,List.length_cons]at ih|-;rw[ih];simp[Jy];omega
theorem zaK:∀(p:List CE)(i:Nat)(c:CE),p[i]? =some c->(zK p)[i*3]? =some (.int .i64 c.n)/\(zK p)[i*3+1]? =some (.slice c.A c.p.length c.c)/\(zK p)[i*3+2]? =some (.int .i64 c.N)
 |[],i,c,h=>by simp at h
 |y::l,0,c,h=>by simp at h;subst h;exact⟨rfl,rfl,rfl⟩
 |y::l,i+1,c,h=>by
  have:=zaK l i c (by simpa using h);rw[show (i+1)*3=i*3+3 by omega];exact this
theorem zql(C:List CE)(x:CE)(v:Int):zK (C++[{x with N:=v}])=(zK (C++[x])).set (C.length*3+2) (.int .i64 v):=by
 rw[zcF,zcF,List.set_append_right _ _ (by rw[zaJ];omega),zaJ,show C.length*3+2-C.length*3=2 by omega];rfl
theorem zbE:(Tryz.prog.info? 66).map (fun i=>(i.zero,i.size,i.bytes))=some (some (.agg #[.int .i64 0,.slice none 0 0,.int .i64 0]),3,40):=by kernel_rfl
theorem zqm(c:CE):∀u∈Jy c,u.oneCell'=true:=fun u hu=>by
 simp only[Jy,List.mem_cons,List.not_mem_nil,or_false]at hu;rcases hu with rfl|rfl|rfl<;>rfl
def CE.ok(w:World)(x:CE):Prop:=Arr w x.A 71 (zz x.p)/\x.p.length<=1099511627776
theorem CE.ok.ct{x:CE}(h:x.ok w):CtV w x.A x.p:=⟨_,h.1⟩
def Kp(w w':World):Prop:=w.heap.size<=w'.heap.size/\∀(b:Nat)(cs:Array Value)(T:TypeId)(fr:Nat×Nat),T≠66->w.heap[b]? =some (.cells cs T fr)->w'.heap[b]? =some (.cells cs T fr)
theorem Kp.refl(w:World):Kp w w:=⟨Zr,fun _ _ _ _ _ h=>h⟩
theorem Kp.trans{a b c:World}(h:Kp a b)(h':Kp b c):Kp a c:=⟨Nat.le_trans h.1 h'.1,fun k cs T fr hn hk=>h'.2 k cs T fr hn (h.2 k cs T fr hn hk)⟩
theorem Kp.of_ext(h:Ext w w'):Kp w w':=⟨h.size,fun b _ _ _ _ hb=>(h.below.block b (zF hb)).trans hb⟩
theorem Kp.of_fm{L:List Kc}(h:Fm mb w w')(hm:MapC w mb n L):Kp w w':=⟨h.size,fun _ _ _ _ _ hb=>h.cells hm hb⟩
theorem Kp.of_grow(h:Grow zf 66 w w'):Kp w w':=⟨h.below.size,fun _ _ _ _ hn hb=>h.heap hb hn⟩
theorem Kp.of_set{fr:Nat×Nat}(hg:w.heap[g]? =some (.cells cur 66 fr))(hp:p.block=g)(u:Value):Kp w (w.setCell p u):=by
 refine⟨Nat.le_of_eq (qy w p u).symm,fun b cs T fr' hn hb=>?_⟩;have hne:b≠p.block:=fun e=>by
  rw[e,hp,hg]at hb;injection hb with hb
  injection hb with _ hb
  exact hn hb.symm
 exact qe hb hne u
theorem Arr.kp{vs:List Value}(h:Arr w A T vs)(hk:Kp w w')(hT:T≠66):Arr w' A T vs:=
 h.keep fun _ _ _ hb=>(hk.2 _ _ _ _ hT hb).trans hb.symm
theorem CE.ok.kp{x:CE}(h:x.ok w)(hk:Kp w w'):x.ok w':=⟨h.1.kp hk (by decide),h.2⟩
theorem ME.ok.kp{x:ME}(h:x.ok w)(hk:Kp w w'):x.ok w':=⟨h.1.kp hk (by decide),h.2⟩
theorem MRow.kp{els:List ME}(h:MRow w g els)(hk:Kp w w'):MRow w' g els:=by
 obtain⟨cur,h1,h2⟩:=h;exact⟨cur,hk.2 _ _ _ _ (by decide) h1,h2⟩
theorem Below.setAt(w:World)(hp:n<=p.block)(u:Value):Below n w (w.setCell p u):=
 ⟨rfl,rfl,rfl,Nat.le_of_eq (qy w p u).symm,fun b hb=>Below.heap_setCell w p u b (by omega)⟩
theorem Jz{b:Nat}{x y:Value}(h:w.heap[b]? =some (.cells #[x,y] T (0,0))):w.cell? ⟨b,0,none⟩=some x/\w.cell? ⟨b,1,none⟩=some y/\w.frozen? ⟨b,0,none⟩=false/\w.frozen? ⟨b,1,none⟩=false/\b<w.heap.size:=
 ⟨by simp[World.cell?,h],by simp[World.cell?,h],by simp[World.frozen?,h],by simp[World.frozen?,h],zF h⟩
theorem zeO{xs:List Value}(ho:Own w zf 66 3 A n c xs)(h0:0<n):∃(g:Nat) (cur:Array Value),A=some ⟨g,0,none⟩/\zf<=g/\w.heap[g]? =some (.cells cur 66 (0,0))/\n<=c/\(∀(j:Nat)(u:Value),xs[j]? =some u->cur[j]? =some u)/\
  ∀(i:Nat)(u:Value),i<xs.length->Own (w.setCell ⟨g,i,none⟩ u) zf 66 3 A n c (xs.set i u):=by
 rcases ho.2 with ⟨-,hn⟩|⟨g,cap,cur,hv,h1,h2,h3,h4,h5,h6⟩
 ·omega
 ·injection hv with z1 _ z3
  subst z3;refine⟨g,cur,z1,h1,h2,h3,fun j u hu=>?_,fun i u hi=>⟨by simp[ho.1],.inr ⟨g,c,cur.set! i u,by rw[z1],h1,?_,h3,h4,by simpa using h5,?_⟩⟩⟩
  ·rw[<-h6,List.getElem?_take]at hu;split at hu
   ·simpa using hu
   ·cases hu
  ·rw[Zo h2];simp
  ·rw[<-h6]at hi|-
   apply List.ext_getElem?;intro j;simp only[List.length_take]at hi;simp only[List.getElem?_take,Array.getElem?_toList,List.getElem?_set,Array.set!_eq_setIfInBounds,Array.getElem?_setIfInBounds,List.length_take];split<;>rename_i hj
   ·split<;>rename_i he
    ·subst he;simp;omega
    ·rfl
   ·split<;>rename_i he
    ·omega
    ·rfl
theorem zqn{κ:Type}[DecidableEq κ]{lt:κ->κ->Prop}[DecidableRel lt](O:STO lt){S:List κ}(hS:S≠[]):qv lt S≠[]:=fun h=>by
 obtain⟨y,hy⟩:=List.exists_mem_of_ne_nil S hS;have h2:(y,(S.count y:Int))∈qv lt S:=((jP O S).mem _).2 ⟨Int.natCast_pos.2 (List.count_pos_iff.2 hy),rfl⟩;rw[h]at h2
 cases h2
theorem zqo{x:List Int}(hL:L≠[]):zx m L x≠[]:=zqn zbx fun h=>hL (List.map_eq_nil_iff.1 h)
theorem ziU{els:List ME}(h:MemOK m L a k els)(hok:∀x∈els,x.ok w)(hkl:k<=L.length):
  (els.map fun x=>zx m L (L.getD x.i.toNat [])).Perm ((List.range (k-a)).map fun j=>zx m L (L.getD (a+j) []))/\
  (∀x∈els,(∃j:Nat,a<=j/\j<k/\x.i=(j:Int))/\((x.A=none/\x.c=0/\x.p=[]/\els.length=1)∨(x.A≠none/\x.p=zx m L (L.getD x.i.toNat []))))/\
  els.Pairwise (fun x y=>¬zX (zx m L (L.getD y.i.toNat [])) (zx m L (L.getD x.i.toNat []))=true):=by
 rcases h with ⟨hk,rfl⟩|⟨hk,hp,hs⟩
 ·subst hk;refine⟨by simp,fun x hx=>?_,by simp⟩;rw[mem_singleton.1 hx];exact⟨⟨a,Zr,by omega,rfl⟩,.inl ⟨rfl,rfl,rfl,rfl⟩⟩
 ·have hx:∀x∈els,∃j:Nat,a<=j/\j<k/\x.i=(j:Int)/\x.p=zx m L (L.getD j []):=fun x hx=>by
   have h1:=hp.mem_iff.1 (List.mem_map_of_mem (f:=fun x:ME=>(x.i,x.p)) hx);obtain⟨j,hj,he⟩:=List.mem_map.1 h1;rw[List.mem_range]at hj;injection he with e1 e2
   exact⟨a+j,by omega,by omega,e1.symm,e2.symm⟩
  have hx2:∀x∈els,x.p=zx m L (L.getD x.i.toNat []):=fun x hxm=>by
   obtain⟨j,-,-,h3,h4⟩:=hx x hxm;rw[h3];exact h4
  refine⟨?_,fun x hxm=>?_,?_⟩
  ·have h1:=hp.map Prod.snd;rw[List.map_map,List.map_map]at h1;have h2:(els.map fun x=>zx m L (L.getD x.i.toNat []))=els.map (Prod.snd∘fun x:ME=>(x.i,x.p)):=List.map_congr_left fun x hxm=>(hx2 x hxm).symm
   rw[h2];exact h1
  ·obtain⟨j,h1,h2,h3,h4⟩:=hx x hxm;refine⟨⟨j,h1,h2,h3⟩,.inr ⟨fun hn=>?_,hx2 x hxm⟩⟩;have hne:x.p≠[]:=by
    rw[h4];have hL:L≠[]:=fun e=>by rw[e]at hkl;simp at hkl;omega
    exact zqo hL
   have hA:=(hok x hxm).1;rw[hn]at hA;obtain⟨b,o,cs,fr,h,-⟩:=hA (by
    rw[qZ];exact Nat.mul_pos (List.length_pos_iff.2 hne) (by decide))
   cases h
  ·refine List.Pairwise.imp_of_mem ?_ hs;intro x y hxm hym h;rw[<-hx2 x hxm,<-hx2 y hym,<-zbz];simpa using h
end
end Go.Proofs.YtpcgfpmiphiacaaGreat
