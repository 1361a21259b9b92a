/- R09b R10a Tr18 Sm12 Prov12 Fr2 R10c -/
import Derived.Test.YtjehjkipcaohpaaGreatW22
import Derived.Test.YtjehjkipcaohpaaGreatProg
import Derived.Test.YtjehjkipcaohpaaGreatWSh
import Derived.Test.YtjehjkipcaohpaaGreatW18
set_option maxHeartbeats 8000000
set_option linter.unusedVariables false
set_option linter.unusedSimpArgs false
set_option linter.constructorNameAsVariable false
namespace Go.Proofs.YtjehjkipcaohpaaGreat
open Go.RowKit
open La
theorem zg5 {m:List (List Int)} {n k:Nat} {x:List Int} (hn:n<=16) (hbm:∀i j,Bd k (ent m i j)) (hbx:Qy k x):Qy (2*k+n) (ZX m n x):=fun i=>by
 rw [List.getD_eq_getElem?_getD]
 cases h:m[i]? with
 |none=>simp [ZX,h];exact Bd.zero _
 |some r=>
  have e:((ZX m n x)[i]?).getD 0=zz n fun j=>r.getD j 0*x.getD j 0:=by
   rw [<-List.getD_eq_getElem?_getD];exact zdr h
  rw [e];refine Ji (n:=n) (fun j _=>?_) n (Nat.le_refl _)
  have h1:=hbm i j
  unfold ent at h1;simp only [List.getD,h,Option.getD_some] at h1
  have :=h1.mul (hbx j)
  rw [show k+k=2*k by omega] at this
  exact this
theorem zg6 {m:List (List Int)} (x y:List Int):ipR m x y=zz m.length fun i=>x.getD i 0*(ZX m m.length y).getD i 0:=by
 unfold ipR;refine qv fun i hi=>?_
 have hr:m[i]? =some m[i]:=List.getElem?_eq_getElem hi
 rw [zdr hr];congr 1;refine qv fun j _=>?_
 unfold ent;simp [List.getD,hr]
theorem znD (x:List Int) (k:Nat) (a:Int) (h:x[k]? =some a):zq (x.take (k+1))=if zq (x.take k)=0 then a else zq (x.take k):=by
 induction x generalizing k with
 |nil=>simp at h
 |cons y x ih=>
  cases k with
  |zero=>
   simp at h
   subst h;simp only [List.take_succ_cons,List.take_zero,zq];by_cases h:y=0
   ·simp [h]
   ·simp [h]
  |succ k=>
   simp only [List.getElem?_cons_succ] at h;have :=ih k h;simp only [List.take_succ_cons,zq];by_cases hy:y=0
   ·simp only [hy,if_true];exact this
   ·simp [hy]
def ZF (a:Int):Int:=if a<0 then-1 else if a=0 then 0 else 1
theorem znE (x:List Int) (h:zq x≠0):x.map (fun c=>ZF (zq x)*c)=zE x:=by
 unfold zE ZF;by_cases h1:zq x<0
 ·rw [if_pos h1,if_pos h1];exact List.map_congr_left fun c _=>by omega
 ·rw [if_neg h1,if_neg h1,if_neg h];simp
def zdt (w:World) (x:List Int) (e:Ending) (w':World):Prop:=
 (zq x=0/\e= .returned (.tuple #[.slice none 0 0,.bool false])/\Step w w')∨
 (zq x≠0/\∃B d,e= .returned (.tuple #[.slice B x.length d,.bool true])/\Ints w' B 2 .i64 (zE x)/\x.length<=d/\d<=9223372036854775807/\Step w w')
theorem zdu (a:Int):(a<0/\ZF a=-1)∨(a=0/\ZF a=0)∨(0<a/\ZF a=1):=by
 unfold ZF;split
 ·exact .inl ⟨by assumption,rfl⟩
 ·split
  ·exact .inr (.inl ⟨by assumption,rfl⟩)
  ·exact .inr (.inr ⟨by omega,rfl⟩)
theorem znF (x:List Int) (s:Int) (q:Nat) (a:Int) (h:x[q]? =some a):((x.take (q+1)).map fun a=>Value.int .i64 (s*a))=((x.take q).map fun a=>Value.int .i64 (s*a))++[.int .i64 (s*a)]:=by
 rw [List.take_add_one,h];simp
theorem znG {w0 w:World} {A:Option Addr} {c:Nat} {x:List Int} (h:Ints w0 A 2 .i64 x) (h1:x.length<=1000) (hb:∀a∈x,-1099511627776<=a/\a<=1099511627776) [hx:Ext w0 w]:
  Calls Tryz.prog 29 #[.slice A x.length c] w (zdt w x):=by
 have h0:=h.ext hx
 have HI:=Zh (fun W (e:Ext w0 W)=>znu (w:=W) (c:=c) h (by omega) hb)
 have HB:=Zh hb
 unfold zdt;obtain ⟨n,hn⟩:∃n,n=x.length:=⟨_,rfl⟩;rw [<-hn] at HI h1 |-;have HL:=Zh hn;clear hb h hn;go_enter Tryz.func29,Tryz.ntmps29;go_wp2_with (go_at_call 60;refine (HI.out _ Zi).mono ?_;rintro e w1 ⟨rfl,rfl⟩);go_loop [4,6,15] (fun s _ i=>∃k:Nat,k<=n/\i= .int .i64 k/\s= .int .i64 (ZF (zq (x.take k)))) (fun _ _ i=>n-(intOf i).toNat)
 case atStart=>exact ⟨0,by omega,rfl,rfl⟩
 case round=>
  obtain ⟨k,hk,rfl,rfl⟩:=hrel
  by_cases hlt:k<n
  ·have hlx:k<x.length:=by rw [<-HL.out];exact hlt
   obtain ⟨b1,o1,a,rfl,ha,g1,g2⟩:=h0.at_ hlx
   have hstep:=znD x k a ha
   have hs:=zdu (zq (x.take k))
   have HN:Hid (ZF (zq (x.take (k+1)))=if ZF (zq (x.take k))=0 then ZF a else ZF (zq (x.take k))):=Zh (by
    rw [hstep];by_cases h:zq (x.take k)=0
    ·rw [if_pos h,if_pos (by omega)]
    ·rw [if_neg h,if_neg (by omega)])
   clear hstep hs ha;generalize ZF (zq (x.take k))=s at*;rcases zdu a with ⟨ha,hsa⟩ |⟨ha,hsa⟩ |⟨ha,hsa⟩
   ·have e1:(a !=0)=true:=by simp;omega
    have e2:decide (a<0)=true:=by simpa using ha
    by_cases hs:s=0
    ·subst hs;have HN2:Hid (ZF (zq (x.take (k+1)))=-1):=Zh (by rw [HN.out,if_pos rfl,hsa])
     clear ha hsa;go_wp2;exact ⟨⟨k+1,by omega,by go_num,by rw [HN2.out]⟩,by simp [intOf];omega⟩
    ·have HN2:Hid (ZF (zq (x.take (k+1)))=s):=Zh (by rw [HN.out,if_neg hs])
     have e3:(s==0)=false:=by simpa using hs
     clear ha hsa hs;go_wp2;exact ⟨⟨k+1,by omega,by go_num,by rw [HN2.out]⟩,by simp [intOf];omega⟩
   ·subst ha;by_cases hs:s=0
    ·subst hs;have HN2:Hid (ZF (zq (x.take (k+1)))=0):=Zh (by rw [HN.out,if_pos rfl,hsa])
     clear hsa;go_wp2;exact ⟨⟨k+1,by omega,by go_num,by rw [HN2.out]⟩,by simp [intOf];omega⟩
    ·have HN2:Hid (ZF (zq (x.take (k+1)))=s):=Zh (by rw [HN.out,if_neg hs])
     have e3:(s==0)=false:=by simpa using hs
     clear hsa hs;go_wp2;exact ⟨⟨k+1,by omega,by go_num,by rw [HN2.out]⟩,by simp [intOf];omega⟩
   ·have e1:(a !=0)=true:=by simp;omega
    have e2:decide (a<0)=false:=by simp;omega
    by_cases hs:s=0
    ·subst hs;have HN2:Hid (ZF (zq (x.take (k+1)))=1):=Zh (by rw [HN.out,if_pos rfl,hsa])
     clear ha hsa;go_wp2;exact ⟨⟨k+1,by omega,by go_num,by rw [HN2.out]⟩,by simp [intOf];omega⟩
    ·have HN2:Hid (ZF (zq (x.take (k+1)))=s):=Zh (by rw [HN.out,if_neg hs])
     have e3:(s==0)=false:=by simpa using hs
     clear ha hsa hs;go_wp2;exact ⟨⟨k+1,by omega,by go_num,by rw [HN2.out]⟩,by simp [intOf];omega⟩
  ·have htk:x.take k=x:=List.take_of_length_le (by have :=HL.out;omega)
   rw [htk];have hs:=zdu (zq x);clear htk;by_cases hz:zq x=0
   ·have hsz:ZF (zq x)=0:=by omega
    rw [hsz];have HZ:=Zh hz;clear hs hsz hz;go_wp2;go_ret2;exact .inl ⟨HZ.out,rfl,Step.of _ _⟩
   ·have HC:=Zh (znE x hz)
    have HZ:=Zh hz
    have e3:(ZF (zq x)==0)=false:=by simp;omega
    have hs2:ZF (zq x)=-1∨ZF (zq x)=1:=by omega
    clear hs hz;generalize ZF (zq x)=s at*;go_wp2;go_loopw [7,9,32] (fun s7 _ i wr=>∃(q:Nat) (A1:Option Addr) (c1:Nat),q<=n/\i= .int .i64 q/\s7= .slice A1 q c1/\Hid (Own wr w.heap.size 2 1 A1 q c1 ((x.take q).map fun a=>Value.int .i64 (s*a)))/\Ext w wr) (fun _ _ i _=>n-(intOf i).toNat)
    case atStart=>exact ⟨0,none,0,by omega,rfl,rfl,Zh (Own.nil _ _ _ _),Zi⟩
    case round=>
     obtain ⟨q,A1,c1,hq,rfl,rfl,HO,hxr⟩:=hrel
     by_cases hltq:q<n
     ·have hlx:q<x.length:=by rw [<-HL.out];exact hltq
      obtain ⟨b1,o1,a,rfl,ha,g1,g2⟩:=(h0.ext hxr).at_ hlx
      have hab:=HB.out a (List.mem_of_getElem? ha)
      have hsa:-1099511627776<=s*a/\s*a<=1099511627776:=by rcases hs2 with rfl |rfl<;>omega
      have HT:=Zh (znF x s q a ha)
      obtain ⟨p,hp⟩:∃p,s*a=p:=⟨_,rfl⟩
      rw [hp] at hsa HT;have hpw:IntKind.i64.wrap p=p:=IntWalk.i64_in _ (by omega)
      clear ha hs2;go_wp2_with (at_builtin;refine zC _ rfl _ _ 37 rfl w.heap.size 2 (.int .i64 0) 1 8 Tryz.underlying37 qF rfl (by omega) (by omega) A1 q c1 ((x.take q).map fun a=>Value.int .i64 (s*a)) rfl (HO.out.ext Zi) (some ⟨wr.heap.size,0,none⟩) 1 1 [.int .i64 p] rfl (Arr.new wr 2 #[.int .i64 p]) rfl (Jj _) (by omega) (by have :=hxr.size;simp;omega) ?_;intro A6 c6 w6 hown hg;have HO6:=Zh hown;have hx6:Ext w w6:=hg.ext Zi (Nat.le_refl _);clear hown hg)
      exact ⟨⟨q+1,A6,c6,by omega,by go_num,rfl,Zh (by rw [HT.out];exact HO6.out),hx6⟩,by simp [intOf]<;>omega⟩
     ·obtain rfl:q=n:=by omega
      go_wp2
      go_ret2
      have h2:=HO.out
      rw [List.take_of_length_le (by rw [<-HL.out];exact Nat.le_refl _)] at h2
      refine .inr ⟨HZ.out,A1,c1,rfl,?_,h2.cap.1,h2.cap.2,hxr.toStep⟩
      have h3:=h2.arr
      have e:(x.map fun a=>Value.int .i64 (s*a))=(zE x).map (Value.int .i64):=by rw [<-HC.out,List.map_map];rfl
      rw [e] at h3;exact h3
theorem zg7 {w0 w1 w:World} {X Y:Option Addr} {a b:Int} {c d:Nat} {x y:List Int} (hX:Ints w0 X 2 .i64 x) (hY:Ints w1 Y 2 .i64 y) (hx1:x.length<=1099511627776) (hy1:y.length<=1099511627776) [hx:Ext w0 w] [hy:Ext w1 w]:
  Calls Tryz.prog 32 #[.agg #[.int .i64 a,.slice X x.length c],.agg #[.int .i64 b,.slice Y y.length d]] w (zv w (.bool (zX (a,x) (b,y)))):=by
 have hXw:=hX.ext hx
 have hYw:=hY.ext hy
 have HC:=Zh (fun W (e:Ext w W)=>za6 (w0:=w) (w:=W) (c:=c) (d:=d) hXw hYw hx1 hy1)
 clear hX hY hXw hYw;rcases Int.lt_trichotomy a b with h |h |h
 ·have HV:Hid (zX (a,x) (b,y)=true):=Zh (by simp [zX,jO,zr,qa h])
  have d1:decide (a<b)=true:=by simpa using h
  rw [HV.out];clear h;go_enter Tryz.func32,Tryz.ntmps32;go_wp2_with fail;go_ret;exact ⟨rfl,Step.of _ _⟩
 ·subst h;have HV:Hid (zX (a,x) (a,y)=decide (zr x y<0)):=Zh (by simp [zX,jO,zr,qS])
  rw [HV.out];have d1:decide (a<a)=false:=by simp
  have d2:(a==a)=true:=by simp
  go_enter Tryz.func32,Tryz.ntmps32
  go_wp2_with (go_at_call 31;refine (HC.out _ Zi).mono ?_;rintro e w3 ⟨rfl,nq,rfl⟩)
  go_ret
  exact ⟨rfl,Step.of _ _⟩
 ·have HV:Hid (zX (a,x) (b,y)=false):=Zh (by simp [zX,jO,zr,qD h])
  have d1:decide (a<b)=false:=by simp;omega
  have d2:(a==b)=false:=by simp;omega
  rw [HV.out];clear h;go_enter Tryz.func32,Tryz.ntmps32;go_wp2_with fail;go_ret;exact ⟨rfl,Step.of _ _⟩
def ZN (m:List (List Int)) (k:Nat):List (List Int):=tab (fun i j=>E (ent m) k (k+i) (k+j)) (m.length-k) (m.length-k)
theorem zbA (m:List (List Int)) (k:Nat):(ZN m k).length=m.length-k:=zn _ _ _
theorem znH {w0 w:World} {A:Option Addr} {c n b k:Nat} {m:List (List Int)} (h:MatV w0 A m) (h1:m.length=n) (h4:n<=8) (hn:AllLen m n) (hb:BdM b m) (hb1:1<=b) (hbb:b<=1000000) (hk:k<n) (hp:∀l,l<k->E (ent m) l l l≠0) [hx:Ext w0 w]:
  Calls Tryz.prog 166 #[.slice A n c,.int .i64 k] w (RetOwnI w (n-k) (ZN m k)):=by
 have h0:=h.ext hx
 obtain ⟨r,hr⟩:∃r,r=n-k:=⟨_,rfl⟩
 have HSE:Hid (∀(W1 W2 W:World) (A1 A2:Option Addr) (c1 c2 i j:Nat),i<r->j<r->Ints W1 A1 3 .i64 (zO (zu k (k+i)))->Ints W2 A2 3 .i64 (zO (zu k (k+j)))->Ext w W->Ext W1 W->Ext W2 W->Calls Tryz.prog 167 #[.slice A n c,.slice A1 (k+1) c1,.slice A2 (k+1) c2] W (jm W (zL m (zu k (k+i)) (zu k (k+j))))):=Zh (fun W1 W2 W A1 A2 c1 c2 i j hi hj e1 e2 x0 x1 x2=>by
  have :=zde (w:=W) (c:=c) (cR:=c1) (cC:=c2) h0 e1 e2 hn (by rw [ZV];omega) (by rw [ZV];omega) (by rw [h1];exact JR (by omega) (by omega)) (JR (by omega) (by omega))
  rw [h1,ZV,ZV] at this;exact this)
 have HDT:Hid (∀(W1 W:World) (A1:Option Addr) (c1 i j:Nat),i<r->j<r->MatV W1 A1 (zL m (zu k (k+i)) (zu k (k+j)))->Ext W1 W->Calls Tryz.prog 146 #[.slice A1 (k+1) c1] W (zt W (E (ent m) k (k+i) (k+j)))):=Zh (fun W1 W A1 c1 i j hi hj hM e1=>by
  rw [<-JI hp (k+i) (k+j)];exact zdg hM (by omega) hb hb1 hbb)
 have HSL:Hid (∀i j,(zL m (zu k i) (zu k j)).length=k+1):=Zh (fun i j=>by rw [JQ,ZV])
 have HFL:Hid (∀i,(zO (zu k i)).length=k+1):=Zh (fun i=>by rw [zdd,ZV])
 have HFI:Hid (∀(W:World) (i:Nat),Calls Tryz.prog 168 #[.int .i64 k,.int .i64 i] W (zdb W (zO (zu k i)))):=Zh (fun W i=>zgk k i (by omega))
 have HST:Hid (ZN m k=tab (fun i j=>E (ent m) k (k+i) (k+j)) r r):=Zh (by unfold ZN;rw [h1,hr])
 rw [HST.out,<-hr];obtain ⟨F,hF⟩:∃F:Nat->Nat->Int,F=fun i j=>E (ent m) k (k+i) (k+j):=⟨_,rfl⟩
 rw [<-hF];have hFij:∀i j,E (ent m) k (k+i) (k+j)=F i j:=fun i j=>by rw [hF]
 have zpy:Hid (∀(W1 W:World) (A1:Option Addr) (c1 i j:Nat),i<r->j<r->MatV W1 A1 (zL m (zu k (k+i)) (zu k (k+j)))->Ext W1 W->Calls Tryz.prog 146 #[.slice A1 (k+1) c1] W (zt W (F i j))):=Zh (fun W1 W A1 c1 i j hi hj hM e1=>by
  have :=HDT.out W1 W A1 c1 i j hi hj hM e1
  rwa [hFij] at this)
 have hnk:(n:Int)-(k:Int)=(r:Int):=by omega
 have hrw:IntKind.i64.wrap ((n:Int)-k)=(r:Int):=by rw [show (n:Int)-k=(r:Int) by omega];exact IntWalk.i64_in _ (by omega)
 clear hn hb h1 hp HDT HST hF hFij hr;go_enter Tryz.func166,Tryz.ntmps166;go_wp2_with (go_at_call 148;refine (zaA r r (by omega) (by omega)).mono ?_;rintro e w3 ⟨g,hs,cz,rfl,hO,hcz1,hcz2,hs2⟩;rw [zn] at hcz1 |-;have HO:=Zh hO;clear hO)
 have hx3:Ext w w3:=Zi
 go_loopw [7,8,18,26] (fun _ _ i _ wr=>∃q:Nat,q<=r/\i= .int .i64 q/\Hid (OwnI wr w.heap.size g r hs (tab (qx F q 0) r r))/\Ext w wr) (fun _ _ i _ _=>r-(intOf i).toNat)
 case atStart=>exact ⟨0,by omega,rfl,Zh (by rw [zc8];exact HO.out),Zi⟩
 case round=>
  obtain ⟨i,hi,rfl,HO1,hxr⟩:=hrel
  obtain ⟨wo,rfl⟩:∃wo:World,wo=wr:=⟨_,rfl⟩
  by_cases hlt:i<r
  ·obtain ⟨b0,c0,hp0,d1,d2,d3,d4,d5,d6⟩:=HO1.out.hdr (i:=i) (by rw [zn];exact hlt)
   clear hp0;go_wp2_with fail;go_loopw [8,26] (fun _ j wr=>∃q:Nat,q<=r/\j= .int .i64 q/\Hid (OwnI wr w.heap.size g r hs (tab (qx F i q) r r))/\Ext w wr) (fun _ j _=>r-(intOf j).toNat)
   case atStart=>exact ⟨0,by omega,rfl,HO1,Zi⟩
   case round=>
    obtain ⟨q,hq,rfl,HO2,hxq⟩:=hrel
    by_cases hltq:q<r
    ·obtain ⟨b1,c1,hp1,f1,f2,f3,f4,f5,f6⟩:=HO2.out.hdr (i:=i) (by rw [zn];exact hlt)
     have HP1:=Zh hp1
     have HX:=Zh (fun W hh=>HO2.out.hdrX hp1 (by rw [zn];exact hlt) W hh)
     have hlo:=HO2.out.lo_row hp1
     have hnw:New b1 w:=⟨hlo⟩
     have HE:Hid (∀W,Ext wr W->∃s B k' d,W.cell? ⟨b1,q*2,none⟩=some (.bool s)/\W.cell? ⟨b1,q*2+1,none⟩=some (.slice B k' d)/\W.frozen? ⟨b1,q*2,none⟩=false/\W.frozen? ⟨b1,q*2+1,none⟩=false/\b1<W.heap.size):=Zh (fun W hh=>by
      obtain ⟨s,B,k',d,a1,a2,-,a4,a5⟩:=(HO2.out.ext hh).entry (i:=i) HP1.out (by rw [zn];exact hlt) hltq
      exact ⟨s,B,k',d,a1,a2,a4,a5,Nat.lt_of_lt_of_le f5 hh.size⟩)
     have hki:IntKind.i64.wrap ((k:Int)+(i:Int))=((k+i:Nat):Int):=by rw [show (k:Int)+(i:Int)=((k+i:Nat):Int) by simp];exact IntWalk.i64_in _ (by omega)
     have hkq:IntKind.i64.wrap ((k:Int)+(q:Int))=((k+q:Nat):Int):=by rw [show (k:Int)+(q:Int)=((k+q:Nat):Int) by simp];exact IntWalk.i64_in _ (by omega)
     have HF1:=Zh (fun W=>HFI.out W (k+i))
     have HF2:=Zh (fun W=>HFI.out W (k+q))
     clear hp1;go_wp2_with fail;go_region_held3 (fun w'=>w'.cell? ⟨g,i,none⟩=some (.slice (some ⟨b1,0,none⟩) r c1))
      (first |exact (HX.out _ Zi).1 |exact (HX.out _ Zi).2 _ _ _ _)
      (first
       |(have hh:=hI6;clear hh;go_at_call 168;refine (HF2.out _).mono ?_;rintro e w7 ⟨A7,c7,rfl,hI7,-,-,hs7⟩;rw [HFL.out])
       |(go_at_call 168;refine (HF1.out _).mono ?_;rintro e w6 ⟨A6,c6,rfl,hI6,-,-,hs6⟩;rw [HFL.out])
       |(go_at_call 167;refine (HSE.out _ _ _ _ _ _ _ i q hlt hltq hI6 hI7 Zi Zi Zi).mono ?_;rintro e w8 ⟨A8,c8,rfl,hM8,-,-,hs8⟩;rw [HSL.out])
       |(go_at_call 146;refine (zpy.out _ _ _ _ i q hlt hltq hM8 Zi).mono ?_;rintro e w5 ⟨g5,B5,k5,n5,rfl,hz5,hs5⟩;obtain ⟨s6,B6,k6,n6,u1,u2,u3,u4,u5⟩:=HE.out w5 Zi))
     go_wp2_with fail
     refine ⟨⟨q+1,by omega,by go_num,Zh ?_,?_⟩,by simp [intOf]<;>omega⟩
     ·have hO5:=(HO2.out.ext (Zi:Ext wr w5)).set HP1.out (by rw [zn];exact hlt) hltq hz5
      rw [zc5 hlt hltq] at hO5;exact hO5
     ·exact ((Zi:Ext w w5).setCell (p:=⟨b1,q*2,none⟩) hlo _).setCell (p:=⟨b1,q*2+1,none⟩) hlo _
    ·obtain rfl:q=r:=by omega
     go_wp2_with fail
     exact ⟨⟨i+1,by omega,by go_num,Zh (by rw [<-zc6];exact HO2.out),hxq⟩,by simp [intOf]<;>omega⟩
  ·obtain rfl:i=r:=by omega
   go_wp2_with fail
   go_ret
   have h:=HO1.out
   rw [zc7] at h;exact ⟨g,hs,cz,by rw [zn];rfl,h,by rw [zn];exact hcz1,hcz2,hxr.toStep⟩
def zbB (w:World) (m:List (List Int)) (e:Ending) (w':World):Prop:=∃B d,e= .returned (.tuple #[.slice B m.length d,.bool true])/\StV w' B ((List.range m.length).map (ZN m))/\m.length<=d/\d<=9223372036854775807/\Step w w'
def StHd (w:World) (m:List (List Int)) (q:Nat) (vs:List Value):Prop:=vs.length=q/\∀i,i<q->∃B c,vs[i]? =some (.slice B (m.length-i) c)/\MatV w B (ZN m i)/\m.length-i<=c/\c<=9223372036854775807
theorem StHd.map {w w':World} {m:List (List Int)} {q:Nat} {vs:List Value} (h:StHd w m q vs) (hk:∀{B:Option Addr} {M:List (List Int)},MatV w B M->MatV w' B M):StHd w' m q vs:=⟨h.1,fun i hi=>by
 obtain ⟨B,c,a1,a2,a3⟩:=h.2 i hi
 exact ⟨B,c,a1,hk a2,a3⟩⟩
theorem StHd.snoc {w:World} {m:List (List Int)} {q:Nat} {vs:List Value} (h:StHd w m q vs) {B:Option Addr} {c:Nat} (hM:MatV w B (ZN m q)) (h1:m.length-q<=c) (h2:c<=9223372036854775807):StHd w m (q+1) (vs++[.slice B (m.length-q) c]):=by
 refine ⟨by simp [h.1],fun i hi=>?_⟩
 rcases Nat.lt_or_ge i q with hlt |hge
 ·obtain ⟨B',c',a1,a2,a3⟩:=h.2 i hlt
  exact ⟨B',c',by rw [List.getElem?_append_left (by rw [h.1];exact hlt)];exact a1,a2,a3⟩
 ·obtain rfl:i=q:=by omega
  exact ⟨B,c,by rw [List.getElem?_append_right (by rw [h.1];exact Nat.le_refl _),h.1,Nat.sub_self];rfl,hM,h1,h2⟩
theorem StHd.stV {w:World} {m:List (List Int)} {vs:List Value} {A:Option Addr} (h:StHd w m m.length vs) (ha:Arr w A 79 vs):StV w A ((List.range m.length).map (ZN m)):=by
 refine ⟨vs,by simp [h.1],ha,fun i M hM=>?_⟩
 rw [List.getElem?_map] at hM
 cases hr:(List.range m.length)[i]? with
 |none=>rw [hr] at hM;cases hM
 |some j=>
  have hij:i=j/\i<m.length:=by
   obtain ⟨h1,h2⟩:=List.getElem?_eq_some_iff.1 hr
   simp at h1 h2
   exact ⟨h2,h1⟩
  obtain ⟨rfl,hi⟩:=hij
  rw [hr] at hM;injection hM with hM
  subst hM;obtain ⟨B,c,a1,a2,a3⟩:=h.2 i hi;exact ⟨B,c,by rw [zbA];exact a1,a2,by rw [zbA];exact a3.1,a3.2⟩
set_option maxRecDepth 20000 in
theorem znI {w0 w:World} {A:Option Addr} {c n b:Nat} {m:List (List Int)} (h:MatV w0 A m) (h1:m.length=n) (h3:1<=n) (h4:n<=8) (hn:AllLen m n) (hb:BdM b m) (hb1:1<=b) (hbb:b<=1000000) (hp:Pos (zb (ent m)) n) [hx:Ext w0 w]:
  Calls Tryz.prog 105 #[.slice A n c] w (zbB w m):=by
 have h0:=h.ext hx
 have HLE:=Zh (fun W (e1:Ext w W)=>zaE (w:=W) (c:=c) h0 h1 h3 h4 hn hb hb1 hbb)
 have HLL:Hid ((zl m).length=n):=Zh (by rw [Qj];exact h1)
 have HPX:Hid (∀i,i<n->0<(zl m).getD i 0):=Zh (fun i hi=>by
  rw [zcN (by rw [h1];exact hp) (by rw [h1];exact hi)]
  exact Z4 hp hi)
 have HBX:Hid (Qy (256*(b+1)) (zl m)):=Zh (JT (by omega) hb1 hb)
 have HSG:Hid (∀(W:World) (k:Nat),k<n->Ext w W->Calls Tryz.prog 166 #[.slice A n c,.int .i64 k] W (RetOwnI W (n-k) (ZN m k))):=Zh (fun W k hk e=>znH h0 h1 h4 hn hb hb1 hbb hk (fun l hl=>by have :=Z4 hp (show l<n by omega);omega))
 have HSL:Hid (∀k,(ZN m k).length=n-k):=Zh (fun k=>by rw [zbA,h1])
 unfold zbB;have HM1:=Zh h1;rw [h1];have hbk:b<=1000000:=hbb;have hw:IntKind.i64.wrap ((n:Int)-1)=((n-1:Nat):Int):=by rw [show (n:Int)-1=((n-1:Nat):Int) by omega];exact IntWalk.i64_in _ (by omega)
 clear hn hb hp h1 h;generalize zl m=ds at*;go_enter Tryz.func105,Tryz.ntmps105;go_wp2_with (go_at_call 106;refine (HLE.out _ Zi).mono ?_;rintro e w1 ⟨BD,dD,rfl,hI1,hd1,hd2,hs1⟩;rw [HLL.out] at hd1 |-;have HI:=Zh hI1;clear hI1)
 have hxw1:Ext w w1:=Zi
 go_loopw [7,23] (fun _ i wr=>∃q:Nat,q<=n-1/\i= .int .i64 q/\Ext w1 wr) (fun _ i _=>n-1-(intOf i).toNat)
 case atStart=>exact ⟨0,by omega,rfl,Zi⟩
 case round=>
  obtain ⟨q,hq,rfl,hxr⟩:=hrel
  have hxwr:Ext w wr:=hxw1.trans hxr
  by_cases hlt:q<n-1
  ·obtain ⟨bb,ob,g,B,k,d,rfl,y1,y2,hz,hb2⟩:=(HI.out.ext hxr).atD (i:=q) (by rw [HLL.out];omega)
   have hpos:=HPX.out q (by omega)
   have hlen:=hz.bd (HBX.out q) (by omega)
   generalize ds.getD q 0=z at*;have hcz:(zg z 0==0)=false:=by rw [qD hpos];rfl
   have HS:Hid (∀W,Ext wr W->Calls Tryz.prog 165 #[.agg #[.bool g,.slice B k d]] W (zv W (.int .i64 (zg z 0)))):=Zh (fun W e=>Qu hz (by omega))
   clear hz hpos;generalize zg z 0=cz at*;go_wp2_with (go_at_call 165;refine (HS.out _ Zi).mono ?_;rintro e w2 ⟨rfl,hs2⟩);exact ⟨⟨q+1,by omega,by go_num,Zi⟩,by simp [intOf]<;>omega⟩
  ·obtain rfl:q=n-1:=by omega
   clear hlt hq;go_wp2_with fail;go_loopw [8,9,33] (fun s8 _ i wr'=>∃(q:Nat) (A1:Option Addr) (c1:Nat) (vs:List Value),q<=n/\i= .int .i64 q/\s8= .slice A1 q c1/\Hid (Own wr' w.heap.size 79 1 A1 q c1 vs)/\Hid (StHd wr' m q vs)/\Ext w wr') (fun _ _ i _=>n-(intOf i).toNat)
   case atStart=>exact ⟨0,none,0,[],by omega,rfl,rfl,Zh (Own.nil _ _ _ _),Zh ⟨rfl,fun i hi=>absurd hi (by omega)⟩,hxwr⟩
   case round=>
    obtain ⟨k,A1,c1,vs,hk,rfl,rfl,HO,HV,hxk⟩:=hrel
    by_cases hlt:k<n
    ·have HS:Hid (∀W,Ext w W->Calls Tryz.prog 166 #[.slice A n c,.int .i64 k] W (jm W (ZN m k))):=Zh (fun W e=>(HSG.out W k hlt e).mono fun _ _ h=>h.mat)
     have hkl:=HSL.out k
     go_wp2_with fail
     refine (HS.out _ Zi).mono ?_
     rintro e w5 ⟨B5,c5,rfl,hM5,hc51,hc52,hs5⟩
     rw [hkl] at hc51 |-;have hx5:Ext wr w5:=Zi;have HM5:=Zh hM5;clear hM5 hkl;go_wp2_with (at_builtin;refine zC _ rfl _ _ 86 rfl w.heap.size 79 (.slice none 0 0) 1 24 Tryz.underlying86 zb4 rfl (by omega) (by omega) A1 k c1 vs rfl (HO.out.ext Zi) (some ⟨w5.heap.size,0,none⟩) 1 1 [.slice B5 (n-k) c5] rfl (Arr.new w5 79 #[.slice B5 (n-k) c5]) rfl (zgl _ _ _) (by omega) (by have :=(hxk.trans hx5).size;simp;omega) ?_;intro A6 c6 w6 hown hg;have HO6:=Zh hown;have HG6:=Zh hg;have hx6:Ext w w6:=hg.ext Zi (Nat.le_refl _);clear hown hg)
     refine ⟨⟨k+1,A6,c6,vs++[.slice B5 (n-k) c5],by omega,by go_num,rfl,HO6,Zh ?_,hx6⟩,by simp [intOf]<;>omega⟩
     have hxa:Ext w5 (w5.alloc (.cells #[.slice B5 (n-k) c5] 79)):=Zi
     have h6:=StHd.snoc (m:=m) (HV.out.map fun h=>(h.ext hx5).ext hxa) (HM5.out.ext hxa) (c:=c5) (by rw [HM1.out];exact hc51) hc52
     rw [HM1.out] at h6;exact h6.map fun h=>h.grow HG6.out (by decide) (by decide) (by decide)
    ·obtain rfl:k=n:=by omega
     go_wp2_with fail
     go_ret2
     have hst:=HV.out
     rw [<-HM1.out] at hst;have hst2:=hst.stV HO.out.arr;rw [HM1.out] at hst2
     exact ⟨A1,c1,rfl,hst2,HO.out.cap.1,HO.out.cap.2,hxk.toStep⟩
def zg8 (w:World) (m:List (List Int)) (b:Int) (e:Ending) (w':World):Prop:=∃B d L,e= .returned (.tuple #[.slice B (List.length L) d,.int .i64 0])/\Mat64 w' B L/\L.length<=d/\d<=9223372036854775807/\VecList m b false L/\L.length<=8000/\Step w w'
theorem znJ {m:List (List Int)} (hr:Ze m=true) {b:Int} (hb0:0<=b) (hb:b<1073741824):TreeOK m b:=by
 have hR:=ZS hr
 have hl:=ZM hR.small
 have hN:=hR.form.num b hb0 hb
 refine ⟨hR.form,hR.s64,zfR hr,hb0,by omega,hl.1,hl.2,hN.dl,hN.ll,hN.row,hN.d1,hN.d2,hN.lam,hb0,fun k hk=>?_⟩
 have a1:=hN.d1 k (by omega)
 have a2:=hN.d2 k (by omega)
 have b1:=hN.d1 (k+1) (by omega)
 have b2:=hN.d2 (k+1) (by omega)
 have m1:vD (za m m.length) (k+1)*b<=65535*1073741823:=Int.mul_le_mul (by omega) (by omega) (by omega) (by omega)
 have m0:0<=vD (za m m.length) (k+1)*b:=Int.mul_nonneg (by omega) (by omega)
 have m2:vD (za m m.length) (k+1)*b*vD (za m m.length) k<=65535*1073741823*65535:=Int.mul_le_mul m1 (by omega) (by omega) (by omega)
 omega
theorem znK {m:List (List Int)} (hr:Ze m=true) {b:Nat} (h4:m.length<=4) (hb:b+2*m.length<=12∨b<=6∨(m.length<=3/\b<=8)):(qX m b false).length<=4000:=by
 have hR:=ZS hr
 have hl:=ZM hR.small
 have hst:=(zax hr (b:=b) (by omega)).1
 have hfew:=zaJ hr h4 hb
 have hlast:=hst.last_le (by omega)
 have hll:=hst.last
 omega
theorem znL {w0 w:World} {A B:Option Addr} {c d b:Nat} {m:List (List Int)} {C:List (Int×Int)} (h:Mat64 w0 A m) (hc:m.length<=c) (hc2:c<=9223372036854775807) (hr:Ze m=true) (h4:m.length<=4) (hb:b+2*m.length<=12∨b<=6∨(m.length<=3/\b<=8)) (hC:IvV w0 B C) (hlen:C.length<=1099511627776) [hx:Ext w0 w]:
  Calls Tryz.prog 42 #[.slice A m.length c,.int .i64 b,.slice B C.length d] w fun e w'=>if C=Zy m b then zg8 w m b e w' else zv w (.tuple #[.slice none 0 0,.int .i64 10]) e w':=by
 have hR:=ZS hr
 have hl:=ZM hR.small
 have hb0:(0:Int)<=b:=by omega
 have hb1:(b:Int)<1073741824:=by omega
 have hiff:=znd hR hb0 hb1 C
 have hcl:=znK hr h4 hb
 have htl:=zni hR hb0
 have htc:tC m b (m.length-1) [] []=tV m b (m.length-1) []:=by
  rw [znf _ _ _ _ _ (by simp),List.nil_append,List.take_of_length_le (by omega)]
 rw [htc] at hiff;have hv:∀l,QL m b C=some l->l.length<=4096->(∀x∈l,VecOK m x)/\(l.map zE).Nodup:=fun l hl _=>by
  obtain ⟨-,rfl⟩:=(hiff l).1 hl
  refine ⟨fun x hx=>?_,by rw [zgR hR hb0];exact (zgQ _ _ _).1⟩
  obtain ⟨q1,q2,q3⟩:=(zbx hR hb0 x).1 hx
  have q4:=zlt (zfM hR hb0 hb1 x q1 q3)
  refine ⟨by simp [jD,q1,q4],?_,?_⟩
  ·have :=zfL hR x q1
   simp only [j6,decide_eq_true_eq];omega
  ·simp only [Q7,q4,Bool.true_and,Bool.not_eq_true',decide_eq_false_iff_not];omega
 refine (zfg (w:=w) (c:=c) (d:=d) h hc hc2 (znJ hr hb0 hb1) hC hlen hv).mono ?_
 intro e w' hp;by_cases hCt:C=Zy m b
 ·rw [if_pos hCt];rw [(hiff (tV m b (m.length-1) [])).2 ⟨hCt,rfl⟩] at hp;simp only at hp
  rw [if_neg (by omega)] at hp
  obtain ⟨X,d2,L,he,hM,k1,k2,p1,p2,hs⟩:=hp
  have hlL:=p1.length_eq
  rw [List.length_map] at hlL;exact ⟨X,d2,L,he,hM,k1,k2,znh hR hb0 p1 p2,by omega,hs⟩
 ·rw [if_neg hCt];have :QL m b C=none:=by
   cases hT:QL m b C with
   |none=>rfl
   |some l=>exact absurd ((hiff l).1 hT).1 hCt
  rw [this] at hp;exact hp
end Go.Proofs.YtjehjkipcaohpaaGreat
namespace Go.Proofs.YtjehjkipcaohpaaGreat
open Go.RowKit
theorem znM {w:World} {dim kind bound:Int} {NA:Option Addr} {l:List Int} {nc:Nat} {v3:Value} {te:TypeId} (hN:Ints w NA te .i8 l) (h8:I8 l) (hl:l.length<=9223372036854775807) (hd0:0<=dim) (hd1:dim<256) (hk0:0<=kind) (hk1:kind<256) (hb0:0<=bound) (hb1:bound<256):
  Calls Tryz.prog 40 #[.agg #[.int .u8 dim,.int .u8 kind,.slice NA l.length nc,v3],.int .u8 bound] w (zds w (1+(dim%4).toNat) bound):=by
 have HG:Hid (∀W,Ext w W->Calls Tryz.prog 27 #[.agg #[.int .u8 dim,.int .u8 kind,.slice NA l.length nc,v3],.int .i64 4] W (zg1 W (1+(dim%4).toNat))):=Zh (fun W e=>znA (most:=4) (hN.ext e) h8 hl hd0 hd1 hk0 hk1 (by omega) (by omega))
 have hn4:1+(dim%4).toNat<=4:=by omega
 clear hN h8;generalize 1+(dim%4).toNat=n at*;have e1:IntKind.i64.wrap (2*(n:Int))=2*(n:Int):=IntWalk.i64_in _ (by omega)
 have e2:IntKind.i64.wrap (13-2*(n:Int))=13-2*(n:Int):=IntWalk.i64_in _ (by omega)
 have e3:((13-2*(n:Int))==0)=false:=by simp;omega
 have e4:bound.tmod (13-2*(n:Int))=bound%(13-2*(n:Int)):=Int.tmod_eq_emod_of_nonneg hb0
 have e5:IntKind.i64.wrap bound=bound:=IntWalk.i64_in _ (by omega)
 have e6:=Int.emod_nonneg bound (show 13-2*(n:Int)≠0 by omega)
 have e7:=Int.emod_lt_of_pos bound (show 0<13-2*(n:Int) by omega)
 have e8:IntKind.i64.wrap (bound%(13-2*(n:Int)))=bound%(13-2*(n:Int)):=IntWalk.i64_in _ (by omega)
 go_enter Tryz.func40,Tryz.ntmps40
 go_wp2_with (go_at_call 27;refine (HG.out _ Zi).mono ?_;rintro e w1 ⟨a,hh,A1,c1,rfl,hGm,hLL,hlen,hRel,hM3,hc1,hc2,hs3⟩)
 have HM:=Zh hM3
 clear hM3;go_quiet (fail);go_wp2_with fail;go_ret2;exact ⟨a,hh,A1,c1,rfl,hGm,hLL,hlen,hRel,HM.out.ext Zi,hc1,hc2,Step.of _ _⟩
end Go.Proofs.YtjehjkipcaohpaaGreat
namespace Go.Proofs.YtjehjkipcaohpaaGreat
open Go.RowKit
open La
theorem znN {m:List (List Int)} (hr:Ze m=true) {b:Nat} (h4:m.length<=4) (hb:b+2*m.length<=12∨b<=6∨(m.length<=3/\b<=8)):(Zy m b).length<=8001:=by
 have hR:=ZS hr
 have hl:=ZM hR.small
 by_cases h1:m.length=1
 ·rw [znm hR h1 (by omega)];simp
 ·have :=znk hR (by omega) (b:=(b:Int)) (by omega) (by omega)
  have :=zaJ hr h4 hb
  omega
end Go.Proofs.YtjehjkipcaohpaaGreat
namespace Go.Proofs.YtjehjkipcaohpaaGreat
open La
def fB (m:List (List Int)) (s i j:Nat):Int:=E (ent m) s (s+i) (s+j)
def fL (m:List (List Int)) (s:Nat) (t:List Int):Int:=zz t.length fun j=>fB m s 0 (j+1)*t.getD j 0
def fC (m:List (List Int)) (s:Nat) (t:List Int):Int:=zz t.length fun i=>t.getD i 0*zz t.length fun j=>fB m s (i+1) (j+1)*t.getD j 0
theorem zg9 (m:List (List Int)) (s:Nat) (t:List Int):fL m s t=Zr (E (ent m) s s) (s+1) t:=by
 rw [zaH];refine qv fun j _=>?_
 unfold fB;rw [show s+1+j=s+(j+1) by omega,Nat.add_zero]
theorem znO (m:List (List Int)) (s:Nat) (t:List Int):fL m s t=lE (ent m) s (0::t):=by
 rw [zg9];unfold lE;rw [Zr,Int.mul_zero,Int.zero_add]
theorem znP (m:List (List Int)) (s:Nat) (t:List Int):fC m s t=qE (ent m) s (0::t):=by
 unfold qE QP;rw [Zr,Int.mul_zero,Int.zero_add,zaH];unfold fC;refine qv fun i _=>?_
 rw [Int.mul_comm];congr 1;rw [Zr,Int.mul_zero,Int.zero_add,zaH];refine qv fun j _=>?_
 unfold fB;rw [show s+1+j=s+(j+1) by omega,show s+1+i=s+(i+1) by omega]
theorem znQ {m:List (List Int)} (hr:RedOK m) {s:Nat} (hs:s<m.length) (b:Int) (t:List Int) (ht:t.length=m.length-1-s) (h0:0<=left (ent m) b (s+1) t):
  0<=fL m s t*fL m s t-fB m s 0 0*(fC m s t-b*zo (ent m) s)/\
  ((zk (fL m s t*fL m s t-fB m s 0 0*(fC m s t-b*zo (ent m) s)).toNat:Int)-fL m s t) / fB m s 0 0=zx m b s t/\
  -(((zk (fL m s t*fL m s t-fB m s 0 0*(fC m s t-b*zo (ent m) s)).toNat:Int)+fL m s t) / fB m s 0 0)=zf m b s t/\0<fB m s 0 0:=by
 have hp:=Z4 hr.pos hs
 have hb:fB m s 0 0=zo (ent m) (s+1):=rfl
 have hd:fL m s t*fL m s t-fB m s 0 0*(fC m s t-b*zo (ent m) s)=Zj (za m m.length) s (left (ent m) b (s+1) t):=by
  rw [znO,znP,hb,zno hr hs,Zj,ZT (by omega)]
 have hl:0<zo (ent m) s:=Zu hr.pos (by omega)
 rw [hd];have hv:Zp (zd m m.length) s t=fL m s t:=by rw [zcT hs t ht,zg9]
 have hD:vD (za m m.length) (s+1)=fB m s 0 0:=by rw [ZT (by omega)];rfl
 refine ⟨?_,?_,?_,hp⟩
 ·unfold Zj;rw [ZT (by omega)]
  exact Int.mul_nonneg (Int.le_of_lt hl) h0
 ·unfold zx Zf vR;rw [hv,hD]
 ·unfold zf zB vR;rw [hv,hD]
def Zz (m:List (List Int)) (b:Int) (k:Nat) (t:List Int):List (Int×Int):=z7 (za m m.length) (zd m m.length) m.length k (left (ent m) b (k+1) t) t
def Zk (m:List (List Int)) (b:Int) (k:Nat) (t:List Int) (q:Nat):List (Int×Int):=(List.range q).flatMap fun (j:Nat)=>Zz m b k ((zf m b (k+1) t+(j:Int))::t)
theorem zdv (m:List (List Int)) (b:Int) (k:Nat) (t:List Int) (q:Nat):Zk m b k t (q+1)=Zk m b k t q++Zz m b k ((zf m b (k+1) t+(q:Int))::t):=by
 unfold Zk;rw [List.range_succ,List.flatMap_append,List.flatMap_singleton]
theorem zdw (m:List (List Int)) (b:Int) (t:List Int):Zz m b 0 t=[((m.length:Int),zx m b 0 t-zf m b 0 t+1)]:=rfl
theorem zha {m:List (List Int)} (hr:RedOK m) {k:Nat} (hk:k+1<m.length) (b:Int) (t:List Int) (ht:t.length=m.length-1-(k+1)):
  Zz m b (k+1) t=((m.length:Int)-(k+1:Nat),zx m b (k+1) t-zf m b (k+1) t+1)::Zk m b k t (zF m b (k+1) t):=by
 unfold Zz Zk zF;rw [z7];congr 1;refine congrArg (fun F=>List.flatMap F _) ?_
 funext j
 rw [qw hr (by omega) b t ht]
 rfl
def Za (cs:List Int) (ys:List (Int×Int)):List Int:=(List.range cs.length).map fun i=>cs.getD i 0+zM ys i
theorem zbC (cs:List Int) (ys:List (Int×Int)):(Za cs ys).length=cs.length:=by simp [Za]
theorem znR {cs:List Int} {ys:List (Int×Int)} {i:Nat} (h:i<cs.length):(Za cs ys).getD i 0=cs.getD i 0+zM ys i:=by
 simp [Za,List.getD,h]
theorem zdx (cs:List Int):Za cs []=cs:=by
 apply List.ext_getElem
 ·exact zbC _ _
 ·intro i h1 h2;simp [Za,zM,h2]
theorem zhb (cs:List Int) (a b:List (Int×Int)):Za (Za cs a) b=Za cs (a++b):=by
 unfold Za;simp only [List.length_map,List.length_range];refine List.map_congr_left fun i hi=>?_
 have hi':i<cs.length:=by simpa using hi
 rw [zcX];simp [List.getD,hi'];omega
theorem zhc {cs:List Int} {ys:List (Int×Int)} (h:∀p∈ys,1<=p.1/\p.1<=(cs.length:Int)):(Za cs ys).sum=cs.sum+zA ys:=by
 unfold Za;rw [zfY (List.range cs.length) (fun i=>cs.getD i 0) (zM ys),zcZ _ _ h]
 congr 2
 apply List.ext_getElem
 ·simp
 ·intro i h1 h2;simp [h2]
theorem znS {cs:List Int} {i:Nat} {z:Int} (h:i<cs.length):Za cs [((i:Int)+1,z)]=cs.set i (cs.getD i 0+z):=by
 apply List.ext_getElem
 ·simp [Za]
 ·intro j h1 h2;have hj:j<cs.length:=by simpa using h2
  simp only [Za,List.getElem_map,List.getElem_range,zM,List.getElem_set];by_cases e:i=j
  ·subst e;rw [if_pos (by omega),if_pos rfl]
   simp [h]
  ·rw [if_neg (by omega),if_neg e]
   simp [hj]
theorem zdy {m:List (List Int)} (hr:RedOK m) {b:Int} (hb:0<=b) (hb1:b<1073741824) {k:Nat} {t:List Int} (hk:k<m.length) (ht:t.length=m.length-1-k) (h0:0<=left (ent m) b (k+1) t):∀p∈Zz m b k t,0<=p.2/\1<=p.1/\p.1<=(m.length:Int):=zcY hr hb hb1 k t hk ht h0
theorem znT {m:List (List Int)} (hr:RedOK m) {b:Int} (hb:0<=b) (hb1:b<1073741824) {k:Nat} {t:List Int} (hk:k+1<m.length) (ht:t.length=m.length-1-(k+1)) (h0:0<=left (ent m) b (k+2) t) {q:Nat} (hq:q<=zF m b (k+1) t):∀p∈Zk m b k t q,0<=p.2/\1<=p.1/\p.1<=(m.length:Int):=fun p hp=>by
 unfold Zk at hp;rw [List.mem_flatMap] at hp
 obtain ⟨j,hj,hp⟩:=hp
 rw [List.mem_range] at hj;exact zdy hr hb hb1 (by omega) (by simp [ht];omega) (qY hr t (by omega) ht h0 (j:=j) (by unfold zF zx zf at hq;unfold zK;omega)) p hp
theorem zhd {ys:List (Int×Int)} (h:∀p∈ys,0<=p.2):0<=zA ys:=by
 induction ys with
 |nil=>exact Int.le_refl _
 |cons p ys ih=>
  have :=h p (by simp)
  have :=ih (fun q hq=>h q (by simp [hq]))
  simp only [zA];omega
theorem znU {m:List (List Int)} (hr:RedOK m) {b:Int} (hb:0<=b) (hb1:b<1073741824) {k:Nat} {t:List Int} (hk:k+1<m.length) (ht:t.length=m.length-1-(k+1)) (h0:0<=left (ent m) b (k+2) t) {p q:Nat} (hpq:p<=q) (hq:q<=zF m b (k+1) t):zA (Zk m b k t p)<=zA (Zk m b k t q):=by
 induction q with
 |zero=>obtain rfl:p=0:=by omega
        exact Int.le_refl _
 |succ q ih=>
  rcases Nat.lt_or_ge p (q+1) with h |h
  ·have h1:=ih (by omega) (by omega)
   rw [zdv,zcW];have h2:=zhd (fun p hp=>(zdy hr hb hb1 (b:=b) (k:=k) (t:=(zf m b (k+1) t+(q:Int))::t) (by omega) (by simp [ht];omega) (qY hr t (by omega) ht h0 (j:=q) (by unfold zF zx zf at hq;unfold zK;omega)) p hp).1)
   omega
  ·obtain rfl:p=q+1:=by omega
   exact Int.le_refl _
theorem zbD {m:List (List Int)} (hr:RedOK m) {b:Int} (hb:0<=b) (hb1:b<1073741824) {k:Nat} {t:List Int} (hk:k<m.length) (ht:t.length=m.length-1-k) (h0:0<=left (ent m) b (k+1) t):
  0<=zx m b k t-zf m b k t+1/\zx m b k t-zf m b k t+1<=1099511627776/\-1099511627776<=zf m b k t/\zf m b k t<=1099511627776/\-1099511627776<=zx m b k t/\zx m b k t<=1099511627776:=by
 have hv:=QH (hr.num hb hb1) (Qg hr hb hb1 t k hk ht h0)
 have he:=j5 (hr.num hb hb1) (Qg hr hb hb1 t k hk ht h0)
 have hS:=jn (hr.num hb hb1) (Qg hr hb hb1 t k hk ht h0)
 have hR:=QZ (hr.num hb hb1) (Qg hr hb hb1 t k hk ht h0)
 unfold zx zf;unfold zK at hv;refine ⟨hv.1,hv.2,?_⟩;omega
def Jm (m:List (List Int)) (b:Int):Nat->List Int->List (Int×Int)
 |0,_=>[]
 |k+1,t=>Zk m b k t (zF m b (k+1) t)
theorem znV {m:List (List Int)} (hr:RedOK m) {k:Nat} (hk:k<m.length) (b:Int) (t:List Int) (ht:t.length=m.length-1-k):
  Zz m b k t=((m.length:Int)-(k:Nat),zx m b k t-zf m b k t+1)::Jm m b k t:=by
 cases k with
 |zero=>rw [zdw];simp [Jm]
 |succ k=>exact zha hr hk b t ht
theorem znW {m:List (List Int)} (hr:RedOK m) (h1:m.length=1) {b:Int} (hb:0<=b):zf m b 0 []=-((zk (b / ent m 0 0).toNat:Nat):Int)/\zx m b 0 []=((zk (b / ent m 0 0).toNat:Nat):Int):=by
 have hpos:1<=ent m 0 0:=by
  have :=Zu hr.pos (k:=1) (by omega)
  have e:zo (ent m) 1=ent m 0 0:=rfl
  omega
 obtain ⟨hin,hout⟩:=zcp hpos hb
 have key:∀c:Int,(zf m b 0 []<=c/\c<=zx m b 0 [])↔ent m 0 0*c*c<=b:=fun c=>by
  have h:=Qe hr (k:=0) (by omega) (bound:=b) [] (by simp [h1]) (by have :=Qh hr hb;rw [h1] at this;exact this) c
  refine h.trans ?_
  rw [Qf (ZE hr.small) b [c] (by simp [h1])]
  have e:zp m [c]=ent m 0 0*c*c:=by
   rw [JJ (ZE hr.small) _ (by simp [h1])]
   simp [qE,QP,Zr,E,ent]
  rw [e];omega
 obtain ⟨r,hrr⟩:∃r:Nat,zk (b / ent m 0 0).toNat=r:=⟨_,rfl⟩
 rw [hrr] at hin hout |-;have a1:ent m 0 0*(r:Int)*r<=b:=by
  by_cases h0:r=0
  ·subst h0;simpa using hb
  ·exact hin r (by omega) (by omega)
 have a2:ent m 0 0*(-(r:Int))*(-(r:Int))<=b:=by
  have :ent m 0 0*(-(r:Int))*(-(r:Int))=ent m 0 0*(r:Int)*r:=by grind
  omega
 have a3:¬ent m 0 0*(-((r:Int)+1))*(-((r:Int)+1))<=b:=by
  have :ent m 0 0*(-((r:Int)+1))*(-((r:Int)+1))=ent m 0 0*((r:Int)+1)*((r:Int)+1):=by grind
  omega
 have b1:=(key r).2 a1
 have b2:=(key (-(r:Int))).2 a2
 have b3:¬(zf m b 0 []<=-((r:Int)+1)/\-((r:Int)+1)<=zx m b 0 []):=fun h=>a3 ((key (-((r:Int)+1))).1 h)
 have b4:¬(zf m b 0 []<=(r:Int)+1/\(r:Int)+1<=zx m b 0 []):=fun h=>(show ¬ent m 0 0*((r:Int)+1)*((r:Int)+1)<=b by omega) ((key ((r:Int)+1)).1 h)
 constructor<;>omega
theorem zhe {m:List (List Int)} (hr:RedOK m) {b:Int} (hb:0<=b):ZO (za m m.length) (zd m m.length) m.length b=Zz m b (m.length-1) []:=by
 have hl:=ZM hr.small
 unfold ZO;by_cases h1:m.length=1
 ·rw [if_pos h1];have e:vD (za m m.length) 1=ent m 0 0:=by rw [ZT (by omega)];rfl
  rw [e];obtain ⟨a1,a2⟩:=znW hr h1 hb;have :Zz m b (m.length-1) []=[((m.length:Int),zx m b 0 []-zf m b 0 []+1)]:=by rw [show m.length-1=0 by omega];exact zdw m b []
  rw [this,a1,a2,h1];congr 1;congr 1;omega
 ·rw [if_neg h1,zbk hr];rfl
theorem zhf {m:List (List Int)} (hr:RedOK m) {b:Int} (hb:0<=b):Zc m b=zA (Zz m b (m.length-1) []):=by
 unfold Zc;rw [zhe hr hb]
theorem zhg {m:List (List Int)} (hr:RedOK m) {b:Int} (hb:0<=b):Z6 m b=Za (List.replicate m.length 0) (Zz m b (m.length-1) []):=by
 unfold Z6 Za;rw [zhe hr hb,List.length_replicate];refine List.map_congr_left fun i hi=>?_
 have hi':i<m.length:=by simpa using hi
 simp [List.getD,hi']
end Go.Proofs.YtjehjkipcaohpaaGreat
namespace Go.Proofs.YtjehjkipcaohpaaGreat
open Go.RowKit
open La
theorem Arr.drop {w:World} {b o:Nat} {e:TypeId} {vs:List Value} (h:Arr w (some ⟨b,o,none⟩) e vs) (k:Nat):Arr w (some ⟨b,o+k,none⟩) e (vs.drop k):=fun h0=>by
 obtain ⟨b',o',cs,fr,hA,hb,hc⟩:=h (by rw [List.length_drop] at h0;omega)
 injection hA with hA
 injection hA with h1 h2
 subst h1 h2;refine ⟨_,_,cs,fr,rfl,hb,fun j u hu=>?_⟩
 rw [List.getElem?_drop] at hu;have :=hc _ _ hu;rwa [<-Nat.add_assoc] at this
theorem IntsV.drop {w:World} {b o:Nat} {zs:List Int} (h:IntsV w (some ⟨b,o,none⟩) zs) (k:Nat):IntsV w (some ⟨b,o+2*k,none⟩) (zs.drop k):=by
 obtain ⟨vs,h1,h2,h3⟩:=h
 refine ⟨vs.drop (2*k),by rw [List.length_drop,List.length_drop,h1];omega,h2.drop _,fun i z hz=>?_⟩
 rw [List.getElem?_drop] at hz;obtain ⟨g,B,n,c,a1,a2,a3⟩:=h3 _ z hz;refine ⟨g,B,n,c,?_,?_,a3⟩
 ·rw [List.getElem?_drop,show 2*k+i*2=(k+i)*2 by omega];exact a1
 ·rw [List.getElem?_drop,show 2*k+(i*2+1)=(k+i)*2+1 by omega];exact a2
def zhh (w:World) (l:List Int) (e:Ending) (w':World):Prop:=∃A c,e= .returned (.slice A l.length c)/\Ints w' A 2 .i64 l/\l.length<=c/\c<=9223372036854775807/\Step w w'
theorem zdz {w0 w:World} {A:Option Addr} {c:Nat} {t:List Int} (x:Int) (h:Ints w0 A 2 .i64 t) (h1:t.length<=1000) [hx:Ext w0 w]:
  Calls Tryz.prog 109 #[.int .i64 x,.slice A t.length c] w (zhh w (x::t)):=by
 have h0:=h.ext hx
 unfold zhh;go_enter Tryz.func109,Tryz.ntmps109;go_wp2_with (at_builtin;refine zC _ rfl _ _ 37 rfl w.heap.size 2 (.int .i64 0) 1 8 Tryz.underlying37 qF rfl (by omega) (by omega) (some ⟨w.heap.size,0,none⟩) 1 1 [.int .i64 x] rfl (Own.new w 2 1 1 #[.int .i64 x] rfl (by omega)) _ t.length c (t.map (Value.int .i64)) rfl (h0.ext Zi) (by simp) J8 (by omega) (by simp) ?_;intro A1 c1 w1 hown hg)
 go_ret
 have hxx:Ext w w1:=hg.ext Zi (Nat.le_refl _)
 have hc:=hown.cap
 refine ⟨A1,c1,?_,?_,by omega,hc.2,hxx.toStep⟩
 ·show Ending.returned (Value.slice A1 (1+t.length) c1)=_
  rw [Nat.add_comm]
 exact hown.arr
theorem znX {w0 w1 w:World} {A B:Option Addr} {c d n k:Nat} {m:List (List Int)} {x:List Int} (hM:MatV w0 A m) (hX:IntsV w1 B x) (h1:m.length=n) (h3:1<=n) (h4:n<=16) (hn:AllLen m n) (hxl:x.length=n) (hk:k<=100000000000) (hbm:∀i j,Bd k (ent m i j)) (hbx:Qy k x) [hx:Ext w0 w] [hy:Ext w1 w]:
  Calls Tryz.prog 204 #[.slice A n c,.slice B n d] w (zt w (zz n fun i=>x.getD i 0*(ZX m n x).getD i 0)):=by
 have h0:=hM.ext hx
 have hX0:=hX.ext hy
 have HAP:Hid (∀W,Ext w W->Calls Tryz.prog 161 #[.slice A n c,.slice B n d] W (zaD W (ZX m n x))):=Zh (fun W e=>by
  have :=znw (w:=W) (c:=c) (d:=d) (k:=k) h0 hX0 (by omega) (by omega) h3 h4 hn hxl (by omega) hbm hbx
  rwa [h1] at this)
 have HDT:Hid (∀(W1 W:World) (A1:Option Addr) (c1:Nat),IntsV W1 A1 (ZX m n x)->Ext W1 W->Ext w W->Calls Tryz.prog 163 #[.slice B n d,.slice A1 n c1] W (zt W (zz n fun i=>x.getD i 0*(ZX m n x).getD i 0))):=Zh (fun W1 W A1 c1 i1 e1 e2=>
  zbm hX0 i1 hxl (by rw [zdq];exact h1) h4 (k:=2*k+n) (by omega) (fun i=>(hbx i).mono (by omega)) (zg5 h4 hbm hbx))
 have HAL:Hid ((ZX m n x).length=n):=Zh (by rw [zdq];exact h1)
 clear hbm hbx hn hxl h1 hM hX h0 hX0;generalize (zz n fun i=>x.getD i 0*(ZX m n x).getD i 0)=z at*
 generalize ZX m n x=ay at*;go_enter Tryz.func204,Tryz.ntmps204;go_wp2_with (first
  |(go_at_call 161;refine (HAP.out _ Zi).mono ?_;rintro e w5 ⟨A5,c5,rfl,hI5,-,-,hs5⟩;have HI5:=Zh hI5;clear hI5;rw [HAL.out])
  |(go_at_call 163;refine (HDT.out _ _ _ _ HI5.out Zi Zi).mono ?_;rintro e w7 ⟨g7,B7,k7,d7,rfl,hz7,hs7⟩;have hb7:=(Zi:BlkAt w.heap.size #[.bool false,.slice none 0 0] 148 w7).eq;obtain ⟨t1,t2,t3,t4,t5⟩:=zD hb7;have tq:Typed w.heap.size 148 w7:=⟨_,_,hb7⟩;clear hb7))
 exact bodyPost_ret (v:= .agg #[.bool g7,.slice B7 k7 d7]) (by simp [results,Tryz.results204,go_sem,t1,t2]) rfl ⟨_,_,_,_,rfl,hz7.keeps,Step.of _ _⟩
def FrV (w:World) (m:List (List Int)) (SB DB:Option Addr):Prop:=StV w SB ((List.range m.length).map (ZN m))/\IntsV w DB (1::zl m)
theorem FrV.ext {w w':World} {m:List (List Int)} {SB DB:Option Addr} (h:FrV w m SB DB) (hx:Ext w w'):FrV w' m SB DB:=⟨h.1.ext hx,h.2.ext hx⟩
def zbE (w:World) (m:List (List Int)) (n:Nat) (e:Ending) (w':World):Prop:=∃SB sc DB dc,e= .returned (.agg #[.int .i64 n,.slice SB n sc,.slice DB (n+1) dc])/\FrV w' m SB DB/\n<=sc/\sc<=9223372036854775807/\n+1<=dc/\dc<=9223372036854775807/\Step w w'
theorem Qk {w:World} {b:Nat} {x0 x1 x2:Value} {T:TypeId} (h:w.heap[b]? =some (.cells #[x0,x1,x2] T (0,0))):(w.cell? ⟨b,0,none⟩=some x0/\w.cell? ⟨b,1,none⟩=some x1/\w.cell? ⟨b,2,none⟩=some x2)/\(w.frozen? ⟨b,0,none⟩=false/\w.frozen? ⟨b,1,none⟩=false/\w.frozen? ⟨b,2,none⟩=false)/\b<w.heap.size:=
 ⟨⟨by simp [World.cell?,h],by simp [World.cell?,h],by simp [World.cell?,h]⟩,⟨by simp [World.frozen?,h],by simp [World.frozen?,h],by simp [World.frozen?,h]⟩,zw h⟩
theorem FrV.oth {w w':World} {m:List (List Int)} {SB DB:Option Addr} {T:TypeId} (h:FrV w m SB DB) (ho:Oth T w w') (h3:79≠T) (h0:87≠T) (h1:148≠T) (h2:244≠T):FrV w' m SB DB:=⟨h.1.oth ho h3 h0 h1 h2,h.2.oth ho h1 h2⟩
theorem Oth.set3 {w:World} {T:TypeId} {b:Nat} {cs:Array Value} (hp:w.heap[b]? =some (.cells cs T (0,0))) (i j k:Nat) (u v x:Value):Oth T w (((w.setCell ⟨b,i,none⟩ u).setCell ⟨b,j,none⟩ v).setCell ⟨b,k,none⟩ x):=
 (Oth.set2 hp i j u v).trans (Oth.set (p:=⟨b,k,none⟩) (Zd (Zd hp _) _) _)
theorem znY {w:World} {vs:List Value} {zs:List Int} (hl:vs.length=zs.length*2) (h:∀(i:Nat) (z:Int),zs[i]? =some z->∃g B n c,vs[i*2]? =some (.bool g)/\vs[i*2+1]? =some (.slice B n c)/\IntV w g B n c z):∀u∈vs,u.oneCell'=true:=fun u hu=>by
 obtain ⟨j,hj⟩:=List.getElem?_of_mem hu
 have hjl:=(List.getElem?_eq_some_iff.1 hj).1
 have hi:j / 2<zs.length:=by omega
 obtain ⟨g,B,n,c,a1,a2,-⟩:=h (j / 2) zs[j / 2] (List.getElem?_eq_getElem hi)
 rcases Nat.mod_two_eq_zero_or_one j with e |e
 ·rw [show j / 2*2=j by omega,hj] at a1
  injection a1 with a1
  rw [a1];rfl
 ·rw [show j / 2*2+1=j by omega,hj] at a2
  injection a2 with a2
  rw [a2];rfl
theorem zdA {w0 w:World} {A:Option Addr} {c n:Nat} {m:List (List Int)} (h:Mat64 w0 A m) (hL:LLLed m) (h1:m.length=n) [hx:Ext w0 w]:
  Calls Tryz.prog 62 #[.slice A n c] w (zbE w m n):=by
 have h8:=hL.len8
 have h3:=hL.len1
 have HOF:Hid (∀W,Ext w0 W->Calls Tryz.prog 57 #[.slice A n c] W (jm W m)):=Zh (fun W e=>by
  have :=(zc9 (w:=W) (c:=c) h m.length h3 (by omega) h3 (by omega) hL.all hL.fits).mono fun _ _ h=>h.mat
  rwa [h1] at this)
 have hall:AllLen m n:=by rw [<-h1];exact hL.all
 have hpos:Pos (zb (ent m)) n:=by rw [<-h1];exact hL.pos
 have HST:Hid (∀(W1 W:World) (A1:Option Addr) (c1:Nat),MatV W1 A1 m->Ext W1 W->Calls Tryz.prog 105 #[.slice A1 n c1] W (zbB W m)):=Zh (fun W1 W A1 c1 hM e=>znI hM h1 (by omega) (by omega) hall hL.bd (by omega) (by omega) hpos)
 have HLE:Hid (∀(W1 W:World) (A1:Option Addr) (c1:Nat),MatV W1 A1 m->Ext W1 W->Calls Tryz.prog 106 #[.slice A1 n c1] W (zaD W (zl m))):=Zh (fun W1 W A1 c1 hM e=>zaE hM h1 (by omega) (by omega) hall hL.bd (by omega) (by omega))
 have HLL:Hid ((zl m).length=n):=Zh (by rw [Qj];exact h1)
 have HSM:=Zh (fun W=>qu 1 (by omega) (by omega) W)
 unfold jm at HOF;unfold zbB at HST
 rw [h1] at HOF HST h3 h8;have H1:=Zh h1;clear h1 hall hpos hL h;go_enter Tryz.func62,Tryz.ntmps62;go_wp2_with (first
  |(go_at_call 57;refine (HOF.out _ Zi).mono ?_;rintro e w3 ⟨A3,c3,rfl,hM3,-,-,hs3⟩;have HM3:=Zh hM3;clear hM3)
  |(go_at_call 105;refine (HST.out _ _ _ _ HM3.out Zi).mono ?_;rintro e w4 ⟨SB,sc,rfl,hS4,hsc1,hsc2,hs4⟩;have HS4:=Zh hS4;clear hS4)
  |(go_at_call 106;refine (HLE.out _ _ _ _ HM3.out Zi).mono ?_;rintro e w5 ⟨B5,d5,rfl,hI5,hd1,hd2,hs5⟩;have HI5:=Zh hI5;clear hI5;rw [HLL.out] at hd1 |-)
  |(go_at_call 107;refine (HSM.out _).mono ?_;rintro e w6 ⟨g6,B6,k6,e6,rfl,hz6,hs6⟩;have HZ6:=Zh hz6;clear hz6)
  |(at_builtin;obtain ⟨vs,v1,v2,v3⟩:=HI5.out;have HV1:=Zh v1;have HV3:=Zh v3;have hv1:vs.length=n*2:=(by rw [v1,HLL.out]);go_loud (refine zC _ rfl _ _ 87 rfl w6.heap.size 148 (.agg #[.bool false,.slice none 0 0]) 2 32 Tryz.underlying87 QF rfl (by omega) (by omega) (some ⟨w6.heap.size,0,none⟩) 1 1 [.bool g6,.slice B6 k6 e6] rfl (Own.new w6 148 2 1 #[.bool g6,.slice B6 k6 e6] rfl (by omega)) _ n d5 vs rfl (v2.ext Zi) hv1 (znY v1 v3) (by omega) (by simp) ?_);intro A7 c7 w7 hown hg;have HO7:=Zh hown;have hbk:w7.heap[w.heap.size]? =some (.cells #[.int .i64 0,.slice none 0 0,.slice none 0 0] 89 (0,0)):=hg.heap (zc (Zi:Ext (w.alloc (.cells #[.int .i64 0,.slice none 0 0,.slice none 0 0] 89)) (w6.alloc (.cells #[.bool g6,.slice B6 k6 e6] 148))) (heap_alloc_new w _)) (by decide);have HG7:=Zh hg;have HBK:=Zh hbk;obtain ⟨⟨a0,a1,a2⟩,⟨f0,f1,f2⟩,a4⟩:=Qk hbk;have tq:Typed w.heap.size 89 w7:=⟨_,_,hbk⟩;clear hbk hg hown v1 v2 v3 hv1))
 have hx7:Ext w w7:=HG7.out.ext Zi (by have :=(Zi:Ext w w6).size;omega)
 have hxl:Ext w6 (w6.alloc (.cells #[.bool g6,.slice B6 k6 e6] 148)):=Zi
 have hI7:IntsV w7 A7 (1::zl m):=by
  refine ⟨[.bool g6,.slice B6 k6 e6]++vs,by simp [HV1.out];omega,HO7.out.arr,fun i z hz=>?_⟩
  cases i with
  |zero=>
   simp only [List.getElem?_cons_zero] at hz;injection hz with hz
   subst hz;exact ⟨g6,B6,k6,e6,rfl,rfl,(HZ6.out.ext hxl).grow HG7.out (by decide)⟩
  |succ i=>
   simp only [List.getElem?_cons_succ] at hz;obtain ⟨g,B,nn,c,b1,b2,b3⟩:=HV3.out i z hz;refine ⟨g,B,nn,c,?_,?_,((b3.ext (Zi:Ext w5 w6)).ext hxl).grow HG7.out (by decide)⟩
   ·rw [show (i+1)*2=i*2+2 by omega];exact b1
   ·rw [show (i+1)*2+1=i*2+1+2 by omega];exact b2
 have hS7:StV w7 SB ((List.range m.length).map (ZN m)):=by
  rw [H1.out];exact (HS4.out.ext (Zi:Ext w4 w6)).ext (HG7.out.ext hxl (Nat.le_refl _))
 have hc7:=HO7.out.cap
 refine bodyPost_ret (v:= .agg #[.int .i64 n,.slice SB n sc,.slice A7 (1+n) c7]) (by simp [results,Tryz.results62,go_sem,a0,a1,a2]) rfl ⟨SB,sc,A7,c7,by rw [Nat.add_comm],?_,hsc1,hsc2,by omega,hc7.2,Step.of _ _⟩
 exact FrV.oth ⟨hS7,hI7⟩ (Oth.set3 HBK.out 0 1 2 _ _ _) (by decide) (by decide) (by decide) (by decide)
end Go.Proofs.YtjehjkipcaohpaaGreat
