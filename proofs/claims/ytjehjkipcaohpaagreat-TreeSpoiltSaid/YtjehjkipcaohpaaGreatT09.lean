/- Srch2a R9 Coll Enum Fix Awk11 Post -/
import Derived.Test.YtjehjkipcaohpaaGreatT08
import Derived.ProofKit
import Derived.OpenShut
set_option maxHeartbeats 8000000
set_option linter.unusedVariables false
set_option linter.unusedSimpArgs false
set_option linter.constructorNameAsVariable false
namespace Go.Proofs.YtjehjkipcaohpaaGreat
section
open Go.RowKit
theorem zky {w:World} {b:Nat} {x u:Value} {T:TypeId} (h:w.heap[b]? =some (.cells #[x] T (0,0))):(w.setCell ⟨b,0,none⟩ u).heap[b]? =some (.cells #[u] T (0,0)):=by
 rw [Zo h];rfl
def jA (w:World) (v:Value) (e:Ending) (w':World):Prop:=e= .returned v/\∃n,w'=w.drewN n
theorem zbn {w0 w:World} {X Y:Option Addr} {c d:Nat} {x y:List Int} (hX:Ints w0 X 2 .i64 x) (hY:Ints w0 Y 2 .i64 y) (hx1:x.length<=1099511627776) (hy1:y.length<=1099511627776) [hx:Ext w0 w]:
  Calls Tryz.prog 31 #[.slice X x.length c,.slice Y y.length d] w (jA w (.int .i64 (zw x y))):=by
 go_enter Tryz.func31,Tryz.ntmps31;go_wp2;go_loopw [5] (fun i wr=>∃k:Nat,k<=x.length/\k<=y.length/\i= .int .i64 k/\Hid (zw x y=zw (x.drop k) (y.drop k))/\Hid (∃n,wr=w.drewN n)) (fun i _=>x.length-(intOf i).toNat)
 case atStart=>exact ⟨0,by omega,by omega,rfl,Zh rfl,Zh ⟨0,rfl⟩⟩
 case round=>
  obtain ⟨k,hk1,hk2,rfl,HE,HN⟩:=hrel;have hxn:Ext w0 wr:=by obtain ⟨n,hn⟩:=HN.out;rw [hn];infer_instance
  by_cases hlt:k<x.length
  ·obtain ⟨b1,o1,a,rfl,ha,g1,g2⟩:=(hX.ext hxn).at_ hlt;by_cases zqL:k<y.length
   ·obtain ⟨b2,o2,b,rfl,hb,g3,g4⟩:=(hY.ext hxn).at_ zqL;have ea:x.drop k=a::x.drop (k+1):=by rw [List.drop_eq_getElem_cons hlt,(Zg.1 ha).2]
    have eb:y.drop k=b::y.drop (k+1):=by rw [List.drop_eq_getElem_cons zqL,(Zg.1 hb).2]
    have HE2:Hid (zw x y=if zk a b=0 then zw (x.drop (k+1)) (y.drop (k+1)) else zk a b):=Zh (by rw [HE.out,ea,eb,zw]);clear ha hb ea eb;by_cases hab:a<b
    ·have h1:(a !=b)=true:=by simp;omega
     have h2:decide (a<b)=true:=by simpa using hab
     have HV:Hid (zw x y=-1):=Zh (by rw [HE2.out,qk hab];rfl);clear hab;go_wp2;go_quiet (fail)
     go_wp2;go_quiet (fail)
     go_wp2;go_ret;exact ⟨by rw [HV.out];rfl,by obtain ⟨n,hn⟩:=HN.out;exact ⟨_,by rw [hn,World.drewN_drewN,World.drewN_drewN]⟩⟩
    ·by_cases hba:b<a
     ·have h1:(a !=b)=true:=by simp;omega
      have h2:decide (a<b)=false:=by simpa using hab
      have HV:Hid (zw x y=1):=Zh (by rw [HE2.out,qO hba];rfl);clear hab hba;go_wp2;go_quiet (fail)
      go_wp2;go_quiet (fail)
      go_wp2;go_ret;exact ⟨by rw [HV.out];rfl,by obtain ⟨n,hn⟩:=HN.out;exact ⟨_,by rw [hn,World.drewN_drewN,World.drewN_drewN]⟩⟩
     ·have zsp:a=b:=by omega
      have h1:(a !=b)=false:=by simp [zsp]
      have HV:Hid (zw x y=zw (x.drop (k+1)) (y.drop (k+1))):=Zh (by rw [HE2.out,Qc zsp];rfl);clear hab hba zsp;go_wp2;go_quiet (fail)
      go_wp2;exact ⟨⟨k+1,by omega,by omega,by go_num,HV,Zh (by obtain ⟨n,hn⟩:=HN.out;exact ⟨_,by rw [hn,World.drewN_drewN]⟩)⟩,by simp [intOf];omega⟩
   ·have HV:Hid (zw x y=1):=Zh (by
     rw [HE.out,List.drop_eq_getElem_cons hlt,show y.drop k=[] from List.drop_eq_nil_iff.2 (by omega)];rfl)
    clear ha;go_wp2;go_ret;exact ⟨by rw [HV.out];rfl,HN.out⟩
  ·by_cases zqL:k<y.length
   ·have HV:Hid (zw x y=-1):=Zh (by
     rw [HE.out,show x.drop k=[] from List.drop_eq_nil_iff.2 (by omega),List.drop_eq_getElem_cons zqL];rfl)
    go_wp2;go_ret;exact ⟨by rw [HV.out];rfl,HN.out⟩
   ·have HV:Hid (zw x y=0):=Zh (by
     rw [HE.out,show x.drop k=[] from List.drop_eq_nil_iff.2 (by omega),show y.drop k=[] from List.drop_eq_nil_iff.2 (by omega)];rfl)
    go_wp2;go_ret;exact ⟨by rw [HV.out];rfl,HN.out⟩
theorem zfn {w0 w:World} {A B:Option Addr} {c d:Nat} {a b:List (List Int)} (hA:Mat64 w0 A a) (hB:Mat64 w0 B b) (ha1:a.length<=1099511627776) (hb1:b.length<=1099511627776) (ha2:∀r∈a,r.length<=1099511627776) (hb2:∀r∈b,r.length<=1099511627776) [hx:Ext w0 w]:
  Calls Tryz.prog 25 #[.slice A a.length c,.slice B b.length d] w (jA w (.bool (decide (a=b)))):=by
 by_cases hl:a.length=b.length
 ·rw [<-hl];have hlb:((a.length:Int) !=(a.length:Int))=false:=by simp
  have HL:=Zh hl;have HA2:=Zh ha2;have HB2:=Zh hb2;clear hl ha2 hb2 hb1;obtain ⟨q,hq⟩:∃q,q=a.length:=⟨_,rfl⟩;rw [<-hq] at hlb ha1 |-
  have HQ:=Zh hq;clear hq;go_enter Tryz.func25,Tryz.ntmps25;go_wp2;go_loopw [5,13] (fun _ i wr=>∃k:Nat,k<=q/\i= .int .i64 k/\Hid (a.take k=b.take k)/\Hid (∃n,wr=w.drewN n)) (fun _ i _=>q-(intOf i).toNat)
  case atStart=>exact ⟨0,by omega,rfl,Zh rfl,Zh ⟨0,rfl⟩⟩
  case round=>
   obtain ⟨k,hk,rfl,HE,HN⟩:=hrel;have hxn:Ext w0 wr:=by obtain ⟨n,hn⟩:=HN.out;rw [hn];infer_instance
   by_cases hlt:k<q
   ·have hka:k<a.length:=by have :=HQ.out;omega
    have hkb:k<b.length:=by have :=HQ.out;have :=HL.out;omega
    obtain ⟨b1,o1,X,c1,rfl,e1,f1,f2,f3,f4⟩:=(hA.ext hxn).at_ (i:=k) (r:=a[k]) (by simp [hka]);obtain ⟨b2,o2,Y,c2,rfl,e2,g1,g2,g3,g4⟩:=(hB.ext hxn).at_ (i:=k) (r:=b[k]) (by simp [hkb]);obtain ⟨x,hxx⟩:∃x,x=a[k]:=⟨_,rfl⟩;obtain ⟨y,hyy⟩:∃y,y=b[k]:=⟨_,rfl⟩;have hxl:=HA2.out a[k] (List.getElem_mem hka);have hyl:=HB2.out b[k] (List.getElem_mem hkb);rw [<-hxx] at e1 f1 f2 hxl;rw [<-hyy] at e2 g1 g2 hyl;have HX:Hid (a[k]? =some x):=Zh (by rw [hxx];simp [hka])
    have HY:Hid (b[k]? =some y):=Zh (by rw [hyy];simp [hkb]);have hc:=fun n=>zbn (w0:=wr) (w:=wr.drewN n) (c:=c1) (d:=c2) f1 g1 hxl hyl
    have HC:=Zh hc;clear hxx hyy hc f1 g1;by_cases hxy:x=y
    ·subst hxy;have HT:Hid (a.take (k+1)=b.take (k+1)):=Zh (by rw [List.take_add_one,List.take_add_one,HE.out,HX.out,HY.out]);rw [zbl] at HC;go_wp2;go_quiet ((go_at_call 31;exact Calls.quiet_of (HC.out _)))
     go_wp2;exact ⟨⟨k+1,by omega,by go_num,HT,Zh (by obtain ⟨n,hn⟩:=HN.out;exact ⟨_,by rw [hn,World.drewN_drewN]⟩)⟩,by simp [intOf];omega⟩
    ·obtain ⟨v,hv⟩:∃v,v=zw x y:=⟨_,rfl⟩;rw [<-hv] at HC;have hv0:(v !=0)=true:=by simp;intro h;exact hxy (Jm _ _ (hv▸h))
     have HV:Hid (decide (a=b)=false):=Zh (by simp;intro h;apply hxy;have h1:=HX.out;rw [h,HY.out] at h1;injection h1 with h1;exact h1.symm);clear hv hxy;go_wp2;go_quiet ((go_at_call 31;exact Calls.quiet_of (HC.out _)))
     go_wp2;go_ret;exact ⟨by rw [HV.out];rfl,by obtain ⟨n,hn⟩:=HN.out;exact ⟨_,by rw [hn,World.drewN_drewN]⟩⟩
   ·have HV:Hid (decide (a=b)=true):=Zh (by
     have h1:a.take k=a:=List.take_of_length_le (by have :=HQ.out;omega);have h2:b.take k=b:=List.take_of_length_le (by have :=HQ.out;have :=HL.out;omega);have :=HE.out;rw [h1,h2] at this;simp [this])
    go_wp2;go_ret;exact ⟨by rw [HV.out];rfl,HN.out⟩
 ·have hlb:((a.length:Int) !=(b.length:Int))=true:=by simp;omega
  have HV:Hid (decide (a=b)=false):=Zh (by simp;intro h;exact hl (by rw [h]));clear hl;go_enter Tryz.func25,Tryz.ntmps25;go_wp2;go_ret;exact ⟨by rw [HV.out];rfl,0,rfl⟩
def qv (m:List (List Int)) (za:Int) (exact:Bool):List (List Int):=
 if m.length=1 then Jn (ent m 0 0) za exact (zo (za / ent m 0 0).toNat)
 else Qh (ze m m.length) (zh m m.length) exact (m.length-1) (vD (ze m m.length) m.length*za) true []
theorem zcL {h za:Int} (h1:1<=h) (hb:0<=za):(∀x:Int,1<=x->x<=(zo (za / h).toNat:Nat)->h*x*x<=za)/\za<h*((zo (za / h).toNat:Nat)+1:Int)*((zo (za / h).toNat:Nat)+1):=by
 obtain ⟨s1,s2⟩:=qS (za / h).toNat;obtain ⟨r,hr⟩:∃r,r=zo (za / h).toNat:=⟨_,rfl⟩;rw [<-hr] at s1 s2 |-
 have q0:=Int.ediv_nonneg hb (show 0<=h by omega);have e1:=Int.mul_ediv_add_emod za h;have e2:=Int.emod_nonneg za (show h≠0 by omega);have e3:=Int.emod_lt_of_pos za (show 0<h by omega);have s1':(r:Int)*r<=za / h:=by
  have :((r*r:Nat):Int)<=za / h:=by omega
  simpa using this
 have s2':za / h+1<=((r:Int)+1)*(r+1):=by
  have :za / h+1<=(((r+1)*(r+1):Nat):Int):=by omega
  simpa using this
 refine ⟨fun x h1x hxr=>?_,?_⟩
 ·have a1:x*x<=(r:Int)*r:=Int.mul_le_mul hxr hxr (by omega) (by omega);have a2:h*(x*x)<=h*(za / h):=Int.mul_le_mul_of_nonneg_left (by omega) (by omega);rw [Int.mul_assoc];omega
 ·have a2:h*(za / h+1)<=h*(((r:Int)+1)*(r+1)):=Int.mul_le_mul_of_nonneg_left s2' (by omega);rw [Int.mul_add,Int.mul_one] at a2;rw [Int.mul_assoc];omega
theorem XRow.drew {w:World} {sz n k:Nat} {tail:List Int} (h:XRow w sz n k tail):XRow w.drew sz n k tail:=h
def JQ (st:List Int):Int:=st.getD (st.length-1) 0
def zkz (w:World) (m ls:List (List Int)) (e:Ending) (w':World):Prop:=∃A c L,e= .returned (.tuple #[.slice A (List.length L) c,.int .i64 0])/\Mat64 w' A L/\L.length<=c/\c<=9223372036854775807/\L.Perm (ls.map zJ)/\L.Pairwise (fun x y=>qu (zu m x) (zu m y) x y<0)/\Step w w'
theorem zkA (l:List Int) (k:Nat) (x:Int) (h:l[k]? =some x):(l.take (k+1)).sum=(l.take k).sum+x:=by
 rw [List.take_add_one,h];simp
def m1:List (List Int):=[[1]]
def m2:List (List Int):=[[2,1],[1,2]]
theorem zfo:ze m2 2=[1,2,3]:=by decide
theorem zfp:zh m2 2=[[1],[]]:=by decide
theorem zfq:AllLen m2 m2.length:=by unfold AllLen;decide
theorem zkB:RedM m2:=⟨by decide,zfq,by unfold zct;decide,by decide⟩
theorem zkC (za:Int) (h0:0<=za) (h1:za<1073741824):NumOK (ze m2 2) (zh m2 2) 2 za:=by
 rw [zfo,zfp];exact ⟨by decide,rfl,rfl,by decide,by decide,by decide,by decide,h0,h1⟩
theorem lt2 {k:Nat} (h:k<2):k=0∨k=1:=by omega
theorem zkD:ElimOK m2:=by
 refine ⟨fun i j hi hj=>?_,fun k hk=>?_,fun k i j hi hj=>?_⟩
 ·rcases lt2 hi with rfl |rfl<;>rcases lt2 hj with rfl |rfl<;>decide
 ·have hk:k+1<2:=hk;obtain rfl:k=0:=by omega
  decide
 ·have hi:i+1<2-k:=hi;have hj:j+1<2-k:=hj;obtain rfl:k=0:=by omega
  obtain rfl:i=0:=by omega
  obtain rfl:j=0:=by omega
  unfold zcr;decide
theorem zkE:zbh m2:=by
 intro k hk j hj;have hj:j<2-k:=hj;rcases lt2 hk with rfl |rfl
 ·rcases lt2 hj with rfl |rfl<;>decide
 ·obtain rfl:j=0:=by omega
  decide
theorem zfr:FormOK m2:=⟨by decide,zfq,by unfold qr;decide,zkD,zkE,zkC⟩
theorem zfs:Jo m2:=by
 intro k hk;rcases lt2 hk with rfl |rfl<;>(unfold qr;decide)
theorem zkF:qn m2 2 100=([3,7],0):=by decide
theorem zkG {m L T ls:List (List Int)} (hp:L.Perm (ls.map zJ)) (hw:L.Pairwise (fun x y=>qu (zu m x) (zu m y) x y<0)) (hT:T.Pairwise (fun x y=>qu (zu m x) (zu m y) x y<0)) (hpT:T.Perm (ls.map zJ)) (anti:∀a∈T,∀b∈T,qu (zu m a) (zu m b) a b<0->qu (zu m b) (zu m a) b a<0->a=b):L=T:=by
 have hq:=hp.trans hpT.symm;exact List.Perm.eq_of_pairwise (fun a b ha hb=>anti a (hq.mem_iff.1 ha) b hb) hw hT hq
theorem zkH (w:World) (a b c d:Int):Mat64 (((w.alloc (.cells #[.int .i64 a,.int .i64 b] 2)).alloc (.cells #[.int .i64 c,.int .i64 d] 2)).alloc (.cells #[.slice (some ⟨w.heap.size,0,none⟩) 2 2,.slice (some ⟨w.heap.size+1,0,none⟩) 2 2] 37)) (some ⟨w.heap.size+1+1,0,none⟩) [[a,b],[c,d]]:=by
 have h1:Ints (w.alloc (.cells #[.int .i64 a,.int .i64 b] 2)) (some ⟨w.heap.size,0,none⟩) 2 .i64 [a,b]:=Arr.new w 2 #[.int .i64 a,.int .i64 b];have h2:Ints ((w.alloc (.cells #[.int .i64 a,.int .i64 b] 2)).alloc (.cells #[.int .i64 c,.int .i64 d] 2)) (some ⟨w.heap.size+1,0,none⟩) 2 .i64 [c,d]:=by
  have :=Arr.new (w.alloc (.cells #[.int .i64 a,.int .i64 b] 2)) 2 #[.int .i64 c,.int .i64 d];rwa [World.size_alloc] at this
 have h3:=Arr.new ((w.alloc (.cells #[.int .i64 a,.int .i64 b] 2)).alloc (.cells #[.int .i64 c,.int .i64 d] 2)) 37 #[.slice (some ⟨w.heap.size,0,none⟩) 2 2,.slice (some ⟨w.heap.size+1,0,none⟩) 2 2];rw [World.size_alloc,World.size_alloc] at h3;refine ⟨_,rfl,h3,fun i r hr=>?_⟩;match i with
 |0=>obtain rfl:[a,b]=r:=by simpa using hr
     exact ⟨_,2,rfl,h1.ext Zi,by simp,by omega⟩
 |1=>obtain rfl:[c,d]=r:=by simpa using hr
     exact ⟨_,2,rfl,h2.ext Zi,by simp,by omega⟩
 |i+2=>simp at hr
theorem zkI (w:World) (a b c d e f:Int):Mat64 ((((w.alloc (.cells #[.int .i64 a,.int .i64 b] 2)).alloc (.cells #[.int .i64 c,.int .i64 d] 2)).alloc (.cells #[.int .i64 e,.int .i64 f] 2)).alloc (.cells #[.slice (some ⟨w.heap.size,0,none⟩) 2 2,.slice (some ⟨w.heap.size+1,0,none⟩) 2 2,.slice (some ⟨w.heap.size+1+1,0,none⟩) 2 2] 37)) (some ⟨w.heap.size+1+1+1,0,none⟩) [[a,b],[c,d],[e,f]]:=by
 have h1:Ints (w.alloc (.cells #[.int .i64 a,.int .i64 b] 2)) (some ⟨w.heap.size,0,none⟩) 2 .i64 [a,b]:=Arr.new w 2 #[.int .i64 a,.int .i64 b];have h2:Ints ((w.alloc (.cells #[.int .i64 a,.int .i64 b] 2)).alloc (.cells #[.int .i64 c,.int .i64 d] 2)) (some ⟨w.heap.size+1,0,none⟩) 2 .i64 [c,d]:=by
  have :=Arr.new (w.alloc (.cells #[.int .i64 a,.int .i64 b] 2)) 2 #[.int .i64 c,.int .i64 d];rwa [World.size_alloc] at this
 have h3:Ints (((w.alloc (.cells #[.int .i64 a,.int .i64 b] 2)).alloc (.cells #[.int .i64 c,.int .i64 d] 2)).alloc (.cells #[.int .i64 e,.int .i64 f] 2)) (some ⟨w.heap.size+1+1,0,none⟩) 2 .i64 [e,f]:=by
  have :=Arr.new ((w.alloc (.cells #[.int .i64 a,.int .i64 b] 2)).alloc (.cells #[.int .i64 c,.int .i64 d] 2)) 2 #[.int .i64 e,.int .i64 f];rwa [World.size_alloc,World.size_alloc] at this
 have h4:=Arr.new (((w.alloc (.cells #[.int .i64 a,.int .i64 b] 2)).alloc (.cells #[.int .i64 c,.int .i64 d] 2)).alloc (.cells #[.int .i64 e,.int .i64 f] 2)) 37 #[.slice (some ⟨w.heap.size,0,none⟩) 2 2,.slice (some ⟨w.heap.size+1,0,none⟩) 2 2,.slice (some ⟨w.heap.size+1+1,0,none⟩) 2 2];rw [World.size_alloc,World.size_alloc,World.size_alloc] at h4;refine ⟨_,rfl,h4,fun i r hr=>?_⟩;match i with
 |0=>obtain rfl:[a,b]=r:=by simpa using hr
     exact ⟨_,2,rfl,h1.ext Zi,by simp,by omega⟩
 |1=>obtain rfl:[c,d]=r:=by simpa using hr
     exact ⟨_,2,rfl,h2.ext Zi,by simp,by omega⟩
 |2=>obtain rfl:[e,f]=r:=by simpa using hr
     exact ⟨_,2,rfl,h3.ext Zi,by simp,by omega⟩
 |i+3=>simp at hr
def zaE:List (List Int):=[[0,1],[1,-1],[1,0]]
end
section
open Go.ChangeShapes Go.WideShapes Go.ChangeAt Go.RowKit
theorem zkJ {H:Type} {enc:TypeId×Value->H} {P:Program} {f:Func} {s:ChangeSpec} {ap fr ho ag:Bool} {W W':World} {args:Array Value} {v:Value} {ds gs:List (DataW H)} {before:List MemPlace}
  (hW:DataW.Whole enc P f.params.toList s.vars ap W args.toList ds gs before)
  (hr:∀(b:Nat) (sp:Nat->Bool) (hd:Bool),DataW.TrodAll enc P W' b sp hd f.resultTypes.toList (v.resultList f.resultTypes.size) (s.fn H (ds++gs)).results [])
  (ha:∀sp:Nat->Bool,(∀p∈before,sp p.block=true)->DataW.TrodAll enc P W' 0 sp true f.params.toList args.toList (s.fn H (ds++gs)).args before)
  (hv:∀sp:Nat->Bool,DataW.TrodVars enc P W' sp s.vars (s.fn H (ds++gs)).vars [])
  (hb:Below W.heap.size W W')
  (hok:∀(j:Nat) (t:TypeId) (r:Value),f.resultTypes[j]? =some t->(v.resultList f.resultTypes.size)[j]? =some r->Value.okWide P W' .any 0 t r):
  s.post enc P f ap fr ho ag W args v W':=by
 have old:∀p∈before,p.block<W.heap.size:=fun p hp=>hW.lt p hp
 have kept:W.keptBut W' fun p=>p∈before/\(p∈([]:List MemPlace)∨p∈before++[]):=World.keptBut_mono (fun p hp=>⟨hp,.inr (by simpa using hp)⟩) (hb.frame (·∈before))
 refine ⟨ds,gs,before,[],before,[],hW,hr _ _ _,ha _ (fun p hp=>by simpa using old p hp),hv _,?_,fun _=>⟨hok,?_⟩⟩
 ·refine World.keptBut_mono (fun p hp=>?_) kept;exact ⟨hp.1,by simpa using hp.1⟩
 ·obtain ⟨_,_,_,_,_,hz,hn⟩:=hW;have zqe:=trodAll_append (ha (fun _=>true) (fun _ _=>rfl)) (hr 0 (fun _=>true) true);rw [List.nil_append] at zqe;refine ⟨_,_,before++[],⟨before,[],zqe,hv _,rfl,fun b off hp=>?_,fun h=>by simpa using hn h⟩,fun p hp _=>by simpa using hp⟩;have hin:MemPlace.cell b off∈before:=by simpa using hp
  rw [hb.frozen (old _ hin)];exact hz b off hin
end
end Go.Proofs.YtjehjkipcaohpaaGreat
