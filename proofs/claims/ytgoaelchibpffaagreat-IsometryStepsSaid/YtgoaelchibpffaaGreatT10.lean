import Derived.Test.YtgoaelchibpffaaGreatT09
import Derived.ProofKit
import Derived.OpenShut
set_option maxHeartbeats 8000000
set_option linter.unusedVariables false
set_option linter.unusedSimpArgs false
namespace Go.Proofs.YtgoaelchibpffaaGreat
variable {q:Int} {g m t:List (List Int)} {i j k n p x y:Nat} {F:Nat->Int}
section
open Go.RowKit
theorem zrc(w:World)(a b c d e f:Int):Mat64 ((((w.alloc (.cells #[.int .i64 a,.int .i64 b] 2)).alloc (.cells #[.int .i64 c,.int .i64 d] 2)).alloc (.cells #[.int .i64 e,.int .i64 f] 2)).alloc (.cells #[.slice (some ⟨w.heap.size,0,none⟩) 2 2,.slice (some ⟨w.heap.size+1,0,none⟩) 2 2,.slice (some ⟨w.heap.size+1+1,0,none⟩) 2 2] 34)) (some ⟨w.heap.size+1+1+1,0,none⟩) [[a,b],[c,d],[e,f]]:=by
 have h1:Ints (w.alloc (.cells #[.int .i64 a,.int .i64 b] 2)) (some ⟨w.heap.size,0,none⟩) 2 .i64 [a,b]:=Arr.new w 2 #[.int .i64 a,.int .i64 b];have h2:Ints ((w.alloc (.cells #[.int .i64 a,.int .i64 b] 2)).alloc (.cells #[.int .i64 c,.int .i64 d] 2)) (some ⟨w.heap.size+1,0,none⟩) 2 .i64 [c,d]:=by
  have:=Arr.new (w.alloc (.cells #[.int .i64 a,.int .i64 b] 2)) 2 #[.int .i64 c,.int .i64 d];rwa [World.size_alloc]at this
 have h3:Ints (((w.alloc (.cells #[.int .i64 a,.int .i64 b] 2)).alloc (.cells #[.int .i64 c,.int .i64 d] 2)).alloc (.cells #[.int .i64 e,.int .i64 f] 2)) (some ⟨w.heap.size+1+1,0,none⟩) 2 .i64 [e,f]:=by
  have:=Arr.new ((w.alloc (.cells #[.int .i64 a,.int .i64 b] 2)).alloc (.cells #[.int .i64 c,.int .i64 d] 2)) 2 #[.int .i64 e,.int .i64 f];rwa [World.size_alloc,World.size_alloc]at this
 have h4:=Arr.new (((w.alloc (.cells #[.int .i64 a,.int .i64 b] 2)).alloc (.cells #[.int .i64 c,.int .i64 d] 2)).alloc (.cells #[.int .i64 e,.int .i64 f] 2)) 34 #[.slice (some ⟨w.heap.size,0,none⟩) 2 2,.slice (some ⟨w.heap.size+1,0,none⟩) 2 2,.slice (some ⟨w.heap.size+1+1,0,none⟩) 2 2];rw[World.size_alloc,World.size_alloc,World.size_alloc]at h4;refine⟨_,rfl,h4,fun i r hr=>?_⟩;match i with
 |0=>obtain rfl:[a,b]=r:=by simpa using hr
     exact⟨_,2,rfl,h1.ext Zi,af,aa⟩
 |1=>obtain rfl:[c,d]=r:=by simpa using hr
     exact⟨_,2,rfl,h2.ext Zi,af,aa⟩
 |2=>obtain rfl:[e,f]=r:=by simpa using hr
     exact⟨_,2,rfl,h3.ext Zi,af,aa⟩
 |i+3=>simp at hr
end
section
open Go.ChangeShapes Go.WideShapes Go.ChangeAt Go.RowKit
theorem zmv{H:Type}{enc:TypeId×Value->H}{P:Program}{f:Func}{s:ChangeSpec}{ap fr ho ag:Bool}{W W':World}{args:Array Value}{v:Value}{ds gs:List (DataW H)}{before:List MemPlace}
  (hW:DataW.Whole enc P f.params.toList s.vars ap W args.toList ds gs before)
  (hr:∀(b:Nat)(sp:Nat->Bool)(hd:Bool),DataW.TrodAll enc P W' b sp hd f.resultTypes.toList (v.resultList f.resultTypes.size) (s.fn H (ds++gs)).results [])
  (ha:∀sp:Nat->Bool,(∀p∈before,sp p.block=true)->DataW.TrodAll enc P W' 0 sp true f.params.toList args.toList (s.fn H (ds++gs)).args before)
  (hv:∀sp:Nat->Bool,DataW.TrodVars enc P W' sp s.vars (s.fn H (ds++gs)).vars [])
  (hb:Below W.heap.size W W')
  (hok:∀(j:Nat)(t:TypeId)(r:Value),f.resultTypes[j]? =some t->(v.resultList f.resultTypes.size)[j]? =some r->Value.okWide P W' .any 0 t r):
  s.post enc P f ap fr ho ag W args v W':=by
 have old:∀p∈before,p.block<W.heap.size:=fun p hp=>hW.lt p hp
 have kept:W.keptBut W' fun p=>p∈before/\(p∈([]:List MemPlace)∨p∈before++[]):=World.keptBut_mono (fun p hp=>⟨hp,.inr (by simpa using hp)⟩) (hb.frame (·∈before))
 refine⟨ds,gs,before,[],before,[],hW,hr _ _ _,ha _ (fun p hp=>by simpa using old p hp),hv _,?_,fun _=>⟨hok,?_⟩⟩
 ·refine World.keptBut_mono (fun p hp=>?_) kept;exact⟨hp.1,by simpa using hp.1⟩
 ·obtain⟨_,_,_,_,_,hz,hn⟩:=hW;have zsy:=trodAll_append (ha (fun _=>true) (fun _ _=>rfl)) (hr 0 (fun _=>true) true);rw[List.nil_append]at zsy;refine⟨_,_,before++[],⟨before,[],zsy,hv _,rfl,fun b off hp=>?_,fun h=>by simpa using hn h⟩,fun p hp _=>by simpa using hp⟩;have hin:MemPlace.cell b off∈before:=by simpa using hp
  rw[hb.frozen (old _ hin)];exact hz b off hin
end
section
open La
theorem zgD(m:List (List Int))(k:Nat):k<=m.length->(zm m k).1=zF (ent m) k/\∀i j,i<m.length-k->j<m.length-k->ent (zm m k).2 i j=E (ent m) k (k+i) (k+j):=by
 induction k with
 |zero=>intro _;exact⟨rfl,fun i j _ _=>by simp[zm,E]⟩
 |succ k ih=>
  intro hk;obtain⟨h1,h2⟩:=ih aa;refine⟨h2 0 0 aa aa,fun i j hi hj=>?_⟩;show ent (jh (zm m k).1 (zm m k).2) i j=_;unfold jh;rw[ZL,qg _ _ _ _ _ aa aa,zaQ,h1,h2 0 0 aa aa,h2 (i+1) (j+1) aa aa,h2 (i+1) 0 aa aa,h2 0 (j+1) aa aa];grind
theorem Z1(hi:k+i<m.length)(hj:k+j<m.length):ent (zm m k).2 i j=E (ent m) k (k+i) (k+j):=(zgD m k aa).2 i j aa aa
theorem zbc(hk:k<=m.length):(zm m k).1=zF (ent m) k:=(zgD m k hk).1
theorem zdL{m:Nat->Nat->Int}(h:Pos (zf m) k)(he:0<E m k k k):Pos (zf m) (k+1):=fun l hl=>by
 rcases(aa:l<k∨l=k) with h1|h1
 ·exact h l h1
 ·subst h1;have h2:=(ZX m l h.piv).1 l l;have h3:=jx l h;have h4:=(Rat.intCast_pos (a:=E m l l l)).2 he;exact ze3 h3 ae
theorem QI{m:Nat->Nat->Int}(h:Pos (zf m) n)(hk:k<n):0<E m k k k:=by
 have h2:=(ZX m k (h.le aa).piv).1 k k;have h3:=jx k (h.le aa);have h4:=Rat.mul_pos h3 (h k hk);rw[<-h2]at h4;exact Rat.intCast_pos.1 h4
theorem ZV{m:Nat->Nat->Int}(h:Pos (zf m) n)(hk:k<=n):0<zF m k:=by
 cases k with
 |zero=>show (0:Int)<1;omega
 |succ k=>exact QI h aa
theorem zmw{F G:Nat->Nat->Int}{r c:Nat}(h:∀i j,i<r->j<c->F i j=G i j):tab F r c=tab G r c:=by
 unfold tab;simp_all
theorem zb7(h:Pos (zf (ent m)) (k+1))(hk:k+1<=m.length):qT (zm m k).1 (zm m k).2=jh (zm m k).1 (zm m k).2:=by
 refine zmw fun i j hi hj=>?_
 rw[ZL]at hi hj;rw[zbc aa,Z1 (i:=0) (j:=0) aa aa,Z1 (i:=i+1) (j:=j+1) aa aa,Z1 (i:=i+1) (j:=0) aa aa,Z1 (i:=0) (j:=j+1) aa aa];simp only[Nat.add_zero];rw[zjS (ent m) k h.piv];have hl:=ZV h (aa:k<=k+1);rw[Int.mul_tdiv_cancel_left _ aa,Int.mul_ediv_cancel_left _ aa]
structure RedOK(m:List (List Int)):Prop where
 small:Qq m=true
 pos:Pos (zf (ent m)) m.length
 sinv:∀k,k<m.length->SInv (zm m k).1 (zm m k).2
 short:∀k,k+1<m.length->QU (zm m k).2=true
 lov:∀k,k+1<m.length->3*(E (ent m) k k k*E (ent m) k k k)<=4*(zF (ent m) k*E (ent m) (k+1) (k+1) (k+1)+E (ent m) k (k+1) k*E (ent m) k (k+1) k)
 det0:0<E (ent m) (m.length-1) (m.length-1) (m.length-1)
 det1:E (ent m) (m.length-1) (m.length-1) (m.length-1)<=10000
theorem zmx(hs:Qq m=true)(hr:qI (m.length-1) 1 m=true)(k:Nat):k<m.length->Pos (zf (ent m)) k/\SInv (zm m k).1 (zm m k).2/\qI (m.length-1-k) (zm m k).1 (zm m k).2=true:=by
 induction k with
 |zero=>intro _;exact⟨fun l hl=>absurd hl aa,SInv.start hs,hr⟩
 |succ k ih=>
  intro hk;obtain⟨h1,h2,h3⟩:=ih aa;rw[(aa:m.length-1-k=(m.length-1-(k+1))+1)]at h3;simp only[qI,Bool.and_eq_true]at h3;obtain⟨a1,a2,a3⟩:=h3;have hp:Pos (zf (ent m)) (k+1):=by
   refine zdL h1 ?_;have:=(of_decide_eq_true a1).1;rwa [Z1 (i:=0) (j:=0) aa aa]at this
  rw[zb7 hp aa]at a3;have hn:=h2.next (by rw[ZL];omega) a1;rw[zb7 hp aa]at hn;exact⟨hp,hn,a3⟩
theorem Z2(hs:Qq m=true):1<=m.length/\m.length<=8:=by
 have:=of_decide_eq_true hs;grind
theorem Zk(h:zM m=true):RedOK m:=by
 simp only[zM,Bool.and_eq_true]at h;obtain⟨hs,hr⟩:=h;have hl:=Z2 hs;have hgo:=zmx hs hr;have zsS:=(hgo (m.length-1) aa).2.2;rw[(aa:m.length-1-(m.length-1)=0)]at zsS;have hd:=of_decide_eq_true zsS;rw[Z1 (i:=0) (j:=0) aa aa]at hd;have zvB:∀k,k+1<m.length->QU (zm m k).2=true/\¬(4*((zm m k).1*ent (qT (zm m k).1 (zm m k).2) 0 0+ent (zm m k).2 1 0*ent (zm m k).2 1 0)<3*ent (zm m k).2 0 0*ent (zm m k).2 0 0):=fun k hk=>by
  have h3:=(hgo k aa).2.2;rw[(aa:m.length-1-k=(m.length-1-(k+1))+1)]at h3;simp only[qI]at h3;grind
 refine⟨hs,?_,fun k hk=>(hgo k hk).2.1,fun k hk=>(zvB k hk).1,fun k hk=>?_,hd.1,hd.2⟩
 ·have:=zdL (hgo (m.length-1) aa).1 hd.1;grind
 ·have h4:=(zvB k hk).2;have hp:=(hgo (k+1) aa).1;rw[zb7 hp aa]at h4;have e:ent (jh (zm m k).1 (zm m k).2) 0 0=E (ent m) (k+1) (k+1) (k+1):=Z1 (k:=k+1) (i:=0) (j:=0) aa aa;rw[e,zbc aa,Z1 (i:=0) (j:=0) aa aa,Z1 (i:=1) (j:=0) aa aa]at h4;grind
theorem RedOK.piv(h:RedOK m)(hk:k<m.length):0<E (ent m) k k k/\E (ent m) k k k<65536:=by
 refine⟨QI h.pos hk,?_⟩;rcases(aa:k+1<m.length∨k=m.length-1) with h1|h1
 ·have:=(of_decide_eq_true (h.short k h1)).2.1;rwa [Z1 (i:=0) (j:=0) aa aa]at this
 ·subst h1;have:=h.det1;omega
theorem zV(hs:Qq m=true):AllLen m m.length:=fun r hr=>by
 obtain⟨i,hi,rfl⟩:=List.getElem_of_mem hr;have:=(of_decide_eq_true hs).2.2.1 i hi;grind
theorem zdM(hn:AllLen m n){r:List Int}(hr:r∈m){x:Int}(hx:x∈r):∃i j,i<m.length/\j<n/\ent m i j=x:=by
 obtain⟨i,hi,rfl⟩:=List.getElem_of_mem hr;obtain⟨j,hj,rfl⟩:=List.getElem_of_mem hx;refine⟨i,j,hi,?_,?_⟩
 ·rw[<-hn _ hr];grind
 ·simp[ent,hi,hj]
theorem RedOK.s64(h:RedOK m):zav m:=fun k hk r hr x hx=>by
 obtain⟨i,j,hi,hj,rfl⟩:=zdM (zag m (zV h.small) k) hr hx;have:=(h.sinv k hk).b40 i hi j (by rw[ZL];grind);omega
theorem qV(hk:k<=m.length):vD (zl m m.length) k=zF (ent m) k:=by
 unfold vD zl
 cases k with
 |zero=>rfl
 |succ k=>
  have:ent (zm m k).2 0 0=E (ent m) k k k:=Z1 (i:=0) (j:=0) aa aa;simp[(aa:k<m.length),this,zF]
theorem zdN(hk:k<m.length):(zq m m.length).getD k []=Zv m k:=by
 simp[zq,hk]
theorem RedOK.num(h:RedOK m){za:Int}(h0:0<=za)(h1:za<1073741824):NumOK (zl m m.length) (zq m m.length) m.length za:=by
 have hl:=Z2 h.small;refine⟨hl.2,by simp[zl],by simp[zq],fun k hk=>?_,fun k hk=>?_,fun k hk=>?_,fun k hk x hx=>?_,h0,h1⟩
 ·rw[zdN hk];simp[Zv];omega
 ·rw[qV hk];have:=ZV h.pos hk;omega
 ·rw[qV hk]
  cases k with
  |zero=>show (1:Int)<65536;omega
  |succ k=>exact(h.piv aa).2
 ·rw[zdN hk]at hx;rw[qV aa];obtain⟨j,hj,rfl⟩:=List.mem_map.1 hx;have hj':j<m.length-k-1:=ae
  have hs:=(of_decide_eq_true (h.short k aa)).2.2 (j+1) (by rw[ZL];omega) aa;have zsw:=(h.sinv k hk).sym 0 (by rw[ZL];omega) (j+1) (by rw[ZL];omega);have e:=Z1 (i:=0) (j:=0) aa aa;show-(E (ent m) k k k)<=_/\_<=E (ent m) k k k;grind
theorem RedOK.form(h:RedOK m):FormOK m:=by
 have hl:=Z2 h.small;have hb:∀k,k<m.length->∀i j,i<m.length-k->j<m.length-k->-1099511627776<=ent (zm m k).2 i j/\ent (zm m k).2 i j<=1099511627776:=fun k hk i j hi hj=>
  (h.sinv k hk).b40 i (by rw[ZL];grind) j (by rw[ZL];grind)
 refine⟨hl.1,zV h.small,fun r hr x hx=>?_,⟨fun i j hi hj=>?_,fun k hk=>?_,fun k i j hi hj=>?_⟩,fun k hk j hj=>?_,fun za h0 h1=>h.num h0 h1⟩
 ·have:=h.s64 0 aa r hr x hx;grind
 ·have:=hb 0 aa i j hi hj;simp only[zm]at this;omega
 ·rw[Z1 (i:=0) (j:=0) aa aa];have:=QI h.pos (k:=k) aa;grind
 ·have hk:k+1<m.length:=aa
  have b1:=hb k aa 0 0 aa aa;have b2:=hb k aa (i+1) 0 aa aa;have b3:=hb k aa 0 (j+1) aa aa;have b4:=hb k aa (i+1) (j+1) aa aa;obtain⟨_,_,c3,c4,c5,c6⟩:=(h.sinv k aa).nums (h.short k hk) (i:=i) (j:=j) (by rw[ZL];omega) (by rw[ZL];omega);have l1:=(h.sinv k aa).lp;have l2:=(h.sinv k aa).ll
  refine⟨aa,aa,aa,aa,aa,aa,aa,aa,aa⟩
 grind
def jL:Nat->Nat
 |0=>0
 |k+1=>jL k+(k+1)
theorem zmy(a:Nat->Nat)(n:Nat)(h0:a 0=1)(hp:∀k,k<=n->0<a k)(h:∀k,k+2<=n->a (k+1)*a (k+1)<=2*(a k*a (k+2)))(k:Nat):k+1<=n->a k^(k+1)<=2^jL k*a (k+1)^k:=by
 induction k with
 |zero=>intro _;simp[h0,jL]
 |succ k ih=>
  intro hk;have h1:=ih aa;have h2:=Nat.pow_le_pow_left (h k aa) (k+1);rw[Nat.mul_pow,Nat.mul_pow,Nat.mul_pow]at h2;have h3:2^(k+1)*(a k^(k+1)*a (k+2)^(k+1))<=2^(k+1)*((2^jL k*a (k+1)^k)*a (k+2)^(k+1)):=Nat.mul_le_mul_left _ (Nat.mul_le_mul_right _ h1);have h4:=Nat.le_trans h2 h3;have e1:a (k+1)^(k+1)*a (k+1)^(k+1)=a (k+1)^k*a (k+1)^(k+1+1):=ae
  have e2:2^(k+1)*((2^jL k*a (k+1)^k)*a (k+2)^(k+1))=a (k+1)^k*(2^jL (k+1)*a (k+1+1)^(k+1)):=by
   simp only[jL];grind
  rw[e1,e2]at h4;exact Nat.le_of_mul_le_mul_left h4 (Nat.pow_pos (hp (k+1) aa))
def Js:Nat->Nat
 |0=>10000
 |1=>10000
 |2=>10000
 |3=>10000
 |4=>25599
 |5=>57242
 |6=>63999
 |7=>35777
 |_=>10000
theorem zmz(k b:Nat)(hk:1<=k)(h8:k<=7)(x:Nat)(hx:x^(k+1)<=2^jL k*b^k)(hb:b<=Js (k+1)):x<=Js k:=by
 rcases Zl (Js k) x with h|h
 ·have h1:=Nat.pow_le_pow_left h (k+1);have h2:=Nat.mul_le_mul_left (2^jL k) (Nat.pow_le_pow_left hb k);have h3:=Nat.le_trans h1 (Nat.le_trans hx h2);have:k=1∨k=2∨k=3∨k=4∨k=5∨k=6∨k=7:=aa
  rcases this with rfl|rfl|rfl|rfl|rfl|rfl|rfl<;>exact absurd h3 ac
 grind
theorem zmA(k:Nat):10000<=Js k:=by unfold Js;grind
theorem zmB(k:Nat):Js k<65536:=by unfold Js;grind
theorem zmC(a:Nat->Nat)(n:Nat)(h8:n<=8)(h0:a 0=1)(hp:∀k,k<=n->0<a k)(h:∀k,k+2<=n->a (k+1)*a (k+1)<=2*(a k*a (k+2)))(hn:a n<=10000)(t:Nat):t<=n->a (n-t)<=Js (n-t):=by
 induction t with
 |zero=>intro _;exact Nat.le_trans hn (zmA _)
 |succ t ih=>
  intro ht;have h1:=ih aa;obtain⟨k,hk⟩:=Yz (n-(t+1));rw[hk];rw[(aa:n-t=k+1)]at h1;rcases Nat.eq_zero_or_pos k with rfl|hk0
  ·rw[h0];decide
  ·exact zmz k (a (k+1)) hk0 aa (a k) (zmy a n h0 hp h k aa) h1
theorem zdO{m:Nat->Nat->Int}(h:Pos (zf m) j)(i:Nat):QA (zf m) i j↔2*E m j i j<=E m j j j/\-(2*E m j i j)<=E m j j j:=by
 have hd:=jx j h;have e1:=(ZX m j h.piv).1 i j;have e2:=(ZX m j h.piv).1 j j;constructor
 ·rintro⟨h1,h2⟩;have g1:=zL (Rat.le_of_lt hd) h1;have g2:=zL (Rat.le_of_lt hd) h2;constructor
  ·apply Rat.intCast_le_intCast.1;grind
  ·apply Rat.intCast_le_intCast.1;grind
 ·rintro⟨h1,h2⟩;have g1:=Rat.intCast_le_intCast.2 h1;have g2:=Rat.intCast_le_intCast.2 h2;exact⟨JI hd ae,JI hd ae⟩
theorem zdP{m:Nat->Nat->Int}(hs:Sym (zf m))(h:Pos (zf m) (p+2)):qF (zf m) p↔3*(E m p p p*E m p p p)<=4*(zF m p*E m (p+1) (p+1) (p+1)+E m p (p+1) p*E m p (p+1) p):=by
 have hd:=jx p (h.le aa);have hp:=h p aa;have e0:=(ZX m p (h.le aa).piv).2.1;have e1:=(ZX m p (h.le aa).piv).1 p p;have e2:=(ZX m p (h.le aa).piv).1 (p+1) p;have e3:=(ZX m (p+1) (h.le aa).piv).1 (p+1) (p+1);have hdd:dd (zf m) (p+1)=dd (zf m) p*S (zf m) p p p:=rfl;have hg:=jZ hs p (p+1);obtain⟨z,hz⟩:=Yz (S (zf m) p (p+1) p*S (zf m) p (p+1) p / S (zf m) p p p)
 have hc:=Rat.mul_pos (Rat.mul_pos hd hd) hp;have key:dd (zf m) p*(dd (zf m) p*S (zf m) p p p*S (zf m) (p+1) (p+1) (p+1))+dd (zf m) p*S (zf m) p (p+1) p*(dd (zf m) p*S (zf m) p (p+1) p)=dd (zf m) p*dd (zf m) p*S (zf m) p p p*S (zf m) p (p+1) (p+1):=ae
 constructor
 ·intro h1;have g1:=zL (Rat.le_of_lt hc) h1;apply Rat.intCast_le_intCast.1;simp only[Rat.intCast_mul,Rat.intCast_add,e1,e2];grind
 ·intro h1;have g1:=Rat.intCast_le_intCast.2 h1;simp only[Rat.intCast_mul,Rat.intCast_add,e0,e1,e2,hdd]at g1;exact JI hc ae
structure LLLed(m:List (List Int)):Prop where
 len1:1<=m.length
 len8:m.length<=8
 all:AllLen m m.length
 sym:∀i j,i<m.length->j<m.length->ent m i j=ent m j i
 pos:Pos (zf (ent m)) m.length
 full:∀r,r<m.length->QB (zf (ent m)) r
 lov:∀p,p+1<m.length->qF (zf (ent m)) p
 det:E (ent m) (m.length-1) (m.length-1) (m.length-1)<=10000
theorem qL(hn:AllLen m n)(h:m.length<=i∨n<=j):ent m i j=0:=by
 unfold ent;rcases Zl i m.length with hi|hi
 ·have:m[i].length=n:=hn _ (List.getElem_mem _);grind
 grind
theorem QX(hn:AllLen m m.length)(hs:∀i j,i<m.length->j<m.length->ent m i j=ent m j i):Sym (zf (ent m)):=fun i j=>by
 show ((ent m i j:Int):Rat)=((ent m j i:Int):Rat);rcases Zl i m.length with hi|hi
 ·rcases Zl j m.length with hj|hj
  ·grind
  ·rw[qL hn (.inr hj),qL hn (.inl hj)]
 ·rw[qL hn (.inl hi),qL hn (.inr hi)]
theorem LLLed.minor(h:LLLed m)(hk:k<=m.length):0<zF (ent m) k/\zF (ent m) k<65536:=by
 have zsC:=fun k(hk:k<=m.length)=>ZV h.pos hk
 refine⟨zsC k hk,?_⟩;have zsw:=QX h.all h.sym;have zss:=h.len1;have hc:=zmC (fun k=>(zF (ent m) k).toNat) m.length h.len8 rfl (fun k hk=>ae) (fun k hk=>?_) ?_ (m.length-k) aa
 ·rw[(aa:m.length-(m.length-k)=k)]at hc;have:=zmB k;omega
 ·have h1:=(zdP zsw (h.pos.le (aa:k+2<=m.length))).1 (h.lov k aa);have h2:=(zdO (h.pos.le (aa:k<=m.length)) (k+1)).1 (h.full (k+1) aa k aa);have p0:=zsC k aa;have p1:=zsC (k+1) aa;have p2:=zsC (k+2) aa;have e1:zF (ent m) (k+1)=E (ent m) k k k:=rfl;have e2:zF (ent m) (k+2)=E (ent m) (k+1) (k+1) (k+1):=rfl;rw[e1]at p1;rw[e2]at p2;show (E (ent m) k k k).toNat*(E (ent m) k k k).toNat<=2*((zF (ent m) k).toNat*(E (ent m) (k+1) (k+1) (k+1)).toNat)
  obtain⟨x,hx⟩:=Yz (E (ent m) k k k);obtain⟨y,hy⟩:=Yz (E (ent m) k (k+1) k);obtain⟨u,hu⟩:=Yz (zF (ent m) k);obtain⟨v,hv⟩:=Yz (E (ent m) (k+1) (k+1) (k+1));rw[hx,hy,hu,hv]at h1;rw[hx,hy]at h2;rw[hx]at p1;rw[hu]at p0;rw[hv]at p2;rw[hx,hu,hv];have q:=Int.mul_nonneg ((aa:0<=x-2*y)) ((aa:0<=x+2*y));grind
 ·have h1:=h.det;have e:zF (ent m) m.length=E (ent m) (m.length-1) (m.length-1) (m.length-1):=by
   obtain⟨t,ht⟩:∃t,m.length=t+1:=⟨m.length-1,aa⟩;rw[ht];rfl
  grind
theorem LLLed.entry(h:LLLed m)(hi:i<m.length)(hj:j<m.length):-262144<ent m i j/\ent m i j<262144:=by
 have zsw:=QX h.all h.sym;have hB:∀l,l<m.length->S (zf (ent m)) l l l<=65535:=fun l hl=>by
  have h1:=(ZX (ent m) l (h.pos.le aa).piv).1 l l;have h2:zF (ent m) (l+1)=E (ent m) l l l:=rfl;have h3:=h.minor (k:=l+1) aa;rw[h2]at h3;have h4:=Rat.intCast_le_intCast.2 ((aa:E (ent m) l l l<=65535));rw[h1]at h4;have h5:=zc4 (h.pos.le (aa:l<=m.length)) (fun x y=>⟨ent m x y,rfl⟩);have h6:=zL (Rat.le_of_lt (h.pos l hl)) h5;grind
 have hD:∀r,r<m.length->zf (ent m) r r<=196607:=fun r hr=>by
  have h1:∀l,l<r->S (zf (ent m)) l r l*S (zf (ent m)) l r l / S (zf (ent m)) l l l<=16384:=fun l hl=>by
   obtain⟨a1,a2⟩:=zc3 (h.full r hr) l hl;have h3:=Ji a1 a2;have hl0:=h.pos l aa;refine zc1 hl0 ?_;have h4:=zL (Rat.le_of_lt hl0) (hB l aa);grind
  have h2:=zc2 zsw (hB r hr) h1 r Zr;rw[Nat.sub_self]at h2;have e:S (zf (ent m)) 0 r r=zf (ent m) r r:=rfl;have h8:=h.len8;have h3:=JJ (aa:r<=8);grind
 obtain⟨h1,h2⟩:=ze6 zsw h.pos hi hj;have d1:=hD i hi;have d2:=hD j hj;have e:zf (ent m) i j=((ent m i j:Int):Rat):=rfl;rw[e]at h1 h2;have g1:((ent m i j:Int):Rat)<=((196607:Int):Rat):=by simp only[Rat.intCast_ofNat];grind
 have g2:((-196607:Int):Rat)<=((ent m i j:Int):Rat):=ae
 have:=Rat.intCast_le_intCast.1 g1;have:=Rat.intCast_le_intCast.1 g2;omega
theorem LLLed.short(h:LLLed m)(hk:k<m.length):QU (zm m k).2=true:=by
 refine decide_eq_true ?_;have e:=Z1 (i:=0) (j:=0) aa aa;have hm:=h.minor (k:=k+1) aa;rw[e];refine⟨hm.1,hm.2,fun i hi h1=>?_⟩;rw[ZL]at hi;have e3:ent (zm m k).2 i 0=E (ent m) k (k+i) k:=Z1 (i:=i) (j:=0) aa aa;have:=(zdO (h.pos.le (aa:k<=m.length)) (k+i)).1 (h.full (k+i) aa k aa);grind
theorem LLLed.go(h:LLLed m)(t:Nat):t<m.length->qI t (zm m (m.length-1-t)).1 (zm m (m.length-1-t)).2=true:=by
 have zsw:=QX h.all h.sym;induction t with
 |zero=>
  intro _;refine decide_eq_true ?_;have e:ent (zm m (m.length-1-0)).2 0 0=E (ent m) (m.length-1) (m.length-1) (m.length-1):=Z1 (k:=m.length-1) (i:=0) (j:=0) aa aa;rw[e];exact⟨QI h.pos aa,h.det⟩
 |succ t ih=>
  intro ht;have h1:=ih aa;obtain⟨k,hk⟩:=Yz (m.length-1-(t+1));rw[hk];rw[(aa:m.length-1-t=k+1)]at h1;have hp:Pos (zf (ent m)) (k+1):=h.pos.le aa;have hnx:=zb7 hp (aa:k+1<=m.length);simp only[qI,Bool.and_eq_true];refine⟨h.short aa,?_,?_⟩
  ·have hL:=(zdP zsw (h.pos.le (aa:k+2<=m.length))).1 (h.lov k aa);have e1:ent (jh (zm m k).1 (zm m k).2) 0 0=E (ent m) (k+1) (k+1) (k+1):=Z1 (k:=k+1) (i:=0) (j:=0) aa aa;have e2:ent (zm m k).2 1 0=E (ent m) k (k+1) k:=Z1 (i:=1) (j:=0) aa aa;have e3:ent (zm m k).2 0 0=E (ent m) k k k:=Z1 (i:=0) (j:=0) aa aa;rw[hnx,e1,e2,e3,zbc aa]
   grind
  ·rw[hnx];exact h1
theorem LLLed.red{m:List (List Int)}(h:LLLed m):zM m=true:=by
 have zss:=h.len1;simp only[zM,Bool.and_eq_true];constructor
 ·refine decide_eq_true ⟨h.len1,h.len8,fun i hi=>?_,fun i hi j hj=>⟨h.sym i j hi hj,h.entry hi hj⟩⟩;have:m[i].length=m.length:=h.all _ (List.getElem_mem _);grind
 ·have:=h.go (m.length-1) aa;rwa [Nat.sub_self]at this
end
section
def zj(n:Nat)(F:Nat->Int):Int:=((List.range n).map F).sum
theorem Zx(n:Nat)(F:Nat->Int):zj (n+1) F=zj n F+F n:=by
 simp[zj,List.range_succ]
theorem zT{G:Nat->Int}(h:∀i,i<n->F i=G i):zj n F=zj n G:=by
 unfold zj;congr 1
 exact List.map_congr_left fun i hi=>h i (by simpa using hi)
theorem zb8(h:∀i,i<n->F i=0):zj n F=0:=by
 induction n with
 |zero=>rfl
 |succ n ih=>rw[Zx,ih (fun i hi=>h i aa),h n aa];rfl
theorem QJ{a:Nat}(ha:a<n)(h:∀i,i<n->i≠a->F i=0):zj n F=F a:=by
 induction n with
 |zero=>omega
 |succ n ih=>
  rw[Zx];by_cases e:a=n
  ·subst e;rw[zb8 (fun i hi=>h i aa aa)];omega
  ·rw[ih aa (fun i hi=>h i aa),h n aa aa];omega
theorem zb9(n:Nat)(F G:Nat->Int):zj n (fun i=>F i-G i)=zj n F-zj n G:=by
 induction n with
 |zero=>rfl
 |succ n ih=>rw[Zx,Zx,Zx,ih];omega
def ZN(n:Nat)(a b:List (List Int)):List (List Int):=tab (fun i j=>zj n fun k=>ent a i k*ent b k j) n n
def QK(n:Nat)(a:List (List Int)):List (List Int):=tab (fun i j=>ent a j i) n n
def Zb(n:Nat)(g t:List (List Int)):List (List Int):=ZN n (ZN n (QK n t) g) t
end
section
open La
theorem zdQ(hx:x<n)(hy:y<n):ent (Zb n g t) x y=zj n fun q=>(zj n fun p=>ent t p x*ent g p q)*ent t q y:=by
 unfold Zb ZN;rw[qg _ _ _ _ _ hx hy];refine zT fun q hq=>?_
 rw[qg _ _ _ _ _ hx hq];congr 1
 refine zT fun p hp=>?_
 unfold QK;rw[qg _ _ _ _ _ hx hp]
def qk(n i j:Nat)(q:Int):List (List Int):=tab (fun r c=>if r=j/\c=i then-q else if r=c then 1 else 0) n n
def qu(n p:Nat):List (List Int):=tab (fun r c=>if sg p r=c then 1 else 0) n n
theorem zdR(F:Nat->Nat->Int)(r c:Nat):(tab F r c).length=r:=by simp[tab]
theorem zmD(hj:j<i)(hi:i<n)(hx:x<n)(hy:y<n):((ent (Zb n g (qk n i j q)) x y:Int):Rat)=z7 i j q (zf (ent g)) x y:=by
 have inner:∀z,z<n->∀F:Nat->Int,(zj n fun p=>ent (qk n i j q) p z*F p)=F z-(if z=i then q*F j else 0):=fun z hz F=>by
  have e1:(zj n fun p=>ent (qk n i j q) p z*F p)=zj n fun p=>(if p=z then F p else 0)-(if p=j/\z=i then q*F p else 0):=by
   refine zT fun p hp=>?_
   unfold qk;rw[qg _ _ _ _ _ hp hz];grind
  rw[e1,zb9,QJ hz (fun k _ hk=>if_neg hk),if_pos rfl];by_cases hzi:z=i
  ·rw[QJ (a:=j) aa (fun k _ hk=>if_neg aa),if_pos ⟨rfl,hzi⟩,if_pos hzi]
  ·rw[zb8 (fun k _=>if_neg aa),if_neg hzi]
 rw[zdQ hx hy];have h1:(zj n fun q'=>(zj n fun p=>ent (qk n i j q) p x*ent g p q')*ent (qk n i j q) q' y)=zj n fun q'=>ent (qk n i j q) q' y*(ent g x q'-(if x=i then q*ent g j q' else 0)):=
  zT fun q' _=>by rw[inner x hx (fun p=>ent g p q'),Int.mul_comm]
 rw[h1,inner y hy];simp only[z7,Qz,Qy,zf];by_cases hxi:x=i<;>by_cases hyi:y=i<;>simp only[hxi,hyi]<;>grind
theorem zgE(p x:Nat):sg p (sg p x)=x:=by unfold sg;grind
theorem zmE(hp:p+1<n)(hx:x<n):sg p x<n:=by unfold sg;grind
theorem zmF(hp:p+1<n)(hx:x<n)(hy:y<n):((ent (Zb n g (qu n p)) x y:Int):Rat)=swf p (zf (ent g)) x y:=by
 have inner:∀z,z<n->∀F:Nat->Int,(zj n fun r=>ent (qu n p) r z*F r)=F (sg p z):=fun z hz F=>by
  have e1:(zj n fun r=>ent (qu n p) r z*F r)=zj n fun r=>if sg p r=z then F r else 0:=by
   refine zT fun r hr=>?_
   unfold qu;rw[qg _ _ _ _ _ hr hz];grind
  rw[e1,QJ (a:=sg p z) (zmE hp hz) (fun k _ hk=>if_neg (fun h=>hk (by rw[<-h,zgE]))),if_pos (zgE p z)]
 rw[zdQ hx hy];have h1:(zj n fun q'=>(zj n fun r=>ent (qu n p) r x*ent g r q')*ent (qu n p) q' y)=zj n fun q'=>ent (qu n p) q' y*ent g (sg p x) q':=
  zT fun q' _=>by rw[inner x hx (fun r=>ent g r q'),Int.mul_comm]
 rw[h1,inner y hy];rfl
theorem zmG(F:Nat->Nat->Int)(n x y:Nat)(h:n<=x∨n<=y):ent (tab F n n) x y=0:=
 qL (Qa F n n) (by rw[zdR];exact h)
theorem zdS(h:n<=x∨n<=y):ent (Zb n g t) x y=0:=zmG _ n x y h
theorem zaw(n:Nat)(g t:List (List Int)):(Zb n g t).length=n:=zdR _ _ _
theorem zbd(n:Nat)(g t:List (List Int)):AllLen (Zb n g t) n:=Qa _ _ _
theorem zgF(hl:g.length=n)(hg:AllLen g n)(hi:i<n)(hj:j<i):zf (ent (Zb n g (qk n i j q)))=z7 i j q (zf (ent g)):=by
 funext x y
 by_cases h:x<n/\y<n
 ·exact zmD hj hi h.1 h.2
 ·have h':n<=x∨n<=y:=aa
  have e0:∀a b,n<=a∨n<=b->zf (ent g) a b=0:=fun a b hab=>by
   show ((ent g a b:Int):Rat)=0;rw[qL hg ae];rfl
  have e1:zf (ent (Zb n g (qk n i j q))) x y=0:=by
   show ((ent (Zb n g (qk n i j q)) x y:Int):Rat)=0;rw[zdS h'];rfl
  simp only[z7,Qz,Qy];grind
theorem zgG(hl:g.length=n)(hg:AllLen g n)(hp:p+1<n):zf (ent (Zb n g (qu n p)))=swf p (zf (ent g)):=by
 funext x y
 by_cases h:x<n/\y<n
 ·exact zmF hp h.1 h.2
 ·have h':n<=x∨n<=y:=aa
  have hs:∀z,n<=z->n<=sg p z:=fun z hz=>by rw[je aa aa];grind
  show ((ent (Zb n g (qu n p)) x y:Int):Rat)=((ent g (sg p x) (sg p y):Int):Rat);rw[zdS h',qL hg];grind
def ZO(a:List (List Int))(k:Nat):Nat->Nat->Nat
 |0,p=>p
 |f+1,p=>if ent a p k=0 then ZO a k f (p+1) else p
def jn(a:List (List Int))(p k:Nat):List (List Int):=(a.set p (a.getD k [])).set k (a.getD p [])
def Qu(n k:Nat)(zd:Int)(a:List (List Int)):List (List Int):=tab (fun i j=>if k<i/\k<j then (ent a k k*ent a i j-ent a i k*ent a k j) / zd else ent a i j) n n
def Qd(n:Nat):Nat->Nat->Int->Bool->List (List Int)->Int
 |0,_,zd,neg,_=>if neg then-zd else zd
 |f+1,k,zd,neg,a=>
  if ZO a k (n-k) k=n then 0
  else if k<ZO a k (n-k) k then Qd n f (k+1) (ent (jn a (ZO a k (n-k) k) k) k k) (!neg) (Qu n k zd (jn a (ZO a k (n-k) k) k))
  else Qd n f (k+1) (ent a k k) neg (Qu n k zd a)
def detF(a:List (List Int)):Int:=Qd a.length a.length 0 1 false a
theorem zmH{a:List (List Int)}{f:Nat}(h:ent a k k≠0)(hf:0<f):ZO a k f k=k:=by
 obtain⟨t,rfl⟩:∃t,f=t+1:=⟨f-1,aa⟩;simp[ZO,h]
theorem zmI{M:Nat->Nat->Int}(f:Nat):∀(k:Nat)(zd:Int)(a:List (List Int)),k+f=n->zd=zF M k->(∀i j,k<=i->i<n->k<=j->j<n->ent a i j=E M k i j)->(∀l,k<=l->l+1<n->E M l l l≠0)->1<=n->Qd n f k zd false a=zF M n:=by
 induction f with
 |zero=>
  intro k zd a hk hl _ _ _;obtain rfl:k=n:=aa
  simp[Qd,hl]
 |succ f ih=>
  intro k zd a hk hl ha hp hn;have hkk:=ha k k aa aa aa aa;by_cases hz:ent a k k=0
  ·--only in the zd column
   have zsS:k+1=n:=ae
   have e:ZO a k (n-k) k=n:=by
    rw[(aa:n-k=1)];simp only[ZO];grind
   simp only[Qd,if_pos e];subst zsS;show 0=E M k k k;grind
  ·have e:ZO a k (n-k) k=k:=zmH hz aa;simp only[Qd,e];rw[if_neg aa,if_neg aa];refine ih (k+1) _ _ aa hkk (fun i j h1 h2 h3 h4=>?_) (fun l h1 h2=>hp l aa h2) hn;unfold Qu;rw[qg _ _ _ _ _ h2 h4,if_pos aa,zaQ,hkk,ha i j aa h2 aa h4,ha i k aa h2 aa aa,ha k j aa aa aa h4,hl]
theorem zgH{a:List (List Int)}(h1:1<=a.length)(hp:∀l,l+1<a.length->E (ent a) l l l≠0):detF a=zF (ent a) a.length:=
 zmI a.length 0 1 a aa rfl (fun i j _ _ _ _=>rfl) (fun l _ h=>hp l h) h1
def zS(m:List (List Int))(R C:List Nat):List (List Int):=R.map fun i=>C.map fun j=>ent m i j
def zy(k i:Nat):List Nat:=List.range k++[i]
theorem Qv(k i:Nat):(zy k i).length=k+1:=by simp[zy]
theorem zgI(k i r:Nat)(hr:r<=k):(zy k i)[r]? =some (if r<k then r else i):=by
 unfold zy;grind
theorem zmJ(m:List (List Int))(k i j r c:Nat)(hr:r<=k)(hc:c<=k):ent (zS m (zy k i) (zy k j)) r c=ent m (if r<k then r else i) (if c<k then c else j):=by
 unfold zS ent;simp only[List.getD_eq_getElem?_getD,List.getElem?_map,zgI k i r hr,zgI k j c hc,Option.map_some,Option.getD_some]
theorem zgJ(m:List (List Int))(k i j:Nat)(l:Nat):l<=k->∀r c,r<=k->c<=k->E (ent (zS m (zy k i) (zy k j))) l r c=E (ent m) l (if r<k then r else i) (if c<k then c else j):=by
 induction l using Nat.strongRecOn with
 |_ l ih=>
  intro hl r c hr hc
  cases l with
  |zero=>exact zmJ m k i j r c hr hc
  |succ l=>
   have h1:=ih l aa aa;have zsS:zF (ent (zS m (zy k i) (zy k j))) l=zF (ent m) l:=by
    cases l with
    |zero=>rfl
    |succ t=>
     show E _ t t t=E _ t t t;grind
   rw[zaQ,zaQ,zsS,h1 l l aa aa,h1 r c hr hc,h1 r l hr aa,h1 l c aa hc];simp only[if_pos ((aa:l<k))]
theorem zca(hp:∀l,l<k->E (ent m) l l l≠0)(i j:Nat):detF (zS m (zy k i) (zy k j))=E (ent m) k i j:=by
 have hl:(zS m (zy k i) (zy k j)).length=k+1:=by simp[zS,Qv]
 rw[zgH aa (fun l h=>by
  rw[zgJ m k i j l aa l l aa aa];grind),hl]
 show E _ k k k=_;rw[zgJ m k i j k Zr k k Zr Zr,if_neg aa,if_neg aa]
theorem zgK(h1:1<=m.length)(hp:∀l,l+1<m.length->E (ent m) l l l≠0):detF m=E (ent m) (m.length-1) (m.length-1) (m.length-1):=by
 rw[zgH h1 hp];obtain⟨t,ht⟩:∃t,m.length=t+1:=⟨m.length-1,aa⟩;rw[ht];rfl
def zt(m:List (List Int)):List Int:=(List.range m.length).map fun k=>detF (zS m (zy k k) (zy k k))
theorem zgL :(∀x∈zt m,0<x)↔Pos (zf (ent m)) m.length:=by
 constructor
 ·intro h;have key:∀k,k<=m.length->Pos (zf (ent m)) k:=by
   intro k;induction k with
   |zero=>intro _ l hl;omega
   |succ k ih=>
    intro hk;have h1:=ih aa;refine zdL h1 ?_;have h2:=h (detF (zS m (zy k k) (zy k k))) (List.mem_map.2 ⟨k,List.mem_range.2 aa,rfl⟩);rwa [zca (fun l hl=>by have:=QI h1 hl;omega)]at h2
  grind
 ·intro h x hx;obtain⟨k,hk,rfl⟩:=List.mem_map.1 hx;have hk':k<m.length:=ae
  rw[zca (fun l hl=>by have:=QI h (k:=l) aa;omega)];exact QI h hk'
theorem zmK(h:Pos (zf (ent m)) m.length)(hk:k<m.length):(zt m).getD k 0=E (ent m) k k k:=by
 unfold zt;simp only[List.getD_eq_getElem?_getD,List.getElem?_map,List.getElem?_range hk];exact zca (fun l hl=>by have:=QI h (k:=l) aa;omega) k k
end
end Go.Proofs.YtgoaelchibpffaaGreat
