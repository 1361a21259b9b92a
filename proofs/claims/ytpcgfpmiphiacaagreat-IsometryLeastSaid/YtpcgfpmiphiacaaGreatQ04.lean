/- Lll Rt Root Sch App2 Vec1 Vec2 -/
import Derived.Test.YtpcgfpmiphiacaaGreatQ03
import Derived.Test.YtpcgfpmiphiacaaGreatProg
import Derived.Test.YtpcgfpmiphiacaaGreatShelf
import Derived.Lib.ItoaNum
import Derived.Deep.RegionLaw
import Derived.Deep.AppendLies
set_option maxHeartbeats 8000000
set_option linter.unusedVariables false
set_option linter.unusedSimpArgs false
set_option linter.constructorNameAsVariable false
namespace Go.Proofs.YtpcgfpmiphiacaaGreat
open Go.RowKit
theorem MatA.ent_ {w:World} {A:Option Addr} {m:List (List Int)} (h:MatA w A m) {n i j:Nat} (hi:i<m.length) (hl:(m.getD i []).length=n) (hj:j<n):
  ∃b o b1 o1 c,A=some ⟨b,o,none⟩/\w.cell? ⟨b,o+i,none⟩=some (.slice (some ⟨b1,o1,none⟩) n c)/\w.cell? ⟨b1,o1+j,none⟩=some (.int .i64 (ent m i j))/\n<=c/\c<=9223372036854775807/\b<w.heap.size/\b1<w.heap.size:=by
 have hr:m[i]? =some m[i]:=by simp
 have hl':m[i].length=n:=by simpa [List.getD,hi] using hl
 obtain ⟨b,o,B0,c,hA,hc,hI,h1,h2,hb⟩:=h.at_ hr
 obtain ⟨b1,o1,x,rfl,hx,c1,hb1⟩:=hI.at_ (i:=j) (by omega)
 have he:ent m i j=x:=ent_of hr hx
 rw [he]
 rw [hl'] at hc h1
 exact ⟨b,o,b1,o1,c,hA,hc,c1,h1,h2,hb,hb1⟩
theorem MatA.row_ {w:World} {A:Option Addr} {m:List (List Int)} (h:MatA w A m) {i:Nat} (hi:i<m.length):
  ∃b o B c,A=some ⟨b,o,none⟩/\w.cell? ⟨b,o+i,none⟩=some (.slice B (m.getD i []).length c)/\(m.getD i []).length<=c/\c<=9223372036854775807/\b<w.heap.size:=by
 have hr:m[i]? =some m[i]:=by simp
 obtain ⟨b,o,B0,c,hA,hc,hI,h1,h2,hb⟩:=h.at_ hr
 have e:m.getD i []=m[i]:=by simp [List.getD,hi]
 rw [e]
 exact ⟨b,o,B0,c,hA,hc,h1,h2,hb⟩
def isSmallB (h:List (List Int)):Bool:=decide (1<=h.length/\h.length<=8/\(∀i,i<h.length->(h.getD i []).length=h.length)/\∀i,i<h.length->∀j,j<h.length->ent h i j=ent h j i/\-262144<ent h i j/\ent h i j<262144)
theorem isSmallB_false {h:List (List Int)} (hh:¬(1<=h.length/\h.length<=8/\(∀i,i<h.length->(h.getD i []).length=h.length)/\∀i,i<h.length->∀j,j<h.length->ent h i j=ent h j i/\-262144<ent h i j/\ent h i j<262144)):isSmallB h=false:=decide_eq_false hh
theorem isSmallB_true {h:List (List Int)} (hh:1<=h.length/\h.length<=8/\(∀i,i<h.length->(h.getD i []).length=h.length)/\∀i,i<h.length->∀j,j<h.length->ent h i j=ent h j i/\-262144<ent h i j/\ent h i j<262144):isSmallB h=true:=decide_eq_true hh
set_option maxRecDepth 10000 in
theorem isSmall_any {w0 w:World} {A:Option Addr} {c:Nat} {m:List (List Int)} (h:MatA w0 A m) (hlen:m.length<=1099511627776) [hx:Ext w0 w]:
  Calls Tryz.prog 169 #[.slice A m.length c] w (RetSame w (.bool (isSmallB m))):=by
 have h0:=h.ext hx
 by_cases hz:m.length<1
 ·have HF:=Lib.hid (isSmallB_false (h:=m) (by omega))
  have hd1:decide ((m.length:Int)<1)=true:=by simp;omega
  go_enter Tryz.func169,Tryz.ntmps169
  go_wp2
  go_ret
  exact ⟨by rw [HF.out];rfl,rfl⟩
 by_cases hg:8<m.length
 ·have HF:=Lib.hid (isSmallB_false (h:=m) (by omega))
  have hd1:decide ((m.length:Int)<1)=false:=by simp;omega
  have hd2:decide ((8:Int)<(m.length:Int))=true:=by simp;omega
  go_enter Tryz.func169,Tryz.ntmps169
  go_wp2
  go_ret
  exact ⟨by rw [HF.out];rfl,rfl⟩
 have hd1:decide ((m.length:Int)<1)=false:=by simp;omega
 have hd2:decide ((8:Int)<(m.length:Int))=false:=by simp;omega
 have h1:1<=m.length:=by omega
 have h8:m.length<=8:=by omega
 clear hz hg
 go_enter Tryz.func169,Tryz.ntmps169
 go_wp2
 go_loop [5,20] (fun _ i=>∃k:Nat,k<=m.length/\i= .int .i64 k/\Hid (∀i,i<k->(m.getD i []).length=m.length)) (fun _ i=>m.length-(intOf i).toNat)
 case atStart=>exact ⟨0,by omega,rfl,Lib.hid (fun i hi=>absurd hi (by omega))⟩
 case round=>
  obtain ⟨k,hk,rfl,hR⟩:=hrel
  by_cases hlt:k<m.length
  ·obtain ⟨b,o,B,c1,rfl,e1,f1,f2,f3⟩:=h0.row_ hlt
   obtain ⟨ln,hln⟩:∃ln,ln=(m.getD k []).length:=⟨_,rfl⟩
   rw [<-hln] at e1 f1
   have HLN:=Lib.hid hln
   clear hln
   by_cases hne:ln=m.length
   ·subst hne
    go_wp2
    refine ⟨⟨k+1,by omega,by go_num,Lib.hid fun i hi=>?_⟩,by simp [intOf]<;>omega⟩
    rcases Nat.lt_or_ge i k with h |h
    ·exact hR.out i h
    ·obtain rfl:i=k:=by omega
     exact HLN.out.symm
   ·have hb:((ln:Int) !=(m.length:Int))=true:=by simp;omega
    have HF:=Lib.hid (isSmallB_false (h:=m) (fun hh=>hne (by rw [HLN.out];exact hh.2.2.1 k hlt)))
    clear hne
    go_wp2
    go_ret
    exact ⟨by rw [HF.out];rfl,rfl⟩
  ·obtain rfl:k=m.length:=by omega
   clear hlt
   go_wp2
   go_loop [6,7,8,9,31] (fun _ _ _ _ i=>∃k:Nat,k<=m.length/\i= .int .i64 k/\Hid (∀i,i<k->∀j,j<m.length->ent m i j=ent m j i/\-262144<ent m i j/\ent m i j<262144)) (fun _ _ _ _ i=>m.length-(intOf i).toNat)
   case atStart=>exact ⟨0,by omega,rfl,Lib.hid (fun i hi=>absurd hi (by omega))⟩
   case round=>
    obtain ⟨k,hk,rfl,hE⟩:=hrel
    by_cases hlt:k<m.length
    ·obtain ⟨b,o,B,c1,rfl,e1,f1,f2,f3⟩:=h0.row_ hlt
     rw [hR.out k hlt] at e1 f1
     go_wp2
     go_loop [8,9,38] (fun _ _ i=>∃q:Nat,q<=m.length/\i= .int .i64 q/\Hid (∀j,j<q->ent m k j=ent m j k/\-262144<ent m k j/\ent m k j<262144)) (fun _ _ i=>m.length-(intOf i).toNat)
     case atStart=>exact ⟨0,by omega,rfl,Lib.hid (fun i hi=>absurd hi (by omega))⟩
     case round=>
      obtain ⟨q,hq,rfl,hQ⟩:=hrel
      by_cases hqt:q<m.length
      ·obtain ⟨b',o',b1,o1,c2,hA,g1,g2,g3,g4,g5,g6⟩:=h0.ent_ (i:=k) (j:=q) hlt (hR.out k hlt) hqt
       injection hA with hA
       injection hA with x1 x2
       subst x1 x2
       rw [e1] at g1
       injection g1 with g1
       injection g1 with x1 x2 x3
       subst x1 x3
       obtain ⟨b',o',b2,o2,c3,hA,p1,p2,p3,p4,p5,p6⟩:=h0.ent_ (i:=q) (j:=k) hqt (hR.out q hqt) hlt
       injection hA with hA
       injection hA with x1 x2
       subst x1 x2
       obtain ⟨x,ex⟩:∃x,x=ent m k q:=⟨_,rfl⟩
       obtain ⟨y,ey⟩:∃y,y=ent m q k:=⟨_,rfl⟩
       rw [<-ex] at g2
       rw [<-ey] at p2
       have EX:=Lib.hid ex
       have EY:=Lib.hid ey
       clear ex ey
       by_cases hxy:x=y
       ·subst hxy
        by_cases hlo:x<=-262144
        ·have HF:=Lib.hid (isSmallB_false (h:=m) (fun hh=>by have :=(hh.2.2.2 k hlt q hqt).2.1;rw [<-EX.out] at this;omega))
         have hlob:decide (x<=-262144)=true:=by simpa using hlo
         go_wp2
         go_ret
         exact ⟨by rw [HF.out];rfl,rfl⟩
        ·have hlob:decide (x<=-262144)=false:=by simp;omega
         by_cases hhi:262144<=x
         ·have HF:=Lib.hid (isSmallB_false (h:=m) (fun hh=>by have :=(hh.2.2.2 k hlt q hqt).2.2;rw [<-EX.out] at this;omega))
          have hhib:decide (262144<=x)=true:=by simpa using hhi
          clear hlo
          go_wp2
          go_ret
          exact ⟨by rw [HF.out];rfl,rfl⟩
         ·have hhib:decide (262144<=x)=false:=by simp;omega
          have hx1:-262144<x:=by omega
          have hx2:x<262144:=by omega
          clear hlo hhi
          go_wp2
          refine ⟨⟨q+1,by omega,by go_num,Lib.hid fun j hj=>?_⟩,by simp [intOf]<;>omega⟩
          rcases Nat.lt_or_ge j q with h |h
          ·exact hQ.out j h
          ·obtain rfl:j=q:=by omega
           rw [<-EX.out,<-EY.out]
           exact ⟨rfl,hx1,hx2⟩
       ·have hb:(x !=y)=true:=by simp [hxy]
        have HF:=Lib.hid (isSmallB_false (h:=m) (fun hh=>by have :=(hh.2.2.2 k hlt q hqt).1;rw [<-EX.out,<-EY.out] at this;exact hxy this))
        clear hxy
        go_wp2
        go_ret
        exact ⟨by rw [HF.out];rfl,rfl⟩
      ·obtain rfl:q=m.length:=by omega
       clear hqt
       go_wp2
       refine ⟨⟨k+1,by omega,by go_num,Lib.hid fun i hi=>?_⟩,by simp [intOf]<;>omega⟩
       rcases Nat.lt_or_ge i k with h |h
       ·exact hE.out i h
       ·obtain rfl:i=k:=by omega
        exact hQ.out
    ·obtain rfl:k=m.length:=by omega
     have HF:=Lib.hid (isSmallB_true (h:=m) ⟨h1,h8,hR.out,hE.out⟩)
     clear hlt
     go_wp2
     go_ret
     exact ⟨by rw [HF.out];rfl,rfl⟩
theorem AllLen.at_ {m:List (List Int)} {n:Nat} (hn:AllLen m n) {i:Nat} (hi:i<m.length):(m.getD i []).length=n:=by
 have :m.getD i []=m[i]:=by simp [List.getD,hi]
 rw [this];exact hn _ (List.getElem_mem hi)
def shortB (m:List (List Int)):Bool:=decide (0<ent m 0 0/\ent m 0 0<65536/\∀i,i<m.length->1<=i->2*ent m i 0<=ent m 0 0/\-2*ent m i 0<=ent m 0 0)
theorem shortB_false {h:List (List Int)} (hh:¬(0<ent h 0 0/\ent h 0 0<65536/\∀i,i<h.length->1<=i->2*ent h i 0<=ent h 0 0/\-2*ent h i 0<=ent h 0 0)):shortB h=false:=decide_eq_false hh
theorem shortB_true {h:List (List Int)} (hh:0<ent h 0 0/\ent h 0 0<65536/\∀i,i<h.length->1<=i->2*ent h i 0<=ent h 0 0/\-2*ent h i 0<=ent h 0 0):shortB h=true:=decide_eq_true hh
def Below40 (m:List (List Int)):Prop:=∀i,i<m.length->∀j,j<m.length->-1099511627776<=ent m i j/\ent m i j<=1099511627776
set_option maxRecDepth 10000 in
theorem isShortened_any {w0 w:World} {A:Option Addr} {c:Nat} {m:List (List Int)} (h:MatA w0 A m) (h1:2<=m.length) (h8:m.length<=8) (hc:m.length<=c) (hc2:c<=9223372036854775807) (hn:AllLen m m.length) (hB:Below40 m) [hx:Ext w0 w]:
  Calls Tryz.prog 170 #[.slice A m.length c] w (RetSame w (.bool (shortB m))):=by
 have h0:=h.ext hx
 have hcne:c≠1:=by omega
 obtain ⟨b,o,b1,o1,c1,rfl,e1,e2,f1,f2,f3,f4⟩:=h0.ent_ (i:=0) (j:=0) (n:=m.length) (by omega) (hn.at_ (by omega)) (by omega)
 have hb0:=hB 0 (by omega) 0 (by omega)
 obtain ⟨d,hd⟩:∃d,d=ent m 0 0:=⟨_,rfl⟩
 rw [<-hd] at e2 hb0
 simp only [Nat.add_zero] at e1 e2
 have HD:=Lib.hid hd
 clear hd
 by_cases hz:d<=0
 ·have HF:=Lib.hid (shortB_false (h:=m) (fun hh=>by have :=hh.1;rw [<-HD.out] at this;omega))
  have hd1:decide (d<=0)=true:=by simpa using hz
  clear hz
  go_enter Tryz.func170,Tryz.ntmps170
  go_wp2
  go_ret
  exact ⟨by rw [HF.out];rfl,rfl⟩
 have hd1:decide (d<=0)=false:=by simp;omega
 by_cases hg:65536<=d
 ·have HF:=Lib.hid (shortB_false (h:=m) (fun hh=>by have :=hh.2.1;rw [<-HD.out] at this;omega))
  have hd2:decide (65536<=d)=true:=by simpa using hg
  clear hg hz
  go_enter Tryz.func170,Tryz.ntmps170
  go_wp2
  go_ret
  exact ⟨by rw [HF.out];rfl,rfl⟩
 have hd2:decide (65536<=d)=false:=by simp;omega
 have hd3:0<d:=by omega
 have hd4:d<65536:=by omega
 clear hz hg
 go_enter Tryz.func170,Tryz.ntmps170
 go_wp2
 go_loop [5,20] (fun _ i=>∃k:Nat,k+1<=m.length/\i= .int .i64 k/\Hid (∀i,1<=i->i<k+1->2*ent m i 0<=ent m 0 0/\-2*ent m i 0<=ent m 0 0)) (fun _ i=>m.length-(intOf i).toNat)
 case atStart=>exact ⟨0,by omega,rfl,Lib.hid (fun i hi hi2=>absurd hi2 (by omega))⟩
 case round=>
  obtain ⟨k,hk,rfl,hR⟩:=hrel
  by_cases hlt:k+1<m.length
  ·obtain ⟨b',o',b2,o2,c2,hA,g1,g2,g3,g4,g5,g6⟩:=h0.ent_ (i:=k+1) (j:=0) (n:=m.length) hlt (hn.at_ hlt) (by omega)
   injection hA with hA
   injection hA with x1 x2
   subst x1 x2
   have hbk:=hB (k+1) hlt 0 (by omega)
   obtain ⟨x,ex⟩:∃x,x=ent m (k+1) 0:=⟨_,rfl⟩
   rw [<-ex] at g2 hbk
   rw [show o+(k+1)=o+1+k by omega] at g1
   simp only [Nat.add_zero] at g2
   have EX:=Lib.hid ex
   clear ex
   by_cases hlo:d<2*x
   ·have HF:=Lib.hid (shortB_false (h:=m) (fun hh=>by have :=(hh.2.2 (k+1) hlt (by omega)).1;rw [<-HD.out,<-EX.out] at this;omega))
    have hlob:decide (d<2*x)=true:=by simpa using hlo
    clear hlo
    go_wp2
    go_ret
    exact ⟨by rw [HF.out];rfl,rfl⟩
   ·have hlob:decide (d<2*x)=false:=by simp;omega
    by_cases hhi:d< -2*x
    ·have HF:=Lib.hid (shortB_false (h:=m) (fun hh=>by have :=(hh.2.2 (k+1) hlt (by omega)).2;rw [<-HD.out,<-EX.out] at this;omega))
     have hhib:decide (d< -2*x)=true:=by simpa using hhi
     clear hlo hhi
     go_wp2
     go_ret
     exact ⟨by rw [HF.out];rfl,rfl⟩
    ·have hhib:decide (d< -2*x)=false:=by simp;omega
     have HX:=Lib.hid hlo
     have HY:=Lib.hid hhi
     clear hlo hhi
     go_wp2
     refine ⟨⟨k+1,by omega,by go_num,Lib.hid fun i hi1 hi2=>?_⟩,by simp [intOf]<;>omega⟩
     rcases Nat.lt_or_ge i (k+1) with h |h
     ·exact hR.out i hi1 h
     ·obtain rfl:i=k+1:=by omega
      have :=HX.out
      have :=HY.out
      rw [<-HD.out,<-EX.out]
      omega
  ·obtain rfl:k=m.length-1:=by omega
   have HF:=Lib.hid (shortB_true (h:=m) ⟨by rw [<-HD.out];exact hd3,by rw [<-HD.out];exact hd4,fun i hi1 hi2=>hR.out i hi2 (by omega)⟩)
   clear hlt
   go_wp2
   go_ret
   exact ⟨by rw [HF.out];rfl,rfl⟩
def nextT (last:Int) (m:List (List Int)):List (List Int):=tab (fun i j=>Int.tdiv (ent m 0 0*ent m (i+1) (j+1)-ent m (i+1) 0*ent m 0 (j+1)) last) (m.length-1) (m.length-1)
def redGo:Nat->Int->List (List Int)->Bool
 |0,_,m=>decide (0<ent m 0 0/\ent m 0 0<=10000)
 |k+1,last,m=>shortB m&&(!decide (4*(last*ent (nextT last m) 0 0+ent m 1 0*ent m 1 0)<3*ent m 0 0*ent m 0 0)&&redGo k (ent m 0 0) (nextT last m))
def isRedB (h:List (List Int)):Bool:=isSmallB h&&redGo (h.length-1) 1 h
theorem ent_tab (F:Nat->Nat->Int) (r c i j:Nat) (hi:i<r) (hj:j<c):ent (tab F r c) i j=F i j:=by
 simp [ent,tab,hi,hj]
structure SInv (last:Int) (m:List (List Int)):Prop where
 len1:1<=m.length
 len8:m.length<=8
 all:AllLen m m.length
 sym:∀i,i<m.length->∀j,j<m.length->ent m i j=ent m j i
 bound:∀i,i<m.length->∀j,j<m.length->-((393216-16384*(m.length:Int))*last)<=ent m i j/\ent m i j<=(393216-16384*(m.length:Int))*last
 lp:0<last
 ll:last<65536
theorem SInv.start {h:List (List Int)} (hh:isSmallB h=true):SInv 1 h:=by
 have hs:=of_decide_eq_true hh
 refine ⟨hs.1,hs.2.1,fun r hr=>?_,fun i hi j hj=>(hs.2.2.2 i hi j hj).1,fun i hi j hj=>?_,by omega,by omega⟩
 ·obtain ⟨i,hi,rfl⟩:=List.getElem_of_mem hr
  have :=hs.2.2.1 i hi
  simpa [List.getD,hi] using this
 ·have h1:=(hs.2.2.2 i hi j hj).2
  have h2:=hs.2.1
  omega
theorem SInv.b40 {last:Int} {m:List (List Int)} (h:SInv last m):Below40 m:=fun i hi j hj=>by
 have hb:=h.bound i hi j hj
 have h1:(393216-16384*(m.length:Int))*last<=393216*65536:=Int.mul_le_mul (by omega) (by have :=h.ll;omega) (by have :=h.lp;omega) (by omega)
 omega
theorem abs_tdiv_le {X l K:Int} (hl:0<l) (h1:-(K*l)<=X) (h2:X<=K*l):-K<=X.tdiv l/\X.tdiv l<=K:=by
 rw [tdiv_eq_if]
 split
 ·have a:=Int.ediv_le_of_le_mul hl h2
  have b:=Int.ediv_nonneg (a:=X) (b:=l) (by omega) (by omega)
  have :0<=K:=by
   rcases (by omega:K<0∨0<=K) with h |h
   ·have :=Int.mul_neg_of_neg_of_pos h hl;omega
   ·exact h
  omega
 ·have a:=Int.ediv_le_of_le_mul hl (show-X<=K*l by omega)
  have b:=Int.ediv_nonneg (a:=-X) (b:=l) (by omega) (by omega)
  have :0<=K:=by
   rcases (by omega:K<0∨0<=K) with h |h
   ·have :=Int.mul_neg_of_neg_of_pos h hl;omega
   ·exact h
  omega
theorem mul_bound {a b d:Int} (h1:2*a<=d) (h2:-2*a<=d) (h3:2*b<=d) (h4:-2*b<=d):-(d*d)<=4*(a*b)/\4*(a*b)<=d*d:=by
 have p1:0<=(d-2*a)*(d+2*b):=Int.mul_nonneg (by omega) (by omega)
 have p2:0<=(d+2*a)*(d-2*b):=Int.mul_nonneg (by omega) (by omega)
 have p3:0<=(d-2*a)*(d-2*b):=Int.mul_nonneg (by omega) (by omega)
 have p4:0<=(d+2*a)*(d+2*b):=Int.mul_nonneg (by omega) (by omega)
 simp only [Int.sub_mul,Int.add_mul,Int.mul_sub,Int.mul_add] at p1 p2 p3 p4
 have e1:2*a*(2*b)=4*(a*b):=by rw [Int.mul_assoc,Int.mul_left_comm a 2 b,<-Int.mul_assoc];rfl
 have e2:d*(2*b)=2*(d*b):=by rw [Int.mul_left_comm]
 have e3:2*a*d=2*(a*d):=by rw [Int.mul_assoc]
 rw [e1,e2,e3] at p1 p2 p3 p4
 omega
theorem nums_plain {d a b x B last:Int} (hd0:0<d) (hd1:d<65536) (ha:2*a<=d/\-2*a<=d) (hb:2*b<=d/\-2*b<=d) (hx:-(B*last)<=x/\x<=B*last) (hlp:0<last) (hll:last<65536) (hB0:0<=B) (hB2:B<=376832):
  -((B+16384)*d*last)<=d*x-a*b/\d*x-a*b<=(B+16384)*d*last/\-4294967296<=a*b/\a*b<=4294967296/\-(4503599627370496)<=d*x/\d*x<=4503599627370496:=by
 have hm:=mul_bound ha.1 ha.2 hb.1 hb.2
 have hdd:d*d<=65536*d:=Int.mul_le_mul_of_nonneg_right (by omega) (by omega)
 have hdl:d<=d*last:=by
  have :=Int.mul_le_mul_of_nonneg_left (a:=1) (b:=last) (c:=d) (by omega) (by omega)
  omega
 have q1:d*x<=d*(B*last):=Int.mul_le_mul_of_nonneg_left hx.2 (by omega)
 have q2:d*-(B*last)<=d*x:=Int.mul_le_mul_of_nonneg_left hx.1 (by omega)
 have e1:(B+16384)*d*last=d*(B*last)+16384*(d*last):=by
  rw [Int.mul_assoc,Int.add_mul,Int.mul_left_comm d B last]
 have hBl:B*last<=376832*65536:=Int.mul_le_mul hB2 (by omega) (by omega) (by omega)
 have q3:d*(B*last)<=65536*(376832*65536):=Int.mul_le_mul (by omega) hBl (Int.mul_nonneg hB0 (by omega)) (by omega)
 rw [Int.mul_neg] at q2
 rw [e1]
 omega
theorem SInv.nums {last:Int} {m:List (List Int)} (h:SInv last m) (hs:shortB m=true) {i j:Nat} (hi:i+1<m.length) (hj:j+1<m.length):
  -((409600-16384*(m.length:Int))*ent m 0 0*last)<=ent m 0 0*ent m (i+1) (j+1)-ent m (i+1) 0*ent m 0 (j+1)/\ent m 0 0*ent m (i+1) (j+1)-ent m (i+1) 0*ent m 0 (j+1)<=(409600-16384*(m.length:Int))*ent m 0 0*last/\
  -4294967296<=ent m (i+1) 0*ent m 0 (j+1)/\ent m (i+1) 0*ent m 0 (j+1)<=4294967296/\-(4503599627370496)<=ent m 0 0*ent m (i+1) (j+1)/\ent m 0 0*ent m (i+1) (j+1)<=4503599627370496:=by
 have hsh:=of_decide_eq_true hs
 obtain ⟨hd0,hd1,hcol⟩:=hsh
 have ha:=hcol (i+1) hi (by omega)
 have hb:=hcol (j+1) hj (by omega)
 rw [<-h.sym 0 (by omega) (j+1) hj] at hb
 rw [show (409600-16384*(m.length:Int))=(393216-16384*(m.length:Int))+16384 by omega]
 have hl8:=h.len8
 have hl1:=h.len1
 exact nums_plain hd0 hd1 ha hb (h.bound (i+1) hi (j+1) hj) h.lp h.ll (by omega) (by omega)
theorem SInv.next {last:Int} {m:List (List Int)} (h:SInv last m) (h2:2<=m.length) (hs:shortB m=true):SInv (ent m 0 0) (nextT last m):=by
 have hsh:=of_decide_eq_true hs
 have hl:(nextT last m).length=m.length-1:=tab_length _ _ _
 refine ⟨by omega,by have :=h.len8;omega,by rw [hl];exact tab_allLen _ _ _,fun i hi j hj=>?_,fun i hi j hj=>?_,hsh.1,hsh.2.1⟩
 ·rw [hl] at hi hj
  unfold nextT
  rw [ent_tab _ _ _ _ _ hi hj,ent_tab _ _ _ _ _ hj hi,h.sym (i+1) (by omega) (j+1) (by omega),h.sym (i+1) (by omega) 0 (by omega),h.sym 0 (by omega) (j+1) (by omega),Int.mul_comm (ent m 0 (i+1))]
 ·rw [hl] at hi hj
  have hn:=h.nums hs (i:=i) (j:=j) (by omega) (by omega)
  rw [hl]
  unfold nextT
  rw [ent_tab _ _ _ _ _ hi hj]
  have :=abs_tdiv_le h.lp hn.1 hn.2.1
  rw [show (393216-16384*((m.length-1:Nat):Int))=409600-16384*(m.length:Int) by omega]
  exact this
def lenOf:Value->Nat
 | .slice _ n _=>n
 |_=>0
theorem isRedB_small {h:List (List Int)} (hs:isSmallB h=false):isRedB h=false:=by simp [isRedB,hs]
theorem isRedB_go {h:List (List Int)} (hs:isSmallB h=true):isRedB h=redGo (h.length-1) 1 h:=by simp [isRedB,hs]
theorem MatA.rowAt {w:World} {A:Option Addr} {m:List (List Int)} (h:MatA w A m) {i n:Nat} (hi:i<m.length) (hl:(m.getD i []).length=n) (hn:0<n):
  ∃b o b1 o1 c,A=some ⟨b,o,none⟩/\n<=c/\c<=9223372036854775807/\∀w',Ext w w'->w'.cell? ⟨b,o+i,none⟩=some (.slice (some ⟨b1,o1,none⟩) n c)/\b<w'.heap.size/\b1<w'.heap.size/\∀j,j<n->w'.cell? ⟨b1,o1+j,none⟩=some (.int .i64 (ent m i j)):=by
 have hr:m[i]? =some m[i]:=by simp
 have hl':m[i].length=n:=by simpa [List.getD,hi] using hl
 obtain ⟨b,o,B0,c,hA,hc,hI,h1,h2,hb⟩:=h.at_ hr
 rw [hl'] at hc h1
 obtain ⟨b1,o1,x0,rfl,-,-,hb1⟩:=hI.at_ (i:=0) (by omega)
 refine ⟨b,o,b1,o1,c,hA,h1,h2,fun w' hx=>⟨?_,Nat.lt_of_lt_of_le hb hx.size,Nat.lt_of_lt_of_le hb1 hx.size,fun j hj=>?_⟩⟩
 ·rw [hx.below.cell (p:=⟨b,o+i,none⟩) hb];exact hc
 ·obtain ⟨b2,o2,x,hB,hx2,hcell,-⟩:=hI.at_ (i:=j) (by omega)
  injection hB with hB
  injection hB with e1 e2
  subst e1 e2
  have he:ent m i j=x:=ent_of hr hx2
  rw [he,hx.below.cell (p:=⟨b1,o1+j,none⟩) hb1];exact hcell
theorem SInv.at0 {last:Int} {m:List (List Int)} (h:SInv last m) {n i:Nat} (hn:n=m.length) (hi:i<n):(m.getD i []).length=n:=by
 rw [hn];exact h.all.at_ (by omega)
theorem Heads1.full {w:World} {G:Nat} {F:Nat->Nat->Int} {rows cols:Nat} (hc:cols<=9223372036854775807) (h:Heads1 w G F rows cols rows):Mat64 w (some ⟨G,0,none⟩) (tab F rows cols):=by
 obtain ⟨hd,v1,v2,v3,v4⟩:=h
 refine ⟨hd,by rw [v2,tab_length],v1.arr,fun i r hr=>?_⟩
 have hi:i<rows:=by
  rcases Nat.lt_or_ge i rows with hi |hi
  ·exact hi
  ·rw [List.getElem?_eq_none (by rw [tab_length];exact hi)] at hr;cases hr
 rw [tab_get _ _ _ _ hi] at hr
 injection hr with hr
 subst hr
 obtain ⟨B,b1,b2⟩:=v3 i hi
 exact ⟨B,cols,by simpa using b1,b2,by simp,hc⟩
theorem redGo_short {k:Nat} {last:Int} {m:List (List Int)} (h:shortB m=false):redGo (k+1) last m=false:=by simp [redGo,h]
theorem redGo_bad {k:Nat} {last:Int} {m:List (List Int)} (h:decide (4*(last*ent (nextT last m) 0 0+ent m 1 0*ent m 1 0)<3*ent m 0 0*ent m 0 0)=true):redGo (k+1) last m=false:=by simp only [redGo,h,Bool.not_true,Bool.false_and,Bool.and_false]
theorem redGo_on {k:Nat} {last:Int} {m:List (List Int)} (hs:shortB m=true) (h:decide (4*(last*ent (nextT last m) 0 0+ent m 1 0*ent m 1 0)<3*ent m 0 0*ent m 0 0)=false):redGo (k+1) last m=redGo k (ent m 0 0) (nextT last m):=by simp only [redGo,hs,h,Bool.not_false,Bool.true_and]
set_option maxRecDepth 10000 in
theorem IsReduced_any {w0 w:World} {A:Option Addr} {c:Nat} {m:List (List Int)} (h:MatA w0 A m) (hlen:m.length<=1099511627776) (hc:m.length<=c) (hc2:c<=9223372036854775807) [hx:Ext w0 w]:
  Calls Tryz.prog 100 #[.slice A m.length c] w (RetVal w (.bool (isRedB m))):=by
 have h0:=h.ext hx
 cases hs:isSmallB m
 ·have HF:=Lib.hid (isRedB_small hs)
  go_enter Tryz.func100,Tryz.ntmps100
  go_wp2_with fail
  refine (isSmall_any h hlen).mono ?_
  rintro e w' ⟨rfl,rfl⟩
  rw [hs]
  go_wp2
  go_ret
  exact ⟨by rw [HF.out];rfl,Step.of _ _⟩
 have HR:=Lib.hid (isRedB_go hs)
 have HI:=Lib.hid (SInv.start hs)
 go_enter Tryz.func100,Tryz.ntmps100
 go_wp2_with fail
 refine (isSmall_any h hlen).mono ?_
 rintro e w' ⟨rfl,rfl⟩
 rw [hs]
 clear hs
 go_wp2
 go_loopw [3,4,5,6,7,8,9,10] (fun s l _ _ _ _ _ _ wr=>∃A1 c1 m1 last,s= .slice A1 m1.length c1/\l= .int .i64 last/\MatA wr A1 m1/\m1.length<=c1/\c1<=9223372036854775807/\Hid (SInv last m1)/\Hid (isRedB m=redGo (m1.length-1) last m1)/\Ext w wr) (fun s _ _ _ _ _ _ _ _=>lenOf s)
 case atStart=>exact ⟨_,_,m,1,rfl,rfl,h0,hc,hc2,HI,HR,inferInstance⟩
 case round=>
  obtain ⟨A1,c1,m1,last,rfl,rfl,hm,k1,k2,hI,hR,hxr⟩:=hrel
  clear h0 h hc hc2 HI HR hlen hx
  obtain ⟨wo,rfl⟩:∃wo:World,wo=wr:=⟨_,rfl⟩
  have hl1:=hI.out.len1
  have hl8:=hI.out.len8
  obtain ⟨n,hn⟩:∃n,n=m1.length:=⟨_,rfl⟩
  by_cases hlt:2<=n
  ·obtain ⟨b,o,b1,o1,c2,rfl,f1,f2,E1⟩:=hm.rowAt (i:=0) (n:=n) (by omega) (hI.out.at0 hn (by omega)) (by omega)
   obtain ⟨e1,f3,f4,e2'⟩:=E1 wo inferInstance
   have e2:=e2' 0 (by omega)
   clear e2'
   have HE1:=Lib.hid E1
   clear E1
   obtain ⟨r,rfl⟩:∃r,n=r+1:=⟨n-1,by omega⟩
   have hdb:=hI.out.b40 0 (by omega) 0 (by omega)
   have hcall:=isShortened_any (w:=wo) hm (c:=c1) (by omega) (by omega) k1 k2 hI.out.all hI.out.b40
   have hcut:m1.length-1=(r-1)+1:=by omega
   rw [hcut] at hR
   rw [<-hn] at hcall k1
   rw [<-hn]
   obtain ⟨d,hd⟩:∃d,d=ent m1 0 0:=⟨_,rfl⟩
   rw [<-hd] at e2 hdb
   simp only [Nat.add_zero] at e1 e2
   have HN:=Lib.hid hn
   have HD:=Lib.hid hd
   clear hn hd hl1 hcut
   have hr1:1<=r:=by omega
   have hr8:r<=7:=by have :=HN.out;omega
   clear hl8 hlt
   have HC:=Lib.hid hcall
   clear hcall
   cases hsh:shortB m1
   ·have HV:=Lib.hid (hR.out.trans (redGo_short hsh))
    rw [hsh] at HC
    clear hR hI hsh
    go_wp2_with fail
    refine HC.out.mono ?_
    rintro e w' ⟨rfl,rfl⟩
    go_wp2
    go_ret
    exact ⟨by rw [HV.out];rfl,Step.of _ _⟩
   rw [hsh] at HC
   have HS:=Lib.hid hsh
   clear hsh
   have hmk:=run_make_any (P:=Tryz.prog) Tryz.underlying25 infoSlI64 (by omega) (r:Int) (by omega) (by omega)
   have hmk2:=run_make_any (P:=Tryz.prog) Tryz.underlying35 infoI64 (by omega) (r:Int) (by omega) (by omega)
   go_wp2_with fail
   refine HC.out.mono ?_
   rintro e w' ⟨rfl,rfl⟩
   go_wp2
   obtain ⟨F,hF⟩:∃F:Nat->Nat->Int,F=fun i j=>Int.tdiv (ent m1 0 0*ent m1 (i+1) (j+1)-ent m1 (i+1) 0*ent m1 0 (j+1)) last:=⟨_,rfl⟩
   have HF:=Lib.hid hF
   clear hF
   go_loopw [7,8,9,32] (fun _ _ _ i wr=>∃k:Nat,k<=r/\i= .int .i64 k/\Heads1 wr wo.heap.size F r r k/\Ext wo wr) (fun _ _ _ i _=>r-(intOf i).toNat)
   case atStart=>exact ⟨0,by omega,rfl,by simpa using Heads1.made wo F r r,inferInstance⟩
   case round=>
    obtain ⟨k,hk,rfl,hH,hxk⟩:=hrel
    by_cases hlt':k<r
    ·obtain ⟨hd,v1,v2,v3,v4⟩:=hH
     have hc1:=v1.cell (v4 k (Nat.le_refl _) hlt')
     have hc2:=v1.frozen k
     have hsz:=v1.lt
     obtain ⟨wi,rfl⟩:∃wi:World,wi=wr:=⟨_,rfl⟩
     have V2:=Lib.hid v2
     have V3:=Lib.hid v3
     have V4:=Lib.hid v4
     clear v2 v3 v4
     obtain ⟨b',o',b2,o2,c3,hA,g3,g4,G1⟩:=hm.rowAt (i:=k+1) (n:=r+1) (by have :=HN.out;omega) (hI.out.at0 HN.out (by omega)) (by omega)
     injection hA with hA
     injection hA with x1 x2
     subst x1 x2
     obtain ⟨g1,g5,g6,-⟩:=G1 wi hxk
     have HG1:=Lib.hid G1
     clear G1
     go_wp2
     go_loopw [9,48] (fun _ j wr=>∃q:Nat,q<=r/\j= .int .i64 q/\Grow wo.heap.size 35 wi wr/\VRow wr wo.heap.size 35 (hd.set k (.slice (some ⟨wi.heap.size,0,none⟩) r r))/\Cells1 wr wi.heap.size (F k) r q/\Ext wo wr) (fun _ j _=>r-(intOf j).toNat)
     case atStart=>
      refine ⟨0,by omega,rfl,?_,?_,?_,?_⟩
      ·exact ((Grow.refl _ _ _).setOld (p:=⟨wo.heap.size,k,none⟩) v1 (Nat.le_refl _) rfl _).alloc hxk.size _
      ·exact (v1.set _ _).ext inferInstance
      ·have :=Cells1.made (wi.setCell ⟨wo.heap.size,k,none⟩ (.slice (some ⟨wi.heap.size,0,none⟩) r r)) (F k) r
       rw [size_setCell,Nat.mul_one] at this;exact this
      ·exact inferInstance
     case round=>
      obtain ⟨q,hq,rfl,hG,hV,hC,hxq⟩:=hrel
      by_cases hlt:q<r
      ·have hkl:k<hd.length:=by have :=V2.out;omega
       have hrow:wr.cell? ⟨wo.heap.size,k,none⟩=some (.slice (some ⟨wi.heap.size,0,none⟩) r r):=hV.cell (by rw [List.getElem?_set_self hkl])
       obtain ⟨q1,q2,q3⟩:=hC.cells hlt
       obtain ⟨p1,p2,p3,p4⟩:=HE1.out wr hxq
       obtain ⟨t1,t2,t3,t4⟩:=HG1.out wr hxq
       have p5:=p4 (q+1) (by omega)
       have t5:=t4 (q+1) (by omega)
       have t6:=t4 0 (by omega)
       clear p4 t4
       have hnum:=hI.out.nums HS.out (i:=k) (j:=q) (by have :=HN.out;omega) (by have :=HN.out;omega)
       have hFk:Hid (F k q=Int.tdiv (ent m1 0 0*ent m1 (k+1) (q+1)-ent m1 (k+1) 0*ent m1 0 (q+1)) last):=Lib.hid (by rw [HF.out])
       rw [<-HD.out] at hnum hFk
       obtain ⟨y,hy⟩:∃y,y=ent m1 (k+1) (q+1):=⟨_,rfl⟩
       obtain ⟨a,ha⟩:∃a,a=ent m1 (k+1) 0:=⟨_,rfl⟩
       obtain ⟨z,hz⟩:∃z,z=ent m1 0 (q+1):=⟨_,rfl⟩
       rw [<-hy,<-ha,<-hz] at hnum hFk
       rw [<-hz] at p5
       rw [<-hy] at t5
       rw [<-ha] at t6
       simp only [Nat.add_zero] at t6 p1
       obtain ⟨-,-,n1,n2,n3,n4⟩:=hnum
       have hlp:1<=last:=hI.out.lp
       have hll:=hI.out.ll
       clear hy ha hz
       have hne:wo.heap.size≠wi.heap.size:=by omega
       have hself:(hd.set k (.slice (some ⟨wi.heap.size,0,none⟩) r r))[k]? =some (.slice (some ⟨wi.heap.size,0,none⟩) r r):=by rw [List.getElem?_set_self hkl]
       have HNE:=Lib.hid hne
       have HSE:=Lib.hid hself
       clear hne hself
       go_wp2
       go_region
       rw [<-hFk.out]
       go_wp2
       refine ⟨⟨q+1,by omega,by go_num,?_,?_,?_,?_⟩,by simp [intOf]<;>omega⟩
       ·exact (hG.trans (inferInstance:Ext wr wr.drew) hxk.size).setNew (p:=⟨wi.heap.size,q,none⟩) (Nat.le_refl _) hxk.size _
       ·exact (hV.ext (inferInstance:Ext wr wr.drew)).far (p:=⟨wi.heap.size,q,none⟩) HNE.out _
       ·exact (hC.ext (inferInstance:Ext wr wr.drew)).put hlt
       ·exact (inferInstance:Ext wo wr.drew).setCell (p:=⟨wi.heap.size,q,none⟩) hxk.size _
      ·obtain rfl:q=r:=by omega
       have hrowk:=Lib.hid hC.full
       go_wp2
       refine ⟨⟨k+1,by omega,by go_num,⟨_,hV,by rw [List.length_set];exact V2.out,fun i hi=>?_,fun i hi1 hi2=>?_⟩,hxq⟩,by simp [intOf]<;>omega⟩
       ·have hkl:k<hd.length:=by have :=V2.out;omega
        rcases Nat.lt_or_ge i k with h |h
        ·obtain ⟨B,y1,y2⟩:=V3.out i h
         exact ⟨B,by rw [List.getElem?_set_ne (by omega)];exact y1,y2.grow hG (by decide)⟩
        ·obtain rfl:i=k:=by omega
         exact ⟨_,by rw [List.getElem?_set_self hkl],hrowk.out⟩
       ·rw [List.getElem?_set_ne (by omega)];exact V4.out i (by omega) hi2
    ·obtain rfl:k=r:=by omega
     clear hlt'
     have hNx:tab F k k=nextT last m1:=by
      unfold nextT
      rw [HF.out,<-HN.out];rfl
     have hNM:=(hH.full (by omega)).a
     rw [hNx] at hNM
     have hINx:=Lib.hid (hI.out.next (by have :=HN.out;omega) HS.out)
     have hlenN:(nextT last m1).length=k:=by rw [<-hNx,tab_length]
     obtain ⟨b',o',b3,o3,c4,hA,g3,g4,G1⟩:=hNM.rowAt (i:=0) (n:=k) (by omega) (hINx.out.at0 hlenN.symm (by omega)) (by omega)
     injection hA with hA
     injection hA with x1 x2
     subst x1 x2
     obtain ⟨g1,g5,g6,g7⟩:=G1 wr inferInstance
     have g8:=g7 0 (by omega)
     clear g7 G1
     obtain ⟨b',o',b2,o2,c3,hA,y3,y4,G1⟩:=hm.rowAt (i:=1) (n:=k+1) (by have :=HN.out;omega) (hI.out.at0 HN.out (by omega)) (by omega)
     injection hA with hA
     injection hA with x1 x2
     subst x1 x2
     obtain ⟨y1,y5,y6,y7⟩:=G1 wr hxk
     have y8:=y7 0 (by omega)
     clear y7 G1
     have hxb:=hINx.out.bound 0 (by omega) 0 (by omega)
     have hsh:=of_decide_eq_true HS.out
     have hla:=hsh.2.2 1 (by have :=HN.out;omega) (by omega)
     have hd0:=hsh.1
     have hd1:=hsh.2.1
     have hon:=fun h=>hR.out.trans (redGo_on HS.out h)
     have hbad:=fun h=>hR.out.trans (redGo_bad h)
     clear hR
     rw [hlenN] at hxb
     rw [<-HD.out] at hxb hla hd0 hd1 hon hbad
     simp only [Nat.add_zero] at g1 g8 y8
     obtain ⟨x,ex⟩:∃x,x=ent (nextT last m1) 0 0:=⟨_,rfl⟩
     obtain ⟨z,ez⟩:∃z,z=ent m1 1 0:=⟨_,rfl⟩
     rw [<-ex] at hxb hon hbad g8
     rw [<-ez] at hla hon hbad y8
     have hlp:1<=last:=hI.out.lp
     have hll:=hI.out.ll
     have hzz:=mul_bound hla.1 hla.2 hla.1 hla.2
     have hdd:d*d<=65536*65536:=Int.mul_le_mul (by omega) (by omega) (by omega) (by omega)
     have hKd:(393216-16384*(k:Int))*d<=393216*65536:=Int.mul_le_mul (by omega) (by omega) (by omega) (by omega)
     have hx1:-25769803776<=x:=by omega
     have hx2:x<=25769803776:=by omega
     have hlx1:last*x<=65536*25769803776:=Int.le_trans (Int.mul_le_mul_of_nonneg_left hx2 (by omega)) (Int.mul_le_mul_of_nonneg_right (by omega) (by omega))
     have hlx2:-(65536*25769803776)<=last*x:=by
      have e1:=Int.mul_le_mul_of_nonneg_left (c:=last) hx1 (by omega)
      have e2:last*25769803776<=65536*25769803776:=Int.mul_le_mul_of_nonneg_right (by omega) (by omega)
      omega
     have hzz1:z*z<=4294967296:=by omega
     have hzz2:-4294967296<=z*z:=by omega
     have hd3:3*d*d<=3*4294967296:=by rw [Int.mul_assoc];omega
     have hd4:0<=3*d*d:=Int.mul_nonneg (by omega) (by omega)
     have HON:=Lib.hid hon
     have HBAD:=Lib.hid hbad
     have HX:=Lib.hid ex
     have HZ:=Lib.hid ez
     have HL:=Lib.hid hlenN
     have HM:=Lib.hid hNM
     clear hon hbad ex ez hlenN hNM hNx hsh hH hxb hKd hdd hzz hla
     cases hdec:decide (4*(last*x+z*z)<3*d*d)
     ·go_wp2
      refine ⟨⟨some ⟨wo.heap.size,0,none⟩,k,nextT last m1,d,by rw [HL.out],rfl,HM.out,by rw [HL.out];exact Nat.le_refl _,by omega,?_,?_,hxr.trans hxk⟩,by simp [lenOf]<;>omega⟩
      ·rw [HD.out];exact hINx
      ·have :=HON.out hdec
       exact Lib.hid (by rw [this,HL.out])
     ·have HV:=Lib.hid (HBAD.out hdec)
      go_wp2
      go_ret
      have :Ext w wr:=hxr.trans hxk
      exact ⟨by rw [HV.out];rfl,Step.of _ _⟩
  ·obtain ⟨b,o,b1,o1,c2,rfl,e1,e2,f1,f2,f3,f4⟩:=hm.ent_ (i:=0) (j:=0) (n:=1) (by omega) (by rw [hI.out.all.at_ (by omega)];omega) (by omega)
   have hn1:m1.length=1:=by omega
   have hb:=hI.out.b40 0 (by omega) 0 (by omega)
   have HV:Hid (isRedB m=decide (0<ent m1 0 0/\ent m1 0 0<=10000)):=Lib.hid (by rw [hR.out,hn1];rfl)
   clear hR
   obtain ⟨x,ex⟩:∃x,x=ent m1 0 0:=⟨_,rfl⟩
   rw [<-ex] at e2 hb HV
   rw [hn1]
   simp only [Nat.add_zero] at e1 e2
   rw [hn1] at k1
   have EX:=Lib.hid ex
   clear ex hn hl1 hl8 hlt hn1
   by_cases hz:0<x
   ·have hzb:decide (0<x)=true:=by simpa using hz
    have hlb:=Lib.hid (show decide (x<=10000)=decide (0<x/\x<=10000) by simp [hz])
    clear hz
    go_wp2
    go_ret
    exact ⟨by rw [HV.out,<-hlb.out];rfl,Step.of _ _⟩
   ·have hzb:decide (0<x)=false:=by simpa using hz
    have hlb:=Lib.hid (show decide (0<x/\x<=10000)=false by simp [hz])
    clear hz
    go_wp2
    go_ret
    exact ⟨by rw [HV.out,hlb.out];rfl,Step.of _ _⟩
def isq:Nat->Nat
 |0=>0
 |n+1=>if (isq n+1)*(isq n+1)<=n+1 then isq n+1 else isq n
theorem isq_spec (n:Nat):isq n*isq n<=n/\n<(isq n+1)*(isq n+1):=by
 induction n with
 |zero=>simp [isq]
 |succ n ih=>
  simp only [isq]
  split
  ·grind
  grind
theorem sq_lt_of {a b:Nat} (h:a*a<b*b):a<b:=by
 rcases Nat.lt_or_ge a b with h1 |h1
 ·grind
 ·have :=Nat.mul_le_mul h1 h1;omega
theorem isq_unique {n r:Nat} (h1:r*r<=n) (h2:n<(r+1)*(r+1)):isq n=r:=by
 have ⟨a,b⟩:=isq_spec n
 have :=sq_lt_of (Nat.lt_of_le_of_lt a h2)
 have :=sq_lt_of (Nat.lt_of_le_of_lt h1 b)
 omega
theorem newton_ge {a r:Nat} (hr:1<=r):isq a<=(r+a / r) / 2:=by
 have ⟨h1,_⟩:=isq_spec a
 obtain ⟨s,hs⟩:∃s,s=isq a:=⟨_,rfl⟩
 rw [<-hs] at h1 |-
 rcases Nat.lt_or_ge ((r+a / r) / 2) s with h |h
 ·have h3:a<r*(a / r+1):=by
   have :=Nat.div_add_mod a r
   have :=Nat.mod_lt a (show 0<r by omega)
   grind
  -- a < r * (2 s - r) <= s * s
  obtain ⟨q,hq⟩:∃q,q=a / r+1:=⟨_,rfl⟩
  rw [<-hq] at h3
  have h5:r*q<=s*s:=by
   rcases Nat.le_total r s with hrs |hrs
   ·obtain ⟨d,rfl⟩:∃d,s=r+d:=⟨s-r,by omega⟩
    have :q<=r+2*d:=by omega
    have :=Nat.mul_le_mul_left r this
    grind
   ·obtain ⟨d,rfl⟩:∃d,r=s+d:=⟨r-s,by omega⟩
    obtain ⟨e,rfl⟩:∃e,s=q+d+e:=⟨s-q-d,by omega⟩
    grind
  omega
 grind
theorem newton_end {a r:Nat} (hr:1<=r) (h:r<=(r+a / r) / 2) (hs:isq a<=r):isq a=r:=by
 have h1:r<=a / r:=by omega
 have h2:=(Nat.le_div_iff_mul_le (by omega)).1 h1
 refine isq_unique h2 ?_
 have :=(isq_spec a).2
 exact Nat.lt_of_lt_of_le this (Nat.mul_le_mul (by omega) (by omega))
theorem newton_quot {a r:Nat} (hs:isq a<=r):a / r<=r+2:=by
 have :=(isq_spec a).2
 have h3:a<(r+1)*(r+1):=Nat.lt_of_lt_of_le this (Nat.mul_le_mul (by omega) (by omega))
 have e:(r+1)*(r+1)=r*(r+2)+1:=by grind
 have :a<=r*(r+2):=by omega
 exact Nat.div_le_of_le_mul this
theorem isq_le_of_lt {a r:Nat} (h:a<r*r):isq a<=r:=Nat.le_of_lt (sq_lt_of (Nat.lt_of_le_of_lt (isq_spec a).1 h))
theorem root_start {a:Nat} (h1:1<=a) (h2:a<9223372036854775808):∃s:Nat,(Lib.bitLen a+1) / 2=s/\s<=32/\isq a<=2^s/\1<=Lib.bitLen a/\Lib.bitLen a<=63:=by
 have hb:=Lib.bitLenAux_bounds 64 a (by omega) (by omega)
 have hb':1<=Lib.bitLen a/\2^(Lib.bitLen a-1)<=a/\a<2^Lib.bitLen a:=hb
 obtain ⟨L,hL⟩:∃L,L=Lib.bitLen a:=⟨_,rfl⟩
 rw [<-hL] at hb' |-
 have h63:L<=63:=by
  rcases Nat.lt_or_ge 63 L with h |h
  ·have :2^63<=2^(L-1):=Nat.pow_le_pow_right (by omega) (by omega)
   omega
  grind
 refine ⟨(L+1) / 2,rfl,by omega,isq_le_of_lt ?_,hb'.1,h63⟩
 rw [<-Nat.pow_add]
 exact Nat.lt_of_lt_of_le hb'.2.2 (Nat.pow_le_pow_right (by omega) (by omega))
theorem floor_eq {a b:Int} (hb:0<b):a / b=if a.tmod b<0 then a.tdiv b-1 else a.tdiv b:=by
 have n3:=Int.emod_nonneg a (show b≠0 by omega)
 have n4:=Int.emod_lt_of_pos a hb
 grind
theorem schur_floor_any {w:World} {a b:Int} (ha0:-9223372036854775807<=a) (ha1:a<=9223372036854775807) (hb:1<=b) (hb1:b<=9223372036854775807):
  Calls Tryz.prog 234 #[.int .i64 a,.int .i64 b] w (RetSame w (.int .i64 (a / b))):=by
 have HF:=Lib.hid (floor_eq (a:=a) (b:=b) (by omega))
 have hq:=tdiv_between a b hb
 have hq1:-9223372036854775807<=a.tdiv b:=by omega
 have hq2:a.tdiv b<=9223372036854775807:=by omega
 have hm:=Lib.hid (Int.tmod_def a b)
 have hr:-9223372036854775807<=a.tmod b/\a.tmod b<=9223372036854775807:=by
  have h1:=Int.tmod_lt_of_pos a (show 0<b by omega)
  have h2:=Int.lt_tmod_of_pos a (show 0<b by omega)
  omega
 have hb0:(b==0)=false:=by simp;omega
 clear hq
 by_cases hneg:a.tmod b<0
 ·have hd:decide (a.tmod b<0)=true:=by simpa using hneg
  have HV:=Lib.hid (HF.out.trans (if_pos hneg))
  clear hneg HF
  go_enter Tryz.func234,Tryz.ntmps234
  go_wp2
  go_ret
  exact ⟨by rw [HV.out];rfl,rfl⟩
 ·have hd:decide (a.tmod b<0)=false:=by simpa using hneg
  have HV:=Lib.hid (HF.out.trans (if_neg hneg))
  clear hneg HF
  go_enter Tryz.func234,Tryz.ntmps234
  go_wp2
  go_ret
  exact ⟨by rw [HV.out];rfl,rfl⟩
set_option maxRecDepth 10000 in
theorem schur_root_any {w:World} {a:Nat} (ha:a<9223372036854775808):
  Calls Tryz.prog 189 #[.int .i64 a] w (RetSame w (.int .i64 (isq a))):=by
 by_cases h0:a=0
 ·subst h0
  go_enter Tryz.func189,Tryz.ntmps189
  go_wp2
  go_ret
  exact ⟨rfl,rfl⟩
 have hb0:((a:Int)==0)=false:=by simp;omega
 have h1:1<=a:=by omega
 obtain ⟨s,hs,hs32,hroot,hL1,hL2⟩:=root_start h1 ha
 obtain ⟨L,hL⟩:∃L,L=Lib.bitLen a:=⟨_,rfl⟩
 rw [<-hL] at hs hL1 hL2
 have hp:(2:Nat)^s<=2^32:=Nat.pow_le_pow_right (by omega) hs32
 have hp1:1<=(2:Nat)^s:=Nat.one_le_two_pow
 have hst:((L:Int)+1) / 2=(s:Int):=by omega
 have hpw:(2:Int)^s=((2^s:Nat):Int):=by simp
 obtain ⟨p,hpp⟩:∃p,p=2^s:=⟨_,rfl⟩
 rw [<-hpp] at hpw hp1 hp hroot
 have HL:=Lib.hid hL
 have hc:=Tryz.bits_Len64 (a:Int) w (by omega) (by omega)
 rw [show ((a:Int).toNat)=a by omega,<-hL] at hc
 have HC:=Lib.hid hc
 have HR:=Lib.hid hroot
 clear hc hL h0 hpp hs hroot
 go_enter Tryz.func189,Tryz.ntmps189
 go_wp2_with fail
 refine HC.out.mono ?_
 rintro e w' ⟨rfl,rfl⟩
 go_wp2
 go_loop [3,4] (fun r _=>∃p:Nat,1<=p/\p<=4294967296/\Hid (isq a<=p)/\r= .int .i64 p) (fun r _=>(intOf r).toNat)
 case atStart=>exact ⟨p,hp1,by omega,HR,rfl⟩
 case round=>
  clear HR hpw hp hp1 hst HL HC hL1 hL2 hs32
  obtain ⟨p,hp1,hp,HR,rfl⟩:=hrel
  have hge:=Lib.hid (newton_ge (a:=a) hp1)
  have hend:=Lib.hid (newton_end (a:=a) hp1)
  have hy:=newton_quot (a:=a) HR.out
  obtain ⟨y,ey⟩:∃y,y=a / p:=⟨_,rfl⟩
  have hdiv:(a:Int) / (p:Int)=(y:Int):=by rw [ey];simp
  rw [<-ey] at hge hend hy
  obtain ⟨q,eq⟩:∃q,q=(p+y) / 2:=⟨_,rfl⟩
  have hdiv2:((p:Int)+(y:Int)) / 2=(q:Int):=by omega
  have hq:q<=p+1:=by omega
  rw [<-eq] at hge hend
  clear ey eq
  by_cases hle:p<=q
  ·have HV:=Lib.hid (hend.out hle HR.out)
   go_wp2
   go_ret
   exact ⟨by rw [HV.out];rfl,rfl⟩
  ·have hlt:q<p:=by omega
   have hq1:1<=q:=by
    have :=hge.out
    have h2:=(isq_spec a).2
    rcases Nat.lt_or_ge 0 (isq a) with h |h
    ·omega
    ·have :isq a=0:=by omega
     rw [this] at h2;omega
   go_wp2
   refine ⟨⟨q,hq1,by omega,hge,by rw [hdiv2]⟩,by rw [hdiv2];simp [intOf]<;>omega⟩
theorem enumerate_floor_any {w:World} {a b:Int} (ha0:-9223372036854775807<=a) (ha1:a<=9223372036854775807) (hb:1<=b) (hb1:b<=9223372036854775807):
  Calls Tryz.prog 141 #[.int .i64 a,.int .i64 b] w (RetSame w (.int .i64 (a / b))):=by
 have HF:=Lib.hid (floor_eq (a:=a) (b:=b) (by omega))
 have hq:=tdiv_between a b hb
 have hq1:-9223372036854775807<=a.tdiv b:=by omega
 have hq2:a.tdiv b<=9223372036854775807:=by omega
 have hm:=Lib.hid (Int.tmod_def a b)
 have hr:-9223372036854775807<=a.tmod b/\a.tmod b<=9223372036854775807:=by
  have h1:=Int.tmod_lt_of_pos a (show 0<b by omega)
  have h2:=Int.lt_tmod_of_pos a (show 0<b by omega)
  omega
 have hb0:(b==0)=false:=by simp;omega
 clear hq
 by_cases hneg:a.tmod b<0
 ·have hd:decide (a.tmod b<0)=true:=by simpa using hneg
  have HV:=Lib.hid (HF.out.trans (if_pos hneg))
  clear hneg HF
  go_enter Tryz.func141,Tryz.ntmps141
  go_wp2
  go_ret
  exact ⟨by rw [HV.out];rfl,rfl⟩
 ·have hd:decide (a.tmod b<0)=false:=by simpa using hneg
  have HV:=Lib.hid (HF.out.trans (if_neg hneg))
  clear hneg HF
  go_enter Tryz.func141,Tryz.ntmps141
  go_wp2
  go_ret
  exact ⟨by rw [HV.out];rfl,rfl⟩
set_option maxRecDepth 10000 in
theorem enumerate_root_any {w:World} {a:Nat} (ha:a<9223372036854775808):
  Calls Tryz.prog 140 #[.int .i64 a] w (RetSame w (.int .i64 (isq a))):=by
 by_cases h0:a=0
 ·subst h0
  go_enter Tryz.func140,Tryz.ntmps140
  go_wp2
  go_ret
  exact ⟨rfl,rfl⟩
 have hb0:((a:Int)==0)=false:=by simp;omega
 have h1:1<=a:=by omega
 obtain ⟨s,hs,hs32,hroot,hL1,hL2⟩:=root_start h1 ha
 obtain ⟨L,hL⟩:∃L,L=Lib.bitLen a:=⟨_,rfl⟩
 rw [<-hL] at hs hL1 hL2
 have hp:(2:Nat)^s<=2^32:=Nat.pow_le_pow_right (by omega) hs32
 have hp1:1<=(2:Nat)^s:=Nat.one_le_two_pow
 have hst:((L:Int)+1) / 2=(s:Int):=by omega
 have hpw:(2:Int)^s=((2^s:Nat):Int):=by simp
 obtain ⟨p,hpp⟩:∃p,p=2^s:=⟨_,rfl⟩
 rw [<-hpp] at hpw hp1 hp hroot
 have HL:=Lib.hid hL
 have hc:=Tryz.bits_Len64 (a:Int) w (by omega) (by omega)
 rw [show ((a:Int).toNat)=a by omega,<-hL] at hc
 have HC:=Lib.hid hc
 have HR:=Lib.hid hroot
 clear hc hL h0 hpp hs hroot
 go_enter Tryz.func140,Tryz.ntmps140
 go_wp2_with fail
 refine HC.out.mono ?_
 rintro e w' ⟨rfl,rfl⟩
 go_wp2
 go_loop [3,4] (fun r _=>∃p:Nat,1<=p/\p<=4294967296/\Hid (isq a<=p)/\r= .int .i64 p) (fun r _=>(intOf r).toNat)
 case atStart=>exact ⟨p,hp1,by omega,HR,rfl⟩
 case round=>
  clear HR hpw hp hp1 hst HL HC hL1 hL2 hs32
  obtain ⟨p,hp1,hp,HR,rfl⟩:=hrel
  have hge:=Lib.hid (newton_ge (a:=a) hp1)
  have hend:=Lib.hid (newton_end (a:=a) hp1)
  have hy:=newton_quot (a:=a) HR.out
  obtain ⟨y,ey⟩:∃y,y=a / p:=⟨_,rfl⟩
  have hdiv:(a:Int) / (p:Int)=(y:Int):=by rw [ey];simp
  rw [<-ey] at hge hend hy
  obtain ⟨q,eq⟩:∃q,q=(p+y) / 2:=⟨_,rfl⟩
  have hdiv2:((p:Int)+(y:Int)) / 2=(q:Int):=by omega
  have hq:q<=p+1:=by omega
  rw [<-eq] at hge hend
  clear ey eq
  by_cases hle:p<=q
  ·have HV:=Lib.hid (hend.out hle HR.out)
   go_wp2
   go_ret
   exact ⟨by rw [HV.out];rfl,rfl⟩
  ·have hlt:q<p:=by omega
   have hq1:1<=q:=by
    have :=hge.out
    have h2:=(isq_spec a).2
    rcases Nat.lt_or_ge 0 (isq a) with h |h
    ·omega
    ·have :isq a=0:=by omega
     rw [this] at h2;omega
   go_wp2
   refine ⟨⟨q,hq1,by omega,hge,by rw [hdiv2]⟩,by rw [hdiv2];simp [intOf]<;>omega⟩
theorem StV.rowAt {w:World} {A:Option Addr} {m:List (List Int)} (h:StV w A (stagesOf m)) (hn:AllLen m m.length) {k:Nat} (hk:k<m.length):
  ∃b o b1 o1 c1 b2 o2 c2,A=some ⟨b,o,none⟩/\m.length-k<=c1/\c1<=9223372036854775807/\m.length-k<=c2/\c2<=9223372036854775807/\
   (∀w',Ext w w'->w'.cell? ⟨b,o+k,none⟩=some (.slice (some ⟨b1,o1,none⟩) (m.length-k) c1)/\w'.cell? ⟨b1,o1,none⟩=some (.slice (some ⟨b2,o2,none⟩) (m.length-k) c2)/\b<w'.heap.size/\b1<w'.heap.size/\b2<w'.heap.size)/\
   ∀j,j<m.length-k->∃g B n c,IntV w g B n c (ent (stAt m k).2 0 j)/\∀w',Ext w w'->w'.cell? ⟨b2,o2+j*2,none⟩=some (.bool g)/\w'.cell? ⟨b2,o2+j*2+1,none⟩=some (.slice B n c):=by
 have hs:(stagesOf m)[k]? =some (stAt m k).2:=by simp [stagesOf,hk]
 obtain ⟨b,o,B1,c1,hA,e1,hM,l1,l2,hb⟩:=h.at_ hs
 have hlen:=stAt_length m k
 have hall:=stAt_allLen m hn k
 have hr:(stAt m k).2[0]? =some ((stAt m k).2[0]'(by omega)):=by simp
 have hl0:((stAt m k).2[0]'(by omega)).length=m.length-k:=hall _ (List.getElem_mem _)
 obtain ⟨b1,o1,B2,c2,hB1,e2,hI,p1,p2,hb1⟩:=hM.at_ hr
 subst hB1
 rw [hl0] at e2 p1
 rw [hlen] at e1 l1
 obtain ⟨b2,o2,-,-,-,-,hB2,-,-,-,hb2⟩:=hI.at_ (i:=0) (by omega)
 subst hB2
 simp only [Nat.add_zero] at e2
 refine ⟨b,o,b1,o1,c1,b2,o2,c2,hA,l1,l2,p1,p2,fun w' hx=>⟨?_,?_,Nat.lt_of_lt_of_le hb hx.size,Nat.lt_of_lt_of_le hb1 hx.size,Nat.lt_of_lt_of_le hb2 hx.size⟩,fun j hj=>?_⟩
 ·rw [hx.below.cell (p:=⟨b,o+k,none⟩) hb];exact e1
 ·rw [hx.below.cell (p:=⟨b1,o1,none⟩) hb1];exact e2
 ·obtain ⟨b',o',g,B,n,c,hB,d1,d2,hV,-⟩:=hI.at_ (i:=j) (by omega)
  injection hB with hB
  injection hB with x1 x2
  subst x1 x2
  have he:ent (stAt m k).2 0 j=((stAt m k).2[0]'(by omega))[j]'(by omega):=ent_of hr (by simp)
  rw [he]
  refine ⟨g,B,n,c,hV,fun w' hx=>⟨?_,?_⟩⟩
  ·rw [hx.below.cell (p:=⟨b2,o2+j*2,none⟩) hb2];exact d1
  ·rw [hx.below.cell (p:=⟨b2,o2+j*2+1,none⟩) hb2];exact d2
def minorsTo (m:List (List Int)) (k:Nat):List Int:=1::(List.range k).map fun i=>ent (stAt m i).2 0 0
theorem minorsTo_succ (m:List (List Int)) (k:Nat):minorsTo m (k+1)=minorsTo m k++[ent (stAt m k).2 0 0]:=by simp [minorsTo,List.range_succ]
theorem minorsTo_length (m:List (List Int)) (k:Nat):(minorsTo m k).length=k+1:=by simp [minorsTo]
theorem small_any {w0 w:World} {na:Bool} {A:Option Addr} {n c:Nat} {x:Int} (ha:IntV w0 na A n c x) (h0:-9223372036854775808<=x) (h1:x<=9223372036854775807) [hx:Ext w0 w]:
  Calls Tryz.prog 188 #[.agg #[.bool na,.slice A n c]] w (RetVal w (.int .i64 x)):=by
 go_enter Tryz.func188,Tryz.ntmps188
 go_wp2_with (go_at_call 173;refine (Int64_fit ha h0 h1).mono ?_;rintro e w' ⟨rfl,hs⟩)
 go_ret
 exact ⟨rfl,Step.of _ _⟩
section
variable {w w':World} {base:Nat} {e e':TypeId} {size:Nat} {A:Option Addr} {n c:Nat} {xs:List Value}
theorem Own.far (h:Own w base e size A n c xs) {p:Addr} {cs:Array Value} {fr:Nat×Nat} (hp:w.heap[p.block]? =some (.cells cs e' fr)) (hne:e≠e') (u:Value):Own (w.setCell p u) base e size A n c xs:=by
 refine ⟨h.1,?_⟩
 rcases h.2 with hv |⟨g,cap,cur,hv,h1,h2,h3⟩
 ·exact .inl hv
 ·refine .inr ⟨g,cap,cur,hv,h1,(Below.heap_setCell w p u g (fun hh=>?_)).trans h2,h3⟩
  subst hh
  rw [h2] at hp
  injection hp with hp
  injection hp with _ he
  exact hne he
theorem Own.grow (h:Own w base e size A n c xs) {base':Nat} (hg:Grow base' e' w w') (hne:e≠e'):Own w' base e size A n c xs:=by
 refine ⟨h.1,?_⟩
 rcases h.2 with hv |⟨g,cap,cur,hv,h1,h2,h3⟩
 ·exact .inl hv
 ·exact .inr ⟨g,cap,cur,hv,h1,hg.heap h2 hne,h3⟩
theorem Own.new (w:World) (e:TypeId) (size n:Nat) (cs:Array Value) (hn:cs.size=n*size) (hm:n<=9223372036854775807):Own (w.alloc (.cells cs e)) w.heap.size e size (some ⟨w.heap.size,0,none⟩) n n cs.toList:=
 ⟨by simpa using hn,.inr ⟨w.heap.size,n,cs,rfl,Nat.le_refl _,heap_alloc_new w _,Nat.le_refl _,by unfold maxLen;omega,hn,by rw [<-hn,<-Array.length_toList,List.take_length]⟩⟩
end
def VsOf (w:World) (vs:List Value) (zs:List Int):Prop:=∀(i:Nat) (z:Int),zs[i]? =some z->∃g B n c,vs[i*2]? =some (.bool g)/\vs[i*2+1]? =some (.slice B n c)/\IntV w g B n c z
theorem VsOf.snoc {w:World} {vs:List Value} {zs:List Int} {z:Int} {g:Bool} {B:Option Addr} {n c:Nat} (h:VsOf w vs zs) (hl:vs.length=zs.length*2) (hz:IntV w g B n c z):VsOf w (vs++[.bool g,.slice B n c]) (zs++[z]):=fun i y hy=>by
 rcases Nat.lt_or_ge i zs.length with hi |hi
 ·rw [List.getElem?_append_left hi] at hy
  obtain ⟨g1,B1,n1,c1,a1,a2,a3⟩:=h i y hy
  exact ⟨g1,B1,n1,c1,by rw [List.getElem?_append_left (by omega)];exact a1,by rw [List.getElem?_append_left (by omega)];exact a2,a3⟩
 ·have hi':i=zs.length:=by
   have :i<(zs++[z]).length:=by
    rcases Nat.lt_or_ge i (zs++[z]).length with h |h
    ·exact h
    ·rw [List.getElem?_eq_none h] at hy;cases hy
   simp at this;omega
  subst hi'
  have :y=z:=by simpa using hy.symm
  subst this
  exact ⟨g,B,n,c,by rw [List.getElem?_append_right (by omega),hl];simp,by rw [List.getElem?_append_right (by omega),hl];simp,hz⟩
theorem VsOf.one {w:World} {z:Int} {g:Bool} {B:Option Addr} {n c:Nat} (hz:IntV w g B n c z):VsOf w [.bool g,.slice B n c] [z]:=VsOf.snoc (vs:=[]) (zs:=[]) (fun i y hy=>by simp at hy) rfl hz
theorem VsOf.intsV {w w':World} {A:Option Addr} {vs:List Value} {zs:List Int} (h:VsOf w vs zs) (hl:vs.length=zs.length*2) (ha:Arr w' A 149 vs) (hx:Ext w w'):IntsV w' A zs:=
 ⟨vs,hl,ha,fun i z hz=>by
  obtain ⟨g,B,n,c,a1,a2,a3⟩:=h i z hz
  exact ⟨g,B,n,c,a1,a2,a3.ext hx⟩⟩
theorem box_cells2 {w:World} {b:Nat} {x y:Value} {T:TypeId} (h:w.heap[b]? =some (.cells #[x,y] T (0,0))):w.cell? ⟨b,0,none⟩=some x/\w.cell? ⟨b,1,none⟩=some y/\w.frozen? ⟨b,0,none⟩=false/\w.frozen? ⟨b,1,none⟩=false/\b<w.heap.size:=
 ⟨by simp [World.cell?,h],by simp [World.cell?,h],by simp [World.frozen?,h],by simp [World.frozen?,h],lt_of_heap h⟩
theorem box_set2_1 {w:World} {b:Nat} {x y u:Value} {T:TypeId} (h:w.heap[b]? =some (.cells #[x,y] T (0,0))):(w.setCell ⟨b,1,none⟩ u).heap[b]? =some (.cells #[x,u] T (0,0)):=by
 rw [heap_setCell_self h];rfl
theorem box_set2_0 {w:World} {b:Nat} {x y u:Value} {T:TypeId} (h:w.heap[b]? =some (.cells #[x,y] T (0,0))):(w.setCell ⟨b,0,none⟩ u).heap[b]? =some (.cells #[u,y] T (0,0)):=by
 rw [heap_setCell_self h];rfl
/-! ## All rows but those of one type are kept -/
def Oth (T:TypeId) (w w':World):Prop:=∀(b:Nat) (cs:Array Value) (e:TypeId) (fr:Nat×Nat),e≠T->w.heap[b]? =some (.cells cs e fr)->w'.heap[b]? =some (.cells cs e fr)
section
variable {T e:TypeId} {w w' w2:World} {A:Option Addr}
theorem Oth.refl (T:TypeId) (w:World):Oth T w w:=fun _ _ _ _ _ h=>h
theorem Oth.of_ext (hx:Ext w w'):Oth T w w':=fun _ _ _ _ _ h=>heap_of_ext hx h
theorem Oth.trans (h:Oth T w w') (h':Oth T w' w2):Oth T w w2:=fun b cs e fr hn hb=>h' b cs e fr hn (h b cs e fr hn hb)
theorem Oth.of_grow {base:Nat} (h:Grow base T w w'):Oth T w w':=fun _ _ _ _ hn hb=>h.heap hb hn
theorem Oth.set {p:Addr} {cs:Array Value} {fr:Nat×Nat} (hp:w.heap[p.block]? =some (.cells cs T fr)) (u:Value):Oth T w (w.setCell p u):=fun b cs' e fr' hn hb=>
 (Below.heap_setCell w p u b (fun hh=>by subst hh;rw [hp] at hb;injection hb with hb;injection hb with _ he;exact hn he.symm)).trans hb
theorem Oth.set2 {b:Nat} {cs:Array Value} (hp:w.heap[b]? =some (.cells cs T (0,0))) (i j:Nat) (u v:Value):Oth T w ((w.setCell ⟨b,i,none⟩ u).setCell ⟨b,j,none⟩ v):=
 (Oth.set (p:=⟨b,i,none⟩) hp u).trans (Oth.set (p:=⟨b,j,none⟩) (heap_setCell_self hp u) v)
theorem Arr.oth {vs:List Value} (h:Arr w A e vs) (ho:Oth T w w') (hn:e≠T):Arr w' A e vs:=fun h0=>by
 obtain ⟨b,o,cs,fr,rfl,hb,hc⟩:=h h0
 exact ⟨b,o,cs,fr,rfl,ho _ _ _ _ hn hb,hc⟩
theorem Ints.oth {k:IntKind} {l:List Int} (h:Ints w A e k l) (ho:Oth T w w') (hn:e≠T):Ints w' A e k l:=Arr.oth h ho hn
theorem IntV.oth {neg:Bool} {n c:Nat} {z:Int} (h:IntV w neg A n c z) (ho:Oth T w w') (hn:271≠T):IntV w' neg A n c z:=by
 obtain ⟨l,h1,h2,h3,h4,h5,h6,h7⟩:=h
 exact ⟨l,h1,h2,h3,h4,h5,Arr.oth h6 ho hn,h7⟩
theorem IntsV.oth {zs:List Int} (h:IntsV w A zs) (ho:Oth T w w') (h1:149≠T) (h2:271≠T):IntsV w' A zs:=by
 obtain ⟨vs,a1,a2,a3⟩:=h
 refine ⟨vs,a1,a2.oth ho h1,fun i z hz=>?_⟩
 obtain ⟨g,B,n,c,b1,b2,b3⟩:=a3 i z hz
 exact ⟨g,B,n,c,b1,b2,b3.oth ho h2⟩
theorem MatV.oth {m:List (List Int)} (h:MatV w A m) (ho:Oth T w w') (h0:94≠T) (h1:149≠T) (h2:271≠T):MatV w' A m:=by
 obtain ⟨vs,a1,a2,a3⟩:=h
 refine ⟨vs,a1,a2.oth ho h0,fun i z hz=>?_⟩
 obtain ⟨B,c,b1,b2,b3⟩:=a3 i z hz
 exact ⟨B,c,b1,b2.oth ho h1 h2,b3⟩
theorem StV.oth {s:List (List (List Int))} (h:StV w A s) (ho:Oth T w w') (h3:79≠T) (h0:94≠T) (h1:149≠T) (h2:271≠T):StV w' A s:=by
 obtain ⟨vs,a1,a2,a3⟩:=h
 refine ⟨vs,a1,a2.oth ho h3,fun i z hz=>?_⟩
 obtain ⟨B,c,b1,b2,b3⟩:=a3 i z hz
 exact ⟨B,c,b1,b2.oth ho h0 h1 h2,b3⟩
theorem Mat64.oth {m:List (List Int)} (h:Mat64 w A m) (ho:Oth T w w') (h0:35≠T) (h1:2≠T):Mat64 w' A m:=by
 obtain ⟨vs,a1,a2,a3⟩:=h
 refine ⟨vs,a1,a2.oth ho h0,fun i z hz=>?_⟩
 obtain ⟨B,c,b1,b2,b3⟩:=a3 i z hz
 exact ⟨B,c,b1,b2.oth ho h1,b3⟩
theorem Own.oth {base size n c:Nat} {xs:List Value} (h:Own w base e size A n c xs) (ho:Oth T w w') (hn:e≠T):Own w' base e size A n c xs:=by
 refine ⟨h.1,?_⟩
 rcases h.2 with hv |⟨g,cap,cur,hv,h1,h2,h3⟩
 ·exact .inl hv
 ·exact .inr ⟨g,cap,cur,hv,h1,ho _ _ _ _ hn h2,h3⟩
end
def inRangeB (l:List Int):Bool:=l.all fun x=>decide (-1099511627776<=x)&&decide (x<=1099511627776)
theorem inRangeB_iff {l:List Int}:inRangeB l=true↔∀x∈l,-1099511627776<=x/\x<=1099511627776:=by simp [inRangeB]
theorem inRangeB_false {l:List Int} {k:Nat} {x:Int} (hx:l[k]? =some x) (h:¬(-1099511627776<=x/\x<=1099511627776)):inRangeB l=false:=by
 rcases hb:inRangeB l with _ |_
 ·rfl
 ·exact absurd (inRangeB_iff.1 hb x (List.mem_of_getElem? hx)) h
theorem inRange_any {w0 w:World} {X:Option Addr} {c:Nat} {l:List Int} (h:Ints w0 X 2 .i64 l) (hl:l.length<=1099511627776) [hx:Ext w0 w]:
  Calls Tryz.prog 191 #[.slice X l.length c] w (RetSame w (.bool (inRangeB l))):=by
 have h0:=h.ext hx
 go_enter Tryz.func191,Tryz.ntmps191
 go_wp2
 go_loop [4,7] (fun _ i=>∃k:Nat,k<=l.length/\i= .int .i64 k/\Hid (∀j x,j<k->l[j]? =some x->-1099511627776<=x/\x<=1099511627776)) (fun _ i=>l.length-(intOf i).toNat)
 case atStart=>exact ⟨0,by omega,rfl,Lib.hid (fun i x hi=>absurd hi (by omega))⟩
 case round=>
  obtain ⟨k,hk,rfl,hR⟩:=hrel
  by_cases hlt:k<l.length
  ·obtain ⟨b,o,x,rfl,hkx,e1,f1⟩:=h0.at_ hlt
   have HK:=Lib.hid hkx
   clear hkx
   by_cases hlo:x< -1099511627776
   ·have HF:=Lib.hid (inRangeB_false HK.out (by omega))
    have hlob:decide (x< -1099511627776)=true:=by simpa using hlo
    clear hlo
    go_wp2
    go_ret
    exact ⟨by rw [HF.out];rfl,rfl⟩
   ·have hlob:decide (x< -1099511627776)=false:=by simpa using hlo
    by_cases hhi:1099511627776<x
    ·have HF:=Lib.hid (inRangeB_false HK.out (by omega))
     have hhib:decide (1099511627776<x)=true:=by simpa using hhi
     clear hlo hhi
     go_wp2
     go_ret
     exact ⟨by rw [HF.out];rfl,rfl⟩
    ·have hhib:decide (1099511627776<x)=false:=by simpa using hhi
     have hx1:-1099511627776<=x:=by omega
     have hx2:x<=1099511627776:=by omega
     clear hlo hhi
     go_wp2
     refine ⟨⟨k+1,by omega,by go_num,Lib.hid fun j y hj hy=>?_⟩,by simp [intOf]<;>omega⟩
     rcases Nat.lt_or_ge j k with h |h
     ·exact hR.out j y h hy
     ·obtain rfl:j=k:=by omega
      rw [HK.out] at hy
      injection hy with hy
      subst hy
      exact ⟨hx1,hx2⟩
  ·obtain rfl:k=l.length:=by omega
   have HF:Hid (inRangeB l=true):=Lib.hid (inRangeB_iff.2 fun x hx=>by
    obtain ⟨j,hj,e⟩:=List.getElem_of_mem hx
    exact hR.out j x hj (by simp [e,hj]))
   clear hlt
   go_wp2
   go_ret
   exact ⟨by rw [HF.out];rfl,rfl⟩
def fitsB (n:Nat) (l:List Int):Bool:=decide (l.length=n)&&inRangeB l
theorem fitsB_ne {n:Nat} {l:List Int} (h:l.length≠n):fitsB n l=false:=by simp [fitsB,h]
theorem fitsB_eq {n:Nat} {l:List Int} (h:l.length=n):fitsB n l=inRangeB l:=by simp [fitsB,h]
theorem fits_any {w0 w:World} {X:Option Addr} {c n:Nat} {l:List Int} (h:Ints w0 X 2 .i64 l) (hl:l.length<=1099511627776) [hx:Ext w0 w]:
  Calls Tryz.prog 132 #[.int .i64 n,.slice X l.length c] w (RetSame w (.bool (fitsB n l))):=by
 by_cases hn:l.length=n
 ·have HF:=Lib.hid (fitsB_eq hn)
  subst hn
  go_enter Tryz.func132,Tryz.ntmps132
  go_wp2_with (go_at_call 191;refine (inRange_any h hl).mono ?_;rintro e w' ⟨rfl,rfl⟩)
  go_ret
  exact ⟨by rw [HF.out];rfl,rfl⟩
 ·have HF:=Lib.hid (fitsB_ne hn)
  have hb:((l.length:Int)==(n:Int))=false:=by simp;omega
  clear hn
  go_enter Tryz.func132,Tryz.ntmps132
  go_wp2_with (go_at_call 191;refine (inRange_any h hl).mono ?_;rintro e w' ⟨rfl,rfl⟩)
  go_ret
  exact ⟨by rw [HF.out];rfl,rfl⟩
def dotL:List Int->List Int->Int
 |a::l,b::m=>a*b+dotL l m
 |_,_=>0
theorem dotL_nil (m:List Int):dotL [] m=0:=by cases m<;>rfl
theorem dotL_take_succ:∀(l m:List Int) (k:Nat) (a b:Int),l[k]? =some a->m[k]? =some b->dotL (l.take (k+1)) (m.take (k+1))=dotL (l.take k) (m.take k)+a*b
 |[],_,_,_,_,h,_=>by simp at h
 |_::_,[],_,_,_,_,h=>by simp at h
 |x::l,y::m,0,a,b,h,h'=>by
  simp at h h';subst h h';simp [dotL,dotL_nil]
 |x::l,y::m,k+1,a,b,h,h'=>by
  have :=dotL_take_succ l m k a b (by simpa using h) (by simpa using h')
  simp only [List.take_succ_cons,dotL,this];omega
theorem mul_abs_le {a b A B:Int} (h1:-A<=a) (h2:a<=A) (h3:-B<=b) (h4:b<=B):-(A*B)<=a*b/\a*b<=A*B:=by
 have hA:0<=A:=by omega
 have hB:0<=B:=by omega
 have hab:(a*b).natAbs<=(A*B).natAbs:=by
  rw [Int.natAbs_mul,Int.natAbs_mul];exact Nat.mul_le_mul (by omega) (by omega)
 have hAB:0<=A*B:=Int.mul_nonneg hA hB
 omega
theorem dotL_bound {A B:Int} (hA:0<=A) (hB:0<=B):∀(l m:List Int),(∀x∈l,-A<=x/\x<=A)->(∀x∈m,-B<=x/\x<=B)->-((l.length:Int)*(A*B))<=dotL l m/\dotL l m<=(l.length:Int)*(A*B)
 |[],m,_,_=>by simp [dotL_nil]
 |x::l,[],_,_=>by
  have :0<=((x::l).length:Int)*(A*B):=Int.mul_nonneg (by omega) (Int.mul_nonneg hA hB)
  simp only [dotL];omega
 |x::l,y::m,h1,h2=>by
  have ih:=dotL_bound hA hB l m (fun z hz=>h1 z (by simp [hz])) (fun z hz=>h2 z (by simp [hz]))
  have hx:=h1 x (by simp)
  have hy:=h2 y (by simp)
  have :=mul_abs_le hx.1 hx.2 hy.1 hy.2
  simp only [dotL,List.length_cons]
  have e:((l.length+1:Nat):Int)*(A*B)=(l.length:Int)*(A*B)+A*B:=by rw [Int.natCast_add,Int.add_mul];omega
  rw [e];omega
def Ent18 (m:List (List Int)):Prop:=∀r∈m,∀x∈r,-262144<=x/\x<=262144
def applyL (m:List (List Int)) (x:List Int):List Int:=m.map fun r=>dotL r x
theorem applyL_length (m:List (List Int)) (x:List Int):(applyL m x).length=m.length:=by simp [applyL]
theorem take_get_set (l:List Int) (k:Nat) (n:Nat) (s t:Int) (hk:k<=l.length):(l.take k++s::List.replicate n 0).set k t=l.take k++t::List.replicate n 0:=by
 rw [List.set_append_right _ _ (by simp;omega)]
 simp [Nat.min_eq_left hk]
theorem ints_cell {w:World} {e:TypeId} {b o i:Nat} {k:IntKind} {l:List Int} {x:Int} (h:Ints w (some ⟨b,o,none⟩) e k l) (hx:l[i]? =some x):w.cell? ⟨b,o+i,none⟩=some (.int k x)/\b<w.heap.size:=by
 obtain ⟨b',o',y,hA,h1,h2,h3⟩:=h.at_ (i:=i) (List.getElem?_eq_some_iff.1 hx).1
 injection hA with hA
 injection hA with x1 x2
 subst x1 x2
 rw [hx] at h1
 injection h1 with h1
 subst h1
 exact ⟨h2,h3⟩
theorem intsA_cell {w:World} {b o i:Nat} {l:List Int} {x:Int} (h:IntsA w (some ⟨b,o,none⟩) l) (hx:l[i]? =some x):w.cell? ⟨b,o+i,none⟩=some (.int .i64 x)/\b<w.heap.size:=by
 obtain ⟨te,h⟩:=h
 exact ints_cell h hx
theorem mkCells_row (n:Nat) (k:IntKind):mkCells #[.int k 0] n=mkRow n k:=by
 apply Array.ext';rw [mkCells_one];simp [mkRow]
theorem apply_any {w0 w:World} {A X:Option Addr} {c d:Nat} {m:List (List Int)} {x:List Int} (h:MatA w0 A m) (hX:Ints w0 X 2 .i64 x) (hn:AllLen m m.length) (hxl:x.length=m.length) (h8:m.length<=8) (hE:Ent18 m) (hR:∀y∈x,-1099511627776<=y/\y<=1099511627776) [hx:Ext w0 w]:
  Calls Tryz.prog 134 #[.slice A m.length c,.slice X x.length d] w (RetClone w 2 .i64 (applyL m x)):=by
 have h0:=h.ext hx
 have hX0:=hX.ext hx
 obtain ⟨n,hN⟩:∃n,n=m.length:=⟨_,rfl⟩
 rw [hxl,<-hN]
 rw [<-hN] at h8
 have hmk:=run_make_any (P:=Tryz.prog) Tryz.underlying35 infoI64 (by omega) (n:Int) (by omega) (by omega)
 have HN:=Lib.hid hN
 have HX:=Lib.hid hxl
 have HE:=Lib.hid hE
 have HR:=Lib.hid hR
 have HA:=Lib.hid hn
 clear hN hxl hE hR hn
 obtain ⟨Y,hY⟩:∃Y,Y=applyL m x:=⟨_,rfl⟩
 have HY:=Lib.hid hY
 rw [<-hY]
 clear hY
 have HYl:Hid (Y.length=n):=Lib.hid (by rw [HY.out,applyL_length,HN.out])
 go_enter Tryz.func134,Tryz.ntmps134
 go_wp2
 go_loopw [6,7,8,9,15] (fun _ _ _ _ i wr=>∃k:Nat,k<=n/\i= .int .i64 k/\Row wr w.heap.size 2 .i64 (Y.take k++List.replicate (n-k) 0)/\Ext w wr) (fun _ _ _ _ i _=>n-(intOf i).toNat)
 case atStart=>exact ⟨0,by omega,rfl,by have :=Row.made w n .i64 2;simpa [mkRow,mkCells_row] using this,inferInstance⟩
 case round=>
  obtain ⟨k,hk,rfl,hV,hxk⟩:=hrel
  by_cases hlt:k<n
  ·obtain ⟨wi,rfl⟩:∃wi:World,wi=wr:=⟨_,rfl⟩
   have hkm:k<m.length:=by have :=HN.out;omega
   obtain ⟨b,o,B,c1,rfl,e1,e2,f1,f2,f3⟩:=h0.at_ (i:=k) (r:=m[k]) (by simp [hkm])
   have hrl:m[k].length=n:=by rw [HN.out];exact HA.out _ (List.getElem_mem hkm)
   obtain ⟨r,hr⟩:∃r,r=m[k]:=⟨_,rfl⟩
   rw [<-hr] at hrl e1 e2 f1
   rw [hrl] at e1 f1
   have HRE:Hid (∀x∈r,-262144<=x/\x<=262144):=Lib.hid (by rw [hr];exact HE.out _ (List.getElem_mem hkm))
   have HYk:Hid (Y[k]? =some (dotL r x)):=Lib.hid (by rw [HY.out,hr];simp [applyL,hkm])
   have HRL:=Lib.hid hrl
   have e3:wi.cell? ⟨b,o+k,none⟩=some (.slice B n c1):=(hxk.below.cell (p:=⟨b,o+k,none⟩) f3).trans e1
   have f4:b<wi.heap.size:=Nat.lt_of_lt_of_le f3 hxk.size
   have e2':=Lib.hid e2
   clear hr hrl e1 f3
   go_wp2
   go_loopw [8,9,22] (fun _ _ j wr=>∃q:Nat,q<=n/\j= .int .i64 q/\Row wr w.heap.size 2 .i64 (Y.take k++dotL (r.take q) (x.take q)::List.replicate (n-k-1) 0)/\Ext w wr/\True) (fun _ _ j _=>n-(intOf j).toNat)
   case atStart=>
    refine ⟨0,by omega,rfl,?_,hxk,trivial⟩
    have e:List.replicate (n-k) (0:Int)=0::List.replicate (n-k-1) 0:=by rw [<-List.replicate_succ];congr 1;omega
    rw [e] at hV
    simpa [dotL] using hV
   case round=>
    obtain ⟨q,hq,rfl,hV,hxq,hG⟩:=hrel
    by_cases hqt:q<n
    ·obtain ⟨b1,o1,a,hB,ha,-,-⟩:=e2.at_ (i:=q) (by have :=HRL.out;omega)
     subst hB
     obtain ⟨b2,o2,y,hX1,hy,-,-⟩:=hX0.at_ (i:=q) (by have :=HX.out;have :=HN.out;omega)
     subst hX1
     obtain ⟨g1,g2⟩:=intsA_cell (e2'.out.ext hxq) ha
     obtain ⟨g3,g4⟩:=ints_cell (hX0.ext hxq) hy
     have ba:=HRE.out a (List.mem_of_getElem? ha)
     have bb:=HR.out y (List.mem_of_getElem? hy)
     have bs:=dotL_bound (A:=262144) (B:=1099511627776) (by omega) (by omega) (r.take q) (x.take q) (fun z hz=>HRE.out z (List.mem_of_mem_take hz)) (fun z hz=>HR.out z (List.mem_of_mem_take hz))
     have bm:=mul_abs_le ba.1 ba.2 bb.1 bb.2
     have hstep:=Lib.hid (dotL_take_succ r x q a y ha hy)
     rw [take_len (by have :=HRL.out;omega)] at bs
     obtain ⟨s,hs⟩:∃s,s=dotL (r.take q) (x.take q):=⟨_,rfl⟩
     rw [<-hs] at bs hstep hV
     have hc1:wr.cell? ⟨w.heap.size,k,none⟩=some (.int .i64 s):=by
      obtain ⟨z,z1,z2⟩:=hV.cell (i:=k) (by simp;have :=HYl.out;omega)
      rw [List.getElem?_append_right (by simp;omega)] at z1
      rw [show k-(List.take k Y).length=0 by simp;have :=HYl.out;omega] at z1
      simp at z1
      rw [z2,z1]
     have hc2:=hV.frozen k
     have hsz:=hV.lt
     have bs1:-2305843009213693952<=s:=by omega
     have bs2:s<=2305843009213693952:=by omega
     obtain ⟨ba1,ba2⟩:=ba
     obtain ⟨bb1,bb2⟩:=bb
     obtain ⟨bm1,bm2⟩:=bm
     have bm3:-288230376151711744<=a*y:=by omega
     have bm4:a*y<=288230376151711744:=by omega
     clear hs bs ha hy bm1 bm2
     go_wp2
     go_region
     go_wp2
     refine ⟨⟨q+1,by omega,by go_num,?_,?_,?_⟩,by simp [intOf]<;>omega⟩
     ·have h2:=(hV.ext (inferInstance:Ext wr wr.drew)).set k (s+a*y)
      rw [take_get_set _ _ _ _ _ (by have :=HYl.out;omega)] at h2
      rw [hstep.out]
      exact h2
     ·exact (inferInstance:Ext w wr.drew).setCell (p:=⟨w.heap.size,k,none⟩) (Nat.le_refl _) _
     ·trivial
    ·obtain rfl:q=n:=by omega
     clear hqt
     go_wp2
     refine ⟨⟨k+1,by omega,by go_num,?_,hxq⟩,by simp [intOf]<;>omega⟩
     have e1:r.take q=r:=List.take_of_length_le (by rw [HRL.out];omega)
     have e2:x.take q=x:=List.take_of_length_le (by rw [HX.out,<-HN.out];omega)
     rw [e1,e2] at hV
     have e3:Y.take (k+1)=Y.take k++[dotL r x]:=by rw [List.take_add_one,HYk.out];rfl
     rw [e3,List.append_assoc,List.singleton_append]
     exact hV
  ·obtain rfl:k=n:=by omega
   clear hlt
   go_wp2
   go_ret
   have e:Y.take k++List.replicate (k-k) 0=Y:=by rw [Nat.sub_self,List.take_of_length_le (by rw [HYl.out];omega)];simp
   rw [e] at hV
   exact ⟨some ⟨w.heap.size,0,none⟩,k,by rw [HYl.out];rfl,hV.ints,by rw [HYl.out];omega,by omega,Step.of _ _⟩
end Go.Proofs.YtpcgfpmiphiacaaGreat
