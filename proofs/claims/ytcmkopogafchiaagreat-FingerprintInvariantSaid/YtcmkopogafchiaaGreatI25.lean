import Derived.Sort.LotA
import Derived.Shelf.SlSortCmp.KitK
import Derived.Sort.WalkB2
import Derived.Sort.WalkB12
import Derived.Shelf.SlSortCmp.PdqK
import Derived.Test.YtcmkopogafchiaaGreatI24
set_option maxHeartbeats 8000000
set_option linter.unusedVariables false
set_option linter.unusedSimpArgs false
namespace Go.Proofs.YtcmkopogafchiaaGreat
variable {a b c cap g hi i j k lo m mid n r r0 s s0 t:Nat} {w:World}
section
open Go.Sort
section
variable {α:Type} [Inhabited α] {lt:α->α->Bool} {d d' e:Array α}
theorem gi(h:i=j):d[i]! =d[j]! :=by rw[h]
def RotIn(a m b:Nat)(d d':Array α):Prop:=∀i,d'[i]! =if a<=i/\i<a+(b-m) then d[m+(i-a)]! else if a+(b-m)<=i/\i<b then d[a+(i-(a+(b-m)))]! else d[i]!
def SwpIn(a b n:Nat)(d d':Array α):Prop:=∀i,d'[i]! =if a<=i/\i<a+n then d[b+(i-a)]! else if b<=i/\i<b+n then d[a+(i-b)]! else d[i]!
theorem SwpIn.zero(a b:Nat)(d:Array α):SwpIn a b 0 d d:=fun i=>by
 rw[if_neg (by omega),if_neg (by omega)]
theorem SwpIn.step(h:SwpIn a b n d d')(hd:a+n<b)(hb:b+n<d'.size):SwpIn a b (n+1) d (swp d' (a+n) (b+n)):=fun i=>by
 have h1:d'[a+n]! =d[a+n]! :=by rw[h (a+n),if_neg (by omega),if_neg (by omega)]
 have h2:d'[b+n]! =d[b+n]! :=by rw[h (b+n),if_neg (by omega),if_neg (by omega)]
 rw[swp_get d' (by omega) hb,h1,h2,h i];repeat' split
 all_goals first|exact gi (by omega)|(exfalso;omega)
theorem zqC(hi:i<=m)(h:j<i)(hs:SwpIn (m-i) m j d d')(hr:RotIn (m-(i-j)) m (m+j) d' e):RotIn (m-i) m (m+j) d e:=fun x=>by
 rw[hr x];repeat' split
 all_goals (rw[hs];repeat' split)
 all_goals first|exact gi (by omega)|(exfalso;omega)
theorem zqD(hi:i<=m)(h:i<j)(hs:SwpIn (m-i) (m+j-i) i d d')(hr:RotIn (m-i) m (m+(j-i)) d' e):RotIn (m-i) m (m+j) d e:=fun x=>by
 rw[hr x];repeat' split
 all_goals (rw[hs];repeat' split)
 all_goals first|exact gi (by omega)|(exfalso;omega)
theorem zqE(hi:i<=m)(hs:SwpIn (m-i) m i d e):RotIn (m-i) m (m+i) d e:=fun x=>by
 rw[hs x];repeat' split
 all_goals first|exact gi (by omega)|(exfalso;omega)
theorem zeV(h:s=m∨b<=m):RotIn s m b d d:=fun x=>by
 repeat' split
 all_goals first|exact gi (by omega)|(exfalso;omega)
theorem RotIn.up(h:RotIn a (a+1) (k+1) d d')(hk:a<=k)(hb:k+1<d'.size):RotIn a (a+1) (k+2) d (swp d' k (k+1)):=fun i=>by
 have h1:d'[k]! =d[a]! :=by rw[h k,if_neg (by omega),if_pos (by omega)];exact gi (by omega)
 have h2:d'[k+1]! =d[k+1]! :=by rw[h (k+1),if_neg (by omega),if_neg (by omega)]
 rw[swp_get d' (by omega) hb,h1,h2,h i];repeat' split
 all_goals first|exact gi (by omega)|(exfalso;omega)
theorem RotIn.down(h:RotIn (k+1) m (m+1) d d')(hk:k+1<=m)(hb:m<d'.size):RotIn k m (m+1) d (swp d' (k+1) k):=fun i=>by
 have h1:d'[k+1]! =d[m]! :=by rw[h (k+1),if_pos (by omega)];exact gi (by omega)
 have h2:d'[k]! =d[k]! :=by rw[h k,if_neg (by omega),if_neg (by omega)]
 rw[swp_get d' (by omega) (by omega),h1,h2,h i];repeat' split
 all_goals first|exact gi (by omega)|(exfalso;omega)
theorem JG(S:SWO lt)(h:SortedIn lt a b d)(h1:a<=i)(h2:i<=j)(h3:j<b):lt d[j]! d[i]! =false:=by
 rcases Nat.lt_or_eq_of_le h2 with h2|rfl
 ·exact h i j h1 h2 h3
 ·exact S.irrefl _
theorem jc{a' b':Nat}(h:SortedIn lt a b d)(h1:a<=a')(h2:b'<=b):SortedIn lt a' b' d:=fun i j x y z=>h i j (by omega) y (by omega)
theorem zae(h:SortedIn lt lo hi d)(hp:PermIn a b d d')(ho:hi<=a∨b<=lo):SortedIn lt lo hi d':=fun i j x y z=>by
 rw[hp.2.1 j (by omega),hp.2.1 i (by omega)];exact h i j x y z
theorem zqF(S:SWO lt)(h:SortedIn lt (a+1) b d)(h1:a+1<=i)(h2:i<=b)(hq1:∀x,a+1<=x->x<i->lt d[x]! d[a]! =true)(hq2:∀x,i<=x->x<b->lt d[x]! d[a]! =false)(hr:RotIn a (a+1) i d d'):SortedIn lt a b d':=by
 have g1:∀x,a<=x->x+1<i->d'[x]! =d[x+1]! :=fun x h3 h4=>by rw[hr x,if_pos (by omega)];exact gi (by omega)
 have g2:d'[i-1]! =d[a]! :=by rw[hr,if_neg (by omega),if_pos (by omega)];exact gi (by omega)
 have g3:∀x,i<=x->d'[x]! =d[x]! :=fun x h3=>by rw[hr x,if_neg (by omega),if_neg (by omega)]
 intro x y hx hxy hy;by_cases c1:x+1<i
 ·rw[g1 x hx c1];by_cases c2:y+1<i
  ·rw[g1 y (by omega) c2];exact h _ _ (by omega) (by omega) (by omega)
  ·by_cases c3:y+1=i
   ·rw[gi (d:=d') (show y=i-1 by omega),g2];exact S.asymmA (hq1 _ (by omega) (by omega))
   ·rw[g3 y (by omega)];exact h _ _ (by omega) (by omega) (by omega)
 ·by_cases c3:x+1=i
  ·rw[gi (d:=d') (show x=i-1 by omega),g2,g3 y (by omega)];exact hq2 _ (by omega) hy
  ·rw[g3 x (by omega),g3 y (by omega)];exact h _ _ (by omega) (by omega) (by omega)
theorem zqG(S:SWO lt)(h:SortedIn lt a m d)(h1:a<=i)(h2:i<=m)(hq1:∀x,a<=x->x<i->lt d[m]! d[x]! =false)(hq2:∀x,i<=x->x<m->lt d[m]! d[x]! =true)(hr:RotIn i m (m+1) d d'):SortedIn lt a (m+1) d':=by
 have g1:∀x,x<i->d'[x]! =d[x]! :=fun x h3=>by rw[hr x,if_neg (by omega),if_neg (by omega)]
 have g2:d'[i]! =d[m]! :=by rw[hr,if_pos (by omega)];exact gi (by omega)
 have g3:∀x,i<x->x<=m->d'[x]! =d[x-1]! :=fun x h3 h4=>by rw[hr x,if_neg (by omega),if_pos (by omega)];exact gi (by omega)
 intro x y hx hxy hy;by_cases c1:x<i
 ·rw[g1 x c1];by_cases c2:y<i
  ·rw[g1 y c2];exact h _ _ hx hxy (by omega)
  ·by_cases c3:y=i
   ·rw[c3,g2];exact hq1 _ hx c1
   ·rw[g3 y (by omega) (by omega)];exact h _ _ hx (by omega) (by omega)
 ·rw[g3 y (by omega) (by omega)];by_cases c3:x=i
  ·rw[c3,g2];exact S.asymmA (hq2 _ (by omega) (by omega))
  ·rw[g3 x (by omega) (by omega)];exact h _ _ (by omega) (by omega) (by omega)
def Bis(q:Nat->Bool)(lo hi s r:Nat):Prop:=lo<=s/\s<=r/\r<=hi/\(∀c,lo<=c->c<s->q c=true)/\∀c,r<=c->c<hi->q c=false
def JH(q:Nat->Bool)(lo hi:Nat):Prop:=∀c c',lo<=c'->c'<=c->c<hi->q c=true->q c'=true
theorem Bis.start{q:Nat->Bool}(h:lo<=hi):Bis q lo hi lo hi:=⟨Zr,h,Zr,fun c _ _=>by omega,fun c _ _=>by omega⟩
theorem Bis.up{q:Nat->Bool}(h:Bis q lo hi s r)(hm:JH q lo hi)(h1:s<=c)(h2:c<r)(hc:q c=true):Bis q lo hi (c+1) r:=by
 obtain⟨a1,a2,a3,a4,a5⟩:=h;exact⟨by omega,by omega,a3,fun x h3 h4=>hm c x h3 (by omega) (by omega) hc,a5⟩
theorem Bis.down{q:Nat->Bool}(h:Bis q lo hi s r)(hm:JH q lo hi)(h1:s<=c)(h2:c<r)(hc:q c=false):Bis q lo hi s c:=by
 obtain⟨a1,a2,a3,a4,a5⟩:=h;refine⟨a1,h1,by omega,a4,fun x h3 h4=>?_⟩
 cases hx:q x
 ·rfl
 ·rw[hm x c (by omega) h3 h4 hx]at hc;cases hc
theorem zqH(S:SWO lt)(x:α)(h:SortedIn lt m b d):JH (fun c=>lt d[c]! x) m b:=fun c c' h1 h2 h3 hc=>by
 cases hx:lt d[c']! x
 ·have:=S.ntrans _ _ _ (JG S h h1 h2 h3) hx;simp only at hc;rw[this]at hc;cases hc
 ·exact hx
theorem zqI(S:SWO lt)(x:α)(h:SortedIn lt a m d):JH (fun c=>!lt x d[c]!) a m:=fun c c' h1 h2 h3 hc=>by
 simp only[Bool.not_eq_true']at hc|-
 exact S.ntrans _ _ _ hc (JG S h h1 h2 h3)
def zeW(a m b mid s0 r0:Nat):Prop:=a<m/\m<b/\mid=(a+b) / 2/\((m<=mid/\s0=a/\r0=m)∨(mid<m/\s0=mid+m-b/\r0=mid))
theorem zqJ(S:SWO lt)(hR:zeW a m b mid s0 r0)(h1:SortedIn lt a m d)(h2:SortedIn lt m b d):JH (fun c=>!lt d[mid+m-1-c]! d[c]!) s0 r0:=fun c c' h3 h4 h5 hc=>by
 obtain⟨r1,r2,r3,hR⟩:=hR;simp only[Bool.not_eq_true']at hc|-
 exact S.ntrans _ _ _ (S.ntrans _ _ _ (JG S h2 (i:=mid+m-1-c) (j:=mid+m-1-c') (by omega) (by omega) (by omega)) hc) (JG S h1 (by omega) h4 (by omega))
theorem zqK(S:SWO lt)(hR:zeW a m b mid s0 r0)(h1:SortedIn lt a m d)(h2:SortedIn lt m b d)(hB:Bis (fun c=>!lt d[mid+m-1-c]! d[c]!) s0 r0 s s)(hr:RotIn s m (mid+m-s) d d'):
  SortedIn lt a s d'/\SortedIn lt s mid d'/\SortedIn lt mid (mid+m-s) d'/\SortedIn lt (mid+m-s) b d'/\∀x y,a<=x->x<mid->mid<=y->y<b->lt d'[y]! d'[x]! =false:=by
 obtain⟨r1,r2,r3,hR⟩:=hR;obtain⟨b1,-,b2,q1,q2⟩:=hB;simp only[Bool.not_eq_true',Bool.not_eq_false']at q1 q2;have g1:∀x,x<s->d'[x]! =d[x]! :=fun x h=>by rw[hr x,if_neg (by omega),if_neg (by omega)]
 have g2:∀x,s<=x->x<mid->d'[x]! =d[m+(x-s)]! :=fun x h h'=>by rw[hr x,if_pos (by omega)]
 have g3:∀x,mid<=x->x<mid+m-s->d'[x]! =d[s+(x-mid)]! :=fun x h h'=>by rw[hr x,if_neg (by omega),if_pos (by omega)];exact gi (by omega)
 have g4:∀x,mid+m-s<=x->d'[x]! =d[x]! :=fun x h=>by rw[hr x,if_neg (by omega),if_neg (by omega)]
 refine⟨fun x y hx hxy hy=>?_,fun x y hx hxy hy=>?_,fun x y hx hxy hy=>?_,fun x y hx hxy hy=>?_,fun x y hx hx2 hy hy2=>?_⟩
 ·rw[g1 x (by omega),g1 y hy];exact h1 _ _ hx hxy (by omega)
 ·rw[g2 x hx (by omega),g2 y (by omega) hy];exact h2 _ _ (by omega) (by omega) (by omega)
 ·rw[g3 x hx (by omega),g3 y (by omega) hy];exact h1 _ _ (by omega) (by omega) (by omega)
 ·rw[g4 x hx,g4 y (by omega)];exact h2 _ _ (by omega) (by omega) (by omega)
 ·by_cases c1:x<s
  ·rw[g1 x c1];by_cases c2:y<mid+m-s
   ·rw[g3 y hy c2];exact h1 _ _ hx (by omega) (by omega)
   ·rw[g4 y (by omega)];have hs:s0<s:=by omega
    have hq:=q1 (s-1) (by omega) (by omega);rw[gi (d:=d) (show mid+m-1-(s-1)=mid+m-s by omega)]at hq;exact S.ntrans _ _ _ (S.ntrans _ _ _ (JG S h2 (by omega) (by omega) hy2) hq) (JG S h1 hx (by omega) (by omega))
  ·rw[g2 x (by omega) hx2];by_cases c2:y<mid+m-s
   ·rw[g3 y hy c2];have hs:s<r0:=by omega
    have hq:=S.asymmA (q2 s Zr hs);exact S.ntrans _ _ _ (S.ntrans _ _ _ (JG S h1 (i:=s) (by omega) (by omega) (by omega)) hq) (JG S h2 (by omega) (by omega) (by omega))
   ·rw[g4 y (by omega)];exact h2 _ _ (by omega) (by omega) hy2
theorem zqL{d1 d2:Array α}(hm:a<=mid/\mid<=b)(hb:b<=d.size)(hx:∀x y,a<=x->x<mid->mid<=y->y<b->lt d[y]! d[x]! =false)(p1:PermIn a mid d d1)(s1:SortedIn lt a mid d1)(p2:PermIn mid b d1 d2)(s2:SortedIn lt mid b d2):SortedIn lt a b d2:=by
 have h1:=permIn_all d d1 a mid (fun z=>∀y,mid<=y->y<b->lt d[y]! z=false) (by omega) p1 (fun x h1 h2 y h3 h4=>hx x y h1 h2 h3 h4);have h2:=permIn_all d1 d2 mid b (fun z=>∀x,a<=x->x<mid->lt z d1[x]! =false) (by rw[p1.1];exact hb) p2 (fun y h3 h4 x h5 h6=>by
  rw[p1.2.1 y (by omega)];exact h1 x h5 h6 y h3 h4)
 intro x y hx1 hxy hy;by_cases c1:y<mid
 ·rw[p2.2.1 x (by omega),p2.2.1 y (by omega)];exact s1 _ _ hx1 hxy c1
 ·by_cases c2:x<mid
  ·rw[p2.2.1 x (by omega)];exact h2 y (by omega) hy x hx1 c2
  ·exact s2 _ _ (by omega) hxy hy
def FstIn(lt:α->α->Bool)(t:Nat)(d:Array α):Prop:=∀u,u<t->SortedIn lt (u*20) (u*20+20) d
def BlkIn(lt:α->α->Bool)(k n:Nat)(d:Array α):Prop:=∀t,SortedIn lt (t*k) (min (t*k+k) n) d
def MidIn(lt:α->α->Bool)(k t n:Nat)(d:Array α):Prop:=(∀u,u<t->SortedIn lt (u*(2*k)) (u*(2*k)+2*k) d)/\∀u,2*t<=u->SortedIn lt (u*k) (min (u*k+k) n) d
theorem zeX{u:Nat}(h:u<t):u*k+k<=t*k:=by
 have:=Nat.mul_le_mul_right k (show u+1<=t from h);rwa [Nat.add_mul,Nat.one_mul]at this
theorem FstIn.step(h:FstIn lt t d)(hp:PermIn (t*20) (t*20+20) d d')(hs:SortedIn lt (t*20) (t*20+20) d'):FstIn lt (t+1) d':=fun u hu=>by
 rcases Zl u t with h1|h1
 ·exact zae (h u h1) hp (.inl (by omega))
 ·obtain rfl:u=t:=by omega
  exact hs
theorem FstIn.end_(h:FstIn lt t d)(ht:t*20<=n)(ht2:n<t*20+20)(hp:PermIn (t*20) n d d')(hs:SortedIn lt (t*20) n d'):BlkIn lt 20 n d':=fun u=>by
 rcases Zl u t with h1|h1
 ·exact jc (zae (h u h1) hp (.inl (by omega))) Zr (by omega)
 ·rcases Zl t u with h2|h2
  ·intro x y h3 h4 h5;omega
  ·obtain rfl:u=t:=by omega
   exact jc hs Zr (by omega)
theorem MidIn.zero(h:BlkIn lt k n d):MidIn lt k 0 n d:=⟨fun u hu=>absurd hu (by omega),fun u _=>h u⟩
theorem MidIn.parts(h:MidIn lt k t n d)(hn:t*(2*k)+k<=n):SortedIn lt (t*(2*k)) (t*(2*k)+k) d/\SortedIn lt (t*(2*k)+k) (min (t*(2*k)+2*k) n) d:=by
 have e1:2*t*k=t*(2*k):=by rw[Nat.mul_comm 2 t,Nat.mul_assoc]
 have e2:(2*t+1)*k=t*(2*k)+k:=by rw[Nat.add_mul,e1,Nat.one_mul]
 have h1:=h.2 (2*t) Zr;have h2:=h.2 (2*t+1) (by omega);rw[e1]at h1;rw[e2]at h2;exact⟨jc h1 Zr (by omega),jc h2 Zr (by omega)⟩
theorem MidIn.step(h:MidIn lt k t n d)(hp:PermIn (t*(2*k)) (t*(2*k)+2*k) d d')(hs:SortedIn lt (t*(2*k)) (t*(2*k)+2*k) d'):MidIn lt k (t+1) n d':=by
 refine⟨fun u hu=>?_,fun u hu=>?_⟩
 ·rcases Zl u t with h1|h1
  ·exact zae (h.1 u h1) hp (.inl (zeX h1))
  ·obtain rfl:u=t:=by omega
   exact hs
 ·refine zae (h.2 u (by omega)) hp (.inr ?_);have:=Nat.mul_le_mul_right k hu;have e:2*(t+1)*k=t*(2*k)+2*k:=by rw[Nat.mul_comm 2 (t+1),Nat.mul_assoc,Nat.add_mul,Nat.one_mul]
  omega
theorem MidIn.end_(h:MidIn lt k t n d)(ht:t*(2*k)<=n)(ht2:n<t*(2*k)+2*k)(hp:PermIn (t*(2*k)) n d d')(hs:SortedIn lt (t*(2*k)) n d'):BlkIn lt (2*k) n d':=fun u=>by
 rcases Zl u t with h1|h1
 ·exact jc (zae (h.1 u h1) hp (.inl (zeX h1))) Zr (by omega)
 ·rcases Zl t u with h2|h2
  ·have:=zeX (k:=2*k) h2;intro x y h3 h4 h5;omega
  ·obtain rfl:u=t:=by omega
   exact jc hs Zr (by omega)
theorem MidIn.ze(h:MidIn lt k t n d)(hn:n<=t*(2*k)+k):SortedIn lt (t*(2*k)) n d:=by
 have e1:2*t*k=t*(2*k):=by rw[Nat.mul_comm 2 t,Nat.mul_assoc]
 have h1:=h.2 (2*t) Zr;rw[e1]at h1;exact jc h1 Zr (by omega)
theorem BlkIn.all(h:BlkIn lt k n d)(hk:n<=k):SortedIn lt 0 n d:=by
 have:=h 0;rw[Nat.zero_mul]at this;exact jc this Zr (by omega)
end
end
section
open Go.RowKit Go.Shelf Go.Lib Go.Sort
def qT{α:Type}[Inhabited α](enc:α->List Value)(k:Nat)(w0:World)(blk off:Nat)(Q:Array α->Prop)(e:Ending)(w':World):Prop:=e= .returned (.tuple #[])/\∃dk,SWK enc k w0 blk off dk w'/\Q dk
section
variable {α:Type} [Inhabited α] {enc:α->List Value} {k:Nat} {w0 w:World} {blk off:Nat} {d0 d:Array α}
set_option maxRecDepth 1000000 in
theorem zqM(aE:∀w,(isAgg 82).run Tryz.prog w= .ok true w)(zE:∀w,(Go.sizeOf 82).run Tryz.prog w= .ok k w)(g cap a b n:Nat)(cb:Array Value)(R:RowK enc k w0 blk off d0)(hs:d0.size=d.size)(S:SWK enc k w0 blk off d w)(h1:a+n<=b)(h2:b+n<=d.size)(hsz:d.size<4611686018427387904):
  Cq 231 #[.slice (some ⟨blk,off,none⟩) d.size cap,.int .i64 a,.int .i64 b,.int .i64 n,.func (.func g) #[] cb] w (qT enc k w0 blk off fun dk=>SwpIn a b n d dk/\PermIn a (b+n) d dk):=by
 have S0:Hid (SWK enc k w0 blk off d w):=S;unfold qT;clear S;have mixed:Tryz.prog.follows Departure.mixedOrders=true:=by kernel_rfl
 go_enter Tryz.func231,Tryz.ntmps231;go_wp2_with fail
 go_loopw [10] (fun iv wr=>∃(i:Nat) (dk:Array α),iv= .int .i64 i/\i<=n/\dk.size=d.size/\Hid (SWK enc k w0 blk off dk wr)/\Hid (SwpIn a b i d dk)/\Hid (PermIn a (b+n) d dk)) (fun iv _=>n-(intOf iv).toNat)
 case atStart=>exact⟨0,d,rfl,by omega,rfl,S0,Zh (SwpIn.zero _ _ _),Zh (permIn_refl _ _ _)⟩
 case round=>
  clear S0;obtain⟨i,dk,rfl,hi,hds,S1,HW,HP⟩:=hrel;by_cases hlt:i<n
  ·have ea1:((a:Int)+(i:Int)).toNat=a+i:=by omega
   have pa1:(0:Int)<=(a:Int)+(i:Int):=by omega
   have ba1:(a:Int)+(i:Int)<(d.size:Int):=by omega
   have ra1:IntKind.i64.wrap ((a:Int)+(i:Int))=(a:Int)+(i:Int):=by rw[IntKind.wrap_i64];omega
   have ec1:((b:Int)+(i:Int)).toNat=b+i:=by omega
   have pc1:(0:Int)<=(b:Int)+(i:Int):=by omega
   have bc1:(b:Int)+(i:Int)<(d.size:Int):=by omega
   have rc1:IntKind.i64.wrap ((b:Int)+(i:Int))=(b:Int)+(i:Int):=by rw[IntKind.wrap_i64];omega
   have S2:Hid (SWK enc k w0 blk off (swp dk (a+i) (b+i)) ((wr.drew.setCells blk (off+(a+i)*k) (enc dk[b+i]!)).setCells blk (off+(b+i)*k) (enc dk[a+i]!))):=S1.out.swapped R (a+i) (b+i) (by omega) (by omega);have l1a:=S1.out.ld1 R (by omega) Tryz.prog (a+i) (by omega);have l1b:=S1.out.ld1 R (by omega) Tryz.prog (b+i) (by omega);have s1a:=S1.out.st1 R (by omega) Tryz.prog (a+i) (by omega) dk[b+i]!;have s1b:=S1.out.st2 R (by omega) Tryz.prog (a+i) (b+i) (by omega) (by omega) dk[b+i]! dk[a+i]!
   have n1a:(enc dk[a+i]!).length=k:=R.hk _;have n1b:(enc dk[b+i]!).length=k:=R.hk _;generalize enc dk[a+i]! =cI at S2 l1a s1b n1a;generalize enc dk[b+i]! =cJ at S2 l1b s1a s1b n1b;clear S1;go_wp2_with fail
   go_big_region_o
   clear l1a l1b s1a s1b;generalize (wr.drew.setCells blk (off+(a+i)*k) cJ).setCells blk (off+(b+i)*k) cI=w2 at S2|-
   go_wp2;exact⟨⟨i+1,swp dk (a+i) (b+i),by go_num,by omega,by rw[size_swp];exact hds,S2,Zh (HW.out.step (by omega) (by omega)),Zh (permIn_trans _ _ _ _ _ HP.out (swp_permIn _ _ _ _ _ (by omega) (by omega) (by omega) (by omega) (by omega)))⟩,by simp[intOf];omega⟩
  ·obtain rfl:i=n:=by omega
   go_wp2;go_end0
   exact⟨rfl,dk,S1.out,HW.out,HP.out⟩
set_option maxRecDepth 1000000 in
theorem zqN(aE:∀w,(isAgg 82).run Tryz.prog w= .ok true w)(zE:∀w,(Go.sizeOf 82).run Tryz.prog w= .ok k w)(g cap a m b:Nat)(cb:Array Value)(R:RowK enc k w0 blk off d0)(hs:d0.size=d.size)(S:SWK enc k w0 blk off d w)(h1:a<m)(h2:m<b)(h3:b<=d.size)(hsz:d.size<4611686018427387904):
  Cq 209 #[.slice (some ⟨blk,off,none⟩) d.size cap,.int .i64 a,.int .i64 m,.int .i64 b,.func (.func g) #[] cb] w (qT enc k w0 blk off fun dk=>RotIn a m b d dk/\PermIn a b d dk):=by
 have S0:Hid (SWK enc k w0 blk off d w):=S;have HC:Hid (∀(W:World)(dk:Array α)(a b n:Nat),SWK enc k w0 blk off dk W->dk.size=d.size->a+n<=b->b+n<=d.size->Cq 231 #[.slice (some ⟨blk,off,none⟩) d.size cap,.int .i64 a,.int .i64 b,.int .i64 n,.func (.func g) #[] cb] W (qT enc k w0 blk off fun dk'=>SwpIn a b n dk dk'/\PermIn a (b+n) dk dk')):=Zh (fun W dk a b n h1 h2 h3 h4=>by
  have h:=zqM aE zE g cap a b n cb R (by omega) h1 h3 (by omega) (by omega);rw[h2]at h;exact h)
 obtain⟨i0,hi0⟩:=Xz (m-a);obtain⟨j0,hj0⟩:=Xz (b-m);have hw1:IntKind.i64.wrap ((m:Int)-(a:Int))=(i0:Int):=by rw[Iw];omega
 have hw2:IntKind.i64.wrap ((b:Int)-(m:Int))=(j0:Int):=by rw[Iw];omega
 have HR0:Hid (∀e,RotIn (m-i0) m (m+j0) d e->RotIn a m b d e):=Zh (fun e h=>by rwa [show m-i0=a by omega,show m+j0=b by omega]at h);have HN:=Zh (And.intro hi0 hj0);have hi1:0<i0/\a+i0<=m:=by omega
 have hj1:0<j0/\m+j0<=b:=by omega
 unfold qT at*
 clear S R hi0 hj0;go_enter Tryz.func209,Tryz.ntmps209;go_wp2_with fail
 go_loopw [10,11] (fun iv jv wr=>∃(i j:Nat) (dk:Array α),iv= .int .i64 i/\jv= .int .i64 j/\0<i/\0<j/\a+i<=m/\m+j<=b/\dk.size=d.size/\Hid (SWK enc k w0 blk off dk wr)/\Hid (∀e,RotIn (m-i) m (m+j) dk e->RotIn a m b d e)/\Hid (PermIn a b d dk)) (fun iv jv _=>(intOf iv).toNat+(intOf jv).toNat)
 case atStart=>exact⟨i0,j0,d,rfl,rfl,hi1.1,hj1.1,hi1.2,hj1.2,rfl,S0,HR0,Zh (permIn_refl _ _ _)⟩
 case round=>
  clear S0 HR0 HN hw1 hw2 hi1 hj1;obtain⟨i,j,dk,rfl,rfl,hi,hj,hia,hjb,hds,S1,HR,HP⟩:=hrel;obtain⟨p,hp⟩:=Xz (m-i);have hwp:IntKind.i64.wrap ((m:Int)-(i:Int))=(p:Int):=by rw[Iw];omega
  by_cases hij:i=j
  ·subst hij;have hd:((i:Int) !=(i:Int))=false:=by simp
   have HCC:=Zh (HC.out wr dk p m i S1.out hds (by omega) (by omega));have HPP:=Zh hp;clear hp HC;go_wp2_with (go_at_call 231;refine HCC.out.mono ?_;rintro e w1 ⟨rfl,dk',hS',hW,hP'⟩)
   go_end0
   have hp:=HPP.out;rw[hp]at hW;exact⟨rfl,dk',hS',HR.out _ (zqE (by omega) hW),permIn_trans _ _ _ _ _ HP.out (permIn_mono _ _ _ _ _ _ (by omega) (by omega) (by omega) hP')⟩
  ·have hd:((i:Int) !=(j:Int))=true:=by simp;omega
   by_cases hgt:j<i
   ·obtain⟨q,hq⟩:=Xz (i-j);have hwq:IntKind.i64.wrap ((i:Int)-(j:Int))=(q:Int):=by rw[Iw];omega
    have HCC:=Zh (HC.out wr dk p m j S1.out hds (by omega) (by omega));have HPP:=Zh (And.intro hp hq);clear hp hq HC;go_wp2_with (go_at_call 231;refine HCC.out.mono ?_;rintro e w1 ⟨rfl,dk',hS',hW,hP'⟩)
    obtain⟨hp,hq⟩:=HPP.out;rw[hp]at hW;exact⟨⟨q,j,dk',rfl,rfl,by omega,hj,by omega,hjb,hP'.1.trans hds,Zh hS',Zh (fun e he=>HR.out e (zqC (by omega) hgt hW (by rw[<-hq];exact he))),Zh (permIn_trans _ _ _ _ _ HP.out (permIn_mono _ _ _ _ _ _ (by omega) (by omega) (by omega) hP'))⟩,by simp[intOf];omega⟩
   ·obtain⟨q,hq⟩:=Xz (j-i);obtain⟨r,hr⟩:=Xz (m+j-i);have hwq:IntKind.i64.wrap ((j:Int)-(i:Int))=(q:Int):=by rw[Iw];omega
    have hwr:IntKind.i64.wrap ((m:Int)+(j:Int))=(m:Int)+(j:Int):=Iw;have zyZ:IntKind.i64.wrap ((m:Int)+(j:Int)-(i:Int))=(r:Int):=by rw[Iw];omega
    have HCC:=Zh (HC.out wr dk p r i S1.out hds (by omega) (by omega));have HPP:=Zh (And.intro hp (And.intro hq hr));clear hp hq hr HC;go_wp2_with (go_at_call 231;refine HCC.out.mono ?_;rintro e w1 ⟨rfl,dk',hS',hW,hP'⟩)
    obtain⟨hp,hq,hr⟩:=HPP.out;rw[hp,hr]at hW;exact⟨⟨i,q,dk',rfl,rfl,hi,by omega,hia,by omega,hP'.1.trans hds,Zh hS',Zh (fun e he=>HR.out e (zqD (by omega) (by omega) hW (by rw[<-hq];exact he))),Zh (permIn_trans _ _ _ _ _ HP.out (permIn_mono _ _ _ _ _ _ (by omega) (by omega) (by omega) hP'))⟩,by simp[intOf];omega⟩
end
section
variable {α:Type} [Inhabited α] {enc:α->List Value} {k:Nat} {w0:World} {blk off:Nat} {d0:Array α} {cf:α->α->Int}
set_option maxRecDepth 1000000 in
theorem zqO{d:Array α}(aE:∀w,(isAgg 82).run Tryz.prog w= .ok true w)(zE:∀w,(Go.sizeOf 82).run Tryz.prog w= .ok k w)(O:SWO (ltOf cf))(cap a m b:Nat)(zsM:CmpLays Tryz.prog 68 #[] enc k cf blk off d0.size w0)(R:RowK enc k w0 blk off d0)(hs:d0.size=d.size)(S:SWK enc k w0 blk off d w)(h1:a<m)(h2:m<b)(h3:b<=d.size)(hsz:d.size<4611686018427387904)(s1:SortedIn (ltOf cf) a m d)(s2:SortedIn (ltOf cf) m b d)(hm:m=a+1):
  Cq 174 #[.slice (some ⟨blk,off,none⟩) d.size cap,.int .i64 a,.int .i64 m,.int .i64 b,.func (.func 68) #[] #[]] w (qT enc k w0 blk off fun dk=>PermIn a b d dk/\SortedIn (ltOf cf) a b dk):=by
 have eg:∀args w,(callFunc 68 args).run Tryz.prog w= .ok (.enter 68 args) w:=enters_of Tryz.func68 (by kernel_rfl) rfl;have HC:Hid (CmpLays Tryz.prog 68 #[] enc k cf blk off d0.size w0):=zsM;have S0:Hid (SWK enc k w0 blk off d w):=S;have H1:=Zh s1;have H2:=Zh s2;unfold qT;clear S zsM s1 s2;have hw1:IntKind.i64.wrap ((m:Int)-(a:Int))=1:=by rw[Iw];omega
 have HM:Hid (JH (fun c=>ltOf cf d[c]! d[a]!) m b):=Zh (zqH O _ H2.out);have HMM:=Zh hm;clear hm;have mixed:Tryz.prog.follows Departure.mixedOrders=true:=by kernel_rfl
 go_enter Tryz.func174,Tryz.ntmps174;go_wp2_with fail
 go_loopw [10,11,12] (fun iv jv _ wr=>∃(i j:Nat),iv= .int .i64 i/\jv= .int .i64 j/\m<=i/\i<=j/\j<=b/\Hid (Bis (fun c=>ltOf cf d[c]! d[a]!) m b i j)/\Hid (SWK enc k w0 blk off d wr)) (fun iv jv _ _=>(intOf jv).toNat-(intOf iv).toNat)
 case atStart=>exact⟨m,b,rfl,rfl,Zr,by omega,Zr,Zh (Bis.start (by omega)),S0⟩
 case round=>
  clear S0;obtain⟨i,j,rfl,rfl,hi1,hij,hjb,HB,S1⟩:=hrel;by_cases hlt:i<j
  ·obtain⟨h,hh⟩:=Xz ((i+j) / 2);have hhz:((i:Int)+(j:Int)) / 2=(h:Int):=by omega
   have hh2:i<=h/\h<j:=by omega
   have HH:=Zh hh;clear hh
   cases hlv:ltOf cf d[h]! d[a]! with
   |true=>
    have HB2:=Zh (HB.out.up HM.out hh2.1 hh2.2 hlv);have ea:((h:Int):Int).toNat=h:=by omega
    have pa:(0:Int)<=(h:Int):=by omega
    have ba:(h:Int)<(d.size:Int):=by omega
    have ra:IntKind.i64.wrap ((h:Int))=(h:Int):=by rw[IntKind.wrap_i64];omega
    have ec:((a:Int):Int).toNat=a:=by omega
    have pc:(0:Int)<=(a:Int):=by omega
    have bc:(a:Int)<(d.size:Int):=by omega
    have rc:IntKind.i64.wrap ((a:Int))=(a:Int):=by rw[IntKind.wrap_i64];omega
    obtain⟨x,hx⟩:=Xz (d[h]! );obtain⟨y,hy⟩:=Xz (d[a]! );have la:=S1.out.ld R (by omega) Tryz.prog (h) (by omega);have lb:=S1.out.ld R (by omega) Tryz.prog (a) (by omega);rw[<-hx]at la;rw[<-hy]at lb;have hc:=S1.out.cmp HC.out (by omega) x y;have hv:cf x y<0:=by rw[hx,hy];exact of_decide_eq_true hlv
    have hd:decide (cf x y<0)=true:=decide_eq_true hv;have HXY:=Zh (And.intro hx hy);clear hx hy;go_wp2_with fail
    go_quiet_grown (first|(go_at_fn 68;refine Calls.grown_of (hc _ _)))
    have SU2:Hid (SWK enc k w0 blk off d (grow (wr.drewN nq) osq)):=S1.out.grown nq osq;clear la lb hc S1 HC;generalize grow (wr.drewN nq) osq=wu at SU2|-
    clear nq osq;go_wp2;exact⟨⟨h+1,j,by go_num,rfl,by omega,by omega,hjb,HB2,SU2⟩,by simp[intOf];omega⟩
   |false=>
    have HB2:=Zh (HB.out.down HM.out hh2.1 hh2.2 hlv);have ea:((h:Int):Int).toNat=h:=by omega
    have pa:(0:Int)<=(h:Int):=by omega
    have ba:(h:Int)<(d.size:Int):=by omega
    have ra:IntKind.i64.wrap ((h:Int))=(h:Int):=by rw[IntKind.wrap_i64];omega
    have ec:((a:Int):Int).toNat=a:=by omega
    have pc:(0:Int)<=(a:Int):=by omega
    have bc:(a:Int)<(d.size:Int):=by omega
    have rc:IntKind.i64.wrap ((a:Int))=(a:Int):=by rw[IntKind.wrap_i64];omega
    obtain⟨x,hx⟩:=Xz (d[h]! );obtain⟨y,hy⟩:=Xz (d[a]! );have la:=S1.out.ld R (by omega) Tryz.prog (h) (by omega);have lb:=S1.out.ld R (by omega) Tryz.prog (a) (by omega);rw[<-hx]at la;rw[<-hy]at lb;have hc:=S1.out.cmp HC.out (by omega) x y;have hv:¬cf x y<0:=by rw[hx,hy];exact of_decide_eq_false hlv
    have hd:decide (cf x y<0)=false:=decide_eq_false hv;have HXY:=Zh (And.intro hx hy);clear hx hy;go_wp2_with fail
    go_quiet_grown (first|(go_at_fn 68;refine Calls.grown_of (hc _ _)))
    have SU2:Hid (SWK enc k w0 blk off d (grow (wr.drewN nq) osq)):=S1.out.grown nq osq;clear la lb hc S1 HC;generalize grow (wr.drewN nq) osq=wu at SU2|-
    clear nq osq;go_wp2;exact⟨⟨i,h,rfl,rfl,hi1,hh2.1,by omega,HB2,SU2⟩,by simp[intOf];omega⟩
  ·obtain rfl:i=j:=by omega
   obtain⟨p,hp⟩:=Xz (i-1);have hwp:IntKind.i64.wrap ((i:Int)-1)=(p:Int):=by rw[Iw];omega
   have hpi:p+1=i:=by omega
   clear hp;go_wp2_with fail
   go_loopw [13] (fun kv wr=>∃(q:Nat) (dk:Array α),kv= .int .i64 q/\a<=q/\q<=p/\dk.size=d.size/\Hid (RotIn a (a+1) (q+1) d dk)/\Hid (PermIn a b d dk)/\Hid (SWK enc k w0 blk off dk wr)) (fun kv _=>p-(intOf kv).toNat)
   case atStart=>exact⟨a,d,rfl,Zr,by omega,rfl,Zh (zeV (.inr Zr)),Zh (permIn_refl _ _ _),S1⟩
   case round=>
    clear S1;obtain⟨q,dk,rfl,hq1,hq2,hds,HR,HP,S1⟩:=hrel;by_cases hlq:q<p
    ·have HR2:=Zh (HR.out.up hq1 (by omega));have HP2:Hid (PermIn a b d (swp dk q (q+1))):=Zh (permIn_trans _ _ _ _ _ HP.out (swp_permIn _ _ _ _ _ (by omega) (by omega) (by omega) (by omega) (by omega)));have ea1:((q:Int):Int).toNat=q:=by omega
     have pa1:(0:Int)<=(q:Int):=by omega
     have ba1:(q:Int)<(d.size:Int):=by omega
     have ra1:IntKind.i64.wrap ((q:Int))=(q:Int):=by rw[IntKind.wrap_i64];omega
     have ec1:((q:Int)+1:Int).toNat=q+1:=by omega
     have pc1:(0:Int)<=(q:Int)+1:=by omega
     have bc1:(q:Int)+1<(d.size:Int):=by omega
     have rc1:IntKind.i64.wrap ((q:Int)+1)=(q:Int)+1:=by rw[IntKind.wrap_i64];omega
     have S2:Hid (SWK enc k w0 blk off (swp dk (q) (q+1)) ((wr.drew.setCells blk (off+(q)*k) (enc dk[q+1]!)).setCells blk (off+(q+1)*k) (enc dk[q]!))):=S1.out.swapped R (q) (q+1) (by omega) (by omega);have l1a:=S1.out.ld1 R (by omega) Tryz.prog (q) (by omega);have l1b:=S1.out.ld1 R (by omega) Tryz.prog (q+1) (by omega);have s1a:=S1.out.st1 R (by omega) Tryz.prog (q) (by omega) dk[q+1]!;have s1b:=S1.out.st2 R (by omega) Tryz.prog (q) (q+1) (by omega) (by omega) dk[q+1]! dk[q]!
     have n1a:(enc dk[q]!).length=k:=R.hk _;have n1b:(enc dk[q+1]!).length=k:=R.hk _;generalize enc dk[q]! =cI at S2 l1a s1b n1a;generalize enc dk[q+1]! =cJ at S2 l1b s1a s1b n1b;clear S1;go_wp2_with fail
     go_big_region_o
     clear l1a l1b s1a s1b;generalize (wr.drew.setCells blk (off+(q)*k) cJ).setCells blk (off+(q+1)*k) cI=w2 at S2|-
     go_wp2;exact⟨⟨q+1,swp dk q (q+1),by go_num,by omega,by omega,by rw[size_swp];exact hds,HR2,HP2,S2⟩,by simp[intOf];omega⟩
    ·obtain rfl:q=p:=by omega
     go_wp2;refine bodyPost_ret (results_none rfl _ _ _) rfl ?_;obtain⟨b1,b2,b3,q1,q2⟩:=HB.out;have hr:=HR.out;rw[hpi]at hr;have hsm:=H2.out;rw[HMM.out]at hsm;simp only[HMM.out]at q1;exact⟨rfl,dk,S1.out,HP.out,zqF O hsm (by omega) hjb q1 q2 hr⟩
set_option maxRecDepth 1000000 in
theorem zqP{d:Array α}(aE:∀w,(isAgg 82).run Tryz.prog w= .ok true w)(zE:∀w,(Go.sizeOf 82).run Tryz.prog w= .ok k w)(O:SWO (ltOf cf))(cap a m b:Nat)(zsM:CmpLays Tryz.prog 68 #[] enc k cf blk off d0.size w0)(R:RowK enc k w0 blk off d0)(hs:d0.size=d.size)(S:SWK enc k w0 blk off d w)(h1:a<m)(h2:m<b)(h3:b<=d.size)(hsz:d.size<4611686018427387904)(s1:SortedIn (ltOf cf) a m d)(s2:SortedIn (ltOf cf) m b d)(hm:m≠a+1)(hb:b=m+1):
  Cq 174 #[.slice (some ⟨blk,off,none⟩) d.size cap,.int .i64 a,.int .i64 m,.int .i64 b,.func (.func 68) #[] #[]] w (qT enc k w0 blk off fun dk=>PermIn a b d dk/\SortedIn (ltOf cf) a b dk):=by
 have eg:∀args w,(callFunc 68 args).run Tryz.prog w= .ok (.enter 68 args) w:=enters_of Tryz.func68 (by kernel_rfl) rfl;have HC:Hid (CmpLays Tryz.prog 68 #[] enc k cf blk off d0.size w0):=zsM;have S0:Hid (SWK enc k w0 blk off d w):=S;have H1:=Zh s1;have H2:=Zh s2;unfold qT;clear S zsM s1 s2;obtain⟨u,hu⟩:=Xz (m-a);have hw1:IntKind.i64.wrap ((m:Int)-(a:Int))=(u:Int):=by rw[Iw];omega
 have hu1:((u:Int)==1)=false:=by simp;omega
 have hw2:IntKind.i64.wrap ((b:Int)-(m:Int))=1:=by rw[Iw];omega
 have HM:Hid (JH (fun c=>!ltOf cf d[m]! d[c]!) a m):=Zh (zqI O _ H1.out);have HBB:=Zh hb;clear hu hb;have mixed:Tryz.prog.follows Departure.mixedOrders=true:=by kernel_rfl
 go_enter Tryz.func174,Tryz.ntmps174;go_wp2_with fail
 go_loopw [14,15,16] (fun iv jv _ wr=>∃(i j:Nat),iv= .int .i64 i/\jv= .int .i64 j/\a<=i/\i<=j/\j<=m/\Hid (Bis (fun c=>!ltOf cf d[m]! d[c]!) a m i j)/\Hid (SWK enc k w0 blk off d wr)) (fun iv jv _ _=>(intOf jv).toNat-(intOf iv).toNat)
 case atStart=>exact⟨a,m,rfl,rfl,Zr,by omega,Zr,Zh (Bis.start (by omega)),S0⟩
 case round=>
  clear S0;obtain⟨i,j,rfl,rfl,hi1,hij,hjb,HB,S1⟩:=hrel;by_cases hlt:i<j
  ·obtain⟨h,hh⟩:=Xz ((i+j) / 2);have hhz:((i:Int)+(j:Int)) / 2=(h:Int):=by omega
   have hh2:i<=h/\h<j:=by omega
   have HH:=Zh hh;clear hh
   cases hlv:ltOf cf d[m]! d[h]! with
   |false=>
    have HB2:=Zh (HB.out.up HM.out hh2.1 hh2.2 (by simp only[hlv,Bool.not_false]));have ea:((m:Int):Int).toNat=m:=by omega
    have pa:(0:Int)<=(m:Int):=by omega
    have ba:(m:Int)<(d.size:Int):=by omega
    have ra:IntKind.i64.wrap ((m:Int))=(m:Int):=by rw[IntKind.wrap_i64];omega
    have ec:((h:Int):Int).toNat=h:=by omega
    have pc:(0:Int)<=(h:Int):=by omega
    have bc:(h:Int)<(d.size:Int):=by omega
    have rc:IntKind.i64.wrap ((h:Int))=(h:Int):=by rw[IntKind.wrap_i64];omega
    obtain⟨x,hx⟩:=Xz (d[m]! );obtain⟨y,hy⟩:=Xz (d[h]! );have la:=S1.out.ld R (by omega) Tryz.prog (m) (by omega);have lb:=S1.out.ld R (by omega) Tryz.prog (h) (by omega);rw[<-hx]at la;rw[<-hy]at lb;have hc:=S1.out.cmp HC.out (by omega) x y;have hv:¬cf x y<0:=by rw[hx,hy];exact of_decide_eq_false hlv
    have hd:decide (cf x y<0)=false:=decide_eq_false hv;have HXY:=Zh (And.intro hx hy);clear hx hy;go_wp2_with fail
    go_quiet_grown (first|(go_at_fn 68;refine Calls.grown_of (hc _ _)))
    have SU2:Hid (SWK enc k w0 blk off d (grow (wr.drewN nq) osq)):=S1.out.grown nq osq;clear la lb hc S1 HC;generalize grow (wr.drewN nq) osq=wu at SU2|-
    clear nq osq;go_wp2;exact⟨⟨h+1,j,by go_num,rfl,by omega,by omega,hjb,HB2,SU2⟩,by simp[intOf];omega⟩
   |true=>
    have HB2:=Zh (HB.out.down HM.out hh2.1 hh2.2 (by simp only[hlv,Bool.not_true]));have ea:((m:Int):Int).toNat=m:=by omega
    have pa:(0:Int)<=(m:Int):=by omega
    have ba:(m:Int)<(d.size:Int):=by omega
    have ra:IntKind.i64.wrap ((m:Int))=(m:Int):=by rw[IntKind.wrap_i64];omega
    have ec:((h:Int):Int).toNat=h:=by omega
    have pc:(0:Int)<=(h:Int):=by omega
    have bc:(h:Int)<(d.size:Int):=by omega
    have rc:IntKind.i64.wrap ((h:Int))=(h:Int):=by rw[IntKind.wrap_i64];omega
    obtain⟨x,hx⟩:=Xz (d[m]! );obtain⟨y,hy⟩:=Xz (d[h]! );have la:=S1.out.ld R (by omega) Tryz.prog (m) (by omega);have lb:=S1.out.ld R (by omega) Tryz.prog (h) (by omega);rw[<-hx]at la;rw[<-hy]at lb;have hc:=S1.out.cmp HC.out (by omega) x y;have hv:cf x y<0:=by rw[hx,hy];exact of_decide_eq_true hlv
    have hd:decide (cf x y<0)=true:=decide_eq_true hv;have HXY:=Zh (And.intro hx hy);clear hx hy;go_wp2_with fail
    go_quiet_grown (first|(go_at_fn 68;refine Calls.grown_of (hc _ _)))
    have SU2:Hid (SWK enc k w0 blk off d (grow (wr.drewN nq) osq)):=S1.out.grown nq osq;clear la lb hc S1 HC;generalize grow (wr.drewN nq) osq=wu at SU2|-
    clear nq osq;go_wp2;exact⟨⟨i,h,rfl,rfl,hi1,hh2.1,by omega,HB2,SU2⟩,by simp[intOf];omega⟩
  ·obtain rfl:i=j:=by omega
   go_wp2_with fail
   go_loopw [17] (fun kv wr=>∃(q:Nat) (dk:Array α),kv= .int .i64 q/\i<=q/\q<=m/\dk.size=d.size/\Hid (RotIn q m (m+1) d dk)/\Hid (PermIn a b d dk)/\Hid (SWK enc k w0 blk off dk wr)) (fun kv _=>(intOf kv).toNat-i)
   case atStart=>exact⟨m,d,rfl,hjb,Zr,rfl,Zh (zeV (.inl rfl)),Zh (permIn_refl _ _ _),S1⟩
   case round=>
    clear S1;obtain⟨q,dk,rfl,hq1,hq2,hds,HR,HP,S1⟩:=hrel;by_cases hlq:i<q
    ·obtain⟨p,hp⟩:∃p,q=p+1:=⟨q-1,by omega⟩;have hwp:IntKind.i64.wrap ((q:Int)-1)=(p:Int):=by rw[Iw];omega
     have hr:=HR.out;rw[hp]at hr;have HR2:=Zh (hr.down (by omega) (by omega));rw[<-hp]at HR2;have HP2:Hid (PermIn a b d (swp dk q p)):=Zh (permIn_trans _ _ _ _ _ HP.out (swp_permIn _ _ _ _ _ (by omega) (by omega) (by omega) (by omega) (by omega)));have hpq:p+1=q:=by omega
     clear hr hp;have ea1:((q:Int):Int).toNat=q:=by omega
     have pa1:(0:Int)<=(q:Int):=by omega
     have ba1:(q:Int)<(d.size:Int):=by omega
     have ra1:IntKind.i64.wrap ((q:Int))=(q:Int):=by rw[IntKind.wrap_i64];omega
     have ec1:((p:Int):Int).toNat=p:=by omega
     have pc1:(0:Int)<=(p:Int):=by omega
     have bc1:(p:Int)<(d.size:Int):=by omega
     have rc1:IntKind.i64.wrap ((p:Int))=(p:Int):=by rw[IntKind.wrap_i64];omega
     have S2:Hid (SWK enc k w0 blk off (swp dk (q) (p)) ((wr.drew.setCells blk (off+(q)*k) (enc dk[p]!)).setCells blk (off+(p)*k) (enc dk[q]!))):=S1.out.swapped R (q) (p) (by omega) (by omega);have l1a:=S1.out.ld1 R (by omega) Tryz.prog (q) (by omega);have l1b:=S1.out.ld1 R (by omega) Tryz.prog (p) (by omega);have s1a:=S1.out.st1 R (by omega) Tryz.prog (q) (by omega) dk[p]!;have s1b:=S1.out.st2 R (by omega) Tryz.prog (q) (p) (by omega) (by omega) dk[p]! dk[q]!
     have n1a:(enc dk[q]!).length=k:=R.hk _;have n1b:(enc dk[p]!).length=k:=R.hk _;generalize enc dk[q]! =cI at S2 l1a s1b n1a;generalize enc dk[p]! =cJ at S2 l1b s1a s1b n1b;clear S1;go_wp2_with fail
     go_big_region_o
     clear l1a l1b s1a s1b;generalize (wr.drew.setCells blk (off+(q)*k) cJ).setCells blk (off+(p)*k) cI=w2 at S2|-
     go_wp2;exact⟨⟨p,swp dk q p,by first|rfl|go_num,by omega,by omega,by rw[size_swp];exact hds,HR2,HP2,S2⟩,by simp[intOf];omega⟩
    ·obtain rfl:q=i:=by omega
     go_wp2;refine bodyPost_ret (results_none rfl _ _ _) rfl ?_;obtain⟨b1,b2,b3,q1,q2⟩:=HB.out;simp only[Bool.not_eq_true',Bool.not_eq_false']at q1 q2;exact⟨rfl,dk,S1.out,HP.out,by rw[HBB.out];exact zqG O H1.out b1 b3 q1 q2 HR.out⟩
def zeY (cap:Nat) (enc:α->List Value) (k:Nat) (w0:World) (blk off:Nat) (cf:α->α->Int) (sz N:Nat):Prop:=∀(a m b:Nat) (d:Array α) (W:World),b-a<N->a<m->m<b->b<=sz->d.size=sz->SortedIn (ltOf cf) a m d->SortedIn (ltOf cf) m b d->SWK enc k w0 blk off d W->
    Cq 174 #[.slice (some ⟨blk,off,none⟩) sz cap,.int .i64 a,.int .i64 m,.int .i64 b,.func (.func 68) #[] #[]] W (qT enc k w0 blk off fun dk=>PermIn a b d dk/\SortedIn (ltOf cf) a b dk)
set_option maxRecDepth 1000000 in
theorem zqQ{d:Array α}(aE:∀w,(isAgg 82).run Tryz.prog w= .ok true w)(zE:∀w,(Go.sizeOf 82).run Tryz.prog w= .ok k w)(O:SWO (ltOf cf))(cap a m b:Nat)(zsM:CmpLays Tryz.prog 68 #[] enc k cf blk off d0.size w0)(R:RowK enc k w0 blk off d0)(hs:d0.size=d.size)(S:SWK enc k w0 blk off d w)(h1:a<m)(h2:m<b)(h3:b<=d.size)(hsz:d.size<4611686018427387904)(s1:SortedIn (ltOf cf) a m d)(s2:SortedIn (ltOf cf) m b d)(hm:m≠a+1)(hb:b≠m+1)(ztd:zeY cap enc k w0 blk off cf d.size (b-a)):
  Cq 174 #[.slice (some ⟨blk,off,none⟩) d.size cap,.int .i64 a,.int .i64 m,.int .i64 b,.func (.func 68) #[] #[]] w (qT enc k w0 blk off fun dk=>PermIn a b d dk/\SortedIn (ltOf cf) a b dk):=by
 have eg:∀args w,(callFunc 68 args).run Tryz.prog w= .ok (.enter 68 args) w:=enters_of Tryz.func68 (by kernel_rfl) rfl;have HC:Hid (CmpLays Tryz.prog 68 #[] enc k cf blk off d0.size w0):=zsM;have S0:Hid (SWK enc k w0 blk off d w):=S;have H1:=Zh s1;have H2:=Zh s2;unfold qT;clear S zsM s1 s2;have HRC:=Zh ztd;have zr3:Hid (∀(W:World)(dk:Array α)(a m b:Nat),SWK enc k w0 blk off dk W->dk.size=d.size->a<m->m<b->b<=d.size->Cq 209 #[.slice (some ⟨blk,off,none⟩) d.size cap,.int .i64 a,.int .i64 m,.int .i64 b,.func (.func 68) #[] #[]] W (qT enc k w0 blk off fun dk'=>RotIn a m b dk dk'/\PermIn a b dk dk')):=Zh (fun W dk a m b h1 h2 h3 h4 h5=>by
  have h:=zqN aE zE 68 cap a m b #[] R (by omega) h1 h3 h4 (by omega) (by omega);rw[h2]at h;exact h)
 unfold zeY at HRC;unfold qT at HRC zr3;obtain⟨u,hu⟩:=Xz (m-a);obtain⟨v,hv⟩:=Xz (b-m);have hw1:IntKind.i64.wrap ((m:Int)-(a:Int))=(u:Int):=by rw[Iw];omega
 have hu1:((u:Int)==1)=false:=by simp;omega
 have hw2:IntKind.i64.wrap ((b:Int)-(m:Int))=(v:Int):=by rw[Iw];omega
 have hv1:((v:Int)==1)=false:=by simp;omega
 obtain⟨mid,ztO⟩:=Xz ((a+b) / 2);have hmz:((a:Int)+(b:Int)) / 2=(mid:Int):=by omega
 have hm3:a<mid/\mid<b:=by omega
 have hwn:IntKind.i64.wrap ((mid:Int)+(m:Int))=(mid:Int)+(m:Int):=Iw;obtain⟨n,hn⟩:=Xz (mid+m);have hnz:(mid:Int)+(m:Int)=(n:Int):=by omega
 obtain⟨s0,r0,hR0,ztF⟩:∃s0 r0,zeW a m b mid s0 r0/\((m<=mid/\s0=a/\r0=m)∨(mid<m/\s0=n-b/\r0=mid)):=by
  rcases Zl mid m with h|h
  ·exact⟨n-b,mid,⟨h1,h2,ztO,.inr ⟨h,by rw[hn],rfl⟩⟩,.inr ⟨h,rfl,rfl⟩⟩
  ·exact⟨a,m,⟨h1,h2,ztO,.inl ⟨h,rfl,rfl⟩⟩,.inl ⟨h,rfl,rfl⟩⟩
 have HR0:=Zh hR0;have HM:Hid (JH (fun c=>!ltOf cf d[mid+m-1-c]! d[c]!) s0 r0):=Zh (zqJ O hR0 H1.out H2.out);obtain⟨pp,hpp⟩:=Xz (n-1);have hwp:IntKind.i64.wrap ((n:Int)-1)=(pp:Int):=by rw[Iw];omega
 have hsr:a<=s0/\s0<=r0/\r0<=m/\r0<=mid/\n-s0<=b/\m<=n-r0/\mid<=n-r0:=by omega
 have hwb:mid<m->IntKind.i64.wrap ((n:Int)-(b:Int))=(s0:Int):=fun h=>by rw[Iw];omega
 have HNN:=Zh (And.intro hn hpp);have HCS:=Zh ztF;have zsz:=Zh ztO;have zy0:n<=pp+1:=by omega
 have zy1:pp+1<=n:=by omega
 clear hu hv ztO hn hpp ztF hR0 ztd;have mixed:Tryz.prog.follows Departure.mixedOrders=true:=by kernel_rfl
 go_enter Tryz.func174,Tryz.ntmps174;go_upto_if 140 with fail
 go_cut [20,21] (fun sv rv W=>sv= .int .i64 s0/\rv= .int .i64 r0/\W=w)
 case first=>as_aux_lemma=>
  rcases HCS.out with ⟨hc1,hc2,hc3⟩|⟨hc1,hc2,hc3⟩
  ·have hd:decide ((m:Int)>(mid:Int))=false:=by simp;omega
   subst hc2 hc3;go_wp2_with fail
   go_meet
   exact⟨rfl,rfl,rfl⟩
  ·have zy2:=hwb hc1;subst hc3;go_wp2_with fail
   go_meet
   exact⟨by rw[hc2],rfl,rfl⟩
 case rest=>
  obtain⟨rfl,rfl,hW⟩:=hcut;rw[hW];clear hW hwb;go_wp2_with fail
  go_loopw [20,21,23] (fun sv rv _ wr=>∃(s r:Nat),sv= .int .i64 s/\rv= .int .i64 r/\s0<=s/\s<=r/\r<=r0/\Hid (Bis (fun c=>!ltOf cf d[mid+m-1-c]! d[c]!) s0 r0 s r)/\Hid (SWK enc k w0 blk off d wr)) (fun sv rv _ _=>(intOf rv).toNat-(intOf sv).toNat)
  case atStart=>exact⟨s0,r0,rfl,rfl,Zr,by omega,Zr,Zh (Bis.start (by omega)),S0⟩
  case round=>
   clear S0;obtain⟨s,r,rfl,rfl,hs1,zy3,hr1,HB,S1⟩:=hrel;by_cases hlt:s<r
   ·obtain⟨h,hh⟩:=Xz ((s+r) / 2);have hhz:((s:Int)+(r:Int)) / 2=(h:Int):=by omega
    have hh2:s<=h/\h<r:=by omega
    obtain⟨z,hz⟩:=Xz (pp-h);have hwz:IntKind.i64.wrap ((pp:Int)-(h:Int))=(z:Int):=by rw[Iw];omega
    have hzl:z<d.size:=by omega
    have hpi:mid+m-1-h=z:=by have:=HNN.out;omega
    have HPI:=Zh hpi;clear hh hpi hz
    cases hlv:ltOf cf d[z]! d[h]! with
    |false=>as_aux_lemma=>
     have HB2:=Zh (HB.out.up HM.out hh2.1 hh2.2 (by simp only[HPI.out,hlv,Bool.not_false]));have ea:((z:Int):Int).toNat=z:=by omega
     have pa:(0:Int)<=(z:Int):=by omega
     have ba:(z:Int)<(d.size:Int):=by omega
     have ra:IntKind.i64.wrap ((z:Int))=(z:Int):=by rw[IntKind.wrap_i64];omega
     have ec:((h:Int):Int).toNat=h:=by omega
     have pc:(0:Int)<=(h:Int):=by omega
     have bc:(h:Int)<(d.size:Int):=by omega
     have rc:IntKind.i64.wrap ((h:Int))=(h:Int):=by rw[IntKind.wrap_i64];omega
     obtain⟨x,hx⟩:=Xz (d[z]! );obtain⟨y,hy⟩:=Xz (d[h]! );have la:=S1.out.ld R (by omega) Tryz.prog (z) (by omega);have lb:=S1.out.ld R (by omega) Tryz.prog (h) (by omega);rw[<-hx]at la;rw[<-hy]at lb;have hc:=S1.out.cmp HC.out (by omega) x y;have hv:¬cf x y<0:=by rw[hx,hy];exact of_decide_eq_false hlv
     have hd:decide (cf x y<0)=false:=decide_eq_false hv;have HXY:=Zh (And.intro hx hy);clear hx hy;go_wp2_with fail
     go_quiet_grown (first|(go_at_fn 68;refine Calls.grown_of (hc _ _)))
     have SU2:Hid (SWK enc k w0 blk off d (grow (wr.drewN nq) osq)):=S1.out.grown nq osq;clear la lb hc S1 HC;generalize grow (wr.drewN nq) osq=wu at SU2|-
     clear nq osq;go_wp2;exact⟨⟨h+1,r,by go_num,rfl,by omega,by omega,hr1,HB2,SU2⟩,by simp[intOf];omega⟩
    |true=>as_aux_lemma=>
     have HB2:=Zh (HB.out.down HM.out hh2.1 hh2.2 (by simp only[HPI.out,hlv,Bool.not_true]));have ea:((z:Int):Int).toNat=z:=by omega
     have pa:(0:Int)<=(z:Int):=by omega
     have ba:(z:Int)<(d.size:Int):=by omega
     have ra:IntKind.i64.wrap ((z:Int))=(z:Int):=by rw[IntKind.wrap_i64];omega
     have ec:((h:Int):Int).toNat=h:=by omega
     have pc:(0:Int)<=(h:Int):=by omega
     have bc:(h:Int)<(d.size:Int):=by omega
     have rc:IntKind.i64.wrap ((h:Int))=(h:Int):=by rw[IntKind.wrap_i64];omega
     obtain⟨x,hx⟩:=Xz (d[z]! );obtain⟨y,hy⟩:=Xz (d[h]! );have la:=S1.out.ld R (by omega) Tryz.prog (z) (by omega);have lb:=S1.out.ld R (by omega) Tryz.prog (h) (by omega);rw[<-hx]at la;rw[<-hy]at lb;have hc:=S1.out.cmp HC.out (by omega) x y;have hv:cf x y<0:=by rw[hx,hy];exact of_decide_eq_true hlv
     have hd:decide (cf x y<0)=true:=decide_eq_true hv;have HXY:=Zh (And.intro hx hy);clear hx hy;go_wp2_with fail
     go_quiet_grown (first|(go_at_fn 68;refine Calls.grown_of (hc _ _)))
     have SU2:Hid (SWK enc k w0 blk off d (grow (wr.drewN nq) osq)):=S1.out.grown nq osq;clear la lb hc S1 HC;generalize grow (wr.drewN nq) osq=wu at SU2|-
     clear nq osq;go_wp2;exact⟨⟨s,h,rfl,rfl,hs1,hh2.1,by omega,HB2,SU2⟩,by simp[intOf];omega⟩
   ·obtain rfl:s=r:=by omega
    obtain⟨t,ht⟩:=Xz (n-s);have hwt:IntKind.i64.wrap ((n:Int)-(s:Int))=(t:Int):=by rw[Iw];omega
    have ht2:mid<=t/\m<=t/\t<=b:=by omega
    have hmt:mid+m-s=t:=by have:=HNN.out;omega
    have HT:=Zh (And.intro ht hmt);clear ht hmt;obtain⟨cb,hcb⟩:∃cb:Bool,cb=decide (s<m/\m<t):=⟨_,rfl⟩;have HCB:=Zh hcb;clear hcb;go_upto_region 39 with fail
    go_cut [185] (fun c W=>c= .bool cb/\W=wr)
    case first=>as_aux_lemma=>
     by_cases hc1:s<m
     ·by_cases hc2:m<t
      ·go_wp2_with fail
       go_meet
       exact⟨by rw[HCB.out,decide_eq_true ⟨hc1,hc2⟩],rfl⟩
      ·go_wp2_with fail
       go_meet
       exact⟨by rw[HCB.out,decide_eq_false fun h=>hc2 h.2],rfl⟩
     ·go_wp2_with fail
      go_meet
      exact⟨by rw[HCB.out,decide_eq_false fun h=>hc1 h.1],rfl⟩
    case rest=>
    obtain⟨rfl,hW⟩:=hcut;rw[hW];clear hW;go_upto_if 185 with fail
    go_cut [] (fun W=>∃dk,dk.size=d.size/\Hid (SWK enc k w0 blk off dk W)/\Hid (RotIn s m t d dk)/\Hid (PermIn a b d dk))
    case first=>as_aux_lemma=>
     cases cb with
     |true=>
      ·have hc:=of_decide_eq_true HCB.out.symm;have hc1:=hc.1;have hc2:=hc.2;clear hc;have HCC:=Zh (zr3.out wr d s m t S1.out rfl hc1 hc2 (by omega));go_wp2_with (go_at_call 209;refine HCC.out.mono ?_;rintro e1 w1 ⟨rfl,dk',hS',hW,hP'⟩)
       go_meet
       exact⟨dk',hP'.1,Zh hS',Zh hW,Zh (permIn_mono _ _ _ _ _ _ (by omega) (by omega) (by omega) hP')⟩
     |false=>
      have hc:=of_decide_eq_false HCB.out.symm;go_wp2_with fail
      go_meet
      exact⟨d,rfl,S1,Zh (zeV (by omega)),Zh (permIn_refl _ _ _)⟩
    case rest=>
     obtain⟨dk,hds,S2,HRT,HP⟩:=hcut;have hst:=zqK O HR0.out H1.out H2.out HB.out (d':=dk) (by rw[HT.out.2];exact HRT.out);rw[HT.out.2]at hst;have HST:=Zh hst;clear hst S1;obtain⟨wA,hwA⟩:=Xz wc;rw[<-hwA]at S2|-
     clear hwA;obtain⟨cb2,hcb⟩:∃cb:Bool,cb=decide (a<s/\s<mid):=⟨_,rfl⟩;have zrF:=Zh hcb;clear hcb;go_upto_region 41 with fail
     go_cut [199] (fun c W=>c= .bool cb2/\W=wA)
     case first=>as_aux_lemma=>
      by_cases hc1:a<s
      ·by_cases hc2:s<mid
       ·go_wp2_with fail
        go_meet
        exact⟨by rw[zrF.out,decide_eq_true ⟨hc1,hc2⟩],rfl⟩
       ·go_wp2_with fail
        go_meet
        exact⟨by rw[zrF.out,decide_eq_false fun h=>hc2 h.2],rfl⟩
      ·go_wp2_with fail
       go_meet
       exact⟨by rw[zrF.out,decide_eq_false fun h=>hc1 h.1],rfl⟩
     case rest=>
     obtain⟨rfl,hW⟩:=hcut;rw[hW];clear hW;go_upto_if 199 with fail
     go_cut [] (fun W=>∃d1,d1.size=d.size/\Hid (SWK enc k w0 blk off d1 W)/\Hid (PermIn a mid dk d1)/\Hid (SortedIn (ltOf cf) a mid d1))
     case first=>as_aux_lemma=>
      cases cb2 with
      |true=>
       ·have hc:=of_decide_eq_true zrF.out.symm;have hc1:=hc.1;have hc2:=hc.2;clear hc;have HCC:=Zh (HRC.out a s mid dk _ (by omega) hc1 hc2 (by omega) hds HST.out.1 HST.out.2.1 S2.out);go_wp2_with (go_at_call 174;refine HCC.out.mono ?_;rintro e1 w1 ⟨rfl,dk',hS',hP',hs'⟩)
        go_meet
        exact⟨dk',hP'.1.trans hds,Zh hS',Zh hP',Zh hs'⟩
      |false=>
       have hc:=of_decide_eq_false zrF.out.symm;have HF:Hid (SortedIn (ltOf cf) a mid dk):=Zh (by
        rcases Zl a s with h|h
        ·exact jc HST.out.1 Zr (by omega)
        ·exact jc HST.out.2.1 h Zr)
       go_wp2_with fail
       go_meet
       exact⟨dk,hds,S2,Zh (permIn_refl _ _ _),HF⟩
     case rest=>
      obtain⟨d1,zuS,S3,HP1,HS1⟩:=hcut;clear S2;have F3:=Zh (zae HST.out.2.2.1 HP1.out (.inr Zr));have F4:=Zh (zae HST.out.2.2.2.1 HP1.out (.inr (by omega)));have zrs:Hid (∀d2,PermIn mid b d1 d2->SortedIn (ltOf cf) mid b d2->PermIn a b d d2/\SortedIn (ltOf cf) a b d2):=Zh (fun d2 hp hs=>⟨permIn_trans _ _ _ _ _ (permIn_trans _ _ _ _ _ HP.out (permIn_mono _ _ _ _ _ _ (by omega) (by omega) (by omega) HP1.out)) (permIn_mono _ _ _ _ _ _ (by omega) (by omega) (by omega) hp),zqL (by omega) (by omega) HST.out.2.2.2.2 HP1.out HS1.out hp hs⟩)
      as_aux_lemma=>
      by_cases hc1:mid<t
      ·by_cases hc2:t<b
       ·have HCC:=Zh (HRC.out mid t b d1 _ (by omega) hc1 hc2 (by omega) zuS F3.out F4.out S3.out);go_wp2_with (go_at_call 174;refine HCC.out.mono ?_;rintro e1 w1 ⟨rfl,dk',hS',hP',hs'⟩)
        go_end0
        exact⟨rfl,dk',hS',zrs.out dk' hP' hs'⟩
       ·go_wp2_with fail
        go_end0
        exact⟨rfl,d1,S3.out,zrs.out d1 (permIn_refl _ _ _) (jc F3.out Zr (by omega))⟩
      ·go_wp2_with fail
       go_end0
       exact⟨rfl,d1,S3.out,zrs.out d1 (permIn_refl _ _ _) (jc F4.out (by omega) Zr)⟩
theorem zjf(aE:∀w,(isAgg 82).run Tryz.prog w= .ok true w)(zE:∀w,(Go.sizeOf 82).run Tryz.prog w= .ok k w)(O:SWO (ltOf cf))(cap:Nat)(zsM:CmpLays Tryz.prog 68 #[] enc k cf blk off d0.size w0)(R:RowK enc k w0 blk off d0)(hsz:d0.size<4611686018427387904):∀N,zeY cap enc k w0 blk off cf d0.size N
 |0=>fun a m b d W h=>absurd h (by omega)
 |N+1=>fun a m b d W h h1 h2 h3 h4 s1 s2 S=>by
  have ih:=zjf aE zE O cap zsM R hsz N;rw[<-h4]at h3|-
  by_cases hm:m=a+1
  ·exact zqO aE zE O cap a m b zsM R h4.symm S h1 h2 h3 (by omega) s1 s2 hm
  ·by_cases hb:b=m+1
   ·exact zqP aE zE O cap a m b zsM R h4.symm S h1 h2 h3 (by omega) s1 s2 hm hb
   ·exact zqQ aE zE O cap a m b zsM R h4.symm S h1 h2 h3 (by omega) s1 s2 hm hb (fun a' m' b' d' W' g g1 g2 g3 g4=>by
     rw[h4];exact ih a' m' b' d' W' (by omega) g1 g2 (by omega) (g4.trans h4))
end
section
variable {α:Type} [Inhabited α] {enc:α->List Value} {k:Nat} {w0:World} {blk off:Nat} {d0:Array α} {cf:α->α->Int}
set_option maxRecDepth 1000000 in
theorem zqR{d:Array α}(aE:∀w,(isAgg 82).run Tryz.prog w= .ok true w)(zE:∀w,(Go.sizeOf 82).run Tryz.prog w= .ok k w)(O:SWO (ltOf cf))(cap n:Nat)(zsM:CmpLays Tryz.prog 68 #[] enc k cf blk off d0.size w0)(R:RowK enc k w0 blk off d0)(hs:d0.size=n)(hd:d.size=n)(S:SWK enc k w0 blk off d w)(hsz:n<1152921504606846976):
  Cq 113 #[.slice (some ⟨blk,off,none⟩) n cap,.int .i64 n,.func (.func 68) #[] #[]] w (qT enc k w0 blk off fun dk=>PermIn 0 n d dk/\SortedIn (ltOf cf) 0 n dk):=by
 have eg:∀args w,(callFunc 68 args).run Tryz.prog w= .ok (.enter 68 args) w:=enters_of Tryz.func68 (by kernel_rfl) rfl;have HI:Hid (∀(W:World)(dk:Array α)(a b:Nat),SWK enc k w0 blk off dk W->dk.size=n->a<=b->b<=n->Cq 173 #[.slice (some ⟨blk,off,none⟩) n cap,.int .i64 a,.int .i64 b,.func (.func 68) #[] #[]] W (qT enc k w0 blk off fun dk'=>PermIn a b dk dk'/\SortedIn (ltOf cf) a b dk')):=Zh (fun W dk a b h1 h2 h3 h4=>by
  have h:=AnyQ.insertionSortCmpFunc_w (P:=Tryz.prog) Tryz.laysIns k aE zE enc cf 68 #[] blk off cap a b d0 dk w0 W eg zsM R (by omega) h1 O h3 (by omega) (by omega);rw[h2]at h;have hh:=insertionSort_holds O dk a b h3 (by omega);exact h.mono fun e w'⟨he,hw⟩=>⟨he,_,hw,hh.1,hh.2⟩)
 have HM:Hid (∀(W:World)(dk:Array α)(a m b:Nat),SWK enc k w0 blk off dk W->dk.size=n->a<m->m<b->b<=n->SortedIn (ltOf cf) a m dk->SortedIn (ltOf cf) m b dk->Cq 174 #[.slice (some ⟨blk,off,none⟩) n cap,.int .i64 a,.int .i64 m,.int .i64 b,.func (.func 68) #[] #[]] W (qT enc k w0 blk off fun dk'=>PermIn a b dk dk'/\SortedIn (ltOf cf) a b dk')):=Zh (fun W dk a m b h1 h2 h3 h4 h5 h6 h7=>by
  have h:=zjf aE zE O cap zsM R (by omega) (b-a+1) a m b dk W (by omega) h3 h4 (by omega) (by omega) h6 h7 h1;rw[hs]at h;exact h)
 have S0:Hid (SWK enc k w0 blk off d w):=S;have HD:=Zh hd;unfold qT at*
 clear S R zsM O hs hd eg aE zE;go_enter Tryz.func113,Tryz.ntmps113;go_wp2_with fail
 go_loopw [7,8] (fun av bv wr=>∃(t a b:Nat) (dk:Array α),av= .int .i64 a/\bv= .int .i64 b/\a<=n/\b<=a+20/\a+20<=b/\Hid (a=t*20)/\dk.size=n/\Hid (SWK enc k w0 blk off dk wr)/\Hid (FstIn (ltOf cf) t dk)/\Hid (PermIn 0 n d dk)) (fun av _ _=>n+20-(intOf av).toNat)
 case atStart=>exact⟨0,0,20,d,rfl,rfl,by omega,by omega,by omega,Zh rfl,HD.out,S0,Zh (fun u hu=>absurd hu (by omega)),Zh (permIn_refl _ _ _)⟩
 case round=>
  clear S0;obtain⟨t,a,b,dk,rfl,rfl,han,hb1,hb2,HT,hds,S1,HF,HP⟩:=hrel;by_cases hlt:b<=n
  ·have hd1:decide ((b:Int)<=(n:Int))=true:=by simp;omega
   have HCC:=Zh (HI.out wr dk a b S1.out hds (by omega) hlt);have hwb:IntKind.i64.wrap ((b:Int)+20)=(b:Int)+20:=Iw;clear HI HM;go_wp2_with (go_at_call 173;refine HCC.out.mono ?_;rintro e w1 ⟨rfl,dk',hS',hP',hs'⟩)
   have HT2:Hid (b=(t+1)*20):=Zh (by have:=HT.out;omega);have hF2:FstIn (ltOf cf) (t+1) dk':=HF.out.step (by rw[<-HT.out];rwa [show b=a+20 by omega]at hP') (by rw[<-HT.out];rwa [show b=a+20 by omega]at hs');exact⟨⟨t+1,b,b+20,dk',rfl,by go_num,hlt,by omega,by omega,HT2,hP'.1.trans hds,Zh hS',Zh hF2,Zh (permIn_trans _ _ _ _ _ HP.out (permIn_mono _ _ _ _ _ _ (by omega) (by omega) (by omega) hP'))⟩,by simp[intOf];omega⟩
  ·have hd1:decide ((b:Int)<=(n:Int))=false:=by simp;omega
   have HCC:=Zh (HI.out wr dk a n S1.out hds han Zr);clear HI;go_wp2_with (go_at_call 173;refine HCC.out.mono ?_;rintro e w1 ⟨rfl,dk1,hS1,hP1,hs1⟩)
   have zuS:dk1.size=n:=hP1.1.trans hds;have HB0:Hid (BlkIn (ltOf cf) 20 n dk1):=Zh (HF.out.end_ (by rw[<-HT.out];exact han) (by rw[<-HT.out];omega) (by rw[<-HT.out];exact hP1) (by rw[<-HT.out];exact hs1));have HP1:Hid (PermIn 0 n d dk1):=Zh (permIn_trans _ _ _ _ _ HP.out (permIn_mono _ _ _ _ _ _ (by omega) (by omega) (by omega) hP1));have HS1:=Zh hS1;clear S1 HF HP hP1 hs1 hS1 HCC HT hds hd1;go_loopw [6,7,8,9] (fun sv _ _ _ wz=>∃(s:Nat) (dz:Array α),sv= .int .i64 s/\20<=s/\s<=2*n+20/\dz.size=n/\Hid (SWK enc k w0 blk off dz wz)/\Hid (BlkIn (ltOf cf) s n dz)/\Hid (PermIn 0 n d dz)) (fun sv _ _ _ _=>n-(intOf sv).toNat)
   case atStart=>exact⟨20,dk1,rfl,by omega,by omega,zuS,HS1,HB0,HP1⟩
   case round=>
    clear HS1 HB0 HP1 zuS;obtain⟨s,dz,rfl,zy4,hsn,hdz,S2,HB,HP⟩:=hrel;by_cases ztu:s<n
    ·have hw2:IntKind.i64.wrap (2*(s:Int))=2*(s:Int):=Iw;have hw3:IntKind.i64.wrap ((s:Int)*2)=(s:Int)*2:=Iw;have hd2:decide ((s:Int)<(n:Int))=true:=by simp;omega
     go_wp2_with fail
     go_loopw [7,8] (fun av bv wy=>∃(t a b:Nat) (dy:Array α),av= .int .i64 a/\bv= .int .i64 b/\a<=n/\b<=a+2*s/\a+2*s<=b/\Hid (a=t*(2*s))/\dy.size=n/\Hid (SWK enc k w0 blk off dy wy)/\Hid (MidIn (ltOf cf) s t n dy)/\Hid (PermIn 0 n d dy)) (fun av _ _=>n+2*s-(intOf av).toNat)
     case atStart=>exact⟨0,0,2*s,dz,rfl,by go_num,by omega,by omega,by omega,Zh (by simp),hdz,S2,Zh (MidIn.zero HB.out),HP⟩
     case round=>
      clear S2 HB HP;obtain⟨t,a,b,dy,rfl,rfl,zwp,hb3,hb4,HT,hdy,S3,HM3,HP3⟩:=hrel;have hwm:IntKind.i64.wrap ((a:Int)+(s:Int))=(a:Int)+(s:Int):=Iw;obtain⟨m,hm⟩:=Xz (a+s);have hmz:(a:Int)+(s:Int)=(m:Int):=by omega
      have hm1:m<=a+s:=by omega
      have hm2:a+s<=m:=by omega
      have HMQ:=Zh hm;clear hm;by_cases zvl:b<=n
      ·have hd3:decide ((b:Int)<=(n:Int))=true:=by simp;omega
       have hpt:=HM3.out.parts (by rw[<-HT.out];omega);rw[<-HT.out,<-HMQ.out,show min (a+2*s) n=b by omega]at hpt;have HCC:=Zh (HM.out wr dy a m b S3.out hdy (by omega) (by omega) zvl hpt.1 hpt.2);have zy5:IntKind.i64.wrap ((b:Int)+2*(s:Int))=(b:Int)+2*(s:Int):=Iw;clear HM hpt;go_wp2_with (go_at_call 174;refine HCC.out.mono ?_;rintro e w2 ⟨rfl,dk',hS',hP',hs'⟩)
       have hT2:b=(t+1)*(2*s):=by rw[Nat.add_mul,Nat.one_mul,<-HT.out];omega
       have hF2:MidIn (ltOf cf) s (t+1) n dk':=HM3.out.step (by rw[<-HT.out];rwa [show b=a+2*s by omega]at hP') (by rw[<-HT.out];rwa [show b=a+2*s by omega]at hs');exact⟨⟨t+1,b,b+2*s,dk',rfl,by go_num,zvl,by omega,by omega,Zh hT2,hP'.1.trans hdy,Zh hS',Zh hF2,Zh (permIn_trans _ _ _ _ _ HP3.out (permIn_mono _ _ _ _ _ _ (by omega) (by omega) (by omega) hP'))⟩,by simp[intOf];omega⟩
      ·have hd3:decide ((b:Int)<=(n:Int))=false:=by simp;omega
       by_cases zvM:m<n
       ·have hd4:decide ((m:Int)<(n:Int))=true:=by simp;omega
        have hpt:=HM3.out.parts (by rw[<-HT.out];omega);rw[<-HT.out,<-HMQ.out,show min (a+2*s) n=n by omega]at hpt;have HCC:=Zh (HM.out wr dy a m n S3.out hdy (by omega) zvM Zr hpt.1 hpt.2);clear HM hpt;go_wp2_with (go_at_call 174;refine HCC.out.mono ?_;rintro e w2 ⟨rfl,dk',hS',hP',hs'⟩)
        have hF2:BlkIn (ltOf cf) (2*s) n dk':=HM3.out.end_ (by rw[<-HT.out];exact zwp) (by rw[<-HT.out];omega) (by rw[<-HT.out];exact hP') (by rw[<-HT.out];exact hs');exact⟨⟨2*s,dk',by go_num,by omega,by omega,hP'.1.trans hdy,Zh hS',Zh hF2,Zh (permIn_trans _ _ _ _ _ HP3.out (permIn_mono _ _ _ _ _ _ (by omega) (by omega) (by omega) hP'))⟩,by simp[intOf];omega⟩
       ·have hd4:decide ((m:Int)<(n:Int))=false:=by simp;omega
        have hla:=HM3.out.ze (by rw[<-HT.out];omega);rw[<-HT.out]at hla;have hF2:BlkIn (ltOf cf) (2*s) n dy:=HM3.out.end_ (by rw[<-HT.out];exact zwp) (by rw[<-HT.out];omega) (by rw[<-HT.out];exact permIn_refl _ _ _) (by rw[<-HT.out];exact hla);have HF2:=Zh hF2;clear HM hla hF2;go_wp2_with fail
        exact⟨⟨2*s,dy,by go_num,by omega,by omega,hdy,S3,HF2,HP3⟩,by simp[intOf];omega⟩
    ·have hd2:decide ((s:Int)<(n:Int))=false:=by simp;omega
     go_wp2_with fail
     go_end0
     exact⟨rfl,dz,S2.out,HP.out,HB.out.all (by omega)⟩
end
end
section
open Go.RowKit
structure ME where
 i:Int
 A:Option Addr
 c:Nat
 p:List Ct
def ME.enc(x:ME):List Value:=[.int .i64 x.i,.slice x.A x.p.length x.c]
def ME.ok(w:World)(x:ME):Prop:=Arr w x.A 45 (zP x.p)/\x.p.length<=1099511627776
theorem ME.ok.ext{w':World}{x:ME}(h:x.ok w)(hx:Ext w w'):x.ok w':=⟨h.1.ext hx,h.2⟩
theorem ME.ok.ct{x:ME}(h:x.ok w):CtV w x.A x.p:=⟨_,h.1⟩
theorem GrowD.alloc(w:World)(o:Obj):GrowD w (w.alloc o):=⟨0,#[o],by rw[Sort.alloc_eq_grow];rfl⟩
theorem zqS{x y:ME}(hx:x.ok w)(hy:y.ok w):
  Cq 68 #[.agg #[.int .i64 x.i,.slice x.A x.p.length x.c],.agg #[.int .i64 y.i,.slice y.A y.p.length y.c]] w fun e w'=>e= .returned (.int .i64 (Zw x.p y.p))/\GrowD w w':=by
 have HC:=Zh (fun W(e:Ext w W)=>zi5 (w:=W) (c:=x.c) (d:=y.c) (hx.ext e).ct (hy.ext e).ct hx.2 hy.2);obtain⟨xi,xA,xc,xp⟩:=x;obtain⟨yi,yA,yc,yp⟩:=y;simp only at HC|-
 generalize Zw xp yp=r at*
 generalize xp.length=xl at*
 generalize yp.length=yl at*
 have hg2:GrowD w ((w.alloc (.cells #[.int .i64 xi,.slice xA xl xc] 82)).alloc (.cells #[.int .i64 yi,.slice yA yl yc] 82)):=(GrowD.alloc w _).trans (GrowD.alloc _ _);clear hx hy;go_enter Tryz.func68,Tryz.ntmps68;go_wp2_with (go_at_call 42;refine(HC.out _ Zi).mono ?_;rintro e w1 ⟨rfl,hG⟩)
 go_ret;exact⟨rfl,hg2.trans hG⟩
def MRow(w:World)(g:Nat)(els:List ME):Prop:=∃cur,w.heap[g]? =some (.cells cur 82 (0,0))/\∀(i:Nat)(x:ME),els[i]? =some x->cur[2*i]? =some (.int .i64 x.i)/\cur[2*i+1]? =some (.slice x.A x.p.length x.c)
structure MEw(w:World)where
 val:ME
 ok:val.ok w
instance (w:World):Inhabited (MEw w):=⟨⟨⟨0,none,0,[]⟩,Arr.nil,by simp⟩⟩
def Ji(w:World)(x:MEw w):List Value:=x.val.enc
def cfM(w:World)(x y:MEw w):Int:=Zw x.val.p y.val.p
theorem zqT(w:World):Sort.SWO (ltOf (cfM w)) where
 irrefl x:=by
  have:=(ziV x.1.p x.1.p).2 rfl;simp[ltOf,cfM,this]
 trans x y z h1 h2:=by
  have h1:Zw x.1.p y.1.p<0:=of_decide_eq_true h1;have h2:Zw y.1.p z.1.p<0:=of_decide_eq_true h2;have a1:zZ x.1.p y.1.p=true:=by rw[<-zbB];exact decide_eq_true h1
  have a2:zZ y.1.p z.1.p=true:=by rw[<-zbB];exact decide_eq_true h2
  have a3:=JE a1 a2;rw[<-zbB]at a3;exact a3
 ntrans x y z h1 h2:=by
  have h1:¬Zw x.1.p y.1.p<0:=of_decide_eq_false h1;have h2:¬Zw y.1.p z.1.p<0:=of_decide_eq_false h2;refine decide_eq_false (fun(h3:Zw x.1.p z.1.p<0)=>?_);have a3:zZ x.1.p z.1.p=true:=by rw[<-zbB];exact decide_eq_true h3
  have b1:x.1.p=y.1.p∨zZ y.1.p x.1.p=true:=by rcases zbA x.1.p y.1.p with ⟨-,h⟩|⟨h,-⟩|⟨h,-⟩<;>first|exact .inl h|exact .inr h|omega
  have b2:y.1.p=z.1.p∨zZ z.1.p y.1.p=true:=by rcases zbA y.1.p z.1.p with ⟨-,h⟩|⟨h,-⟩|⟨h,-⟩<;>first|exact .inl h|exact .inr h|omega
  have no:∀a:List Ct,zZ a a=true->False:=fun a h=>by rw[JD]at h;cases h
  rcases b1 with b1|b1
  ·rcases b2 with b2|b2
   ·rw[b1,b2]at a3;exact no _ a3
   ·rw[b1]at a3;exact no _ (JE a3 b2)
  ·rcases b2 with b2|b2
   ·rw[<-b2]at a3;exact no _ (JE a3 b1)
   ·exact no _ (JE a3 (JE b2 b1))
theorem ME.ok_sort{α:Type}[Inhabited α](enc:α->List Value)(k:Nat){d:Array α}{os:Array Obj}{cur:Array Value}(hg:w.heap[g]? =some (.cells cur 82 (0,0))){x:ME}(h:x.ok w):x.ok (sortWorldK enc k w g 0 m d os):=by
 refine⟨h.1.keep fun b cs fr hb=>zbb enc k w g m d os (zD hb) (fun hh=>?_),h.2⟩;subst hh;rw[hg]at hb;injection hb with hb
 injection hb with _ he
 exact absurd he (by decide)
def zbF(w:World)(g:Nat)(els:List ME)(e:Ending)(w':World):Prop:=e= .returned (.tuple #[])/\∃els':List ME,els'.Perm els/\els'.Pairwise (fun x y=>¬Zw y.p x.p<0)/\MRow w' g els'/\(∀x∈els',x.ok w')/\Same g w w'
theorem zqU{els:List ME}(zsC:MRow w g els)(hok:∀x∈els,x.ok w)(hn:els.length<1152921504606846976):
  Cq 113 #[.slice (some ⟨g,0,none⟩) els.length cap,.int .i64 els.length,.func (.func 68) #[] #[]] w (zbF w g els):=by
 unfold zbF;obtain⟨cur,hg,zte⟩:=zsC;obtain⟨D,hD⟩:∃D:List (MEw w),D.map MEw.val=els:=⟨els.pmap MEw.mk hok,by rw[List.map_pmap];simp⟩;have hDl:D.length=els.length:=by rw[<-hD];simp
 have zsM:CmpLays Tryz.prog 68 #[] (Ji w) 2 (cfM w) g 0 D.toArray.size w:=fun m os dk _ x y=>by
  have hx:=ME.ok_sort (Ji w) 2 (m:=m) (d:=dk) (os:=os) hg x.ok;have hy:=ME.ok_sort (Ji w) 2 (m:=m) (d:=dk) (os:=os) hg y.ok;exact zqS hx hy
 have hH:Sort.HoldsK (Ji w) 2 w g 0 D.toArray:=fun j hj=>by
  rw[Sort.size_flatK]at hj;have hj2:j / 2<D.length:=by simp at hj;omega
  obtain⟨x,hx⟩:∃x,D[j / 2]? =some x:=⟨_,Ze hj2⟩;have hel:els[j / 2]? =some x.val:=by rw[<-hD,List.getElem?_map,hx];rfl
  have hc:=zte (j / 2) _ hel;have e1:(Sort.flatK (Ji w) 2 D.toArray)[j]! =(x.val.enc)[j%2]! :=by
   rw[Sort.get_flatK _ _ _ _ (by simpa using hj)];have:D.toArray[j / 2]! =x:=by simp[hx]
   rw[this];rfl
  refine⟨?_,by simp[World.frozen?,hg]⟩;rw[id,e1,Nat.zero_add,cell_of_row w g j _ _ _ hg];rcases Nat.mod_two_eq_zero_or_one j with h0|h0
  ·rw[h0];have:=hc.1;rw[show 2*(j / 2)=j by omega]at this;exact this
  ·rw[h0];have:=hc.2;rw[show 2*(j / 2)+1=j by omega]at this;exact this
 have e0:D.toArray.size=els.length:=by simpa using hDl
 have h:=zqR (k:=2) (w:=w) (w0:=w) (d0:=D.toArray) (d:=D.toArray) Tryz.isAgg82 Tryz.sizeOf82 (zqT w) cap els.length zsM ⟨fun x=>rfl,fun x v hv=>by
   simp only[Ji,ME.enc,List.mem_cons,List.not_mem_nil,or_false]at hv;rcases hv with rfl|rfl<;>rfl,hH,zD hg⟩ e0 e0 (SWK.start hH) (by omega)
 refine h.mono ?_;rintro e w' ⟨he,d',⟨n,os,hw⟩,⟨hp1,-,hp2⟩,hs⟩;rw[e0]at hp1;refine⟨he,d'.toList.map MEw.val,?_,?_,?_,?_,?_⟩
 ·have e1:d'.extract 0 els.length=d':=by apply Array.ext';simp;rw[List.take_of_length_le (by simp;omega)]
  have e2:(D.toArray).extract 0 els.length=D.toArray:=by rw[<-e0];exact Array.extract_size
  rw[e1,e2]at hp2;rw[<-hD];exact hp2.map _
 ·rw[List.pairwise_map,List.pairwise_iff_getElem];intro i j hi hj hij;have:=hs i j (Nat.zero_le _) hij (by simp at hj;omega);have e3:d'[j]! =d'.toList[j]:=by simp at hj;simp[hj]
  have e4:d'[i]! =d'.toList[i]:=by simp at hi;simp[hi]
  rw[e3,e4]at this;exact of_decide_eq_false this
 ·refine⟨_,by rw[hw];exact zgr (Ji w) 2 w g n d' os hg,fun i x hx=>?_⟩;rw[List.getElem?_map]at hx;obtain⟨y,hy,rfl⟩:∃y,d'.toList[i]? =some y/\y.val=x:=by
   cases hh:d'.toList[i]? with
   |none=>rw[hh]at hx;cases hx
   |some y=>rw[hh]at hx;exact⟨y,rfl,by simpa using hx⟩
  have hi:i<d'.size:=by simpa using (Zg.1 hy).1
  have hdi:d'[i]! =y:=by
   have:=(Zg.1 hy).2;simp[hi];simpa using this
  have hcs:2*i+1<cur.size:=by
   have zsB:i<els.length:=by omega
   have:=(zte i els[i] (by simp[zsB])).2;exact(Array.getElem?_eq_some_iff.1 this).1
  have key:∀t,t<2->(Sort.putCells id 0 (Sort.flatK (Ji w) 2 d') cur)[2*i+t]? =some ((y.val.enc)[t]!):=fun t ht=>by
   unfold Sort.putCells;rw[Array.getElem?_mapIdx,Array.getElem?_eq_getElem (by omega)];simp only[Option.map_some];rw[if_pos (by rw[Sort.size_flatK];omega),Nat.sub_zero,id,Sort.get_flatK _ _ _ _ (by omega),show (2*i+t) / 2=i by omega,show (2*i+t)%2=t by omega,hdi];rfl
  exact⟨key 0 (by omega),key 1 (by omega)⟩
 ·intro x hx;obtain⟨y,-,rfl⟩:=List.mem_map.1 hx;rw[hw];exact ME.ok_sort (Ji w) 2 hg y.ok
 ·rw[hw];exact⟨fun b hb hne=>zbb _ _ w g n d' os hb hne,fun B hB=>zgs _ _ w g n d' os hB (zD hg)⟩
theorem zqV{els:List ME}(zsC:MRow w g els)(hok:∀x∈els,x.ok w)(hl:els.length=n)(hn:n<1152921504606846976):
  Cq 67 #[.slice (some ⟨g,0,none⟩) n cap,.func (.func 68) #[] #[]] w (zbF w g els):=by
 have hi:=zqU (cap:=cap) zsC hok (by omega);rw[hl]at hi;have HI:=Zh hi;unfold zbF at*
 clear zsC hok hl hi;go_enter Tryz.func67,Tryz.ntmps67;go_wp2_with (go_at_call 113;refine HI.out.mono ?_;rintro e w1 ⟨rfl,hp⟩)
 go_end0
 exact⟨rfl,hp⟩
end
end Go.Proofs.YtcmkopogafchiaaGreat
