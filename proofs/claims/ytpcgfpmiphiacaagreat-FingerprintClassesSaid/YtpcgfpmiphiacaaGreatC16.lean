import Derived.Test.YtpcgfpmiphiacaaGreatC15
set_option maxHeartbeats 8000000
set_option linter.unusedVariables false
set_option linter.unusedSimpArgs false
namespace Go.Proofs.YtpcgfpmiphiacaaGreat
variable {na nb:Bool} {q x x' y y':Int} {a m:List (List Int)} {ds:List Int} {b c d i j k kk n p:Nat} {A B:Option Addr} {w w0 w1:World}
section
open Go.RowKit
theorem znz(a:List (List Int))(k n f:Nat):∀p,p+f=n->ZP a k f p<=n:=by
 induction f with
 |zero=>intro p h;simp[ZP];omega
 |succ f ih=>
  intro p h;simp only[ZP];split
  ·exact ih (p+1) (by omega)
  ·omega
theorem znA(a:List (List Int))(p k:Nat):(jk a p k).length=a.length:=by simp[jk]
theorem znB(f:Nat):∀(k:Nat)(ze:Int)(neg:Bool)(a:List (List Int)),k+f=n->a.length=n->Bd (ZQ b k) ze->BdM (ZQ b k) a->Bd (ZQ b n) (Qo n f k ze neg a):=by
 induction f with
 |zero=>
  intro k ze neg a hk hl hb _;obtain rfl:k=n:=by omega
  simp only[Qo]
  cases neg
  ·exact hb
  ·exact hb.neg
 |succ f ih=>
  intro k ze neg a hk hl hb ha;have hp:=znz a k n (n-k) k (by omega);simp only[Qo];generalize ZP a k (n-k) k=p at*
  split
  ·exact Bd.zero _
  ·split
   ·have hs:=ha.swap (p:=p) (q:=k) (by omega) (by omega);refine ih (k+1) _ _ _ (by omega) (zw _ _ _) ((hs k k).mono (zd2 (by omega))) ?_;rw[zdW];exact hs.elim n k ze
   ·refine ih (k+1) _ _ _ (by omega) (zw _ _ _) ((ha k k).mono (zd2 (by omega))) ?_;rw[zdW];exact ha.elim n k ze
theorem zea(hl:m.length=n)(h8:n<=8)(hb1:1<=b)(hb:BdM b m):Bd (256*(b+1)) (detF m):=by
 refine Bd.mono ?_ (zhd h8);unfold detF;rw[hl];exact znB n 0 1 false m (by omega) hl (by rw[zcd];exact Bd.one hb1) (by rw[zcd];exact hb)
theorem zaw(hk:k<8)(hb1:1<=b)(hb:BdM b m):Bd (256*(b+1)) (detF (zV m (zH k i) (zH k j))):=
 zea (n:=k+1) (by rw[zau,qs]) (by omega) hb1 (hb.sel _ _)
def zax(w:World)(zs:List Int)(e:Ending)(w':World):Prop:=∃B d,e= .returned (.tuple #[.slice B zs.length d,.bool true])/\IntsV w' B zs/\zs.length<=d/\d<=9223372036854775807/\Step w w'
theorem QI(m:List (List Int)):(zu m).length=m.length:=by simp[zu]
theorem zhs(hk:k<m.length):(zu m).getD k 0=detF (zV m (zH k k) (zH k k)):=by simp[zu,List.getD,hk]
theorem zay(h8:m.length<=8)(hb1:1<=b)(hb:BdM b m):QH (256*(b+1)) (zu m):=fun i=>by
 by_cases hi:i<m.length
 ·rw[zhs hi];exact zaw (by omega) hb1 hb
 ·rw[List.getD_eq_getElem?_getD,List.getElem?_eq_none (by rw[QI];omega)];exact Bd.zero _
theorem zbo(h:MatV w0 A m)(h1:m.length=n)(h3:1<=n)(h4:n<=8)(hn:AllLen m n)(hb:BdM b m)(hb1:1<=b)(hbb:b<=1000000)[hx:Ext w0 w]:
  Cq 87 #[.slice A n c] w (zax w (zu m)):=by
 have h0:=h.ext hx;have HSQ:Hid (∀W,Ext w W->Cq 112 #[.slice A n c] W (zy W (.tuple #[.int .i64 n,.bool true]))):=Zh (fun W e1=>by
  have:=zhh (w:=W) (c:=c) h0 (by omega) (by omega) (by rw[h1];exact hn);rwa [h1]at this)
 have HSE:Hid (∀(W1 W2 W:World)(A1 A2:Option Addr)(c1 c2 k:Nat),k<n->Ints W1 A1 3 .i64 (zZ (zH k k))->Ints W2 A2 3 .i64 (zZ (zH k k))->Ext w W->Ext W1 W->Ext W2 W->Cq 152 #[.slice A n c,.slice A1 (k+1) c1,.slice A2 (k+1) c2] W (jx W (zV m (zH k k) (zH k k)))):=Zh (fun W1 W2 W A1 A2 c1 c2 k hk e1 e2 x0 x1 x2=>by
  have:=zd6 (w:=W) (c:=c) (cR:=c1) (cC:=c2) h0 e1 e2 hn (by rw[qs];omega) (by rw[qs];omega) (by rw[h1];exact zav (by omega) hk) (zav (by omega) hk);rw[h1,qs]at this;exact this)
 have HDT:Hid (∀(W1 W:World)(A1:Option Addr)(c1 k:Nat),k<n->MatV W1 A1 (zV m (zH k k) (zH k k))->Ext W1 W->Cq 116 #[.slice A1 (k+1) c1] W (zD W ((zu m).getD k 0))):=Zh (fun W1 W A1 c1 k hk hM e1=>by
  rw[zhs (by omega)];exact zd8 hM (by omega) hb hb1 hbb)
 have HLL:Hid ((zu m).length=n):=Zh (by rw[QI];exact h1);have HSL:Hid (∀k,(zV m (zH k k) (zH k k)).length=k+1):=Zh (fun k=>by rw[zau,qs]);have HFL:Hid (∀k,(zZ (zH k k)).length=k+1):=Zh (fun k=>by rw[zd5,qs]);have HFI:Hid (∀(W:World)(k:Nat),k<n->Cq 153 #[.int .i64 k,.int .i64 k] W (zd3 W (zZ (zH k k)))):=Zh (fun W k hk=>zho k k (by omega));clear hn hb h1;go_enter Tryz.func87,Tryz.ntmps87
 go_wp2_with (go_at_call 112;refine(HSQ.out _ Zi).mono ?_;rintro e w1 ⟨rfl,hs1⟩)
 go_loopw [6,7] (fun s6 i wr=>∃(q:Nat) (A1:Option Addr) (c1:Nat) (vs:List Value),q<=n/\i= .int .i64 q/\s6= .slice A1 q c1/\Hid (Own wr w.heap.size 149 2 A1 q c1 vs)/\Hid (VsOf wr vs ((zu m).take q))/\Ext w wr) (fun _ i _=>n-(intOf i).toNat)
 case atStart=>exact⟨0,none,0,[],by omega,rfl,rfl,Zh (Own.nil _ _ _ _),Zh (fun i z hz=>by simp at hz),Zi⟩
 case round=>
  obtain⟨q,A1,c1,vs,hq,rfl,rfl,HO,HV,hxr⟩:=hrel;by_cases hlt:q<n
  ·have HF:=Zh (fun W=>HFI.out W q hlt);go_wp2_with fail
   refine(HF.out _).mono ?_;rintro e w2 ⟨A2,c2,rfl,hI2,-,-,hs2⟩;rw[HFL.out];go_wp2_with fail
   refine(HF.out _).mono ?_;rintro e w3 ⟨A3,c3,rfl,hI3,-,-,hs3⟩;rw[HFL.out];go_wp2_with fail
   refine(HSE.out w2 w3 w3 A2 A3 c2 c3 q hlt hI2 hI3 Zi Zi Zi).mono ?_;rintro e w4 ⟨A4,c4,rfl,hM4,-,-,hs4⟩;rw[HSL.out];go_wp2_with fail
   refine(HDT.out w4 w4 A4 c4 q hlt hM4 Zi).mono ?_;rintro e w5 ⟨g5,B5,k5,d5,rfl,hz5,hs5⟩;have hx5:Ext wr w5:=Zi;have HZ5:=Zh hz5;clear hz5 hM4 hI2 hI3;go_wp2_with (at_builtin;refine zM _ rfl _ _ 94 rfl w.heap.size 149 (.agg #[.bool false,.slice none 0 0]) 2 32 Tryz.underlying94 jd rfl (by omega) (by omega) A1 q c1 vs rfl (HO.out.ext Zi) (some ⟨w5.heap.size,0,none⟩) 1 1 [.bool g5,.slice B5 k5 d5] rfl (Arr.new w5 149 #[.bool g5,.slice B5 k5 d5]) rfl (zci _ _ _ _) (by omega) (by have:=(hxr.trans hx5).size;simp;omega) ?_;intro A6 c6 w6 zr5 hg;have HO6:=Zh zr5;have HG6:=Zh hg;have hx6:Ext w w6:=hg.ext Zi Zr;clear zr5 hg)
   refine⟨⟨q+1,A6,c6,vs++[.bool g5,.slice B5 k5 d5],by omega,by go_num,rfl,HO6,Zh ?_,hx6⟩,by simp[intOf]<;>omega⟩;have hxa:Ext w5 (w5.alloc (.cells #[.bool g5,.slice B5 k5 d5] 149)):=Zi;have hv5:VsOf (w5.alloc (.cells #[.bool g5,.slice B5 k5 d5] 149)) (vs++[.bool g5,.slice B5 k5 d5]) ((zu m).take q++[(zu m).getD q 0]):=VsOf.snoc (HV.out.map fun hz=>(hz.ext hx5).ext hxa) (by rw[HO.out.len,List.length_take,HLL.out,Nat.min_eq_left hq]) (HZ5.out.ext hxa)
   rw[zas (by rw[HLL.out];exact hlt)];exact hv5.grow HG6.out (by decide)
  ·obtain rfl:q=n:=by omega
   go_wp2;go_ret2
   have h2:=HV.out;rw[List.take_of_length_le (by rw[HLL.out];exact Zr)]at h2;exact⟨A1,c1,by rw[HLL.out];rfl,h2.intsV (by rw[HO.out.len,HLL.out]) HO.out.arr (Ext.refl _),by rw[HLL.out];exact HO.out.cap.1,HO.out.cap.2,hxr.toStep⟩
def zaz(m:List (List Int))(n:Nat):Prop:=∀i,i<n->∀j,j<i->ent m i j=ent m j i
theorem znC(h:x≠y):(zk x y !=0)=true:=by
 unfold zk;by_cases h1:x<y
 ·rw[if_pos h1];rfl
 ·rw[if_neg h1,if_neg h];rfl
theorem zcl :decide (zk x y<=0)=decide (x<=y):=by
 unfold zk;by_cases h1:x<y
 ·rw[if_pos h1];simp;omega
 ·rw[if_neg h1];by_cases h2:x=y
  ·rw[if_pos h2];simp;omega
  ·rw[if_neg h2];simp;omega
theorem znD :decide (0<=zk x y)=decide (y<=x):=by
 unfold zk;by_cases h1:x<y
 ·rw[if_pos h1];simp;omega
 ·rw[if_neg h1];by_cases h2:x=y
  ·rw[if_pos h2];simp;omega
  ·rw[if_neg h2];simp;omega
theorem zeb(s:Bool)(hs:s=true↔zaz m n)(h:MatV w0 A m)(h1:m.length=n)(h3:1<=n)(h4:n<=16)(hn:AllLen m n)(hb:BdM b m)(hbb:b<=1000000)[hx:Ext w0 w]:
  Cq 113 #[.slice A n c] w (zy w (.bool s)):=by
 have h0:=h.ext hx;have HA:=Zh hn;have HL:=Zh h1;have HB:=Zh hb;have HS:=Zh hs;clear hn h1 hb hs;go_enter Tryz.func113,Tryz.ntmps113;go_wp2;go_loopw [3,4,7] (fun _ _ i wr=>∃k:Nat,k<=n/\i= .int .i64 k/\Hid (zaz m k)/\Ext w wr) (fun _ _ i _=>n-(intOf i).toNat)
 case atStart=>exact⟨0,by omega,rfl,Zh (fun i hi=>by omega),Zi⟩
 case round=>
  obtain⟨k,hk,rfl,HSM,hxr⟩:=hrel;by_cases hlt:k<n
  ·go_wp2;go_loopw [4] (fun j wr=>∃q:Nat,q<=k/\j= .int .i64 q/\Hid (∀j,j<q->ent m k j=ent m j k)/\Ext w wr) (fun j _=>k-(intOf j).toNat)
   case atStart=>exact⟨0,by omega,rfl,Zh (fun i hi=>by omega),Zi⟩
   case round=>
    obtain⟨q,hq,rfl,HE,hxq⟩:=hrel;by_cases zsb:q<k
    ·have hqn:q<n:=by omega
     obtain⟨b1,o1,b2,o2,c2,g1,B1,n1,d1,rfl,e1,e2,e3,hz1,hb1,hb2,-,-⟩:=(h0.ext hxq).entry HA.out (i:=k) (j:=q) (by rw[HL.out];exact hlt) (by omega);obtain⟨b3,o3,b4,o4,c4,g2,B2,n2,d2,hh,f1,f2,f3,hz2,hb3,hb4,-,-⟩:=(h0.ext hxq).entry HA.out (i:=q) (j:=k) (by rw[HL.out];omega) hlt;injection hh with hh
     injection hh with y1 y2
     subst y1 y2;have HC:=Zh (fun W(hh:Ext wr W)=>zai (w:=W) hz1 hz2 (by have:=hz1.bd (HB.out k q) (by omega);omega) (by have:=hz2.bd (HB.out q k) (by omega);omega));have HLL:Hid (∀W,Ext wr W->W.cell? ⟨b1,o1+k,none⟩=some (.slice (some ⟨b2,o2,none⟩) n c2)/\W.cell? ⟨b2,o2+q*2,none⟩=some (.bool g1)/\W.cell? ⟨b2,o2+q*2+1,none⟩=some (.slice B1 n1 d1)/\W.cell? ⟨b1,o1+q,none⟩=some (.slice (some ⟨b4,o4,none⟩) n c4)/\W.cell? ⟨b4,o4+k*2,none⟩=some (.bool g2)/\W.cell? ⟨b4,o4+k*2+1,none⟩=some (.slice B2 n2 d2)):=Zh (fun W hh=>⟨(hh.below.cell (p:=⟨b1,o1+k,none⟩) hb1).trans e1,(hh.below.cell (p:=⟨b2,o2+q*2,none⟩) hb2).trans e2,(hh.below.cell (p:=⟨b2,o2+q*2+1,none⟩) hb2).trans e3,(hh.below.cell (p:=⟨b1,o1+q,none⟩) hb1).trans f1,(hh.below.cell (p:=⟨b4,o4+k*2,none⟩) hb4).trans f2,(hh.below.cell (p:=⟨b4,o4+k*2+1,none⟩) hb4).trans f3⟩)
     clear hz1 hz2 e1 e2 e3 f1 f2 f3;by_cases heq:ent m k q=ent m q k
     ·have hcz:zk (ent m k q) (ent m q k)=0:=q9 heq;rw[hcz]at HC;have HE2:Hid (∀j,j<q+1->ent m k j=ent m j k):=Zh (fun j hj=>by
       by_cases e:j=q
       ·rw[e];exact heq
       ·exact HE.out j (by omega))
      clear heq hcz;go_wp2_with fail
      go_region_held3 (fun w'=>w'.cell? ⟨b1,o1+k,none⟩=some (.slice (some ⟨b2,o2,none⟩) n c2)/\w'.cell? ⟨b2,o2+q*2,none⟩=some (.bool g1)/\w'.cell? ⟨b2,o2+q*2+1,none⟩=some (.slice B1 n1 d1)/\w'.cell? ⟨b1,o1+q,none⟩=some (.slice (some ⟨b4,o4,none⟩) n c4)/\w'.cell? ⟨b4,o4+k*2,none⟩=some (.bool g2)/\w'.cell? ⟨b4,o4+k*2+1,none⟩=some (.slice B2 n2 d2)) (exact HLL.out _ Zi)
       ((go_at_call 115;refine(HC.out _ Zi).mono ?_;rintro e w5 ⟨rfl,hs5⟩))
      go_wp2_with fail
      exact⟨⟨q+1,by omega,by go_num,HE2,Zi⟩,by simp[intOf]<;>omega⟩
     ·have hcz:=znC heq;generalize zk (ent m k q) (ent m q k)=cs at*
      have HF:Hid (s=false):=Zh (by
       cases s with
       |false=>rfl
       |true=>exact absurd (HS.out.1 rfl k hlt q zsb) heq)
      clear heq;go_wp2_with fail
      go_region_held3 (fun w'=>w'.cell? ⟨b1,o1+k,none⟩=some (.slice (some ⟨b2,o2,none⟩) n c2)/\w'.cell? ⟨b2,o2+q*2,none⟩=some (.bool g1)/\w'.cell? ⟨b2,o2+q*2+1,none⟩=some (.slice B1 n1 d1)/\w'.cell? ⟨b1,o1+q,none⟩=some (.slice (some ⟨b4,o4,none⟩) n c4)/\w'.cell? ⟨b4,o4+k*2,none⟩=some (.bool g2)/\w'.cell? ⟨b4,o4+k*2+1,none⟩=some (.slice B2 n2 d2)) (exact HLL.out _ Zi)
       ((go_at_call 115;refine(HC.out _ Zi).mono ?_;rintro e w5 ⟨rfl,hs5⟩))
      go_wp2_with fail
      go_ret;exact⟨by rw[HF.out];rfl,Step.of _ _⟩
    ·obtain rfl:q=k:=by omega
     have zrM:Hid (zaz m (q+1)):=Zh (fun i hi j hj=>by
      by_cases e:i=q
      ·subst e;exact HE.out j hj
      ·exact HSM.out i (by omega) j hj)
     go_wp2;exact⟨⟨q+1,by omega,by go_num,zrM,hxq⟩,by simp[intOf]<;>omega⟩
  ·obtain rfl:k=n:=by omega
   have HF:Hid (s=true):=Zh (HS.out.2 HSM.out);go_wp2;go_ret;exact⟨by rw[HF.out];rfl,hxr.toStep⟩
def j3(m:List (List Int)):Prop:=zaz m m.length/\∀x∈zu m,0<x
theorem znE(s:Bool)(hs:s=true↔∀x∈zu m,0<x)(zsm:zaz m n)(h:MatV w0 A m)(h1:m.length=n)(h3:1<=n)(h4:n<=8)(hn:AllLen m n)(hb:BdM b m)(hb1:1<=b)(hbb:b<=1000000)[hx:Ext w0 w]:
  Cq 114 #[.slice A n c] w (zy w (.bool s)):=by
 have h0:=h.ext hx;have HLE:=Zh (fun W(e1:Ext w W)=>zbo (w:=W) (c:=c) h0 h1 h3 h4 hn hb hb1 hbb);have HSY:=Zh (fun W(e1:Ext w W)=>zeb (w:=W) (c:=c) true ⟨fun _=>zsm,fun _=>rfl⟩ h0 h1 h3 (by omega) hn hb hbb);have HLL:Hid ((zu m).length=n):=Zh (by rw[QI];exact h1);have HBL:=Zh (zay (by omega) hb1 hb);have HS:=Zh hs;clear hn hb zsm hs h1;go_enter Tryz.func114,Tryz.ntmps114;go_wp2_with (first
  |(go_at_call 87;refine(HLE.out _ Zi).mono ?_;rintro e w1 ⟨A1,c1,rfl,hI1,-,-,hs1⟩;rw[HLL.out];have HI:=Zh hI1;clear hI1)
  |(go_at_call 113;refine(HSY.out _ Zi).mono ?_;rintro e w2 ⟨rfl,hs2⟩))
 go_loopw [6,21] (fun _ i wr=>∃q:Nat,q<=n/\i= .int .i64 q/\Hid (∀x∈(zu m).take q,0<x)/\Ext w1 wr) (fun _ i _=>n-(intOf i).toNat)
 case atStart=>exact⟨0,by omega,rfl,Zh (fun x hx=>by simp at hx),Zi⟩
 case round=>
  obtain⟨q,hq,rfl,HP,hxr⟩:=hrel;have hxw:Ext w wr:=Ext.trans Zi hxr;by_cases hlt:q<n
  ·obtain⟨b3,o3,g3,B3,n3,c3,rfl,hc3,hc4,hz3,hb3⟩:=(HI.out.ext hxr).atD (i:=q) (by rw[HLL.out];exact hlt);have l3:=hz3.bd (HBL.out q) (by omega);have HSG:=Zh (fun W(hh:Ext wr W)=>QT (w:=W) hz3 (by omega));have htk:=zas (l:=zu m) (q:=q) (by rw[HLL.out];exact hlt);have hle:=zcl (x:=(zu m).getD q 0) (y:=0);have zrN:Hid ((zu m).getD q 0∈zu m):=Zh (by
    have:q<(zu m).length:=by rw[HLL.out];exact hlt
    simp[List.getD,this])
   have HTK:=Zh htk;by_cases zsc:0<(zu m).getD q 0
   ·have hd:decide (zk ((zu m).getD q 0) 0<=0)=false:=by rw[hle];simp only[decide_eq_false_iff_not];omega
    have HP2:Hid (∀x∈(zu m).take (q+1),0<x):=Zh (fun x hx=>by
     rw[HTK.out]at hx;rcases List.mem_append.1 hx with hx|hx
     ·exact HP.out x hx
     ·have:x=(zu m).getD q 0:=by simpa using hx
      rw[this];exact zsc)
    generalize zk ((zu m).getD q 0) 0=cs at*
    clear hz3 l3 htk hle zsc;go_wp2_with (go_at_call 150;refine(HSG.out _ Zi).mono ?_;rintro e w6 ⟨rfl,hs6⟩)
    exact⟨⟨q+1,by omega,by go_num,HP2,Zi⟩,by simp[intOf]<;>omega⟩
   ·have hd:decide (zk ((zu m).getD q 0) 0<=0)=true:=by rw[hle];simp only[decide_eq_true_eq];omega
    have HF:Hid (s=false):=Zh (by
     cases s with
     |false=>rfl
     |true=>exact absurd (HS.out.1 rfl _ zrN.out) zsc)
    generalize zk ((zu m).getD q 0) 0=cs at*
    clear hz3 l3 htk hle zsc;go_wp2_with (go_at_call 150;refine(HSG.out _ Zi).mono ?_;rintro e w6 ⟨rfl,hs6⟩)
    go_ret;exact⟨by rw[HF.out];rfl,Step.of _ _⟩
  ·obtain rfl:q=n:=by omega
   have HF:Hid (s=true):=Zh (by
    have h2:=HP.out;rw[List.take_of_length_le (by rw[HLL.out];exact Zr)]at h2;exact HS.out.2 h2)
   go_wp2_with fail
   go_ret;exact⟨by rw[HF.out];rfl,hxw.toStep⟩
theorem zec(s:Bool)(hs:s=true↔j3 m)(h:MatV w0 A m)(h1:m.length=n)(h3:1<=n)(h4:n<=8)(hn:AllLen m n)(hb:BdM b m)(hb1:1<=b)(hbb:b<=1000000)[hx:Ext w0 w]:
  Cq 61 #[.slice A n c] w (fun e w'=>∃v:Int,e= .returned (.int .i64 v)/\(v=0↔s=true)/\0<=v/\v<=5/\Step w w'):=by
 have h0:=h.ext hx;have HSQ:Hid (∀W,Ext w W->Cq 112 #[.slice A n c] W (zy W (.tuple #[.int .i64 n,.bool true]))):=Zh (fun W e1=>by
  have:=zhh (w:=W) (c:=c) h0 (by omega) (by omega) (by rw[h1];exact hn);rwa [h1]at this)
 have hd8:decide ((8:Int)<(n:Int))=false:=by simp;omega
 by_cases hsy:zaz m n
 ·have HSY:=Zh (fun W(e1:Ext w W)=>zeb (w:=W) (c:=c) true ⟨fun _=>hsy,fun _=>rfl⟩ h0 h1 h3 (by omega) hn hb hbb);have hs2:s=true↔∀x∈zu m,0<x:=by
   rw[hs];unfold j3;rw[h1];exact⟨fun h=>h.2,fun h=>⟨hsy,h⟩⟩
  have HDE:=Zh (fun W(e1:Ext w W)=>znE (w:=W) (c:=c) s hs2 hsy h0 h1 h3 h4 hn hb hb1 hbb);clear hs hs2 hsy hn hb h1
  cases s
  ·go_enter Tryz.func61,Tryz.ntmps61;go_wp2_with (first
    |(go_at_call 112;refine(HSQ.out _ Zi).mono ?_;rintro e w1 ⟨rfl,hs1⟩)
    |(go_at_call 113;refine(HSY.out _ Zi).mono ?_;rintro e w2 ⟨rfl,hs2⟩)
    |(go_at_call 114;refine(HDE.out _ Zi).mono ?_;rintro e w3 ⟨rfl,hs3⟩))
   go_ret;exact⟨5,rfl,by simp,by omega,by omega,Step.of _ _⟩
  ·go_enter Tryz.func61,Tryz.ntmps61;go_wp2_with (first
    |(go_at_call 112;refine(HSQ.out _ Zi).mono ?_;rintro e w1 ⟨rfl,hs1⟩)
    |(go_at_call 113;refine(HSY.out _ Zi).mono ?_;rintro e w2 ⟨rfl,hs2⟩)
    |(go_at_call 114;refine(HDE.out _ Zi).mono ?_;rintro e w3 ⟨rfl,hs3⟩))
   go_ret;exact⟨0,rfl,by simp,by omega,by omega,Step.of _ _⟩
 ·have HSY:=Zh (fun W(e1:Ext w W)=>zeb (w:=W) (c:=c) false ⟨fun h=>(by cases h),fun h=>absurd h hsy⟩ h0 h1 h3 (by omega) hn hb hbb);have HF:Hid (s=false):=Zh (by
   cases s with
   |false=>rfl
   |true=>exact absurd (by have:=(hs.1 rfl).1;rwa [h1]at this) hsy)
  clear hs hsy hn hb h1;go_enter Tryz.func61,Tryz.ntmps61;go_wp2_with (first
   |(go_at_call 112;refine(HSQ.out _ Zi).mono ?_;rintro e w1 ⟨rfl,hs1⟩)
   |(go_at_call 113;refine(HSY.out _ Zi).mono ?_;rintro e w2 ⟨rfl,hs2⟩))
  go_ret;exact⟨4,rfl,by rw[HF.out];simp,by omega,by omega,Step.of _ _⟩
theorem zht(h:MatV w0 A m)(h1:m.length=n)(h3:1<=n)(h4:n<=8)(hn:AllLen m n)(hb:BdM b m)(hb1:1<=b)(hbb:b<=1000000)[hx:Ext w0 w]:
  Cq 62 #[.slice A n c] w (zy w (.bool (decide (detF m<=10000)))):=by
 have HDT:=Zh (fun W(e1:Ext w0 W)=>zd7 (w:=W) (c:=c) h h1 h3 h4 hn hb hb1 hbb);have hbd:=zea h1 h4 hb1 hb;have HC:Hid (∀(W1 W2 W:World)(g1:Bool)B1 n1 c1(g2:Bool)B2 n2 c2,IntV W1 g1 B1 n1 c1 (detF m)->IntV W2 g2 B2 n2 c2 10000->Ext W1 W->Ext W2 W->Cq 115 #[.agg #[.bool g1,.slice B1 n1 c1],.agg #[.bool g2,.slice B2 n2 c2]] W (zy W (.int .i64 (zk (detF m) 10000)))):=Zh (fun W1 W2 W g1 B1 n1 c1 g2 B2 n2 c2 ha hb e1 e2=>zai ha hb (by have:=ha.bd hbd (by omega);omega) (by have:=hb.len (k:=1) (by decide);omega))
 have hle:=zcl (x:=detF m) (y:=10000);rw[<-hle];clear hle hbd hn hb h1;generalize detF m=D at*
 go_enter Tryz.func62,Tryz.ntmps62;go_wp2_with (first
  |(go_at_call 116;refine(HDT.out _ Zi).mono ?_;rintro e w1 ⟨g1,B1,k1,d1,rfl,hz1,hs1⟩)
  |(go_at_call 88;refine(Qf 10000 (by omega) (by omega) _).mono ?_;rintro e w2 ⟨g2,B2,k2,d2,rfl,hz2,hs2⟩)
  |(go_at_call 115;refine(HC.out _ _ _ _ _ _ _ _ _ _ _ hz1 hz2 Zi Zi).mono ?_;rintro e w3 ⟨rfl,hs3⟩))
 go_ret;exact⟨rfl,Step.of _ _⟩
def zT(ds:List Int)(k:Nat):Int:=if k=0 then 1 else ds.getD (k-1) 0
theorem zbp(h:IntsV w0 A ds)(hl:ds.length=n)(hn:n<=1000)(hk:k<=n)[hx:Ext w0 w]:
  Cq 124 #[.slice A n c,.int .i64 k] w (zD w (zT ds k)):=by
 by_cases h0:k=0
 ·subst h0;go_enter Tryz.func124,Tryz.ntmps124;go_wp2_with (go_at_call 88;refine(Qf 1 (by omega) (by omega) _).mono ?_;rintro e w2 ⟨g,B2,k2,d2,rfl,hz,hs2⟩;obtain⟨q0,q1,q2,q3,q4,q5⟩:=qR w w2 (.bool false) (.slice none 0 0) 149;have Q0:=Zh q0;clear q0)
  exact bodyPost_ret (v:= .agg #[.bool g,.slice B2 k2 d2]) (by simp[results,Tryz.results124,go_sem,q1,q2]) rfl ⟨_,_,_,_,rfl,hz.boxed (by decide) Q0.out _ _,Step.of _ _⟩
 ·obtain⟨j,rfl⟩:∃j,k=j+1:=⟨k-1,by omega⟩;obtain⟨b3,o3,g3,B3,n3,c3,rfl,hc3,hc4,hz3,hb3⟩:=(h.ext hx).atD (i:=j) (by omega);have HE:Hid (zT ds (j+1)=ds.getD j 0):=Zh (by unfold zT;rw[if_neg (by omega)];rfl);have HZ:=Zh hz3;have hj1:(((j+1:Nat):Int)==0)=false:=by simp;omega
  have hjn:j<n:=by omega
  obtain⟨jz,hjz⟩:∃jz:Int,jz=((j+1:Nat):Int):=⟨_,rfl⟩;have hjs:jz-1=(j:Int):=by omega
  rw[<-hjz]at hj1|-
  have hjw:IntKind.i64.wrap (jz-1)=(j:Int):=by rw[hjs];exact Iw
  clear hz3 h0 hjz;go_enter Tryz.func124,Tryz.ntmps124;go_wp2_with fail
  exact bodyPost_ret (v:= .agg #[.bool g3,.slice B3 n3 c3]) (by simp[results,Tryz.results124,go_sem]) rfl ⟨_,_,_,_,rfl,by rw[HE.out];exact HZ.out.keeps,Step.of _ _⟩
theorem zcm(h:QH b ds)(hb:1<=b):Bd b (zT ds k):=by
 unfold zT;split
 ·exact Bd.one hb
 ·exact h _
def Zt(m:List (List Int))(i j:Nat):Int:=detF (zV m (zH j i) (zH j j))
theorem zhu(h:MatV w0 A m)(hd:IntsV w1 B (zu m))(h1:m.length=n)(h4:n<=8)(hn:AllLen m n)(hb:BdM b m)(hb1:1<=b)(hbb:b<=1000000)(hi:i<n)(hj:j<n)[hx:Ext w0 w][hy:Ext w1 w]:
  Cq 119 #[.slice A n c,.slice B n d,.int .i64 i,.int .i64 j] w (zy w (.bool (decide (2*((Zt m i j).natAbs:Int)<=zT (zu m) (j+1))))):=by
 have h0:=h.ext hx;have hd0:=hd.ext hy;have HLA:=Zh (fun W(e1:Ext w W)=>zd9 (w:=W) (c:=c) h0 h1 h4 hn hb hb1 hbb hi hj);have HMI:=Zh (fun W(e1:Ext w W)=>zbp (w:=W) (c:=d) (n:=n) (k:=j+1) hd0 (by rw[QI];exact h1) (by omega) (by omega));have hlb:Bd (256*(b+1)) (Zt m i j):=zaw (by omega) hb1 hb;have hmb:Bd (256*(b+1)) (zT (zu m) (j+1)):=zcm (zay (by omega) hb1 hb) (by omega);have e1:detF (zV m (zH j i) (zH j j))=Zt m i j:=rfl
 rw[e1]at HLA;have hle:=zcl (x:=2*((Zt m i j).natAbs:Int)) (y:=zT (zu m) (j+1));rw[<-hle];clear hle e1 hn hb h1;generalize Zt m i j=L at*
 generalize zT (zu m) (j+1)=M at*
 have HAB:Hid (∀(W1 W:World)(g1:Bool)B1 n1 c1,IntV W1 g1 B1 n1 c1 L->Ext W1 W->Cq 182 #[.agg #[.bool g1,.slice B1 n1 c1]] W (zD W L.natAbs)):=Zh (fun W1 W g1 B1 n1 c1 ha e1=>zc8 ha (by have:=ha.bd hlb (by omega);omega));have HMU:Hid (∀(W1 W2 W:World)(g1:Bool)B1 n1 c1(g2:Bool)B2 n2 c2,IntV W1 g1 B1 n1 c1 2->IntV W2 g2 B2 n2 c2 L.natAbs->Ext W1 W->Ext W2 W->Cq 158 #[.agg #[.bool g1,.slice B1 n1 c1],.agg #[.bool g2,.slice B2 n2 c2]] W (zD W (2*(L.natAbs:Int)))):=Zh (fun W1 W2 W g1 B1 n1 c1 g2 B2 n2 c2 ha hb e1 e2=>Jf ha hb (by have:=ha.len (k:=1) (by decide);omega) (by have:=hb.bd hlb.abs (by omega);omega))
 have HC:Hid (∀(W1 W2 W:World)(g1:Bool)B1 n1 c1(g2:Bool)B2 n2 c2,IntV W1 g1 B1 n1 c1 (2*(L.natAbs:Int))->IntV W2 g2 B2 n2 c2 M->Ext W1 W->Ext W2 W->Cq 115 #[.agg #[.bool g1,.slice B1 n1 c1],.agg #[.bool g2,.slice B2 n2 c2]] W (zy W (.int .i64 (zk (2*(L.natAbs:Int)) M)))):=Zh (fun W1 W2 W g1 B1 n1 c1 g2 B2 n2 c2 ha hb e1 e2=>zai ha hb (by have:=ha.bd (k:=2+256*(b+1)) ((show Bd 2 2 from (by decide:(2:Int).natAbs<2^2)).mul hlb.abs) (by omega);omega) (by have:=hb.bd hmb (by omega);omega))
 rw[show (((j+1:Nat):Int))=(j:Int)+1 by omega]at HMI;go_enter Tryz.func119,Tryz.ntmps119;go_wp2_with (first
  |(go_at_call 88;refine(Qf 2 (by omega) (by omega) _).mono ?_;rintro e w2 ⟨g2,B2,k2,d2,rfl,hz2,hs2⟩)
  |(go_at_call 123;refine(HLA.out _ Zi).mono ?_;rintro e w3 ⟨g3,B3,k3,d3,rfl,hz3,hs3⟩)
  |(go_at_call 182;refine(HAB.out _ _ _ _ _ _ hz3 Zi).mono ?_;rintro e w4 ⟨g4,B4,k4,d4,rfl,hz4,hs4⟩)
  |(go_at_call 158;refine(HMU.out _ _ _ _ _ _ _ _ _ _ _ hz2 hz4 Zi Zi).mono ?_;rintro e w5 ⟨g5,B5,k5,d5,rfl,hz5,hs5⟩)
  |(go_at_call 124;refine(HMI.out _ Zi).mono ?_;rintro e w6 ⟨g6,B6,k6,d6,rfl,hz6,hs6⟩)
  |(go_at_call 115;refine(HC.out _ _ _ _ _ _ _ _ _ _ _ hz5 hz6 Zi Zi).mono ?_;rintro e w7 ⟨rfl,hs7⟩))
 go_ret;exact⟨rfl,Step.of _ _⟩
theorem zhv(h:MatV w0 A m)(hd:IntsV w1 B (zu m))(h1:m.length=n)(h4:n<=8)(hn:AllLen m n)(hb:BdM b m)(hb1:1<=b)(hbb:b<=1000000)(hi:i<n)(hi1:1<=i)[hx:Ext w0 w][hy:Ext w1 w]:
  Cq 125 #[.slice A n c,.slice B n d,.int .i64 i] w (zy w (.bool (decide (3*(zT (zu m) i*zT (zu m) i)<=4*(zT (zu m) (i-1)*zT (zu m) (i+1)+Zt m i (i-1)*Zt m i (i-1)))))):=by
 have h0:=h.ext hx;have hd0:=hd.ext hy;have HLA:=Zh (fun W(e1:Ext w W)=>zd9 (w:=W) (c:=c) (i:=i) (j:=i-1) h0 h1 h4 hn hb hb1 hbb hi (by omega));have HM0:=Zh (fun W(e1:Ext w W)=>zbp (w:=W) (c:=d) (n:=n) (k:=i-1) hd0 (by rw[QI];exact h1) (by omega) (by omega));have HM1:=Zh (fun W(e1:Ext w W)=>zbp (w:=W) (c:=d) (n:=n) (k:=i) hd0 (by rw[QI];exact h1) (by omega) (by omega));have HM2:=Zh (fun W(e1:Ext w W)=>zbp (w:=W) (c:=d) (n:=n) (k:=i+1) hd0 (by rw[QI];exact h1) (by omega) (by omega))
 have hlb:Bd (256*(b+1)) (Zt m i (i-1)):=zaw (by omega) hb1 hb;have hmb:∀k,Bd (256*(b+1)) (zT (zu m) k):=fun k=>zcm (zay (by omega) hb1 hb) (by omega)
 have hm0:=hmb (i-1);have hm1:=hmb i;have hm2:=hmb (i+1);have e1:detF (zV m (zH (i-1) i) (zH (i-1) (i-1)))=Zt m i (i-1):=rfl;rw[e1]at HLA;rw[show (((i+1:Nat):Int))=(i:Int)+1 by omega]at HM2;rw[show (((i-1:Nat):Int))=(i:Int)-1 by omega]at HM0 HLA;rw[<-znD];obtain⟨K,hK⟩:=Xz (256*(b+1));have hK2:K<=256000256:=by omega
 have hK1:1<=K:=by omega
 have hw1:IntKind.i64.wrap ((i:Int)-1)=(i:Int)-1:=Iw;have hw2:IntKind.i64.wrap ((i:Int)+1)=(i:Int)+1:=Iw;rw[<-hK]at hlb hm0 hm1 hm2;clear hK hmb e1 hn hb h1;generalize Zt m i (i-1)=L at*
 generalize zT (zu m) (i-1)=D0 at*
 generalize zT (zu m) (i+1)=D2 at*
 generalize zT (zu m) i=D1 at*
 have hb2:∀{x y:Int},Bd K x->Bd K y->Bd (2*K) (x*y):=fun h1 h2=>by have:=h1.mul h2;rwa [show K+K=2*K by omega]at this
 have HMU:Hid (∀(x y:Int)(W1 W2 W:World)(g1:Bool)B1 n1 c1(g2:Bool)B2 n2 c2,IntV W1 g1 B1 n1 c1 x->IntV W2 g2 B2 n2 c2 y->Bd (3*K+1) x->Bd (3*K+1) y->Ext W1 W->Ext W2 W->Cq 158 #[.agg #[.bool g1,.slice B1 n1 c1],.agg #[.bool g2,.slice B2 n2 c2]] W (zD W (x*y))):=Zh (fun x y W1 W2 W g1 B1 n1 c1 g2 B2 n2 c2 ha hb b1 b2 e1 e2=>Jf ha hb (by have:=ha.bd b1 (by omega);omega) (by have:=hb.bd b2 (by omega);omega))
 have HAD:Hid (∀(x y:Int)(W1 W2 W:World)(g1:Bool)B1 n1 c1(g2:Bool)B2 n2 c2,IntV W1 g1 B1 n1 c1 x->IntV W2 g2 B2 n2 c2 y->Bd (3*K+1) x->Bd (3*K+1) y->Ext W1 W->Ext W2 W->Cq 157 #[.agg #[.bool g1,.slice B1 n1 c1],.agg #[.bool g2,.slice B2 n2 c2]] W (zD W (x+y))):=Zh (fun x y W1 W2 W g1 B1 n1 c1 g2 B2 n2 c2 ha hb b1 b2 e1 e2=>JN ha hb (by have:=ha.bd b1 (by omega);omega) (by have:=hb.bd b2 (by omega);omega))
 have HC:Hid (∀(x y:Int)(W1 W2 W:World)(g1:Bool)B1 n1 c1(g2:Bool)B2 n2 c2,IntV W1 g1 B1 n1 c1 x->IntV W2 g2 B2 n2 c2 y->Bd (8*K+100) x->Bd (8*K+100) y->Ext W1 W->Ext W2 W->Cq 115 #[.agg #[.bool g1,.slice B1 n1 c1],.agg #[.bool g2,.slice B2 n2 c2]] W (zy W (.int .i64 (zk x y)))):=Zh (fun x y W1 W2 W g1 B1 n1 c1 g2 B2 n2 c2 ha hb b1 b2 e1 e2=>zai ha hb (by have:=ha.bd b1 (by omega);omega) (by have:=hb.bd b2 (by omega);omega))
 have HBB:Hid (Bd (3*K+1) 4/\Bd (3*K+1) 3/\Bd (3*K+1) L/\Bd (3*K+1) D0/\Bd (3*K+1) D1/\Bd (3*K+1) D2/\Bd (3*K+1) (D0*D2)/\Bd (3*K+1) (L*L)/\Bd (3*K+1) (D0*D2+L*L)/\Bd (3*K+1) (D1*D1)/\Bd (8*K+100) (4*(D0*D2+L*L))/\Bd (8*K+100) (3*(D1*D1))):=Zh (by
  have q1:=hb2 hm0 hm2;have q2:=hb2 hlb hlb;have q3:=q1.add q2;have q4:=hb2 hm1 hm1;have f4:Bd 3 4:=(by decide:(4:Int).natAbs<2^3);have f3:Bd 3 3:=(by decide:(3:Int).natAbs<2^3);exact⟨f4.mono (by omega),f3.mono (by omega),hlb.mono (by omega),hm0.mono (by omega),hm1.mono (by omega),hm2.mono (by omega),q1.mono (by omega),q2.mono (by omega),q3.mono (by omega),q4.mono (by omega),(f4.mul q3).mono (by omega),(f3.mul q4).mono (by omega)⟩)
 obtain⟨P1,hP1⟩:=Yz (D0*D2);obtain⟨P2,hP2⟩:=Yz (L*L);obtain⟨P3,hP3⟩:=Yz (D1*D1);have HP:=Zh (And.intro hP1 (And.intro hP2 hP3));rw[hP1,hP2,hP3]at HBB|-
 clear hb2 hlb hm0 hm1 hm2 hP1 hP2 hP3;go_enter Tryz.func125,Tryz.ntmps125;go_wp2_with (go_at_call 123;refine(HLA.out _ Zi).mono ?_;rintro e wa ⟨ga,Ba,ka,da,rfl,hza,hsa⟩)
 obtain⟨w7,hw7⟩:=Xz (wa.alloc (.cells #[.bool ga,.slice Ba ka da] 149));have hx7:Ext wa w7:=by rw[hw7];exact Zi
 have hbx:w7.heap[wa.heap.size]? =some (.cells #[.bool ga,.slice Ba ka da] 149 (0,0)):=by rw[hw7];exact heap_alloc_new wa _
 obtain⟨p1,p2,p3,p4,p5⟩:=zQ hbx;have o7:Old wa.heap.size w7:=⟨p5⟩;have zw4:Ext w w7:=Ext.trans Zi hx7;have zvJ:=hza.ext hx7;have HZA:=Zh zvJ;have HCE:=Zh (And.intro p1 p2);rw[<-hw7];clear hza zvJ hbx hw7;go_wp2_with fail
 go_cut [8] (fun s8 wx=>∃p:Nat,s8= .pointer (some ⟨p,0,none⟩)/\Hid (Box wx p (4*(P1+P2)))/\Ext w7 wx)
 case first=>
  go_region_held3 (fun w'=>w'.cell? ⟨wa.heap.size,0,none⟩=some (.bool ga)/\w'.cell? ⟨wa.heap.size,1,none⟩=some (.slice Ba ka da)) (exact⟨(zi w7).trans HCE.out.1,(zi w7).trans HCE.out.2⟩)
   (first
    |(go_at_call 88;refine(Qf 4 (by omega) (by omega) _).mono ?_;rintro e w2 ⟨g2,B2,k2,d2,rfl,hz2,hs2⟩)
    |(go_at_call 124;first
      |(have hh:=hz3;clear hh;refine(HM2.out _ Zi).mono ?_;rintro e w4 ⟨g4,B4,k4,d4,rfl,hz4,hs4⟩)
      |(refine(HM0.out _ Zi).mono ?_;rintro e w3 ⟨g3,B3,k3,d3,rfl,hz3,hs3⟩))
    |(go_at_call 158;first
      |(have hh:=hz8;clear hh;refine(HMU.out 4 (P1+P2) _ _ _ _ _ _ _ _ _ _ _ hz2 hz8 HBB.out.1 HBB.out.2.2.2.2.2.2.2.2.1 Zi Zi).mono ?_;rintro e w9 ⟨g9,B9,k9,d9,rfl,hz9,hs9⟩)
      |(have hh:=hz5;clear hh;refine(HMU.out L L _ _ _ _ _ _ _ _ _ _ _ HZA.out HZA.out HBB.out.2.2.1 HBB.out.2.2.1 Zi Zi).mono ?_;rintro e w6 ⟨g6,B6,k6,d6,rfl,hz6,hs6⟩;rw[HP.out.2.1]at hz6)
      |(refine(HMU.out D0 D2 _ _ _ _ _ _ _ _ _ _ _ hz3 hz4 HBB.out.2.2.2.1 HBB.out.2.2.2.2.2.1 Zi Zi).mono ?_;rintro e w5 ⟨g5,B5,k5,d5,rfl,hz5,hs5⟩;rw[HP.out.1]at hz5))
    |(go_at_call 157;refine(HAD.out P1 P2 _ _ _ _ _ _ _ _ _ _ _ hz5 hz6 HBB.out.2.2.2.2.2.2.1 HBB.out.2.2.2.2.2.2.2.1 Zi Zi).mono ?_;rintro e w8 ⟨g8,B8,k8,d8,rfl,hz8,hs8⟩))
  all_goals (go_wp2_with fail;go_meet;exact⟨_,rfl,Zh ⟨g9,B9,k9,d9,BlkAt.eq,hz9.keeps⟩,Zi⟩)
 case rest=>
  obtain⟨p,rfl,HBX,hxc⟩:=hcut;obtain⟨g9,B9,k9,d9,hbk,r1,r2,r3,r4,r5,hz9⟩:=HBX.out.cells;have oP:Old p wc:=⟨r5⟩;have zye:Ext w wc:=zw4.trans hxc;have HZ9:=Zh hz9;have HC9:=Zh (And.intro r1 r2);clear hbk hz9;go_wp2_with fail
  go_region_held3 (fun w'=>w'.cell? ⟨p,0,none⟩=some (.bool g9)/\w'.cell? ⟨p,1,none⟩=some (.slice B9 k9 d9)) (exact⟨(zi wc).trans HC9.out.1,(zi wc).trans HC9.out.2⟩)
   (first
    |(go_at_call 88;refine(Qf 3 (by omega) (by omega) _).mono ?_;rintro e w2 ⟨g2,B2,k2,d2,rfl,hz2,hs2⟩)
    |(go_at_call 124;first
      |(have hh:=hz3;clear hh;refine(HM1.out _ Zi).mono ?_;rintro e w4 ⟨g4,B4,k4,d4,rfl,hz4,hs4⟩)
      |(refine(HM1.out _ Zi).mono ?_;rintro e w3 ⟨g3,B3,k3,d3,rfl,hz3,hs3⟩))
    |(go_at_call 158;first
      |(have hh:=hz5;clear hh;refine(HMU.out 3 P3 _ _ _ _ _ _ _ _ _ _ _ hz2 hz5 HBB.out.2.1 HBB.out.2.2.2.2.2.2.2.2.2.1 Zi Zi).mono ?_;rintro e w6 ⟨g6,B6,k6,d6,rfl,hz6,hs6⟩)
      |(refine(HMU.out D1 D1 _ _ _ _ _ _ _ _ _ _ _ hz3 hz4 HBB.out.2.2.2.2.1 HBB.out.2.2.2.2.1 Zi Zi).mono ?_;rintro e w5 ⟨g5,B5,k5,d5,rfl,hz5,hs5⟩;rw[HP.out.2.2]at hz5))
    |(go_at_call 115;refine(HC.out (4*(P1+P2)) (3*P3) _ _ _ _ _ _ _ _ _ _ _ HZ9.out hz6 HBB.out.2.2.2.2.2.2.2.2.2.2.1 HBB.out.2.2.2.2.2.2.2.2.2.2.2 Zi Zi).mono ?_;rintro e w7 ⟨rfl,hs7⟩))
  all_goals
   go_wp2_with fail
   go_ret;exact⟨rfl,Step.of _ _⟩
instance TNe.u32_Rat:TNe 271 156:=⟨by decide⟩
def jo(w:World)(F:Int->Int->Prop)(e:Ending)(w':World):Prop:=∃g B k d g' B' k' d' p q,e= .returned (.agg #[.bool g,.slice B k d,.bool g',.slice B' k' d'])/\IntV w' g B k d p/\IntV w' g' B' k' d' q/\F p q/\Step w w'
def zhw(w:World)(F:Int->Int->Prop)(e:Ending)(w':World):Prop:=∃g B k d g' B' k' d' p q,e= .returned (.tuple #[.agg #[.bool g,.slice B k d,.bool g',.slice B' k' d'],.bool true])/\IntV w' g B k d p/\IntV w' g' B' k' d' q/\F p q/\Step w w'
theorem Q5{x0 x1 x2 x3:Value}{T:TypeId}(h:w.heap[b]? =some (.cells #[x0,x1,x2,x3] T (0,0))):(w.cell? ⟨b,0,none⟩=some x0/\w.cell? ⟨b,1,none⟩=some x1/\w.cell? ⟨b,2,none⟩=some x2/\w.cell? ⟨b,3,none⟩=some x3)/\(w.frozen? ⟨b,0,none⟩=false/\w.frozen? ⟨b,1,none⟩=false/\w.frozen? ⟨b,2,none⟩=false/\w.frozen? ⟨b,3,none⟩=false)/\b<w.heap.size:=
 ⟨⟨by simp[World.cell?,h],by simp[World.cell?,h],by simp[World.cell?,h],by simp[World.cell?,h]⟩,⟨by simp[World.frozen?,h],by simp[World.frozen?,h],by simp[World.frozen?,h],by simp[World.frozen?,h]⟩,zF h⟩
theorem zaA{W:World}{o:Nat}{u0 u1 u2 u3:Value}(h:c≠b):((((W.setCell ⟨b,0,none⟩ u0).setCell ⟨b,1,none⟩ u1).setCell ⟨b,2,none⟩ u2).setCell ⟨b,3,none⟩ u3).cell? ⟨c,o,none⟩=W.cell? ⟨c,o,none⟩:=by
 have key:∀i,(⟨b,i,none⟩:Addr)≠⟨c,o,none⟩:=fun i e=>by injection e with e1 e2;exact h e1.symm
 rw[World.cell?_setCell_other _ _ _ _ (key 3),World.cell?_setCell_other _ _ _ _ (key 2),World.cell?_setCell_other _ _ _ _ (key 1),World.cell?_setCell_other _ _ _ _ (key 0)]
theorem znF :Cq 185 #[] w (jo w fun p q=>p=1/\q=2):=by
 go_enter Tryz.func185,Tryz.ntmps185;go_wp2_with fail
 refine(Qf 1 (by omega) (by omega) _).mono ?_;rintro e w1 ⟨g1,B1,k1,d1,rfl,hz1,hs1⟩;go_wp2_with fail
 refine(Qf 2 (by omega) (by omega) _).mono ?_;rintro e w2 ⟨g2,B2,k2,d2,rfl,hz2,hs2⟩;have hb:=(Zi:BlkAt w.heap.size #[.bool false,.slice none 0 0,.bool false,.slice none 0 0] 156 w2).eq;obtain⟨⟨a0,a1,a2,a3⟩,⟨f0,f1,f2,f3⟩,a4⟩:=Q5 hb;have tq:Typed w.heap.size 156 w2:=⟨_,_,hb⟩;have zw5:=hz1.ext hs2.ext;clear hb;go_wp2_with fail
 exact bodyPost_ret (v:= .agg #[.bool g1,.slice B1 k1 d1,.bool g2,.slice B2 k2 d2]) (by simp[results,Tryz.results185,go_sem,a0,a1,a2,a3]) rfl ⟨_,_,_,_,_,_,_,_,1,2,rfl,zw5.keeps,hz2.keeps,⟨rfl,rfl⟩,Step.of _ _⟩
theorem zhx(ha:IntV w0 na A n c x)(hb:IntV w1 nb B k d y)(hkk:kk<=8000000000000)(hbx:Bd kk x)(hby:Bd kk y)(hy0:0<y)[hx:Ext w0 w][hy:Ext w1 w]:
  Cq 233 #[.agg #[.bool na,.slice A n c],.agg #[.bool nb,.slice B k d]] w (zhw w (RatOf x y)):=by
 have ln:=ha.bd hbx hkk;have lk:=hb.bd hby hkk;have hsg:zk y 0=1:=qH hy0;have HSG:=Zh (fun W(hh:Ext w1 W)=>QT (w:=W) hb (by omega));rw[hsg]at HSG;have HGC:=Zh (fun W(e1:Ext w0 W)(e2:Ext w1 W)=>znq (w:=W) ha hb hkk hbx hby);have hgp:=zhf (num:=x) (by omega:y≠0);have hro:=RatOf.new (num:=x) hy0;have hgb:Bd kk (Int.gcd x y:Int):=hby.le (by
  have:=Int.le_of_dvd hy0 (Int.gcd_dvd_right (a:=x) (b:=y));omega)
 generalize (Int.gcd x y:Int)=G at*
 have HQ1:Hid (∀(W1 W:World)(g1:Bool)B1 n1 c1,IntV W1 g1 B1 n1 c1 G->Ext W1 W->Ext w0 W->Cq 161 #[.agg #[.bool na,.slice A n c],.agg #[.bool g1,.slice B1 n1 c1]] W (zD W (x / G))):=Zh (fun W1 W g1 B1 n1 c1 hg e1 e2=>zbn ha hg ln (hg.bd hgb hkk) (by omega));have HQ2:Hid (∀(W1 W:World)(g1:Bool)B1 n1 c1,IntV W1 g1 B1 n1 c1 G->Ext W1 W->Ext w1 W->Cq 161 #[.agg #[.bool nb,.slice B k d],.agg #[.bool g1,.slice B1 n1 c1]] W (zD W (y / G))):=Zh (fun W1 W g1 B1 n1 c1 hg e1 e2=>zbn hb hg lk (hg.bd hgb hkk) (by omega))
 have HRO:=Zh hro;clear hsg hro hgb hgp ln lk;go_enter Tryz.func233,Tryz.ntmps233;go_wp2_with (first
  |(go_at_call 150;first
    |(have hh:=hsq;clear hh;refine(HSG.out _ Zi).mono ?_;rintro e w3 ⟨rfl,hs3⟩;have hb3:=(Zi:BlkAt w.heap.size #[.bool na,.slice A n c] 149 w3).eq;have hb4:=(Zi:BlkAt (w.heap.size+1) #[.bool nb,.slice B k d] 149 w3).eq;obtain⟨u1,u2,-,-,-⟩:=zQ hb3;obtain⟨u3,u4,-,-,-⟩:=zQ hb4;clear hb3 hb4)
    |(refine(HSG.out _ Zi).mono ?_;rintro e w2 ⟨rfl,hs2⟩;have hb3:=(Zi:BlkAt (w.heap.size+1) #[.bool nb,.slice B k d] 149 w2).eq;obtain⟨v3,v4,-,-,-⟩:=zQ hb3;clear hb3;have hsq:=hs2))
  |(go_at_call 264;refine(HGC.out _ Zi Zi).mono ?_;rintro e w4 ⟨g4,B4,k4,d4,rfl,hz4,hs4⟩))
 have HZ4:=Zh hz4;clear hz4;obtain⟨w5,hw5⟩:=Xz (w4.alloc (.cells #[.bool g4,.slice B4 k4 d4] 149));have ztS:Ext w4 w5:=by rw[hw5];exact Zi
 have q2:w5.heap[w4.heap.size]? =some (.cells #[.bool g4,.slice B4 k4 d4] 149 (0,0)):=by rw[hw5];exact heap_alloc_new w4 _
 have q0:=zj ztS (Zi:BlkAt w.heap.size #[.bool na,.slice A n c] 149 w4).eq;have q1:=zj ztS (Zi:BlkAt (w.heap.size+1) #[.bool nb,.slice B k d] 149 w4).eq;have q3:=zj ztS (Zi:BlkAt (w.heap.size+1+1) #[.bool false,.slice none 0 0,.bool false,.slice none 0 0] 156 w4).eq;have ztc:Ext w w5:=Ext.trans Zi ztS;have HX0:Hid (Ext w0 w5):=Zh (hx.trans ztc);have HX1:Hid (Ext w1 w5):=Zh (hy.trans ztc);have HZ5:=Zh (HZ4.out.ext ztS)
 have HQS:=Zh (And.intro q0 (And.intro q1 (And.intro q2 q3)));have zyf:w.heap.size+1+1<w4.heap.size:=(Zi:Old (w.heap.size+1+1) w4).lt;have HLL:Hid (∀W,Ext w5 W->W.cell? ⟨w.heap.size,0,none⟩=some (.bool na)/\W.cell? ⟨w.heap.size,1,none⟩=some (.slice A n c)/\W.cell? ⟨w.heap.size+1,0,none⟩=some (.bool nb)/\W.cell? ⟨w.heap.size+1,1,none⟩=some (.slice B k d)/\W.cell? ⟨w4.heap.size,0,none⟩=some (.bool g4)/\W.cell? ⟨w4.heap.size,1,none⟩=some (.slice B4 k4 d4)):=Zh (fun W hh=>by
  obtain⟨a1,a2,-⟩:=zQ (zj hh HQS.out.1);obtain⟨b1,b2,-⟩:=zQ (zj hh HQS.out.2.1);obtain⟨c1,c2,-⟩:=zQ (zj hh HQS.out.2.2.1);exact⟨a1,a2,b1,b2,c1,c2⟩)
 have HLF:Hid (∀W,Ext w5 W->∀(u0 u1 u2 u3:Value),((((W.setCell ⟨w.heap.size+1+1,0,none⟩ u0).setCell ⟨w.heap.size+1+1,1,none⟩ u1).setCell ⟨w.heap.size+1+1,2,none⟩ u2).setCell ⟨w.heap.size+1+1,3,none⟩ u3).cell? ⟨w.heap.size,0,none⟩=some (.bool na)/\((((W.setCell ⟨w.heap.size+1+1,0,none⟩ u0).setCell ⟨w.heap.size+1+1,1,none⟩ u1).setCell ⟨w.heap.size+1+1,2,none⟩ u2).setCell ⟨w.heap.size+1+1,3,none⟩ u3).cell? ⟨w.heap.size,1,none⟩=some (.slice A n c)/\((((W.setCell ⟨w.heap.size+1+1,0,none⟩ u0).setCell ⟨w.heap.size+1+1,1,none⟩ u1).setCell ⟨w.heap.size+1+1,2,none⟩ u2).setCell ⟨w.heap.size+1+1,3,none⟩ u3).cell? ⟨w.heap.size+1,0,none⟩=some (.bool nb)/\((((W.setCell ⟨w.heap.size+1+1,0,none⟩ u0).setCell ⟨w.heap.size+1+1,1,none⟩ u1).setCell ⟨w.heap.size+1+1,2,none⟩ u2).setCell ⟨w.heap.size+1+1,3,none⟩ u3).cell? ⟨w.heap.size+1,1,none⟩=some (.slice B k d)/\((((W.setCell ⟨w.heap.size+1+1,0,none⟩ u0).setCell ⟨w.heap.size+1+1,1,none⟩ u1).setCell ⟨w.heap.size+1+1,2,none⟩ u2).setCell ⟨w.heap.size+1+1,3,none⟩ u3).cell? ⟨w4.heap.size,0,none⟩=some (.bool g4)/\((((W.setCell ⟨w.heap.size+1+1,0,none⟩ u0).setCell ⟨w.heap.size+1+1,1,none⟩ u1).setCell ⟨w.heap.size+1+1,2,none⟩ u2).setCell ⟨w.heap.size+1+1,3,none⟩ u3).cell? ⟨w4.heap.size,1,none⟩=some (.slice B4 k4 d4)):=Zh (fun W hh u0 u1 u2 u3=>by
  obtain⟨a1,a2,b1,b2,c1,c2⟩:=HLL.out W hh;exact⟨(zaA (by omega)).trans a1,(zaA (by omega)).trans a2,(zaA (by omega)).trans b1,(zaA (by omega)).trans b2,(zaA (by omega)).trans c1,(zaA (by omega)).trans c2⟩)
 have HRB:Hid (∀W,Ext w5 W->W.heap[w.heap.size+1+1]? =some (.cells #[.bool false,.slice none 0 0,.bool false,.slice none 0 0] 156 (0,0))):=Zh (fun W hh=>zj hh HQS.out.2.2.2);rw[<-hw5];clear q0 q1 q2 q3 hw5;have i0:Ext w0 w5:=HX0.out;have i1:Ext w1 w5:=HX1.out;go_wp2_with fail
 go_region_held3 (fun W=>W.cell? ⟨w.heap.size,0,none⟩=some (.bool na)/\W.cell? ⟨w.heap.size,1,none⟩=some (.slice A n c)/\W.cell? ⟨w.heap.size+1,0,none⟩=some (.bool nb)/\W.cell? ⟨w.heap.size+1,1,none⟩=some (.slice B k d)/\W.cell? ⟨w4.heap.size,0,none⟩=some (.bool g4)/\W.cell? ⟨w4.heap.size,1,none⟩=some (.slice B4 k4 d4))
  (first|exact HLL.out _ Zi|exact HLF.out _ Zi _ _ _ _)
  (first
   |(go_at_call 161;first
     |(have hh:=hz6;clear hh;refine(HQ2.out _ _ _ _ _ _ HZ5.out Zi Zi).mono ?_;rintro e w7 ⟨g7,B7,k7,d7,rfl,hz7,hs7⟩;obtain⟨⟨a0,a1,a2,a3⟩,⟨f0,f1,f2,f3⟩,a4⟩:=Q5 (HRB.out w7 Zi);have tq:Typed (w.heap.size+1+1) 156 w7:=⟨_,_,HRB.out w7 Zi⟩)
     |(refine(HQ1.out _ _ _ _ _ _ HZ5.out Zi Zi).mono ?_;rintro e w6 ⟨g6,B6,k6,d6,rfl,hz6,hs6⟩)))
 all_goals
  have zw6:=hz6.ext (Zi:Ext w6 w7);go_wp2_with fail
  exact bodyPost_ret (v:= .tuple #[.agg #[.bool g6,.slice B6 k6 d6,.bool g7,.slice B7 k7 d7],.bool true]) (by simp[results,Tryz.results233,go_sem,a0,a1,a2,a3]) rfl ⟨_,_,_,_,_,_,_,_,_,_,rfl,zw6.keeps,hz7.keeps,HRO.out,Step.of _ _⟩
theorem zcn(ha:IntV w0 na A n c x)(hb:IntV w1 nb B k d y)(hkk:kk<=8000000000000)(hbx:Bd kk x)(hby:Bd kk y)(hy0:0<y)[hx:Ext w0 w][hy:Ext w1 w]:
  Cq 186 #[.agg #[.bool na,.slice A n c,.bool nb,.slice B k d]] w (jo w (RatOf x y)):=by
 have HN:=Zh (fun W(e1:Ext w0 W)(e2:Ext w1 W)=>zhx (w:=W) ha hb hkk hbx hby hy0);go_enter Tryz.func186,Tryz.ntmps186;go_wp2_with (go_at_call 233;refine(HN.out _ Zi Zi).mono ?_;rintro e w2 ⟨g6,B6,k6,d6,g7,B7,k7,d7,p,q,rfl,hz6,hz7,hF,hs2⟩;have hbk:=(Zi:BlkAt (w.heap.size+1) #[.bool false,.slice none 0 0,.bool false,.slice none 0 0] 156 w2).eq;obtain⟨⟨a0,a1,a2,a3⟩,⟨f0,f1,f2,f3⟩,a4⟩:=Q5 hbk;have tq:Typed (w.heap.size+1) 156 w2:=⟨_,_,hbk⟩;clear hbk)
 exact bodyPost_ret (v:= .agg #[.bool g6,.slice B6 k6 d6,.bool g7,.slice B7 k7 d7]) (by simp[results,Tryz.results186,go_sem,a0,a1,a2,a3]) rfl ⟨_,_,_,_,_,_,_,_,p,q,rfl,hz6.keeps,hz7.keeps,hF,Step.of _ _⟩
theorem zhy(ha:IntV w0 na A n c x)(hb:IntV w1 nb B k d y)(hkk:kk<=8000000000000)(hbx:Bd kk x)(hby:Bd kk y)(hy0:0<y)[hx:Ext w0 w][hy:Ext w1 w]:
  Cq 122 #[.agg #[.bool na,.slice A n c],.agg #[.bool nb,.slice B k d]] w (jo w (RatOf x y)):=by
 have HN:=Zh (fun W(e1:Ext w0 W)(e2:Ext w1 W)=>zcn (w:=W) ha hb hkk hbx hby hy0);go_enter Tryz.func122,Tryz.ntmps122;go_wp2_with (go_at_call 186;refine(HN.out _ Zi Zi).mono ?_;rintro e w2 ⟨g6,B6,k6,d6,g7,B7,k7,d7,p,q,rfl,hz6,hz7,hF,hs2⟩;have hbk:=(Zi:BlkAt (w.heap.size+1+1) #[.bool false,.slice none 0 0,.bool false,.slice none 0 0] 156 w2).eq;obtain⟨⟨a0,a1,a2,a3⟩,⟨f0,f1,f2,f3⟩,a4⟩:=Q5 hbk;have tq:Typed (w.heap.size+1+1) 156 w2:=⟨_,_,hbk⟩;clear hbk)
 exact bodyPost_ret (v:= .agg #[.bool g6,.slice B6 k6 d6,.bool g7,.slice B7 k7 d7]) (by simp[results,Tryz.results122,go_sem,a0,a1,a2,a3]) rfl ⟨_,_,_,_,_,_,_,_,p,q,rfl,hz6.keeps,hz7.keeps,hF,Step.of _ _⟩
theorem znG(ha:IntV w0 na A n c x)(hb:IntV w1 nb B k d y)(hkk:kk<=8000000000000)(hbx:Bd kk x)(hby:Bd kk y)(hy0:0<y)[hx:Ext w0 w][hy:Ext w1 w]:
  Cq 183 #[.agg #[.bool na,.slice A n c,.bool nb,.slice B k d]] w (zD w (x / y)):=by
 have HN:=Zh (fun W(e1:Ext w0 W)(e2:Ext w1 W)=>zcn (w:=W) ha hb hkk hbx hby hy0);have HQ:Hid (∀(W1 W:World)(g1:Bool)B1 n1 c1(g2:Bool)B2 n2 c2 p q,IntV W1 g1 B1 n1 c1 p->IntV W1 g2 B2 n2 c2 q->RatOf x y p q->Ext W1 W->Cq 161 #[.agg #[.bool g1,.slice B1 n1 c1],.agg #[.bool g2,.slice B2 n2 c2]] W (zD W (x / y))):=Zh (fun W1 W g1 B1 n1 c1 g2 B2 n2 c2 p q h1 h2 hF e1=>by
  have:=zbn (w:=W) h1 h2 (h1.bd (hbx.le hF.le1) hkk) (h2.bd (hby.le hF.le2) hkk) (by have:=hF.pos;omega);rwa [zdX hF.pos hy0 hF.eq]at this)
 go_enter Tryz.func183,Tryz.ntmps183;go_wp2_with (first
  |(go_at_call 186;refine(HN.out _ Zi Zi).mono ?_;rintro e w2 ⟨g6,B6,k6,d6,g7,B7,k7,d7,p,q,rfl,hz6,hz7,hF,hs2⟩)
  |(go_at_call 161;refine(HQ.out _ _ _ _ _ _ _ _ _ _ _ _ hz6 hz7 hF Zi).mono ?_;rintro e w3 ⟨g3,B3,k3,d3,rfl,hz3,hs3⟩;have hbk:=(Zi:BlkAt (w.heap.size+1) #[.bool false,.slice none 0 0] 149 w3).eq;obtain⟨a0,a1,f0,f1,a4⟩:=zQ hbk;have tq:Typed (w.heap.size+1) 149 w3:=⟨_,_,hbk⟩;clear hbk))
 exact bodyPost_ret (v:= .agg #[.bool g3,.slice B3 k3 d3]) (by simp[results,Tryz.results183,go_sem,a0,a1]) rfl ⟨_,_,_,_,rfl,hz3.keeps,Step.of _ _⟩
theorem znH{p p' q' s t:Int}(h1:RatOf x y p q)(h2:RatOf x' y' p' q')(h3:RatOf (p*q'+p'*q) (q*q') s t):s*(y*y')=(x*y'+x'*y)*t:=by
 have hD:0<q*q':=Int.mul_pos h1.pos h2.pos;have e1:=h1.eq;have e2:=h2.eq;have e3:=h3.eq;have key:(q*q')*(s*(y*y'))=(q*q')*((x*y'+x'*y)*t):=by
  have k1:(q*q')*(s*(y*y'))=(s*(q*q'))*(y*y'):=by grind
  rw[k1,e3];have k2:(p*q'+p'*q)*t*(y*y')=((p*y)*(q'*y')+(p'*y')*(q*y))*t:=by grind
  rw[k2,e1,e2];grind
 exact Int.eq_of_mul_eq_mul_left (by omega) key
theorem znI(w w':World)(x0 x1 x2 x3 y0 y1 y2 y3:Value)(T:TypeId)[h:Ext ((w.alloc (.cells #[x0,x1,x2,x3] T)).alloc (.cells #[y0,y1,y2,y3] T)) w']:
  w'.cell? ⟨w.heap.size,0,none⟩=some x0/\w'.cell? ⟨w.heap.size,1,none⟩=some x1/\w'.cell? ⟨w.heap.size,2,none⟩=some x2/\w'.cell? ⟨w.heap.size,3,none⟩=some x3/\w'.cell? ⟨w.heap.size+1,0,none⟩=some y0/\w'.cell? ⟨w.heap.size+1,1,none⟩=some y1/\w'.cell? ⟨w.heap.size+1,2,none⟩=some y2/\w'.cell? ⟨w.heap.size+1,3,none⟩=some y3:=by
 have h1:w'.heap[w.heap.size]? =some (.cells #[x0,x1,x2,x3] T (0,0)):=zj (Ext.trans Zi h) (heap_alloc_new w _);have h2:w'.heap[w.heap.size+1]? =some (.cells #[y0,y1,y2,y3] T (0,0)):=by
  have:=zj h (heap_alloc_new (w.alloc (.cells #[x0,x1,x2,x3] T)) _);rwa [World.size_alloc]at this
 obtain⟨⟨a0,a1,a2,a3⟩,-,-⟩:=Q5 h1;obtain⟨⟨c0,c1,c2,c3⟩,-,-⟩:=Q5 h2;exact⟨a0,a1,a2,a3,c0,c1,c2,c3⟩
structure SumOf(kk:Nat)(x y x' y' s t:Int):Prop where
 pos:0<t
 eq:s*(y*y')=(x*y'+x'*y)*t
 b1:Bd (2*kk+1) s
 b2:Bd (2*kk+1) t
theorem znJ{w2 w3:World}{nc nd:Bool}{C D:Option Addr}{ka kb kc kd ca cb cc cd:Nat}(ha:IntV w0 na A ka ca x)(hb:IntV w1 nb B kb cb y)(hc:IntV w2 nc C kc cc x')(hd:IntV w3 nd D kd cd y')(hkk:kk<=1000000000000)(b1:Bd kk x)(b2:Bd kk y)(b3:Bd kk x')(b4:Bd kk y')(hy0:0<y)(zw7:0<y')[i0:Ext w0 w][i1:Ext w1 w][i2:Ext w2 w][i3:Ext w3 w]:
  Cq 184 #[.agg #[.bool na,.slice A ka ca,.bool nb,.slice B kb cb],.agg #[.bool nc,.slice C kc cc,.bool nd,.slice D kd cd]] w (jo w (SumOf kk x y x' y')):=by
 have HN1:=Zh (fun W(e:Ext w W)=>have:Ext w0 W:=i0.trans e;have:Ext w1 W:=i1.trans e;zcn (w:=W) ha hb (by omega) b1 b2 hy0);have HN2:=Zh (fun W(e:Ext w W)=>have:Ext w2 W:=i2.trans e;have:Ext w3 W:=i3.trans e;zcn (w:=W) hc hd (by omega) b3 b4 zw7);have HB:=Zh (And.intro b1 (And.intro b2 (And.intro b3 b4)));clear ha hb hc hd b1 b2 b3 b4;go_enter Tryz.func184,Tryz.ntmps184;go_wp2_with fail
 go_cut [5,6] (fun s5 s6 wx=>∃(p5 p6:Nat) (g1 g2 g3 g4:Bool) (B1 B2 B3 B4:Option Addr) (k1 k2 k3 k4 d1 d2 d3 d4:Nat) (p q p' q':Int),s5= .pointer (some ⟨p5,0,none⟩)/\s6= .pointer (some ⟨p6,0,none⟩)/\Hid (wx.heap[p5]? =some (.cells #[.bool g1,.slice B1 k1 d1,.bool g2,.slice B2 k2 d2] 156 (0,0)))/\Hid (wx.heap[p6]? =some (.cells #[.bool g3,.slice B3 k3 d3,.bool g4,.slice B4 k4 d4] 156 (0,0)))/\Hid (IntV wx g1 B1 k1 d1 p)/\Hid (IntV wx g2 B2 k2 d2 q)/\Hid (IntV wx g3 B3 k3 d3 p')/\Hid (IntV wx g4 B4 k4 d4 q')/\Hid (RatOf x y p q)/\Hid (RatOf x' y' p' q')/\Hid (wx.heap[w.heap.size+1+1]? =some (.cells #[.bool false,.slice none 0 0,.bool false,.slice none 0 0] 156 (0,0)))/\Ext w wx)
 case first=>
  go_region_held3 (fun W=>W.cell? ⟨w.heap.size,0,none⟩=some (.bool na)/\W.cell? ⟨w.heap.size,1,none⟩=some (.slice A ka ca)/\W.cell? ⟨w.heap.size,2,none⟩=some (.bool nb)/\W.cell? ⟨w.heap.size,3,none⟩=some (.slice B kb cb)/\W.cell? ⟨w.heap.size+1,0,none⟩=some (.bool nc)/\W.cell? ⟨w.heap.size+1,1,none⟩=some (.slice C kc cc)/\W.cell? ⟨w.heap.size+1,2,none⟩=some (.bool nd)/\W.cell? ⟨w.heap.size+1,3,none⟩=some (.slice D kd cd))
   (exact znI w _ (.bool na) (.slice A ka ca) (.bool nb) (.slice B kb cb) (.bool nc) (.slice C kc cc) (.bool nd) (.slice D kd cd) 156)
   (first
    |(go_at_call 186;first
      |(have hh:=hF4;clear hh;refine(HN2.out _ Zi).mono ?_;rintro e w5 ⟨g3,B3,k3,d3,g4,B4,k4,d4,p',q',rfl,hz3,hz4,hF5,hs5⟩)
      |(refine(HN1.out _ Zi).mono ?_;rintro e w4 ⟨g1,B1,k1,d1,g2,B2,k2,d2,p,q,rfl,hz1,hz2,hF4,hs4⟩)))
  all_goals (go_wp2_with fail;go_meet;(try have t1:Typed (w.heap.size+1+1+1) 156 w5:=Zi);(try have t2:Typed (w.heap.size+1+1+1+1) 156 w5:=Zi);refine⟨_,_,g1,g2,g3,g4,B1,B2,B3,B4,k1,k2,k3,k4,d1,d2,d3,d4,p,q,p',q',rfl,rfl,Zh ?_,Zh ?_,Zh hz1.keeps,Zh hz2.keeps,Zh hz3.keeps,Zh hz4.keeps,Zh hF4,Zh hF5,Zh BlkAt.eq,Zi⟩)
  all_goals exact BlkAt.eq
 case rest=>
  obtain⟨p5,p6,g1,g2,g3,g4,B1,B2,B3,B4,k1,k2,k3,k4,d1,d2,d3,d4,p,q,p',q',rfl,rfl,H5,H6,HZ1,HZ2,HZ3,HZ4,HF1,HF2,HRS,hxc⟩:=hcut;have HLL:Hid (∀W,Ext wc W->W.cell? ⟨p5,0,none⟩=some (.bool g1)/\W.cell? ⟨p5,1,none⟩=some (.slice B1 k1 d1)/\W.cell? ⟨p5,2,none⟩=some (.bool g2)/\W.cell? ⟨p5,3,none⟩=some (.slice B2 k2 d2)/\W.cell? ⟨p6,0,none⟩=some (.bool g3)/\W.cell? ⟨p6,1,none⟩=some (.slice B3 k3 d3)/\W.cell? ⟨p6,2,none⟩=some (.bool g4)/\W.cell? ⟨p6,3,none⟩=some (.slice B4 k4 d4)):=Zh (fun W hh=>by
   obtain⟨⟨a0,a1,a2,a3⟩,-,-⟩:=Q5 (zj hh H5.out);obtain⟨⟨c0,c1,c2,c3⟩,-,-⟩:=Q5 (zj hh H6.out);exact⟨a0,a1,a2,a3,c0,c1,c2,c3⟩)
  have o5:Old p5 wc:=⟨zF H5.out⟩;have o6:Old p6 wc:=⟨zF H6.out⟩;have HBB:Hid (Bd kk p/\Bd kk q/\Bd kk p'/\Bd kk q'/\Bd (2*kk) (p*q')/\Bd (2*kk) (p'*q)/\Bd (2*kk+1) (p*q'+p'*q)/\Bd (2*kk+1) (q*q')/\0<q*q'):=Zh (by
   have a1:=HB.out.1.le HF1.out.le1;have a2:=HB.out.2.1.le HF1.out.le2;have a3:=HB.out.2.2.1.le HF2.out.le1;have a4:=HB.out.2.2.2.le HF2.out.le2;have m1:=a1.mul a4;have m2:=a3.mul a2;have m3:=a2.mul a4;rw[show kk+kk=2*kk by omega]at m1 m2 m3;exact⟨a1,a2,a3,a4,m1,m2,m1.add m2,m3.mono (by omega),Int.mul_pos HF1.out.pos HF2.out.pos⟩)
  have HFS:Hid (∀s t,RatOf (p*q'+p'*q) (q*q') s t->SumOf kk x y x' y' s t):=Zh (fun s t h3=>⟨h3.pos,znH HF1.out HF2.out h3,HBB.out.2.2.2.2.2.2.1.le h3.le1,HBB.out.2.2.2.2.2.2.2.1.le h3.le2⟩);have HMU:Hid (∀(x y:Int)(W1 W2 W:World)(g1:Bool)B1 n1 c1(g2:Bool)B2 n2 c2,IntV W1 g1 B1 n1 c1 x->IntV W2 g2 B2 n2 c2 y->Bd kk x->Bd kk y->Ext W1 W->Ext W2 W->Cq 158 #[.agg #[.bool g1,.slice B1 n1 c1],.agg #[.bool g2,.slice B2 n2 c2]] W (zD W (x*y))):=Zh (fun x y W1 W2 W g1 B1 n1 c1 g2 B2 n2 c2 ha hb b1 b2 e1 e2=>Jf ha hb (by have:=ha.bd b1 (by omega);omega) (by have:=hb.bd b2 (by omega);omega))
  have HAD:Hid (∀(x y:Int)(W1 W2 W:World)(g1:Bool)B1 n1 c1(g2:Bool)B2 n2 c2,IntV W1 g1 B1 n1 c1 x->IntV W2 g2 B2 n2 c2 y->Bd (2*kk) x->Bd (2*kk) y->Ext W1 W->Ext W2 W->Cq 157 #[.agg #[.bool g1,.slice B1 n1 c1],.agg #[.bool g2,.slice B2 n2 c2]] W (zD W (x+y))):=Zh (fun x y W1 W2 W g1 B1 n1 c1 g2 B2 n2 c2 ha hb b1 b2 e1 e2=>JN ha hb (by have:=ha.bd b1 (by omega);omega) (by have:=hb.bd b2 (by omega);omega))
  have HNW:Hid (∀(W1 W2 W:World)(g1:Bool)B1 n1 c1(g2:Bool)B2 n2 c2,IntV W1 g1 B1 n1 c1 (p*q'+p'*q)->IntV W2 g2 B2 n2 c2 (q*q')->Ext W1 W->Ext W2 W->Cq 233 #[.agg #[.bool g1,.slice B1 n1 c1],.agg #[.bool g2,.slice B2 n2 c2]] W (zhw W (RatOf (p*q'+p'*q) (q*q')))):=Zh (fun W1 W2 W g1 B1 n1 c1 g2 B2 n2 c2 ha hb e1 e2=>zhx ha hb (kk:=2*kk+1) (by omega) HBB.out.2.2.2.2.2.2.1 HBB.out.2.2.2.2.2.2.2.1 HBB.out.2.2.2.2.2.2.2.2)
  go_wp2_with fail
  go_cut [7,8] (fun s7 s8 wx=>∃(p7:Nat) (g7 g8:Bool) (B7 B8:Option Addr) (k7 k8 d7 d8:Nat) (s t:Int),s7= .pointer (some ⟨p7,0,none⟩)/\s8= .bool true/\Hid (wx.heap[p7]? =some (.cells #[.bool g7,.slice B7 k7 d7,.bool g8,.slice B8 k8 d8] 156 (0,0)))/\Hid (IntV wx g7 B7 k7 d7 s)/\Hid (IntV wx g8 B8 k8 d8 t)/\Hid (SumOf kk x y x' y' s t)/\Ext wc wx)
  case first=>
   go_region_held3 (fun W=>W.cell? ⟨p5,0,none⟩=some (.bool g1)/\W.cell? ⟨p5,1,none⟩=some (.slice B1 k1 d1)/\W.cell? ⟨p5,2,none⟩=some (.bool g2)/\W.cell? ⟨p5,3,none⟩=some (.slice B2 k2 d2)/\W.cell? ⟨p6,0,none⟩=some (.bool g3)/\W.cell? ⟨p6,1,none⟩=some (.slice B3 k3 d3)/\W.cell? ⟨p6,2,none⟩=some (.bool g4)/\W.cell? ⟨p6,3,none⟩=some (.slice B4 k4 d4)) (exact HLL.out _ Zi)
    (first
     |(go_at_call 158;first
       |(have hh:=hzc;clear hh;refine(HMU.out q q' _ _ _ _ _ _ _ _ _ _ _ HZ2.out HZ4.out HBB.out.2.1 HBB.out.2.2.2.1 Zi Zi).mono ?_;rintro e wd ⟨gd,Bd',kd',dd',rfl,hzd,hsd⟩)
       |(have hh:=hza;clear hh;refine(HMU.out p' q _ _ _ _ _ _ _ _ _ _ _ HZ3.out HZ2.out HBB.out.2.2.1 HBB.out.2.1 Zi Zi).mono ?_;rintro e wb ⟨gb,Bb,kb',db',rfl,hzb,hsb⟩)
       |(refine(HMU.out p q' _ _ _ _ _ _ _ _ _ _ _ HZ1.out HZ4.out HBB.out.1 HBB.out.2.2.2.1 Zi Zi).mono ?_;rintro e wa ⟨ga,Ba,ka',da',rfl,hza,hsa⟩))
     |(go_at_call 157;refine(HAD.out (p*q') (p'*q) _ _ _ _ _ _ _ _ _ _ _ hza hzb HBB.out.2.2.2.2.1 HBB.out.2.2.2.2.2.1 Zi Zi).mono ?_;rintro e wd2 ⟨gc,Bc,kc',dc',rfl,hzc,hsc⟩)
     |(go_at_call 233;refine(HNW.out _ _ _ _ _ _ _ _ _ _ _ hzc hzd Zi Zi).mono ?_;rintro e we ⟨g7,B7,k7,d7,g8,B8,k8,d8,s,t,rfl,hz7,hz8,hFe,hse⟩))
   all_goals (go_wp2_with fail;go_meet;exact⟨_,g7,g8,B7,B8,k7,k8,d7,d8,s,t,rfl,rfl,Zh BlkAt.eq,Zh hz7.keeps,Zh hz8.keeps,Zh (HFS.out s t hFe),Zi⟩)
  case rest=>
   obtain⟨p7,g7,g8,B7,B8,k7,k8,d7,d8,s,t,rfl,rfl,H7,HZ7,HZ8,HSM,hxd⟩:=hcut;obtain⟨⟨a0,a1,a2,a3⟩,-,a4⟩:=Q5 H7.out;have hrs:=zj hxd HRS.out;obtain⟨⟨c0,c1,c2,c3⟩,⟨f0,f1,f2,f3⟩,c4⟩:=Q5 hrs;rename_i wx
   have tq:Typed (w.heap.size+1+1) 156 wc:=⟨_,_,hrs⟩;have hxw:Ext w wc:=hxc.trans hxd;clear hrs;go_wp2_with fail
   exact bodyPost_ret (v:= .agg #[.bool g7,.slice B7 k7 d7,.bool g8,.slice B8 k8 d8]) (by simp[results,Tryz.results184,go_sem,c0,c1,c2,c3]) rfl ⟨_,_,_,_,_,_,_,_,s,t,rfl,HZ7.out.keeps,HZ8.out.keeps,HSM.out,Step.of _ _⟩
theorem znK(ha:IntV w0 na A n c x)(hb:IntV w1 nb B k d y)(hkk:kk<=1000000000000)(hk2:2<=kk)(hbx:Bd kk x)(hby:Bd kk y)(hy0:0<y)[hx:Ext w0 w][hy:Ext w1 w]:
  Cq 121 #[.agg #[.bool na,.slice A n c,.bool nb,.slice B k d]] w (zD w ((2*x+y) / (2*y))):=by
 have HAD:Hid (∀(W1 W:World)(g1:Bool)B1 n1 c1(g2:Bool)B2 n2 c2,IntV W1 g1 B1 n1 c1 1->IntV W1 g2 B2 n2 c2 2->Ext w W->Ext W1 W->Cq 184 #[.agg #[.bool na,.slice A n c,.bool nb,.slice B k d],.agg #[.bool g1,.slice B1 n1 c1,.bool g2,.slice B2 n2 c2]] W (jo W (SumOf kk x y 1 2))):=Zh (fun W1 W g1 B1 n1 c1 g2 B2 n2 c2 h1 h2 e1 e2=>have:Ext w0 W:=hx.trans e1;have:Ext w1 W:=hy.trans e1;znJ ha hb h1 h2 hkk hbx hby (Bd.one (by omega)) ((show Bd 2 2 from (by decide:(2:Int).natAbs<2^2)).mono hk2) hy0 (by decide))
 have HFL:Hid (∀(W1 W:World)(g1:Bool)B1 n1 c1(g2:Bool)B2 n2 c2 s t,IntV W1 g1 B1 n1 c1 s->IntV W1 g2 B2 n2 c2 t->SumOf kk x y 1 2 s t->Ext W1 W->Cq 183 #[.agg #[.bool g1,.slice B1 n1 c1,.bool g2,.slice B2 n2 c2]] W (zD W ((2*x+y) / (2*y)))):=Zh (fun W1 W g1 B1 n1 c1 g2 B2 n2 c2 s t h1 h2 hS e1=>by
  have:=znG (w:=W) h1 h2 (kk:=2*kk+1) (by omega) hS.b1 hS.b2 hS.pos;have e:=hS.eq;rwa [zdX (d:=2*y) (c:=2*x+y) hS.pos (by omega) (by grind)]at this)
 generalize (2*x+y) / (2*y)=R at*
 clear ha hb;go_enter Tryz.func121,Tryz.ntmps121;go_wp2_with fail
 obtain⟨w5,hw5⟩:=Xz ((w.alloc (.cells #[.bool na,.slice A n c,.bool nb,.slice B k d] 156)).alloc (.cells #[.bool false,.slice none 0 0] 149));have q0:w5.heap[w.heap.size]? =some (.cells #[.bool na,.slice A n c,.bool nb,.slice B k d] 156 (0,0)):=by rw[hw5];exact BlkAt.eq
 have q1:w5.heap[w.heap.size+1]? =some (.cells #[.bool false,.slice none 0 0] 149 (0,0)):=by rw[hw5];exact BlkAt.eq
 have ztc:Ext w w5:=by rw[hw5];exact Zi
 have HQ:=Zh (And.intro q0 q1);have HLL:Hid (∀W,Ext w5 W->W.cell? ⟨w.heap.size,0,none⟩=some (.bool na)/\W.cell? ⟨w.heap.size,1,none⟩=some (.slice A n c)/\W.cell? ⟨w.heap.size,2,none⟩=some (.bool nb)/\W.cell? ⟨w.heap.size,3,none⟩=some (.slice B k d)):=Zh (fun W hh=>(Q5 (zj hh HQ.out.1)).1);have HLF:Hid (∀W,Ext w5 W->∀(u v:Value),((W.setCell ⟨w.heap.size+1,0,none⟩ u).setCell ⟨w.heap.size+1,1,none⟩ v).cell? ⟨w.heap.size,0,none⟩=some (.bool na)/\((W.setCell ⟨w.heap.size+1,0,none⟩ u).setCell ⟨w.heap.size+1,1,none⟩ v).cell? ⟨w.heap.size,1,none⟩=some (.slice A n c)/\((W.setCell ⟨w.heap.size+1,0,none⟩ u).setCell ⟨w.heap.size+1,1,none⟩ v).cell? ⟨w.heap.size,2,none⟩=some (.bool nb)/\((W.setCell ⟨w.heap.size+1,0,none⟩ u).setCell ⟨w.heap.size+1,1,none⟩ v).cell? ⟨w.heap.size,3,none⟩=some (.slice B k d)):=Zh (fun W hh u v=>by
  obtain⟨a0,a1,a2,a3⟩:=HLL.out W hh;have key:∀(i o:Nat),(⟨w.heap.size+1,i,none⟩:Addr)≠⟨w.heap.size,o,none⟩:=fun i o e=>by injection e with e1 e2;omega
  have k2:∀o,((W.setCell ⟨w.heap.size+1,0,none⟩ u).setCell ⟨w.heap.size+1,1,none⟩ v).cell? ⟨w.heap.size,o,none⟩=W.cell? ⟨w.heap.size,o,none⟩:=fun o=>by rw[World.cell?_setCell_other _ _ _ _ (key 1 o),World.cell?_setCell_other _ _ _ _ (key 0 o)]
  exact⟨(k2 0).trans a0,(k2 1).trans a1,(k2 2).trans a2,(k2 3).trans a3⟩)
 rw[<-hw5];clear q0 q1 hw5;go_region_held3 (fun W=>W.cell? ⟨w.heap.size,0,none⟩=some (.bool na)/\W.cell? ⟨w.heap.size,1,none⟩=some (.slice A n c)/\W.cell? ⟨w.heap.size,2,none⟩=some (.bool nb)/\W.cell? ⟨w.heap.size,3,none⟩=some (.slice B k d))
  (first|exact HLL.out _ Zi|exact HLF.out _ Zi _ _)
  (first
   |(go_at_call 185;refine znF.mono ?_;rintro e w6 ⟨g6,B6,k6,d6,g7,B7,k7,d7,p,q,rfl,hz6,hz7,⟨rfl,rfl⟩,hs6⟩)
   |(go_at_call 184;refine(HAD.out _ _ _ _ _ _ _ _ _ _ hz6 hz7 Zi Zi).mono ?_;rintro e w7 ⟨g8,B8,k8,d8,g9,B9,k9,d9,s,t,rfl,hz8,hz9,hS,hs7⟩)
   |(go_at_call 183;refine(HFL.out _ _ _ _ _ _ _ _ _ _ _ _ hz8 hz9 hS Zi).mono ?_;rintro e w8 ⟨ga,Ba,ka,da,rfl,hza,hs8⟩;obtain⟨a0,a1,f0,f1,a4⟩:=zQ (zj (Zi:Ext w5 w8) HQ.out.2);have tq:Typed (w.heap.size+1) 149 w8:=⟨_,_,zj (Zi:Ext w5 w8) HQ.out.2⟩))
 all_goals
  go_wp2_with fail
  exact bodyPost_ret (v:= .agg #[.bool ga,.slice Ba ka da]) (by simp[results,Tryz.results121,go_sem,a0,a1]) rfl ⟨_,_,_,_,rfl,hza.keeps,Step.of _ _⟩
end
section
open Go.RowKit
open La
theorem zed(hp:Pos (zh (ent m)) n)(hj:j<=n):Zt m i j=E (ent m) j i j:=
 zan (fun l hl=>by have:=qN hp (k:=l) (by omega);omega) i j
theorem zaB(hl:m.length=n)(hp:Pos (zh (ent m)) n)(hk:k<=n):zT (zu m) k=zB (ent m) k:=by
 unfold zT
 cases k with
 |zero=>rw[if_pos rfl];rfl
 |succ k=>
  rw[if_neg (by omega),Nat.add_sub_cancel,zdE (by rw[hl];exact hp) (by omega)];rfl
theorem zhz(hl:m.length=n)(hp:Pos (zh (ent m)) n)(hj:j<n):(2*((Zt m i j).natAbs:Int)<=zT (zu m) (j+1))↔QA (zh (ent m)) i j:=by
 rw[zdx (hp.le (by omega)) i,zed hp (by omega),zaB hl hp (by omega)];have:zB (ent m) (j+1)=E (ent m) j j j:=rfl;rw[this];omega
theorem zhA(hl:m.length=n)(hp:Pos (zh (ent m)) n)(hs:Sym (zh (ent m)))(hpn:p+1<n):(3*(zT (zu m) (p+1)*zT (zu m) (p+1))<=4*(zT (zu m) (p+1-1)*zT (zu m) (p+1+1)+Zt m (p+1) (p+1-1)*Zt m (p+1) (p+1-1)))↔qG (zh (ent m)) p:=by
 rw[zdy hs (hp.le (by omega)),Nat.add_sub_cancel,zed hp (by omega),zaB hl hp (by omega),zaB hl hp (by omega),zaB hl hp (by omega)];exact Iff.rfl
theorem znL(hi:i<n)(hj:j<n):Zf (QZ n) j i (-q)=qr n i j q:=by
 unfold QZ qr;rw[jn hj hi]
theorem zhB(hl:a.length=n)(ha:AllLen a n):a=tab (fun i j=>ent a i j) n n:=by
 have h1:=JK a n ha;rw[hl]at h1;exact h1.symm
theorem znM(hp:p+1<n)(ha:a=jk (QZ n) (p+1) p)(zr9:AllLen a n):a=qB n p:=by
 have hil:(QZ n).length=n:=zw _ _ _;have hl:a.length=n:=by rw[ha,znA,hil]
 rw[zhB hl zr9];unfold qB;refine Z8 fun x y hx hy=>?_
 rw[ha,zdV (by omega) (by omega)];unfold QZ sg;split
 ·rw[j2 _ _ _ _ _ (by omega) hy]
 ·split
  ·rw[j2 _ _ _ _ _ (by omega) hy]
  ·rw[j2 _ _ _ _ _ (by omega) hy]
theorem zhC(hl:m.length=n)(hp:Pos (zh (ent m)) n)(hj:j<n):qW m i j=(2*Zt m i j+zT (zu m) (j+1)) / (2*zT (zu m) (j+1)):=by
 rw[zed hp (by omega),zaB hl hp (by omega)];rfl
def znN(w:World)(m:List (List Int))(n:Nat)(e:Ending)(w':World):Prop:=
 (e= .returned (.tuple #[.slice none 0 0,.bool false])/\(∀r,r<n->Qs (zh (ent m)) r)/\(∀p,p+1<n->qG (zh (ent m)) p)/\Step w w')∨
 (∃i j A c,e= .returned (.tuple #[.slice A n c,.bool true])/\AtRed (zh (ent m)) n i j/\MatV w' A (qr n i j (qW m i j))/\Step w w')∨
 (∃p A c,e= .returned (.tuple #[.slice A n c,.bool true])/\AtSwap (zh (ent m)) n p/\MatV w' A (qB n p)/\Step w w')
set_option maxRecDepth 10000 in
theorem znO(h:MatV w0 A m)(h1:m.length=n)(h3:1<=n)(h4:n<=8)(hn:AllLen m n)(hb:BdM b m)(hb1:1<=b)(hbb:b<=1000000)(hp:Pos (zh (ent m)) n)(hs:Sym (zh (ent m)))[hx:Ext w0 w]:
  Cq 65 #[.slice A n c] w (znN w m n):=by
 have h0:=h.ext hx;have HLE:=Zh (fun W(e1:Ext w W)=>zbo (w:=W) (c:=c) h0 h1 h3 h4 hn hb hb1 hbb);have HID:=Zh (fun(W:World)=>zhj (w:=W) n h3 (by omega));have HLL:Hid ((zu m).length=n):=Zh (by rw[QI];exact h1);have HIL:Hid ((QZ n).length=n):=Zh (zw _ _ _);have HSZ:Hid (∀(W1 W:World)(B:Option Addr)(d i j:Nat),i<n->j<n->IntsV W1 B (zu m)->Ext w W->Ext W1 W->Cq 119 #[.slice A n c,.slice B n d,.int .i64 i,.int .i64 j] W (zy W (.bool (decide (2*((Zt m i j).natAbs:Int)<=zT (zu m) (j+1)))))):=Zh (fun W1 W B d i j hi hj hI e1 e2=>zhu h0 hI h1 h4 hn hb hb1 hbb hi hj)
 have HLV:Hid (∀(W1 W:World)(B:Option Addr)(d i:Nat),i<n->1<=i->IntsV W1 B (zu m)->Ext w W->Ext W1 W->Cq 125 #[.slice A n c,.slice B n d,.int .i64 i] W (zy W (.bool (decide (3*(zT (zu m) i*zT (zu m) i)<=4*(zT (zu m) (i-1)*zT (zu m) (i+1)+Zt m i (i-1)*Zt m i (i-1))))))):=Zh (fun W1 W B d i hi hi1 hI e1 e2=>zhv h0 hI h1 h4 hn hb hb1 hbb hi hi1);have HLA:Hid (∀(W:World)(i j:Nat),i<n->j<n->Ext w W->Cq 123 #[.slice A n c,.int .i64 i,.int .i64 j] W (zD W (Zt m i j))):=Zh (fun W i j hi hj e1=>zd9 h0 h1 h4 hn hb hb1 hbb hi hj)
 have HMI:Hid (∀(W1 W:World)(B:Option Addr)(d k:Nat),k<=n->IntsV W1 B (zu m)->Ext W1 W->Cq 124 #[.slice B n d,.int .i64 k] W (zD W (zT (zu m) k))):=Zh (fun W1 W B d k hk hI e1=>zbp hI (by rw[QI];exact h1) (by omega) hk);obtain⟨K,hK⟩:=Xz (256*(b+1));have hK1:K<=256000256:=by omega
 have hK2:2<=K:=by omega
 have HBL:Hid (∀i j,j<n->Bd K (Zt m i j)):=Zh (fun i j hj=>by rw[hK];exact zaw (by omega) hb1 hb);have HBM:Hid (∀k,Bd K (zT (zu m) k)):=Zh (fun k=>by rw[hK];exact zcm (zay (by omega) hb1 hb) (by omega));have HPO:Hid (∀k,k<=n->0<zT (zu m) k):=Zh (fun k hk=>by rw[zaB h1 hp hk];exact ZV hp hk);have HNQ:Hid (∀i j,j<n->qW m i j=(2*Zt m i j+zT (zu m) (j+1)) / (2*zT (zu m) (j+1))):=Zh (fun i j hj=>zhC h1 hp hj)
 have HSI:Hid (∀i j,j<n->((2*((Zt m i j).natAbs:Int)<=zT (zu m) (j+1))↔QA (zh (ent m)) i j)):=Zh (fun i j hj=>zhz h1 hp hj);have HLI:Hid (∀p,p+1<n->((3*(zT (zu m) (p+1)*zT (zu m) (p+1))<=4*(zT (zu m) (p+1-1)*zT (zu m) (p+1+1)+Zt m (p+1) (p+1-1)*Zt m (p+1) (p+1-1)))↔qG (zh (ent m)) p)):=Zh (fun p hpn=>zhA h1 hp hs hpn);clear hn hb hp hs h1 hK;go_enter Tryz.func65,Tryz.ntmps65;go_wp2_with (first
  |(go_at_call 87;refine(HLE.out _ Zi).mono ?_;rintro e w1 ⟨BD,dD,rfl,hI1,-,-,hs1⟩;rw[HLL.out];have HI:=Zh hI1;clear hI1)
  |(go_at_call 64;refine(HID.out _).mono ?_;rintro e w2 ⟨g,hs,cz,rfl,hO,zsn,zsE,hs2⟩;rw[HIL.out]at zsn|-;have HO:=Zh hO;clear hO))
 have zsQ:Ext w w2:=Zi;have zsU:Ext w1 w2:=Zi;go_loopw [8,9,23] (fun _ _ i wr=>∃k:Nat,k<=n/\i= .int .i64 k/\Hid (∀r,r<k->Qs (zh (ent m)) r)/\Hid (∀p,p+1<k->qG (zh (ent m)) p)/\Ext w2 wr) (fun _ _ i _=>n-(intOf i).toNat)
 case atStart=>exact⟨0,by omega,rfl,Zh (fun r hr=>by omega),Zh (fun p hp=>by omega),Zi⟩
 case round=>
  obtain⟨k,hk,rfl,HFU,HLO,hxr⟩:=hrel;by_cases hlt:k<n
  ·go_wp2_with fail
   go_loopw [9] (fun s9 wr=>∃q:Nat,q<=k/\s9= .int .i64 ((q:Int)-1)/\Hid (∀x,q<=x->x<k->QA (zh (ent m)) k x)/\Ext w2 wr) (fun s9 _=>(intOf s9+1).toNat)
   case atStart=>exact⟨k,by omega,rfl,Zh (fun x h1 h2=>by omega),Zi⟩
   case round=>
    obtain⟨q,hq,rfl,HSD,hxq⟩:=hrel;have zsP:Ext w wr:=zsQ.trans hxq;have zuZ:Ext w1 wr:=zsU.trans hxq
    cases q with
    |zero=>
     have HFK:Hid (∀r,r<k+1->Qs (zh (ent m)) r):=Zh (fun r hr=>by
      by_cases e:r=k
      ·rw[e];exact fun x hx=>HSD.out x (by omega) hx
      ·exact HFU.out r (by omega))
     by_cases hk0:k=0
     ·subst hk0;have zrk:Hid (∀p,p+1<0+1->qG (zh (ent m)) p):=Zh (fun p hp=>by omega);go_wp2_with fail
      exact⟨⟨1,by omega,rfl,HFK,zrk,hxq⟩,by simp[intOf]<;>omega⟩
     ·obtain⟨p,hpk⟩:∃p,k=p+1:=⟨k-1,by omega⟩;have HLB:=Zh (fun W(e1:Ext wr W)=>HLV.out w1 W BD dD k hlt (by omega) HI.out (zsP.trans e1) (zuZ.trans e1));have hli:=HLI.out p (by omega);rw[<-hpk]at hli;have hkp:(k:Int)-1=(p:Int):=by omega
      have hkw:IntKind.i64.wrap ((k:Int)-1)=(p:Int):=by rw[hkp];exact Iw
      have hpn:p<n:=by omega
      have hgt:decide ((0:Int)<(k:Int))=true:=by simp;omega
      have zw8:0<k:=by omega
      have zw9:(0:Int)<(k:Int):=by omega
      by_cases hlv:qG (zh (ent m)) p
      ·have hde:=decide_eq_true (hli.2 hlv);rw[hde]at HLB;have zrk:Hid (∀p',p'+1<k+1->qG (zh (ent m)) p'):=Zh (fun p' hp'=>by
        by_cases e:p'=p
        ·rw[e];exact hlv
        ·exact HLO.out p' (by omega))
       clear hli hde hlv hpk hkp hkw hk0;go_wp2_with (go_at_call 125;refine(HLB.out _ Zi).mono ?_;rintro e w6 ⟨rfl,hs6⟩)
       exact⟨⟨k+1,by omega,by go_num,HFK,zrk,Zi⟩,by simp[intOf]<;>omega⟩
      ·have hde:=decide_eq_false (fun hh=>hlv (hli.1 hh));rw[hde]at HLB;have HAT:Hid (AtSwap (zh (ent m)) n p):=Zh ⟨by omega,by rw[<-show k+1=p+2 by omega];exact HFK.out,fun t ht=>HLO.out t (by omega),hlv⟩;obtain⟨b2,c2,hp2,e1,e2,e3,e4,e5,e6⟩:=(HO.out.ext hxq).hdr (i:=k) (by rw[HIL.out];exact hlt);obtain⟨b3,c3,hp3,f1,f2,f3,f4,f5,f6⟩:=(HO.out.ext hxq).hdr (i:=p) (by rw[HIL.out];omega);have HSW:=Zh (fun W(e1:Ext wr W)=>((HO.out.ext hxq).ext e1).swap hp2 hp3 (by rw[HIL.out];exact hlt) (by rw[HIL.out];exact hpn))
       have HKP:=Zh hpk;have HC2:=Zh (And.intro e1 (And.intro e2 (And.intro f1 f2)));have hgl:=HO.out.glo;have zxa:w.heap.size<=w1.heap.size:=(Zi:Ext w w1).size;have hnw:New g w:=⟨by omega⟩;have oG:Old g wr:=⟨e6⟩;have zyg:k≠p:=by omega
       clear hp2 hp3 e1 e2 f1 f2 hli hde hlv hpk hk0;go_wp2_with (go_at_call 125;refine(HLB.out _ Zi).mono ?_;rintro e w6 ⟨rfl,hs6⟩)
       have r1:w6.cell? ⟨g,k,none⟩=some (.slice (some ⟨b2,0,none⟩) n c2):=(zi wr).trans HC2.out.1;have r2:w6.frozen? ⟨g,k,none⟩=false:=(qc wr).trans HC2.out.2.1;have r3:w6.cell? ⟨g,p,none⟩=some (.slice (some ⟨b3,0,none⟩) n c3):=(zi wr).trans HC2.out.2.2.1;have r4:w6.frozen? ⟨g,p,none⟩=false:=(qc wr).trans HC2.out.2.2.2;have r5:g<w6.heap.size:=(Zi:Old g w6).lt;go_region
       all_goals
        go_wp2_with fail
        go_ret2
        refine .inr (.inr ⟨p,some ⟨g,0,none⟩,cz,rfl,HAT.out,?_,Step.of _ _⟩);have hsw:=HSW.out w6 Zi;have zr9:=hsw.all;have e:=znM (n:=n) (p:=p) (by have:=HKP.out;omega) (by rw[HKP.out];rfl) zr9;rw[e]at hsw;simp only[ZI]at hsw;exact(hsw.ext Zi).mat
    |succ t=>
     rw[show ((t+1:Nat):Int)-1=(t:Int) by omega];have HSB:=Zh (fun W(e1:Ext wr W)=>HSZ.out w1 W BD dD k t hlt (by omega) HI.out (zsP.trans e1) (zuZ.trans e1));by_cases hsz:2*((Zt m k t).natAbs:Int)<=zT (zu m) (t+1)
     ·have hde:decide (2*((Zt m k t).natAbs:Int)<=zT (zu m) (t+1))=true:=decide_eq_true hsz;rw[hde]at HSB;have zrO:Hid (∀x,t<=x->x<k->QA (zh (ent m)) k x):=Zh (fun x h1 h2=>by
       by_cases e:x=t
       ·rw[e];exact(HSI.out k t (by omega)).1 hsz
       ·exact HSD.out x (by omega) h2)
      clear hsz hde;go_wp2_with (go_at_call 119;refine(HSB.out _ Zi).mono ?_;rintro e w6 ⟨rfl,hs6⟩)
      exact⟨⟨t,by omega,rfl,zrO,Zi⟩,by simp[intOf]<;>omega⟩
     ·have hde:decide (2*((Zt m k t).natAbs:Int)<=zT (zu m) (t+1))=false:=decide_eq_false hsz;rw[hde]at HSB;have htn:t<n:=by omega
      have HAT:Hid (AtRed (zh (ent m)) n k t):=Zh ⟨hlt,by omega,HFU.out,HLO.out,fun x h1 h2=>HSD.out x (by omega) h2,fun hh=>hsz ((HSI.out k t htn).2 hh)⟩;have HLB:=Zh (fun W(e1:Ext wr W)=>HLA.out W k t hlt htn (zsP.trans e1));have HMB:=Zh (fun W(e1:Ext wr W)=>HMI.out w1 W BD dD (t+1) (by omega) HI.out (zuZ.trans e1));rw[show ((t+1:Nat):Int)=(t:Int)+1 by omega]at HMB;have hbl:=HBL.out k t htn;have hbm:=HBM.out (t+1)
      have hpm:=HPO.out (t+1) (by omega);have hnq:=HNQ.out k t htn;generalize Zt m k t=L at*
      generalize zT (zu m) (t+1)=M at*
      have HQT:Hid (∀(W1 W2 W:World)(g1:Bool)B1 n1 c1(g2:Bool)B2 n2 c2,IntV W1 g1 B1 n1 c1 L->IntV W2 g2 B2 n2 c2 M->Ext W1 W->Ext W2 W->Cq 122 #[.agg #[.bool g1,.slice B1 n1 c1],.agg #[.bool g2,.slice B2 n2 c2]] W (jo W (RatOf L M))):=Zh (fun W1 W2 W g1 B1 n1 c1 g2 B2 n2 c2 h1 h2 e1 e2=>zhy h1 h2 (kk:=K) (by omega) hbl hbm hpm);have HNE:Hid (∀(W1 W:World)(g1:Bool)B1 n1 c1(g2:Bool)B2 n2 c2 p q,IntV W1 g1 B1 n1 c1 p->IntV W1 g2 B2 n2 c2 q->RatOf L M p q->Ext W1 W->Cq 121 #[.agg #[.bool g1,.slice B1 n1 c1,.bool g2,.slice B2 n2 c2]] W (zD W (qW m k t))):=Zh (fun W1 W g1 B1 n1 c1 g2 B2 n2 c2 p q h1 h2 hF e1=>by
       have:=znK (w:=W) h1 h2 (kk:=K) (by omega) hK2 (hbl.le hF.le1) (hbm.le hF.le2) hF.pos;have e:=hF.eq;rw[zdX (c:=2*L+M) (d:=2*M) (by have:=hF.pos;omega) (by omega) (by grind)]at this;rwa [hnq])
      have hqb:Bd (K+2) (qW m k t):=by
       rw[hnq];refine Bd.div _ ?_;have h2:Bd (K+1) (2*L):=by
        have:=hbl.add hbl;rwa [show L+L=2*L by omega]at this
       exact h2.add (hbm.mono (by omega))
      have HNG:Hid (∀(W1 W:World)(g1:Bool)B1 n1 c1,IntV W1 g1 B1 n1 c1 (qW m k t)->Ext W1 W->Cq 120 #[.agg #[.bool g1,.slice B1 n1 c1]] W (zD W (-qW m k t))):=Zh (fun W1 W g1 B1 n1 c1 h1 e1=>zbY h1 (by have:=h1.bd hqb (by omega);omega));obtain⟨b1,c1,hp1,d1,d2,d3,d4,d5,d6⟩:=(HO.out.ext hxq).hdr (i:=t) (by rw[HIL.out];exact htn);have HP1:=Zh hp1;have HX:=Zh (fun W hh=>(HO.out.ext hxq).hdrX hp1 (by rw[HIL.out];exact htn) W hh)
      have hlo:=(HO.out.ext hxq).lo_row hp1;have zxa:w.heap.size<=w1.heap.size:=(Zi:Ext w w1).size;have hnw:New b1 w:=⟨by omega⟩;have HE:Hid (∀W,Ext wr W->∃s B k' d,W.cell? ⟨b1,k*2,none⟩=some (.bool s)/\W.cell? ⟨b1,k*2+1,none⟩=some (.slice B k' d)/\W.frozen? ⟨b1,k*2,none⟩=false/\W.frozen? ⟨b1,k*2+1,none⟩=false/\b1<W.heap.size):=Zh (fun W hh=>by
       obtain⟨s,B,k',d,a1,a2,-,a4,a5⟩:=((HO.out.ext hxq).ext hh).entry (i:=t) HP1.out (by rw[HIL.out];exact htn) hlt;exact⟨s,B,k',d,a1,a2,a4,a5,Nat.lt_of_lt_of_le d5 hh.size⟩)
      have hwt:IntKind.i64.wrap ((t:Int)+1)=(t:Int)+1:=Iw;clear hsz hde hp1 hbl hbm hpm hnq hqb d1 d2;generalize hNQ:qW m k t=NQ at*
      have HNV:=Zh hNQ;clear hNQ;go_wp2_with (go_at_call 119;refine(HSB.out _ Zi).mono ?_;rintro e w6 ⟨rfl,hs6⟩)
      go_region_held3 (fun w'=>w'.cell? ⟨g,t,none⟩=some (.slice (some ⟨b1,0,none⟩) n c1))
       (first|exact(HX.out _ Zi).1|exact(HX.out _ Zi).2 _ _ _ _)
       (first
        |(go_at_call 123;refine(HLB.out _ Zi).mono ?_;rintro e wa ⟨ga,Ba,ka,da,rfl,hza,hsa⟩)
        |(go_at_call 124;refine(HMB.out _ Zi).mono ?_;rintro e wb ⟨gb,Bb,kb,db,rfl,hzb,hsb⟩)
        |(go_at_call 122;refine(HQT.out _ _ _ _ _ _ _ _ _ _ _ hza hzb Zi Zi).mono ?_;rintro e wd ⟨gc,Bc,kc,dc,gd,Bd',kd,dd',p,q,rfl,hzc,hzd,hF,hsd⟩)
        |(go_at_call 121;refine(HNE.out _ _ _ _ _ _ _ _ _ _ _ _ hzc hzd hF Zi).mono ?_;rintro e we ⟨ge,Be,ke,de,rfl,hze,hse⟩)
        |(go_at_call 120;refine(HNG.out _ _ _ _ _ _ hze Zi).mono ?_;rintro e wf ⟨gf,Bf,kf,df,rfl,hzf,hsf⟩;obtain⟨s6,B6,k6,n6,f1,f2,f3,f4,f5⟩:=HE.out wf Zi))
      go_wp2_with fail
      go_ret2
      refine .inr (.inl ⟨k,t,some ⟨g,0,none⟩,cz,rfl,HAT.out,?_,?_⟩)
      ·have hO5:=((HO.out.ext hxq).ext (Zi:Ext wr wf)).set HP1.out (by rw[HIL.out];exact htn) hlt hzf;rw[znL hlt htn,<-HNV.out]at hO5;exact hO5.mat
      ·exact Step.of _ _
  ·obtain rfl:k=n:=by omega
   go_wp2_with fail
   go_ret2
   exact .inl ⟨rfl,HFU.out,HLO.out,(zsQ.trans hxr).toStep⟩
end
end Go.Proofs.YtpcgfpmiphiacaaGreat
