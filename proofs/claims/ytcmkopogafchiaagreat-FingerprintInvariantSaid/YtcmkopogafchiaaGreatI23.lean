import Derived.Test.YtcmkopogafchiaaGreatI22
import Derived.Maps.RangeWalk
import Derived.Maps.OwnOps
import Derived.DeepKeys4
import Derived.WideKeyEntry
import Derived.StillTailTactics
set_option maxHeartbeats 8000000
set_option linter.unusedVariables false
set_option linter.unusedSimpArgs false
namespace Go.Proofs.YtcmkopogafchiaaGreat
open List (mem_append count_eq_zero mem_singleton pairwise_cons mem_cons mem_cons_of_mem)
variable {L m:List (List Int)} {l x:List Int} {a b c cnt d e k n r:Nat} {A B X:Option Addr} {w w' w0:World}
section
open Go.RowKit
open La
theorem ziP(h:∀x∈l,0<=x)(k:Nat):(l.take k).sum<=l.sum:=by
 have:=List.take_append_drop k l;have h2:(l.take k).sum+(l.drop k).sum=l.sum:=by rw[<-List.sum_append,this]
 have h3:0<=(l.drop k).sum:=by
  have:∀m:List Int,(∀x∈m,0<=x)->0<=m.sum:=fun m=>by
   induction m with
   |nil=>intro _;simp
   |cons a m ih=>intro hm;rw[List.sum_cons];have:=ih (fun x hx=>hm x (by simp[hx]));have:=hm a (by simp);omega
  exact this _ fun x hx=>h x (List.mem_of_mem_drop hx)
 omega
def ziQ(l:List Int)(N:Nat)(w:World)(s3 i:Value)(wr:World):Prop:=∃k:Nat,k<=N/\i= .int .i64 k/\s3= .int .i64 (l.take k).sum/\∃q,wr=w.drewN q
set_option maxRecDepth 20000 in
theorem zp2(hA:Ints w0 A 3 .i64 l)(hl:l.length<=1000000)(h0:∀x∈l,0<=x)(hs:l.sum<=1000000000)[hx:Ext w0 w]:
  Cq 56 #[.slice A l.length c] w (zF w (.int .i64 l.sum)):=by
 have HA:=Zh (hA.ext hx);obtain⟨N,hN⟩:=Xz l.length;have HN:=Zh hN;have H0:=Zh (fun k=>ziP h0 k);have H1:Hid (∀k,0<=(l.take k).sum):=Zh (fun k=>by
  have:=ziP (l:=l.take k) (fun x hx=>h0 x (List.mem_of_mem_take hx)) 0;simpa using this)
 rw[<-hN]at hl|-
 clear hA hN;unfold zF;go_enter Tryz.func56,Tryz.ntmps56;go_wp2;go_loopw [3,8] (fun s3 i wr=>ziQ l N w s3 i wr) (fun _ i _=>N-(intOf i).toNat)
 case atStart=>exact⟨0,by omega,rfl,rfl,0,rfl⟩
 case round=>
  unfold ziQ at hrel;obtain⟨k,hk,rfl,rfl,q,rfl⟩:=hrel;by_cases hlt:k<N
  ·obtain⟨x,hp⟩:∃x,l[k]? =some x:=⟨_,Ze (by rw[<-HN.out];exact hlt)⟩;obtain⟨b,o,-,rfl,-⟩:=HA.out.at_ (by rw[<-HN.out];omega);have hc:=(j5 HA.out hp).1;have HTK:=Zh (zb9 l k x hp);have hx1:IntKind.i64.wrap ((l.take k).sum+x)=(l.take (k+1)).sum:=by
    rw[<-HTK.out];have a1:=H0.out (k+1);have a2:=H1.out (k+1);exact Iw
   clear hp;go_wp2_with fail
   exact⟨⟨k+1,by omega,by go_num,by first|rfl|simpa using hx1,_,rfl⟩,by simp[intOf]<;>omega⟩
  ·obtain rfl:k=N:=by omega
   have htk:(l.take k).sum=l.sum:=by rw[List.take_of_length_le (by rw[<-HN.out];exact Zr)]
   rw[htk];go_wp2_with fail
   go_ret;exact⟨rfl,Step.of _ _⟩
def ziR(w:World)(m:List (List Int))(za budget:Int)(e:Ending)(w':World):Prop:=
 (Z4 m za<=budget/\∃B d L,e= .returned (.tuple #[.slice B (List.length L) d,.int .i64 (Z4 m za),.int .i64 0])/\Mat64 w' B L/\L.length<=d/\d<=9223372036854775807/\VecList m za false L/\Step w w')∨(budget<Z4 m za/\e= .returned (.tuple #[.slice none 0 0,.int .i64 0,.int .i64 9])/\Step w w')
set_option maxRecDepth 20000 in
theorem zp3{za budget:Int}(hM:MatA w0 A m)(hL:LLLed m)(h1:m.length=n)(hb:0<=za)(hb1:za<1073741824)(hu0:0<=budget)(hu1:budget<=1000000)(hmx:Z4 m za<=budget->qs (qz m za)<=8193)[hx:Ext w0 w]:
  Cq 25 #[.slice A n c,.int .i64 za,.int .i64 budget] w (ziR w m za budget):=by
 have hn8:=hL.len8;have hn1:=hL.len1;have hr:=Qi hL.red;have HST:=Zh (fun W(e:Ext w0 W)=>zph (w:=W) (c:=c) hM hL h1 hb hb1 hu0 hu1);obtain⟨b,rfl⟩:∃b:Nat,za=b:=⟨za.toNat,by omega⟩;have hso:=(zbk hL.red (b:=b) hb1).1;have zsB:(qz m b).length=n:=by rw[hso.len,h1]
 have zs3:=hso.one;have zuK:=hso.sum;have hlt:=zim hL.red (b:=b) hb1;rw[h1]at hlt;have HIT:Hid (Z4 m b<=budget->∀W,Ext w0 W->Cq 22 #[.slice A n c,.int .i64 b] W (zcG W (Zp m (Zn m b (n-1) [])))):=Zh (fun ht W e=>zio hM hL h1 hb hb1 (by omega));obtain⟨hvl,zuR⟩:=zhV hr hb;rw[h1]at hvl;have HVL:=Zh hvl;have HIL:Hid (Z4 m b<=budget->(Zp m (Zn m b (n-1) [])).length<=1000000):=Zh (fun ht=>by
  have:=zeH m (Zn m b (n-1) []);omega)
 generalize Zp m (Zn m b (n-1) [])=its at*
 have HSU:Hid (Z4 m b<=budget->∀(W0 W:World)g,Row W0 g 3 .i64 (qz m b)->Ext W0 W->Cq 56 #[.slice (some ⟨g,0,none⟩) n n] W (zF W (.int .i64 (Z4 m b)))):=Zh (fun ht W0 W g hg e=>by
  have:=zp2 (w:=W) (c:=n) hg.ints (by rw[zsB];omega) (fun x hx=>by have:=zs3 x hx;omega) (by omega);rwa [zsB,zuK]at this)
 have HMX:=Zh hmx;have HGE:Hid ((qz m b)[n-1]? =some (qs (qz m b))):=Zh (by
  have h2:n-1<(qz m b).length:=by rw[zsB];omega
  unfold qs;rw[zsB,Ze h2];simp[List.getD,Ze h2])
 have hl1:1<=qs (qz m b):=zs3 _ (Zm HGE.out);have HLN:=Zh zsB;have hw1:IntKind.i64.wrap ((n:Int)-1)=((n-1:Nat):Int):=by rw[show (n:Int)-1=((n-1:Nat):Int) by omega];exact Iw
 have hn0:0<n:=by omega
 clear hM hL hso zs3 h1 hr hvl zuR hlt zsB zuK hmx;unfold ziR;unfold zeG at HST;generalize Z4 m b=tot at*
 generalize qs (qz m b)=la at*
 generalize qz m b=st at*
 unfold zcG at HIT;go_enter Tryz.func25,Tryz.ntmps25;go_upto_region 2 with (go_at_call 54;refine(HST.out _ Zi).mono ?_;rintro e w1 (⟨ht,g,rfl,hR,hgs,hs1⟩|⟨zs5,rfl,hs1⟩))
 ·have HR:=Zh hR;have hcy:w1.cell? ⟨g,n-1,none⟩=some (.int .i64 la):=by
   obtain⟨y',hy',hcy⟩:=hR.cell (i:=n-1) (by rw[HLN.out];omega);rw[HGE.out]at hy';injection hy' with hy'
   rwa [<-hy']at hcy
  have hgl:=hR.lt;have hla:=HMX.out ht;have hd1:decide (8193<la)=false:=by simp;omega
  have HI2:=Zh (HIT.out ht);have HI3:=Zh (HIL.out ht);have HS2:=Zh (HSU.out ht);clear hR HIT HSU HIL HST HMX;go_wp2_with (first
   |(go_at_call 22;refine(HI2.out _ Zi).mono ?_;rintro e w2 ⟨A2,c2,vs2,rfl,hO2,hV2,hs2⟩)
   |(go_at_call 55;refine(zp1 hO2.arr hV2 HI3.out).mono ?_;unfold Jv;rintro e w3 ⟨A3,c3,rfl,hM3,h31,h32,hs3⟩)
   |(go_at_call 56;refine(HS2.out _ _ _ HR.out Zi).mono ?_;rintro e w4 ⟨rfl,hs4⟩))
  go_ret3
  exact .inl ⟨ht,A3,c3,its.map Prod.snd,by rw[List.length_map];rfl,hM3.ext Zi,h31,h32,HVL.out,Step.of _ _⟩
 ·go_wp2_with fail
  go_ret3
  exact .inr ⟨zs5,rfl,Step.of _ _⟩
end
section
structure STO{κ:Type}(lt:κ->κ->Prop):Prop where
 irr:∀a,¬lt a a
 trans:∀{a b c},lt a b->lt b c->lt a c
 tri:∀{a b},a≠b->lt a b∨lt b a
theorem STO.anti{κ:Type}{lt:κ->κ->Prop}(O:STO lt){a b:κ}(h:lt a b):¬lt b a:=fun h'=>O.irr a (O.trans h h')
section
variable {κ:Type} [DecidableEq κ] {lt:κ->κ->Prop}
structure CountOK(lt:κ->κ->Prop)(L:List κ)(p:List (κ×Int)):Prop where
 sorted:p.Pairwise (fun a b=>lt a.1 b.1)
 mem:∀c,c∈p↔0<c.2/\c.2=(L.count c.1:Int)
theorem CountOK.nodup(O:STO lt){L:List κ}{p}(h:CountOK lt L p):p.Nodup:=h.sorted.imp (fun{a b}h(e:a=b)=>O.irr b.1 (by rw[e]at h;exact h))
theorem CountOK.unique(O:STO lt){L:List κ}{p q}(h:CountOK lt L p)(h':CountOK lt L q):p=q:=
 List.Perm.eq_of_pairwise (fun _ _ _ _ h1 h2=>absurd h2 (O.anti h1)) h.sorted h'.sorted ((List.perm_ext_iff_of_nodup (h.nodup O) (h'.nodup O)).2 fun c=>(h.mem c).trans (h'.mem c).symm)
theorem CountOK.perm{L L':List κ}{p}(h:CountOK lt L p)(hp:L.Perm L'):CountOK lt L' p:=⟨h.sorted,fun c=>by rw[h.mem,hp.count_eq]⟩
theorem CountOK.nil:CountOK lt ([]:List κ) []:=⟨List.Pairwise.nil,fun c=>by simp;omega⟩
theorem CountOK.append{L S:List κ}{p q}(h:CountOK lt L p)(h':CountOK lt S q)(hd:∀x∈L,∀y∈S,lt x y)(O:STO lt):CountOK lt (L++S) (p++q):=by
 have hin:∀{T:List κ}{r},CountOK lt T r->∀c∈r,c.1∈T:=fun h c hc=>List.count_pos_iff.1 (by have:=(h.mem c).1 hc;omega)
 refine⟨List.pairwise_append.2 ⟨h.sorted,h'.sorted,fun a ha b hb=>hd _ (hin h a ha) _ (hin h' b hb)⟩,fun c=>?_⟩;rw[mem_append,h.mem,h'.mem,List.count_append];by_cases hL:c.1∈L
 ·have hS:c.1∉S:=fun hs=>O.irr _ (hd _ hL _ hs)
  rw[count_eq_zero.2 hS];constructor
  ·rintro(⟨a,b⟩|⟨a,b⟩)<;>exact⟨a,by omega⟩
  ·rintro⟨a,b⟩;exact .inl ⟨a,by omega⟩
 ·rw[count_eq_zero.2 hL];constructor
  ·rintro(⟨a,b⟩|⟨a,b⟩)<;>exact⟨a,by omega⟩
  ·rintro⟨a,b⟩;exact .inr ⟨a,by omega⟩
variable [DecidableRel lt]
def ZG(lt:κ->κ->Prop)[DecidableRel lt]:List (κ×Int)->κ->List (κ×Int)
 |[],k=>[(k,1)]
 |c::l,k=>if lt c.1 k then c::ZG lt l k else if c.1=k then (k,c.2+1)::l else (k,1)::c::l
theorem zeN(O:STO lt):∀(p:List (κ×Int))(k:κ),p.Pairwise (fun a b=>lt a.1 b.1)->∀c,c∈ZG lt p k↔(c∈p/\c.1≠k)∨(c.1=k/\((∃d∈p,d.1=k/\c.2=d.2+1)∨((∀d∈p,d.1≠k)/\c.2=1)))
 |[],k,_,c=>by
  simp only[ZG,mem_singleton,List.not_mem_nil,false_and,false_or];constructor
  ·rintro rfl;exact⟨rfl,.inr ⟨fun d hd=>absurd hd (by simp),rfl⟩⟩
  ·rintro⟨h1,h⟩;rcases h with ⟨d,hd⟩|⟨-,h3⟩
   ·exact absurd hd (by simp)
   ·exact Prod.ext h1 h3
 |x::p,k,hs,c=>by
  obtain⟨hs1,hs2⟩:=pairwise_cons.1 hs;have ih:=zeN O p k hs2 c;unfold ZG;by_cases h1:lt x.1 k
  ·rw[if_pos h1,mem_cons,ih];have hxn:x.1≠k:=fun e=>O.irr _ (e▸h1)
   constructor
   ·rintro(rfl|⟨a,b⟩|⟨a,⟨d,e,f⟩|⟨d,e⟩⟩)
    ·exact .inl ⟨List.mem_cons_self ..,hxn⟩
    ·exact .inl ⟨mem_cons_of_mem _ a,b⟩
    ·exact .inr ⟨a,.inl ⟨d,mem_cons_of_mem _ e,f⟩⟩
    ·exact .inr ⟨a,.inr ⟨fun y hy=>by rcases mem_cons.1 hy with rfl|hy;exact hxn;exact d y hy,e⟩⟩
   ·rintro(⟨a,b⟩|⟨a,⟨d,e,f⟩|⟨d,e⟩⟩)
    ·rcases mem_cons.1 a with rfl|a
     ·exact .inl rfl
     ·exact .inr (.inl ⟨a,b⟩)
    ·rcases mem_cons.1 e with rfl|e
     ·exact absurd f.1 hxn
     ·exact .inr (.inr ⟨a,.inl ⟨d,e,f⟩⟩)
    ·exact .inr (.inr ⟨a,.inr ⟨fun y hy=>d y (mem_cons_of_mem _ hy),e⟩⟩)
  ·rw[if_neg h1];have ztA:∀d∈p,d.1≠k:=fun d hd e=>h1 (e▸hs1 d hd)
   by_cases h2:x.1=k
   ·rw[if_pos h2,mem_cons];constructor
    ·rintro(rfl|h)
     ·exact .inr ⟨rfl,.inl ⟨x,List.mem_cons_self ..,h2,rfl⟩⟩
     ·exact .inl ⟨mem_cons_of_mem _ h,ztA c h⟩
    ·rintro(⟨a,b⟩|⟨a,⟨d,e,f,g⟩|⟨d,e⟩⟩)
     ·rcases mem_cons.1 a with rfl|a
      ·exact absurd h2 b
      ·exact .inr a
     ·rcases mem_cons.1 e with rfl|e
      ·exact .inl (Prod.ext a g)
      ·exact absurd f (ztA d e)
     ·exact absurd h2 (d x (List.mem_cons_self ..))
   ·rw[if_neg h2,mem_cons];have zsD:∀d∈x::p,d.1≠k:=fun d hd=>by
     rcases mem_cons.1 hd with rfl|hd
     ·exact h2
     ·exact ztA d hd
    constructor
    ·rintro(rfl|h)
     ·exact .inr ⟨rfl,.inr ⟨zsD,rfl⟩⟩
     ·exact .inl ⟨h,zsD c h⟩
    ·rintro(⟨a,b⟩|⟨a,⟨d,e,f⟩|⟨d,e⟩⟩)
     ·exact .inr a
     ·exact absurd f.1 (zsD d e)
     ·exact .inl (Prod.ext a e)
theorem ziS(O:STO lt):∀(p:List (κ×Int))(k:κ),p.Pairwise (fun a b=>lt a.1 b.1)->(ZG lt p k).Pairwise (fun a b=>lt a.1 b.1)
 |[],k,_=>by simp[ZG]
 |x::p,k,hs=>by
  obtain⟨hs1,hs2⟩:=pairwise_cons.1 hs;have ih:=ziS O p k hs2;unfold ZG;by_cases h1:lt x.1 k
  ·rw[if_pos h1];refine pairwise_cons.2 ⟨fun c hc=>?_,ih⟩;rcases(zeN O p k hs2 c).1 hc with ⟨a,-⟩|⟨a,-⟩
   ·exact hs1 c a
   ·rw[a];exact h1
  ·rw[if_neg h1];by_cases h2:x.1=k
   ·rw[if_pos h2];exact pairwise_cons.2 ⟨fun c hc=>h2▸hs1 c hc,hs2⟩
   ·rw[if_neg h2];have hx2:lt k x.1:=(O.tri h2).resolve_left h1;refine pairwise_cons.2 ⟨fun c hc=>?_,hs⟩;rcases mem_cons.1 hc with rfl|hc
    ·exact hx2
    ·exact O.trans hx2 (hs1 c hc)
theorem CountOK.tally(O:STO lt){L:List κ}{p}(h:CountOK lt L p)(k:κ):CountOK lt (L++[k]) (ZG lt p k):=by
 refine⟨ziS O p k h.sorted,fun c=>?_⟩;rw[zeN O p k h.sorted,List.count_append];have hd:∀d:κ×Int,d.1=k->(d∈p↔0<d.2/\d.2=(L.count k:Int)):=fun d a=>by rw[h.mem,a]
 by_cases e:c.1=k
 ·have hcs:List.count c.1 [k]=1:=by rw[e];simp
  rw[hcs,e];constructor
  ·rintro(⟨-,b⟩|⟨-,⟨d,a,b,g⟩|⟨a,g⟩⟩)
   ·exact absurd rfl b
   ·have:=(hd d b).1 a;omega
   ·have h0:L.count k=0:=by
     rcases Nat.eq_zero_or_pos (L.count k) with h0|h0
     ·exact h0
     ·exact absurd rfl (a (k,(L.count k:Int)) ((hd _ rfl).2 ⟨by simp only;omega,rfl⟩))
    omega
  ·rintro⟨a,b⟩;refine .inr ⟨rfl,?_⟩;rcases Nat.eq_zero_or_pos (L.count k) with h0|h0
   ·refine .inr ⟨fun d hdm hdn=>?_,by omega⟩;have:=(hd d hdn).1 hdm;omega
   ·exact .inl ⟨(k,(L.count k:Int)),(hd _ rfl).2 ⟨by simp only;omega,rfl⟩,rfl,by simp only;omega⟩
 ·have hcs:List.count c.1 [k]=0:=by rw[count_eq_zero];simp[e]
  rw[hcs,h.mem];constructor
  ·rintro(⟨⟨a,b⟩,-⟩|⟨a,-⟩)
   ·exact⟨a,by omega⟩
   ·exact absurd a e
  ·rintro⟨a,b⟩;exact .inl ⟨⟨a,by omega⟩,e⟩
def ZZ(lt:κ->κ->Prop)[DecidableRel lt](L:List κ):List (κ×Int):=L.foldl (fun p q=>ZG lt p q) []
theorem zp4(L:List κ)(q:κ):ZZ lt (L++[q])=ZG lt (ZZ lt L) q:=by unfold ZZ;rw[List.foldl_append];rfl
theorem Jf(O:STO lt)(L:List κ):CountOK lt L (ZZ lt L):=by
 have h:∀(T:List κ)(L:List κ)(p:List (κ×Int)),CountOK lt L p->CountOK lt (L++T) (T.foldl (fun p q=>ZG lt p q) p):=by
  intro T;induction T with
  |nil=>intro L p h;simpa using h
  |cons q T ih=>intro L p h;have:=ih (L++[q]) _ (h.tally O q);simpa using this
 have:=h L [] [] CountOK.nil;simpa[ZZ] using this
end
abbrev Kc:=Int×Int
abbrev Ct:=Kc×Int
def jX(a b:Kc):Prop:=a.1<b.1∨(a.1=b.1/\a.2<b.2)
instance:DecidableRel jX:=fun a b=>by unfold jX;exact Zi
theorem zbz:STO jX:=⟨fun a h=>by unfold jX at h;omega,fun{a b c}h h'=>by unfold jX at*;omega,fun{a b}h=>by
 unfold jX;rcases Int.lt_trichotomy a.1 b.1 with h1|h1|h1
 ·exact .inl (.inl h1)
 ·rcases Int.lt_trichotomy a.2 b.2 with h2|h2|h2
  ·exact .inl (.inr ⟨h1,h2⟩)
  ·exact absurd (Prod.ext h1 h2) h
  ·exact .inr (.inr ⟨h1.symm,h2⟩)
 ·exact .inr (.inl h1)⟩
def ZK(a b:Ct):Prop:=a.1.1<b.1.1∨(a.1.1=b.1.1/\(a.1.2<b.1.2∨(a.1.2=b.1.2/\a.2<b.2)))
instance:DecidableRel ZK:=fun a b=>by unfold ZK;exact Zi
theorem QQ:STO ZK:=⟨fun a h=>by unfold ZK at h;omega,fun{a b c}h h'=>by unfold ZK at*;omega,fun{a b}h=>by
 unfold ZK;rcases Int.lt_trichotomy a.1.1 b.1.1 with h1|h1|h1
 ·exact .inl (.inl h1)
 ·rcases Int.lt_trichotomy a.1.2 b.1.2 with h2|h2|h2
  ·exact .inl (.inr ⟨h1,.inl h2⟩)
  ·rcases Int.lt_trichotomy a.2 b.2 with h3|h3|h3
   ·exact .inl (.inr ⟨h1,.inr ⟨h2,h3⟩⟩)
   ·exact absurd (Prod.ext (Prod.ext h1 h2) h3) h
   ·exact .inr (.inr ⟨h1.symm,.inr ⟨h2.symm,h3⟩⟩)
  ·exact .inr (.inr ⟨h1.symm,.inl h2⟩)
 ·exact .inr (.inl h1)⟩
def zZ:List Ct->List Ct->Bool
 |_,[]=>false
 |[],_::_=>true
 |a::l,b::m=>if a=b then zZ l m else decide (ZK a b)
theorem JD:∀l,zZ l l=false
 |[]=>rfl
 |a::l=>by simp[zZ,JD l]
theorem zeO:∀{l m:List Ct},l≠m->zZ l m=true∨zZ m l=true
 |[],[],h=>absurd rfl h
 |_::_,[],_=> .inr rfl
 |[],_::_,_=> .inl rfl
 |a::l,b::m,h=>by
  unfold zZ;by_cases hab:a=b
  ·rw[if_pos hab,if_pos hab.symm];exact zeO (fun e=>h (by rw[hab,e]))
  ·rw[if_neg hab,if_neg (Ne.symm hab)];rcases QQ.tri hab with h|h
   ·exact .inl (decide_eq_true h)
   ·exact .inr (decide_eq_true h)
theorem JE:∀{l m k:List Ct},zZ l m=true->zZ m k=true->zZ l k=true
 |_,[],_,h,_=>by simp[zZ]at h
 |_,_::_,[],_,h=>by simp[zZ]at h
 |[],_::_,_::_,_,_=>rfl
 |a::l,b::m,c::k,h,h'=>by
  unfold zZ at*
  by_cases hab:a=b
  ·subst hab;rw[if_pos rfl]at h;by_cases hac:a=c
   ·subst hac;rw[if_pos rfl]at h'|-;exact JE h h'
   ·rw[if_neg hac]at h'|-;exact h'
  ·rw[if_neg hab]at h;by_cases hbc:b=c
   ·subst hbc;rw[if_neg hab];exact h
   ·rw[if_neg hbc]at h';have h1:=of_decide_eq_true h;have h2:=of_decide_eq_true h';rw[if_neg (fun e:a=c=>QQ.anti h1 (by rw[e];exact h2))];exact decide_eq_true (QQ.trans h1 h2)
abbrev Ks:=Int×List Ct
def qL(a b:Ks):Prop:=a.1<b.1∨(a.1=b.1/\zZ a.2 b.2=true)
instance:DecidableRel qL:=fun a b=>by unfold qL;exact Zi
theorem JF:STO qL where
 irr a h:=by
  rcases h with h|⟨-,h⟩
  ·omega
  ·rw[JD]at h;cases h
 trans {a b c} h h':=by
  rcases h with h|⟨h,k⟩<;>rcases h' with h'|⟨h',k'⟩
  ·exact .inl (by omega)
  ·exact .inl (by omega)
  ·exact .inl (by omega)
  ·exact .inr ⟨by omega,JE k k'⟩
 tri {a b} h:=by
  rcases Int.lt_trichotomy a.1 b.1 with h1|h1|h1
  ·exact .inl (.inl h1)
  ·rcases zeO (fun e=>h (Prod.ext h1 e)) with h2|h2
   ·exact .inl (.inr ⟨h1,h2⟩)
   ·exact .inr (.inr ⟨h1.symm,h2⟩)
  ·exact .inr (.inl h1)
theorem zp5(l m:List Ct):(!(zZ l m)&&!(zZ m l))=decide (l=m):=by
 by_cases e:l=m
 ·subst e;simp[JD]
 ·rw[decide_eq_false e];rcases zeO e with h|h<;>simp[h]
def ZP(m:List (List Int))(x y:List Int):Kc:=(zi m y,(((zC (zV m y) x).natAbs:Nat):Int))
theorem zp6(m:List (List Int))(x y:List Int):ZP m x (y.map fun c=>-c)=ZP m x y:=by
 have h:zV m (y.map fun c=>-c)=(zV m y).map fun c=>-c:=by simp[zV,zbc]
 unfold ZP;rw[zaw,h,zdy,Int.natAbs_neg]
theorem zp7(m:List (List Int))(x y:List Int):ZP m x (zH y)=ZP m x y:=by
 unfold zH;split
 ·exact zp6 m x y
 ·rfl
def zL(m L:List (List Int))(x:List Int):List Ct:=ZZ jX (L.map (ZP m x))
theorem VecList.norms{b:Int}{e:Bool}(h:VecList m b e L):L.Pairwise (fun x y=>zi m x<=zi m y):=h.sorted.imp (fun{x y}h=>by
 rcases Int.lt_or_le (zi m y) (zi m x) with h1|h1
 ·unfold qR ZS at h;rw[qM h1,if_neg (by decide)]at h;omega
 ·exact h1)
def Bdry(ns:List Int)(a:Nat):Prop:=∀(i j:Nat)(x y:Int),i<a->a<=j->ns[i]? =some x->ns[j]? =some y->x<y
theorem Bdry.zero(ns:List Int):Bdry ns 0:=fun i _ _ _ h=>absurd h (by omega)
theorem Bdry.end_{ns:List Int}{n:Int}(hs:ns.Pairwise (·<=·))(hae:a<e)(ha:ns[a]? =some n)(hin:∀k x,a<=k->k<e->ns[k]? =some x->x=n)(ztc:∀x,ns[e]? =some x->x≠n):Bdry ns e:=by
 have hle:∀(i j:Nat)(x y:Int),i<=j->ns[i]? =some x->ns[j]? =some y->x<=y:=by
  intro i j x y hij hx hy;rcases Nat.lt_or_eq_of_le hij with h|rfl
  ·obtain⟨h1,rfl⟩:=Zg.1 hx;obtain⟨h2,rfl⟩:=Zg.1 hy;exact List.pairwise_iff_getElem.1 hs i j h1 h2 h
  ·rw[hx]at hy;injection hy with hy;omega
 intro i j x y hi hj hx hy;have zyW:x<=n:=by
  rcases Zl i a with h|h
  ·exact hle i a x n (by omega) hx ha
  ·rw[hin i x h hi hx];exact Int.le_refl _
 obtain⟨z,hz⟩:∃z,ns[e]? =some z:=⟨_,Ze (by have:=(Zg.1 hy).1;omega)⟩;have h1:=hle a e n z (by omega) ha hz;have h2:=ztc z hz;have h3:=hle e j z y hj hz hy;omega
theorem zp8{κ:Type}[DecidableEq κ]{lt:κ->κ->Prop}[DecidableRel lt](O:STO lt){L S:List κ}(hd:∀x∈L,∀y∈S,lt x y):ZZ lt (L++S)=ZZ lt L++ZZ lt S:=
 CountOK.unique O (Jf O _) ((Jf O L).append (Jf O S) hd O)
theorem ziT{κ:Type}[DecidableEq κ]{lt:κ->κ->Prop}[DecidableRel lt](O:STO lt){L S:List κ}(hp:L.Perm S):ZZ lt L=ZZ lt S:=
 CountOK.unique O (Jf O _) ((Jf O S).perm hp.symm)
theorem zp9(hae:a<=e)(hb:Bdry (L.map (zi m)) a):zL m (L.take e) x=zL m (L.take a) x++zL m ((L.take e).drop a) x:=by
 have hsp:L.take e=L.take a++(L.take e).drop a:=by
  have h:=List.take_append_drop a (L.take e);rw[List.take_take,Nat.min_eq_left hae]at h;exact h.symm
 unfold zL;rw[hsp,List.map_append,zp8 zbz]
 ·congr 3
  rw[<-hsp]
 ·intro k hk k' hk';obtain⟨y,hy,rfl⟩:=List.mem_map.1 hk;obtain⟨y',hy',rfl⟩:=List.mem_map.1 hk';obtain⟨i,hi⟩:=List.getElem?_of_mem hy;obtain⟨j,hj⟩:=List.getElem?_of_mem hy';rw[List.getElem?_drop]at hj;have h1:i<a/\L[i]? =some y:=by
   rw[List.getElem?_take]at hi;split at hi
   ·exact⟨by assumption,hi⟩
   ·cases hi
  have h2:L[a+j]? =some y':=by
   rw[List.getElem?_take]at hj;split at hj
   ·exact hj
   ·cases hj
  exact .inl (hb i (a+j) _ _ h1.1 (by omega) (by rw[List.getElem?_map,h1.2];rfl) (by rw[List.getElem?_map,h2];rfl))
def jw(c:Ct):List Value:=[.int .i64 c.1.1,.int .i64 c.1.2,.int .i64 c.2]
def zP(p:List Ct):List Value:=p.flatMap jw
theorem QG(p:List Ct):(zP p).length=p.length*3:=by
 induction p with
 |nil=>rfl
 |cons x l ih=>simp only[zP,List.flatMap_cons,List.length_append,List.length_cons]at ih|-;rw[ih];simp[jw];omega
theorem ziU(p q:List Ct):zP (p++q)=zP p++zP q:=List.flatMap_append
theorem zeP:∀(p:List Ct)(i:Nat)(c:Ct),p[i]? =some c->(zP p)[i*3]? =some (.int .i64 c.1.1)/\(zP p)[i*3+1]? =some (.int .i64 c.1.2)/\(zP p)[i*3+2]? =some (.int .i64 c.2)
 |[],i,c,h=>by simp at h
 |y::l,0,c,h=>by simp at h;subst h;exact⟨rfl,rfl,rfl⟩
 |y::l,i+1,c,h=>by
  have:=zeP l i c (by simpa using h);rw[show (i+1)*3=i*3+3 by omega];exact this
def Z7(a b:Ct):Int:=ZS (zm a.1.1 b.1.1) (ZS (zm a.1.2 b.1.2) (zm a.2 b.2))
theorem Jg(a b:Ct):(ZK a b/\Z7 a b=-1)∨(a=b/\Z7 a b=0)∨(ZK b a/\Z7 a b=1):=by
 unfold Z7 ZK ZS;rcases Js a.1.1 b.1.1 with ⟨h1,h2⟩|⟨h1,h2⟩|⟨h1,h2⟩
 ·exact .inl ⟨.inl h1,by rw[h2];rfl⟩
 ·rw[h2,if_pos rfl];rcases Js a.1.2 b.1.2 with ⟨k1,k2⟩|⟨k1,k2⟩|⟨k1,k2⟩
  ·exact .inl ⟨.inr ⟨h1,.inl k1⟩,by rw[k2];rfl⟩
  ·rw[k2,if_pos rfl];rcases Js a.2 b.2 with ⟨g1,g2⟩|⟨g1,g2⟩|⟨g1,g2⟩
   ·exact .inl ⟨.inr ⟨h1,.inr ⟨k1,g1⟩⟩,g2⟩
   ·exact .inr (.inl ⟨Prod.ext (Prod.ext h1 k1) g1,g2⟩)
   ·exact .inr (.inr ⟨.inr ⟨h1.symm,.inr ⟨k1.symm,g1⟩⟩,g2⟩)
  ·exact .inr (.inr ⟨.inr ⟨h1.symm,.inl k1⟩,by rw[k2];rfl⟩)
 ·exact .inr (.inr ⟨.inl h1,by rw[h2];rfl⟩)
def Zw:List Ct->List Ct->Int
 |[],[]=>0
 |[],_::_=>-1
 |_::_,[]=>1
 |a::l,b::m=>if a=b then Zw l m else Z7 a b
theorem zbA:∀l m:List Ct,(zZ l m=true/\Zw l m=-1)∨(l=m/\Zw l m=0)∨(zZ m l=true/\Zw l m=1)
 |[],[]=> .inr (.inl ⟨rfl,rfl⟩)
 |[],_::_=> .inl ⟨rfl,rfl⟩
 |_::_,[]=> .inr (.inr ⟨rfl,rfl⟩)
 |a::l,b::m=>by
  unfold zZ Zw;by_cases h:a=b
  ·subst h;rw[if_pos rfl,if_pos rfl,if_pos rfl];rcases zbA l m with h|⟨rfl,h⟩|h
   ·exact .inl h
   ·exact .inr (.inl ⟨rfl,h⟩)
   ·exact .inr (.inr h)
  ·rw[if_neg h,if_neg h,if_neg (Ne.symm h)];rcases Jg a b with ⟨h1,h2⟩|⟨h1,h2⟩|⟨h1,h2⟩
   ·exact .inl ⟨decide_eq_true h1,h2⟩
   ·exact absurd h1 h
   ·exact .inr (.inr ⟨decide_eq_true h1,h2⟩)
theorem zbB(l m:List Ct):decide (Zw l m<0)=zZ l m:=by
 rcases zbA l m with ⟨h1,h2⟩|⟨rfl,h2⟩|⟨h1,h2⟩
 ·rw[h1,h2];rfl
 ·rw[JD,h2];rfl
 ·have:zZ l m=false:=by
   cases h:zZ l m
   ·rfl
   ·have:=JE h h1;rw[JD]at this;cases this
  rw[this,h2];rfl
theorem ziV(l m:List Ct):Zw l m=0↔l=m:=by
 rcases zbA l m with ⟨h1,h2⟩|⟨rfl,h2⟩|⟨h1,h2⟩
 ·constructor
  ·intro h;omega
  ·rintro rfl;rw[JD]at h1;cases h1
 ·exact⟨fun _=>rfl,fun _=>h2⟩
 ·constructor
  ·intro h;omega
  ·rintro rfl;rw[JD]at h1;cases h1
end
section
open Go.RowKit Go.Maps
open Go.ChangeMaps (setBlock heap_setBlock_same heap_setBlock_other)
def qm(k:Kc):Value:= .agg #[.int .i64 k.1,.int .i64 k.2,.int .i64 0]
def Qt(k:Kc):Lit:= .string (keyBytes [.int .i64 k.1,.int .i64 k.2,.int .i64 0])
def jb(k:Kc):Prop:=(Lit.int .i64 k.1).wf=true/\(Lit.int .i64 k.2).wf=true
theorem zqa:∃m,Tryz.prog.types.size=m+1+1:=⟨Tryz.prog.types.size-2,by
 have:(2:Nat)<=Tryz.prog.types.size:=of_decide_eq_true (by kernel_rfl);omega⟩
theorem zad:WideMaps.KeyLaw Tryz.prog 45:=deep_law_laid zoB (m:=2) (by omega) (of_decide_eq_true (by kernel_rfl)) (by kernel_rfl) (by rw[Tryz.underlying45])
theorem Jh:Keyed Tryz.prog 45:=Keyed.of_law zad
theorem zbC{k:Kc}(h:jb k):keyOf Tryz.prog 45 (qm k)=some (Qt k):=by
 obtain⟨a,b⟩:=k;obtain⟨wa,wb⟩:=h;simp only at wa wb;have w0:(Lit.int .i64 0).wf=true:=by decide
 have hkt:Tryz.prog.keyType 45=true:=by kernel_rfl
 have c0:Tryz.prog.cellsOf 45=3:=by kernel_rfl
 have c1:Tryz.prog.cellsOf 2=1:=by kernel_rfl
 have c2:Tryz.prog.cellsOf 3=1:=by kernel_rfl
 obtain⟨m,hm⟩:=zqa;unfold keyOf qm Qt;simp only[Tryz.underlying45];rw[if_pos (by simp[hkt,Value.formed,Tryz.underlying45,c0]),hm];unfold Program.keyLits;simp only[Tryz.underlying45,Value.cells];rw[if_pos (by simp[c0])];simp[c1,c2,Program.keyLits,Tryz.underlying2,Tryz.underlying3,wa,wb,w0]
theorem zcL(k:Kc):WideAt.IsKeyLit (Qt k):=trivial
theorem ziW{a b:Kc}(ha:jb a)(hb:jb b)(h:Qt a=Qt b):a=b:=by
 have h1:=zbC ha;rw[h]at h1;have h2:qm a=qm b:=Jh.inj h1 (zbC hb);have h3:(qm a).cells.toList=(qm b).cells.toList:=by rw[h2]
 simp[qm,Value.cells]at h3;exact Prod.ext h3.1 h3.2
structure TalD(D:DataW Unit)(L:List Kc):Prop where
 map:IsMap D
 at_:∀k,jb k->D.atKey (Qt k) (.lit (.int .i64 0))= .lit (.int .i64 (L.count k))
 has1:∀k,jb k->(has D (Qt k)=true↔k∈L)
 has2:∀l,has D l=true->∃k∈L,l=Qt k
 wf:∀k∈L,jb k
theorem TalD.nil:TalD (.map []) []:=⟨⟨[],rfl⟩,fun k _=>rfl,fun k _=>by simp[has],fun l h=>by simp[has]at h,fun k h=>by simp at h⟩
theorem zqb{D:DataW Unit}(h:IsMap D)(k:Lit)(d:DataW Unit):IsMap (D.put k d):=by
 obtain⟨es,rfl⟩:=h;exact⟨_,rfl⟩
theorem TalD.put{D:DataW Unit}{L:List Kc}(h:TalD D L){k:Kc}(hk:jb k):TalD (D.put (Qt k) (.lit (.int .i64 ((L.count k:Int)+1)))) (L++[k]):=by
 have hne:∀{k':Kc},jb k'->k'≠k->Qt k'≠Qt k:=fun hw hne e=>hne (ziW hw hk e)
 refine⟨zqb h.map _ _,fun k' hw=>?_,fun k' hw=>?_,fun l hl=>?_,fun k' hk'=>?_⟩
 ·rw[List.count_append];by_cases e:k'=k
  ·subst e;rw[atKey_put_same h.map (zcL _)];simp
  ·rw[atKey_put_other (hne hw e),h.at_ k' hw];have:List.count k' [k]=0:=by rw[count_eq_zero];simp[e]
   rw[this];simp
 ·by_cases e:k'=k
  ·subst e;rw[has_put_same h.map (zcL _)];simp
  ·rw[has_put_other (hne hw e),h.has1 k' hw];simp[e]
 ·by_cases e:l=Qt k
  ·exact⟨k,by simp,e⟩
  ·rw[has_put_other e]at hl;obtain⟨k',h1,h2⟩:=h.has2 l hl;exact⟨k',by simp[h1],h2⟩
 ·rcases mem_append.1 hk' with h1|h1
  ·exact h.wf k' h1
  ·rw[mem_singleton.1 h1];exact hk
def MapC(w:World)(b n:Nat)(L:List Kc):Prop:=∃D,w.ownsMap Tryz.prog 45 (plainElem (H:=Unit) Tryz.prog 3) b n D/\TalD D L
theorem MapC.lt{L:List Kc}(h:MapC w b n L):b<w.heap.size:=by
 obtain⟨D,h,-⟩:=h;exact h.lt
theorem MapC.ext{L:List Kc}(h:MapC w b n L)(hx:Ext w w'):MapC w' b n L:=by
 have hb:=hx.below.block b h.lt;obtain⟨D,⟨es,clock,h1,h2⟩,h3⟩:=h;exact⟨D,⟨es,clock,hb.trans h1,h2⟩,h3⟩
theorem MapC.made(w:World):MapC (w.alloc (.map #[] 0)) w.heap.size 0 []:=⟨_,World.ownsMap_made w _ _ _,TalD.nil⟩
theorem MapC.look{L:List Kc}(h:MapC w b n L){k:Kc}(hk:jb k):(Instr.lookup 75 (.map (some b)) (qm k) false).run Tryz.prog w= .ok (.int .i64 (L.count k)) w:=by
 obtain⟨D,h1,h2⟩:=h;obtain⟨c,zsT,hat,-⟩:=h1.lookup_int Jh Tryz.underlying75 Tryz.underlying3 (by kernel_rfl) (zbC hk);rw[h2.at_ k hk]at hat;simp only[DataW.lit.injEq,Lit.int.injEq,true_and]at hat;rw[hat];exact zsT
structure MidC(w:World)(b n:Nat)(L:List Kc)(k:Kc)(st:Int):Prop where
 lt:b<w.heap.size
 look:(Instr.lookup 75 (.map (some b)) (qm k) false).run Tryz.prog w= .ok (.int .i64 (L.count k)) w
 store:∃es1 c1,w.heap[b]? =some (.map es1 c1)/\∀w2:World,w2.heap[b]? =some (.map es1 c1)->∃w3,(Instr.entryStore 75 (.map (some b)) (goInt st) (.int .i64 ((L.count k:Int)+1))).run Tryz.prog w2= .ok () w3/\MapC w3 b (n+1) (L++[k])/\w2.grownBy w3 (some b)
theorem zqc{D:DataW Unit}{es:Array MapEntry}(h:w.ownsMap Tryz.prog 45 (plainElem (H:=Unit) Tryz.prog 3) b n D)(h1:w.heap[b]? =some (.map es c))(h2:w'.heap[b]? =some (.map es c)):w'.ownsMap Tryz.prog 45 (plainElem (H:=Unit) Tryz.prog 3) b n D:=by
 obtain⟨es',c',h3,h4⟩:=h;rw[h1]at h3;injection h3 with h3
 injection h3 with e1 e2
 subst e1 e2;exact⟨_,_,h2,h4⟩
theorem zcM(w:World):(zeroValue 3).run Tryz.prog w= .ok (.int .i64 0) w:=by kernel_rfl
theorem MapC.entry{L:List Kc}(h:MapC w b n L)(hn:n<maxLen)(hL:L.length<4611686018427387904){k:Kc}(hk:jb k):
  ∃v0 st w1,(Instr.mapEntry 75 (.map (some b)) (qm k)).run Tryz.prog w= .ok (.tuple #[v0,goInt st]) w1/\MidC w1 b n L k st/\w.grownBy w1 (some b):=by
 have hm:=h;have zxN:=h.look hk;obtain⟨D,zsA,hT⟩:=h;have zun:=zsA;obtain⟨es,clock,hb,F,hs,rfl⟩:=zsA;have zs8:=zbC hk;have hlt:b<w.heap.size:=(Array.getElem?_eq_some_iff.1 hb).1;obtain⟨v0,st,es1,c1,hE,ztF,hS⟩:=WideElems.entry_then_store (w:=w) zad Tryz.underlying75 zcM hb F zs8;have hb1:(setBlock w b (.map es1 c1)).heap[b]? =some (.map es1 c1):=heap_setBlock_same hb _;have hg1:w.grownBy (setBlock w b (.map es1 c1)) (some b):=⟨rfl,rfl,rfl,by simp[setBlock],fun i _ hi=>heap_setBlock_other hb _ (fun e=>hi (by rw[e]))⟩
 have ztm:(L.count k:Int)<=L.length:=by have:=List.count_le_length (a:=k) (l:=L);omega
 have hcw:(Lit.int .i64 (L.count k:Int)).wf=true:=by
  have e1:IntKind.i64.min=-9223372036854775808:=rfl;have e2:IntKind.i64.max=9223372036854775807:=rfl;simp[Lit.wf];omega
 have zxO:(Lit.int .i64 ((L.count k:Int)+1)).wf=true:=by
  have e1:IntKind.i64.min=-9223372036854775808:=rfl;have e2:IntKind.i64.max=9223372036854775807:=rfl;simp[Lit.wf];omega
 refine⟨v0,st,_,hE,⟨by simp[setBlock];exact hlt,?_,es1,c1,hb1,fun w2 hw2=>?_⟩,hg1⟩
 ·--the number is there as it was
  rcases zad.find w zs8 es.toList F.keys with ⟨h1,h2⟩|⟨j,e0,h1,h2,h3⟩
  ·have hE2:(Instr.mapEntry 75 (.map (some b)) (qm k)).run Tryz.prog w= .ok (.tuple #[.int .i64 0,goInt clock]) (setBlock w b (.map (es.push ⟨qm k,.int .i64 0,clock⟩) (clock+1))):=by
    simp[Instr.mapEntry,run_underlying Tryz.underlying75,MapKept.run_getObj_map hb,zad.check w false zs8,h1,zcM w,MapKept.run_setObj_map _ hb,Result.andThen,setBlock]
   have hU:(Instr.mapUpdate 75 (.map (some b)) (qm k) (.int .i64 0)).run Tryz.prog w= .ok () (setBlock w b (.map (es.push ⟨qm k,.int .i64 0,clock⟩) (clock+1))):=by
    simp[Instr.mapUpdate,run_underlying Tryz.underlying75,MapKept.run_getObj_map hb,zad.check w false zs8,h1,MapKept.run_setObj_map _ hb,Result.andThen,setBlock]
   have hw:=(Result.ok.inj (hE.symm.trans hE2)).2;obtain⟨w3,hr3,ho3,-⟩:=zun.update Jh Tryz.underlying75 hn zs8 (plainElem_int Tryz.underlying3 (show (Lit.int .i64 0).wf=true by decide));have hr3:=(Result.ok.inj (hU.symm.trans hr3)).2;rw[<-hr3,<-hw]at ho3;obtain⟨c,zsT,hat,-⟩:=ho3.lookup_int Jh Tryz.underlying75 Tryz.underlying3 (zcM _) zs8;rw[atKey_put_same hT.map (zcL k)]at hat;simp only[DataW.lit.injEq,Lit.int.injEq,true_and]at hat
   rw[zsT,<-hat];have h0:(L.count k:Int)=0:=by
    rcases Maps.fit_look false Jh Tryz.underlying75 (zcM w) hb F zs8 with ⟨hr,_,_⟩|⟨e0,y,h5,h6,_⟩
    ·have hr2:=(Result.ok.inj (zxN.symm.trans hr)).1;simpa using hr2
    ·exact absurd h6 (h2 e0 (by simpa using h5))
   rw[h0]
  ·have ztk:es1=es/\c1=clock:=by
    have hj:es[j]? =some e0:=by simpa using h2
    have hsm:es.modify j (fun e=>{e with key:=qm k})=es:=by
     apply Array.ext';rw[Array.toList_modify,ChangeMaps.modify_eq_set _ _ _ _ h2];have:({e0 with key:=qm k}:MapEntry)=e0:=by rw[<-h3]
     rw[this];exact WideElems.set_self _ _ _ h2
    have hE2:(Instr.mapEntry 75 (.map (some b)) (qm k)).run Tryz.prog w= .ok (.tuple #[e0.val,goInt e0.born]) (setBlock w b (.map es clock)):=by
     simp[Instr.mapEntry,run_underlying Tryz.underlying75,MapKept.run_getObj_map hb,zad.check w false zs8,h1,hj,h3,zad.stays w zs8,hsm,MapKept.run_setObj_map _ hb,Result.andThen,setBlock]
    have hw:=(Result.ok.inj (hE.symm.trans hE2)).2;rw[hw,heap_setBlock_same hb]at hb1;injection hb1 with hb1
    injection hb1 with e1 e2
    exact⟨e1.symm,e2.symm⟩
   obtain⟨rfl,rfl⟩:=ztk;exact MapC.look ⟨_,⟨_,_,hb1,F,hs,rfl⟩,hT⟩ hk
 ·obtain⟨es',c',hr1,hr2⟩:=hS w2 (.int .i64 ((L.count k:Int)+1)) hw2;obtain⟨w3,hr3,ho3,-⟩:=zun.update Jh Tryz.underlying75 hn zs8 (plainElem_int Tryz.underlying3 zxO);have hr3:=(Result.ok.inj (hr2.symm.trans hr3)).2;rw[<-hr3]at ho3;exact⟨_,hr1,⟨_,zqc ho3 (heap_setBlock_same hb _) (heap_setBlock_same hw2 _),hT.put hk⟩,⟨rfl,rfl,rfl,by simp[setBlock],fun i _ hi=>heap_setBlock_other hw2 _ (fun e=>hi (by rw[e]))⟩⟩
def RngC(w:World)(b r n:Nat)(L ks:List Kc)(cnt:Nat):Prop:=
 ∃D left,w.ranges Tryz.prog 45 (plainElem (H:=Unit) Tryz.prog 3) b r n D left cnt/\TalD D L/\(∀k,jb k->(left (Qt k)=true↔k∈L/\k∉ks))/\ks.Nodup/\(∀k∈ks,k∈L)/\∀l,left l=true->has D l=true
theorem RngC.map{L ks:List Kc}(h:RngC w b r n L ks cnt):MapC w b n L:=by
 obtain⟨D,left,h1,h2,-⟩:=h;exact⟨D,h1.owns,h2⟩
theorem RngC.lt{L ks:List Kc}(h:RngC w b r n L ks cnt):r<w.heap.size/\r≠b:=by
 obtain⟨D,left,h1,-⟩:=h;exact⟨h1.lt,h1.ne⟩
theorem RngC.kept{L ks:List Kc}(h:RngC w b r n L ks cnt)(hb:w'.heap[b]? =w.heap[b]?)(hr:w'.heap[r]? =w.heap[r]?):RngC w' b r n L ks cnt:=by
 obtain⟨D,left,⟨es,clock,since,seen,c0,h1,h2,h3,h4,h5,h6⟩,h7⟩:=h;exact⟨D,left,⟨es,clock,since,seen,c0,hb.trans h1,h2,h3,h4,hr.trans h5,h6⟩,h7⟩
theorem MapC.range{L:List Kc}(h:MapC w b n L):∃w' cnt,(Instr.range 75 (.map (some b))).run Tryz.prog w= .ok (.pointer (some ⟨w.heap.size,0,none⟩)) w'/\RngC w' b w.heap.size n L [] cnt/\w.grownBy w' none/\w'.heap.size=w.heap.size+1:=by
 obtain⟨D,h1,h2⟩:=h;obtain⟨w',hr,hg,hgr,hs⟩:=h1.range Jh Tryz.underlying75;exact⟨w',_,hr,⟨D,_,hg,h2,fun k hk=>by rw[h2.has1 k hk];simp,List.nodup_nil,fun k hk=>by simp at hk,fun l hl=>hl⟩,hgr,hs⟩
theorem RngC.next{L ks:List Kc}(h:RngC w b r n L ks cnt)(ty:TypeId):
  ((∀k∈L,k∈ks)/\(Instr.next (.pointer (some ⟨r,0,none⟩)) false ty).run Tryz.prog w= .ok (.tuple #[.bool false]) w)∨
  ∃k w' cnt',k∈L/\(Instr.next (.pointer (some ⟨r,0,none⟩)) false ty).run Tryz.prog w= .ok (.tuple #[.bool true,qm k,.int .i64 (L.count k)]) w'/\RngC w' b r n L (ks++[k]) cnt'/\cnt'<cnt/\w.grownBy w' (some r)/\w'.heap.size=w.heap.size/\(Instr.entry (.pointer (some ⟨r,0,none⟩))).run Tryz.prog w'= .ok (.tuple #[qm k,.int .i64 (L.count k)]) w':=by
 obtain⟨D,left,h1,h2,h3,h4,h5,h6⟩:=h;rcases h1.next Jh ty with ⟨-,hl,zsT⟩|⟨key,v,kl,y,w',cnt',zs8,hlk,hv,hat,zsT,hrg,hlt,hgr,hsz,hen⟩
 ·refine .inl ⟨fun k hk=>?_,zsT⟩;by_cases hin:k∈ks
  ·exact hin
  ·have:=(h3 k (h2.wf k hk)).2 ⟨hk,hin⟩;rw[hl]at this
   cases this
 ·obtain⟨k,hkL,rfl⟩:=h2.has2 kl (h6 kl hlk);have hw:=h2.wf k hkL;obtain rfl:key=qm k:=Jh.inj zs8 (zbC hw);obtain⟨c,rfl,rfl,-⟩:=plainElem_int_inv Tryz.underlying3 hv;have hc:=hat (.lit (.int .i64 0));rw[h2.at_ k hw]at hc;simp only[DataW.lit.injEq,Lit.int.injEq,true_and]at hc;subst hc;have hnk:=((h3 k hw).1 hlk).2;refine .inr ⟨k,w',cnt',hkL,zsT,⟨D,_,hrg,h2,fun k' hw'=>?_,?_,fun k' hk'=>?_,fun l hl=>?_⟩,hlt,hgr,hsz,hen⟩
  ·have e:(Qt k').sameKey (Qt k)=decide (k'=k):=by
    by_cases e:k'=k
    ·subst e;rw[WideAt.sameKey_self (zcL _)];simp
    ·rw[sameKey_ne (fun h=>e (ziW hw' hw h))];simp[e]
   rw[e,Bool.and_eq_true,h3 k' hw'];simp[and_assoc]
  ·exact List.nodup_append.2 ⟨h4,by simp,fun a ha c hc=>by rw[mem_singleton.1 hc];exact fun e=>hnk (e▸ha)⟩
  ·rcases mem_append.1 hk' with h7|h7
   ·exact h5 k' h7
   ·rw[mem_singleton.1 h7];exact hkL
  ·simp only[Bool.and_eq_true]at hl;exact h6 l hl.1
theorem MapC.clear{L:List Kc}(h:MapC w b n L):∃w',(∀ty,(Builtin.clear_ #[75] ty #[.map (some b)]).run Tryz.prog w= .ok (.tuple #[]) w')/\MapC w' b 0 []/\w.grownBy w' (some b):=by
 obtain⟨D,⟨es,clock,hb,F,hs,-⟩,-⟩:=h;refine⟨setBlock w b (.map #[] clock),fun ty=>?_,⟨.map [],⟨#[],clock,heap_setBlock_same hb _,?_,Zr,rfl⟩,TalD.nil⟩,⟨rfl,rfl,rfl,by simp[setBlock],fun i _ hi=>heap_setBlock_other hb _ (fun e=>hi (by rw[e]))⟩⟩
 ·simp[Builtin.clear_,run_underlying Tryz.underlying75,MapKept.run_getObj_map hb,MapKept.run_setObj_map _ hb,Result.andThen,setBlock]
 ·exact⟨by simp,MapKept.stamped_empty clock,by simp⟩
theorem RngC.left_eq{L ks:List Kc}(h:RngC w b r n L ks cnt):w.rangeLeft b r=cnt:=by
 obtain⟨D,left,h1,-⟩:=h;exact h1.left_eq
theorem RngC.keys{L ks:List Kc}(h:RngC w b r n L ks cnt):ks.Nodup/\∀k∈ks,k∈L:=by
 obtain⟨D,left,-,-,-,h4,h5,-⟩:=h;exact⟨h4,h5⟩
theorem RngC.cnt_le{L ks:List Kc}(h:RngC w b r n L ks cnt):cnt<=n:=by
 obtain⟨D,left,⟨es,clock,since,seen,c0,-,-,hn,-,-,-,hc,-⟩,-⟩:=h;rw[<-hc];unfold leftOf;exact Nat.le_trans (Array.size_filter_le ..) hn
end
section
open Go.RowKit
def CtV(w:World)(A:Option Addr)(p:List Ct):Prop:=∃te,Arr w A te (zP p)
theorem CtV.ext{p:List Ct}(h:CtV w A p)(hx:Ext w w'):CtV w' A p:=by
 obtain⟨te,h⟩:=h;exact⟨te,h.ext hx⟩
theorem CtV.at_{p:List Ct}(h:CtV w A p){i:Nat}{c:Ct}(hi:p[i]? =some c):∃b o,A=some ⟨b,o,none⟩/\w.cell? ⟨b,o+i*3,none⟩=some (.int .i64 c.1.1)/\w.cell? ⟨b,o+i*3+1,none⟩=some (.int .i64 c.1.2)/\w.cell? ⟨b,o+i*3+2,none⟩=some (.int .i64 c.2)/\b<w.heap.size:=by
 obtain⟨te,h⟩:=h;obtain⟨f0,f1,f2⟩:=zeP p i c hi;obtain⟨b,o,rfl,h0,hb⟩:=h.at_ f0;obtain⟨b',o',hA',h1,-⟩:=h.at_ f1;injection hA' with hA'
 injection hA' with z1 z2
 subst z1 z2;obtain⟨b',o',hA',h2,-⟩:=h.at_ f2;injection hA' with hA'
 injection hA' with z1 z2
 subst z1 z2;exact⟨b,o,rfl,h0,h1,h2,hb⟩
theorem zqd(w w':World)(x y z x' y' z':Value)(T T':TypeId)[h:Ext ((w.alloc (.cells #[x,y,z] T)).alloc (.cells #[x',y',z'] T')) w']:
  (w'.cell? ⟨w.heap.size,0,none⟩=some x/\w'.cell? ⟨w.heap.size,1,none⟩=some y/\w'.cell? ⟨w.heap.size,2,none⟩=some z)/\w'.cell? ⟨w.heap.size+1,0,none⟩=some x'/\w'.cell? ⟨w.heap.size+1,1,none⟩=some y'/\w'.cell? ⟨w.heap.size+1,2,none⟩=some z':=by
 have h1:Ext (w.alloc (.cells #[x,y,z] T)) w':=Ext.trans Zi h;have h0:w'.heap[w.heap.size]? =some (.cells #[x,y,z] T (0,0)):=zk h1 (heap_alloc_new w _);have h2:w'.heap[w.heap.size+1]? =some (.cells #[x',y',z'] T' (0,0)):=zk h (by
  have:=heap_alloc_new (w.alloc (.cells #[x,y,z] T)) (.cells #[x',y',z'] T');rwa [World.size_alloc]at this)
 exact⟨⟨by simp[World.cell?,h0],by simp[World.cell?,h0],by simp[World.cell?,h0]⟩,by simp[World.cell?,h2],by simp[World.cell?,h2],by simp[World.cell?,h2]⟩
theorem zqe{g:Nat}{a b c:Int}(h1:w.cell? ⟨g,0,none⟩=some (.int .i64 a))(h2:w.cell? ⟨g,1,none⟩=some (.int .i64 b))(h3:w.cell? ⟨g,2,none⟩=some (.int .i64 c)):
  Cq 111 #[.slice (some ⟨g,0,none⟩) 3 3] w (Zu w (.int .i64 (ZS a (ZS b c)))):=by
 go_enter Tryz.func111,Tryz.ntmps111;go_wp2;go_loop [5,8] (fun _ i=>(i= .int .i64 0)∨(i= .int .i64 1/\a=0)∨(i= .int .i64 2/\a=0/\b=0)∨(i= .int .i64 3/\a=0/\b=0/\c=0)) (fun _ i=>3-(intOf i).toNat)
 case atStart=>exact .inl rfl
 case round=>
  rcases hrel with rfl|⟨rfl,ha⟩|⟨rfl,ha,hb⟩|⟨rfl,ha,hb,hc⟩
  ·by_cases h0:a=0
   ·have hb0:(a !=0)=false:=by simp[h0]
    have H0:=Zh h0;clear h0;go_wp2;exact⟨.inr (.inl ⟨rfl,H0.out⟩),by decide⟩
   ·have hb0:(a !=0)=true:=by simp[h0]
    have HV:Hid (ZS a (ZS b c)=a):=Zh (if_neg h0);clear h0;go_wp2;go_ret;exact⟨by rw[HV.out];rfl,rfl⟩
  ·have HA:=Zh ha;by_cases h0:b=0
   ·have hb0:(b !=0)=false:=by simp[h0]
    have H0:=Zh h0;clear h0 ha;go_wp2;exact⟨.inr (.inr (.inl ⟨rfl,HA.out,H0.out⟩)),by decide⟩
   ·have hb0:(b !=0)=true:=by simp[h0]
    have HV:Hid (ZS a (ZS b c)=b):=Zh ((if_pos ha).trans (if_neg h0));clear h0 ha;go_wp2;go_ret;exact⟨by rw[HV.out];rfl,rfl⟩
  ·have HA:=Zh ha;have HB:=Zh hb;by_cases h0:c=0
   ·have hb0:(c !=0)=false:=by simp[h0]
    have H0:=Zh h0;clear h0 ha hb;go_wp2;exact⟨.inr (.inr (.inr ⟨rfl,HA.out,HB.out,H0.out⟩)),by decide⟩
   ·have hb0:(c !=0)=true:=by simp[h0]
    have HV:Hid (ZS a (ZS b c)=c):=Zh ((if_pos ha).trans (if_pos hb));clear h0 ha hb;go_wp2;go_ret;exact⟨by rw[HV.out];rfl,rfl⟩
  ·have HV:Hid (ZS a (ZS b c)=0):=Zh (by unfold ZS;rw[if_pos ha,if_pos hb,hc]);clear ha hb hc;go_wp2;go_ret;exact⟨by rw[HV.out];rfl,rfl⟩
theorem ziX(a b:Int):Cq 69 #[.int .i64 a,.int .i64 b] w (Zu w (.int .i64 (zm a b))):=by
 by_cases h1:a<b
 ·have HC:=Zh (qn h1);have d1:decide (a<b)=true:=by simpa using h1
  clear h1;go_enter Tryz.func69,Tryz.ntmps69;go_wp2;go_ret;exact⟨by rw[HC.out];rfl,rfl⟩
 ·have d1:decide (a<b)=false:=by simpa using h1
  by_cases h2:b<a
  ·have HC:=Zh (qM h2);have d2:decide (b<a)=true:=by simpa using h2
   clear h1 h2;go_enter Tryz.func69,Tryz.ntmps69;go_wp2;go_ret;exact⟨by rw[HC.out];rfl,rfl⟩
  ·have HC:=Zh (Qd (show a=b by omega));have d2:decide (b<a)=false:=by simpa using h2
   clear h1 h2;go_enter Tryz.func69,Tryz.ntmps69;go_wp2;go_ret;exact⟨by rw[HC.out];rfl,rfl⟩
set_option maxRecDepth 20000 in
theorem ziY(a b:Ct):
  Cq 65 #[.agg #[.int .i64 a.1.1,.int .i64 a.1.2,.int .i64 a.2],.agg #[.int .i64 b.1.1,.int .i64 b.1.2,.int .i64 b.2]] w fun e w'=>e= .returned (.int .i64 (Z7 a b))/\∃q os,w'=Sort.grow (w.drewN q) os:=by
 obtain⟨⟨a1,a2⟩,a3⟩:=a;obtain⟨⟨b1,b2⟩,b3⟩:=b;simp only;obtain⟨k1,hk1⟩:∃k,k=zm a1 b1:=⟨_,rfl⟩;obtain⟨k2,hk2⟩:∃k,k=zm a2 b2:=⟨_,rfl⟩;obtain⟨k3,hk3⟩:∃k,k=zm a3 b3:=⟨_,rfl⟩;have hc1:=fun W=>zb7 (w:=W) a1 b1
 have hc2:=fun W=>zb7 (w:=W) a2 b2
 have hc3:=fun W=>ziX (w:=W) a3 b3
 rw[<-hk1]at hc1;rw[<-hk2]at hc2;rw[<-hk3]at hc3;unfold Zu at hc1 hc2 hc3;have HK:Hid (Z7 ((a1,a2),a3) ((b1,b2),b3)=ZS k1 (ZS k2 k3)):=Zh (by rw[hk1,hk2,hk3];rfl);have H1:=Zh hc1;have H2:=Zh hc2;have H3:=Zh hc3;clear hc1 hc2 hc3 hk1 hk2 hk3;go_enter Tryz.func65,Tryz.ntmps65;go_wp2_with fail
 have hb:=zqd w ((w.alloc (.cells #[.int .i64 a1,.int .i64 a2,.int .i64 a3] 45)).alloc (.cells #[.int .i64 b1,.int .i64 b2,.int .i64 b3] 45)) (.int .i64 a1) (.int .i64 a2) (.int .i64 a3) (.int .i64 b1) (.int .i64 b2) (.int .i64 b3) 45 45;have hWe:∃os,(w.alloc (.cells #[.int .i64 a1,.int .i64 a2,.int .i64 a3] 45)).alloc (.cells #[.int .i64 b1,.int .i64 b2,.int .i64 b3] 45)=Sort.grow w os:=⟨_,by rw[Sort.alloc_eq_grow,Sort.alloc_eq_grow,Sort.grow_grow]⟩
 have HWE:=Zh hWe;clear hWe;generalize (w.alloc (.cells #[.int .i64 a1,.int .i64 a2,.int .i64 a3] 45)).alloc (.cells #[.int .i64 b1,.int .i64 b2,.int .i64 b3] 45)=W at*
 obtain⟨⟨p1,p2,p3⟩,p4,p5,p6⟩:=hb;refine wp_region_still_tail 15 (by kernel_rfl) (by kernel_rfl) ?_;simp only[List.take_succ_cons,List.take_zero,List.drop_succ_cons,List.drop_zero];iterate 4 still_step
 still_call ((H1.out _).mono fun _ _ h=>⟨h.1,h.2.symm⟩)
 iterate 4 still_step
 still_call ((H2.out _).mono fun _ _ h=>⟨h.1,h.2.symm⟩)
 iterate 4 still_step
 still_call ((H3.out _).mono fun _ _ h=>⟨h.1,h.2.symm⟩)
 refine wpStill_nil ?_;change wpList _ _ _ _ _ W.drew
 clear p1 p2 p3 p4 p5 p6;go_wp2_with (go_at_call 111;refine(zqe (a:=k1) (b:=k2) (c:=k3) (by simp[go_sem]) (by simp[go_sem]) (by simp[go_sem])).mono ?_;rintro e w' ⟨rfl,rfl⟩)
 go_ret;obtain⟨os,rfl⟩:=HWE.out;refine⟨by rw[HK.out];rfl,1,os++#[.cells #[.int .i64 k1,.int .i64 k2,.int .i64 k3] 3],?_⟩;rw[Sort.alloc_eq_grow,<-Sort.grow_grow];rfl
theorem zqf{p q:List Ct}{x y:Ct}(hp:p[k]? =some x)(hq:q[k]? =some y):zZ (p.drop k) (q.drop k)=if x=y then zZ (p.drop (k+1)) (q.drop (k+1)) else decide (ZK x y):=by
 obtain⟨h1,rfl⟩:=Zg.1 hp;obtain⟨h2,rfl⟩:=Zg.1 hq;rw[List.drop_eq_getElem_cons h1,List.drop_eq_getElem_cons h2];conv=>lhs;unfold zZ
theorem ziZ{p q:List Ct}(h:k=p.length∨k=q.length)(h1:k<=p.length)(h2:k<=q.length):zZ (p.drop k) (q.drop k)=decide (p.length<q.length):=by
 rcases Zl k q.length with h3|h3
 ·have h4:k=p.length:=by omega
  rw[List.drop_eq_nil_of_le (by omega:p.length<=k),List.drop_eq_getElem_cons h3,decide_eq_true (by omega)];rfl
 ·rw[List.drop_eq_nil_of_le (by omega:q.length<=k),decide_eq_false (by omega)]
  cases p.drop k<;>rfl
theorem zi0{x y:Ct}(h:x≠y):(x.1.1==y.1.1)=false∨((x.1.1==y.1.1)=true/\(x.1.2==y.1.2)=false)∨((x.1.1==y.1.1)=true/\(x.1.2==y.1.2)=true/\(x.2==y.2)=false):=by
 by_cases h1:x.1.1=y.1.1
 ·by_cases h2:x.1.2=y.1.2
  ·refine .inr (.inr ⟨by simp[h1],by simp[h2],?_⟩);simp only[beq_eq_false_iff_ne,ne_eq];exact fun h3=>h (Prod.ext (Prod.ext h1 h2) h3)
  ·exact .inr (.inl ⟨by simp[h1],by simp[h2]⟩)
 ·exact .inl (by simp[h1])
theorem zqg(a b:Ct):
  Cq 57 #[.agg #[.int .i64 a.1.1,.int .i64 a.1.2,.int .i64 a.2],.agg #[.int .i64 b.1.1,.int .i64 b.1.2,.int .i64 b.2]] w (zF w (.bool (decide (ZK a b)))):=by
 obtain⟨⟨a1,a2⟩,a3⟩:=a;obtain⟨⟨b1,b2⟩,b3⟩:=b;simp only;by_cases h1:a1=b1
 ·have d1:(a1 !=b1)=false:=by simp[h1]
  by_cases h2:a2=b2
  ·have d2:(a2 !=b2)=false:=by simp[h2]
   have HV:Hid (decide (ZK ((a1,a2),a3) ((b1,b2),b3))=decide (a3<b3)):=Zh (by unfold ZK;simp[h1,h2]);rw[HV.out];clear h1 h2 HV;go_enter Tryz.func57,Tryz.ntmps57;go_wp2_with fail
   go_ret;exact⟨rfl,Step.of _ _⟩
  ·have d2:(a2 !=b2)=true:=by simp[h2]
   have HV:Hid (decide (ZK ((a1,a2),a3) ((b1,b2),b3))=decide (a2<b2)):=Zh (by unfold ZK;simp[h1,h2]);rw[HV.out];clear h1 h2 HV;go_enter Tryz.func57,Tryz.ntmps57;go_wp2_with fail
   go_ret;exact⟨rfl,Step.of _ _⟩
 ·have d1:(a1 !=b1)=true:=by simp[h1]
  have HV:Hid (decide (ZK ((a1,a2),a3) ((b1,b2),b3))=decide (a1<b1)):=Zh (by unfold ZK;simp[h1]);rw[HV.out];clear h1 HV;go_enter Tryz.func57,Tryz.ntmps57;go_wp2_with fail
  go_ret;exact⟨rfl,Step.of _ _⟩
theorem zi1{p q:List Ct}(hA:CtV w0 A p)(hB:CtV w0 B q)(h1:p.length<=1099511627776)(h2:q.length<=1099511627776)[hx:Ext w0 w]:
  Cq 27 #[.slice A p.length c,.slice B q.length d] w (zF w (.bool (zZ p q))):=by
 have zsy:=Zh (fun k=>ziZ (p:=p) (q:=q) (k:=k));obtain⟨n,hn⟩:=Xz p.length;obtain⟨m,hm⟩:=Xz q.length;rw[<-hn]at h1|-
 rw[<-hm]at h2|-
 have HN:=Zh (And.intro hn hm);clear hn hm;go_enter Tryz.func27,Tryz.ntmps27;go_wp2_with fail
 go_loopw [5] (fun i wr=>∃k:Nat,k<=n/\k<=m/\i= .int .i64 k/\Hid (zZ p q=zZ (p.drop k) (q.drop k))/\Ext w wr) (fun i _=>n-(intOf i).toNat)
 case atStart=>exact⟨0,by omega,by omega,rfl,Zh rfl,Zi⟩
 case round=>
  obtain⟨k,hk1,hk2,rfl,HE,hxr⟩:=hrel;have hxw:Ext w0 wr:=Ext.trans hx hxr;by_cases hk:k<n/\k<m
  ·obtain⟨hka,hkb⟩:=hk;obtain⟨⟨⟨x1,x2⟩,x3⟩,hxx⟩:∃z,p[k]? =some z:=⟨_,Ze (by have:=HN.out.1;omega)⟩;obtain⟨⟨⟨y1,y2⟩,y3⟩,hyy⟩:∃z,q[k]? =some z:=⟨_,Ze (by have:=HN.out.2;omega)⟩;obtain⟨b1,o1,rfl,e1,e2,e3,e4⟩:=(hA.ext hxw).at_ hxx;obtain⟨b2,o2,rfl,f1,f2,f3,f4⟩:=(hB.ext hxw).at_ hyy;simp only at e1 e2 e3 f1 f2 f3;have hst:=zqf hxx hyy;rw[<-HE.out]at hst;have HST:=Zh hst;clear hst hxx hyy HE;by_cases hxy:((x1,x2),x3)=(((y1,y2),y3):Ct)
   ·have HS2:Hid (zZ p q=zZ (p.drop (k+1)) (q.drop (k+1))):=Zh (by have:=HST.out;rwa [if_pos hxy]at this);simp only[Prod.mk.injEq]at hxy;obtain⟨⟨rfl,rfl⟩,rfl⟩:=hxy;clear HST;go_wp2_with fail
    go_quiet (fail)
    go_wp2_with fail
    exact⟨⟨k+1,by omega,by omega,by go_num,HS2,Zi⟩,by simp[intOf];omega⟩
   ·have HS2:Hid (zZ p q=decide (ZK ((x1,x2),x3) ((y1,y2),y3))):=Zh (by have:=HST.out;rwa [if_neg hxy]at this);have HB:=Zh (fun W=>zqg (w:=W) ((x1,x2),x3) ((y1,y2),y3));have hor:=zi0 hxy;simp only at hor;generalize decide (ZK ((x1,x2),x3) ((y1,y2),y3))=r at*
    clear HST hxy;have oX:Old b1 wr:=⟨e4⟩;have oY:Old b2 wr:=⟨f4⟩;rcases hor with g1|⟨g1,g2⟩|⟨g1,g2,g3⟩<;>
    ·go_wp2_with fail
     go_quiet (fail)
     go_wp2_with fail
     go_region_held3 (fun w'=>(w'.cell? ⟨b1,o1+k*3,none⟩=some (.int .i64 x1)/\w'.cell? ⟨b1,o1+k*3+1,none⟩=some (.int .i64 x2)/\w'.cell? ⟨b1,o1+k*3+2,none⟩=some (.int .i64 x3))/\w'.cell? ⟨b2,o2+k*3,none⟩=some (.int .i64 y1)/\w'.cell? ⟨b2,o2+k*3+1,none⟩=some (.int .i64 y2)/\w'.cell? ⟨b2,o2+k*3+2,none⟩=some (.int .i64 y3)) ((simp only[zh wr];exact⟨⟨e1,e2,e3⟩,f1,f2,f3⟩))
      ((go_at_call 57;refine(HB.out _).mono ?_;rintro e w1 ⟨rfl,hs1⟩))
     all_goals
      go_wp2_with fail
      go_ret;exact⟨by rw[HS2.out];rfl,Step.of _ _⟩
  ·have HV:Hid (zZ p q=decide (n<m)):=Zh (by
    rw[HE.out,HN.out.1,HN.out.2];have h3:=HN.out.1;have h4:=HN.out.2;exact ziZ (by omega) (by omega) (by omega))
   clear HE;by_cases h3:k<n
   ·obtain rfl:k=m:=by omega
    clear hk;go_wp2_with fail
    go_ret;exact⟨by rw[HV.out];rfl,Step.of _ _⟩
   ·obtain rfl:k=n:=by omega
    clear hk h3;go_wp2_with fail
    go_ret;exact⟨by rw[HV.out];rfl,Step.of _ _⟩
theorem zi2{p q:List Ct}(hA:CtV w0 A p)(hB:CtV w0 B q)(h1:p.length<=1099511627776)(h2:q.length<=1099511627776)[hx:Ext w0 w]:
  Cq 17 #[.slice A p.length c,.slice B q.length d] w (zF w (.bool (decide (p=q)))):=by
 have H1:=Zh (fun W(e:Ext w0 W)=>zi1 (w:=W) (c:=c) (d:=d) hA hB h1 h2);have H2:=Zh (fun W(e:Ext w0 W)=>zi1 (w:=W) (c:=d) (d:=c) hB hA h2 h1);have hs:=zp5 p q;have k1:True:=trivial;have HS:=Zh hs;generalize zZ p q=r at*
 generalize zZ q p=s at*
 rw[<-HS.out];clear hs HS;generalize p.length=n at*
 generalize q.length=m at*
 cases r
 ·go_enter Tryz.func17,Tryz.ntmps17;go_wp2_with (first|(go_at_call 27;have _t:=k1;clear _t k1;refine(H1.out _ Zi).mono ?_;rintro e w1 ⟨rfl,hs1⟩)|(go_at_call 27;refine(H2.out _ Zi).mono ?_;rintro e w2 ⟨rfl,hs2⟩))
  go_ret;exact⟨by simp,Step.of _ _⟩
 ·go_enter Tryz.func17,Tryz.ntmps17;go_wp2_with (go_at_call 27;refine(H1.out _ Zi).mono ?_;rintro e w1 ⟨rfl,hs1⟩)
  go_ret;exact⟨by simp,Step.of _ _⟩
theorem zi3(a b:Int):IntKind.i64.wrap (a+IntKind.i64.wrap b)=IntKind.i64.wrap (a+b):=by simp only[IntKind.wrap_i64];omega
theorem zeQ(a b:Int):IntKind.i64.wrap (IntKind.i64.wrap a+b)=IntKind.i64.wrap (a+b):=by simp only[IntKind.wrap_i64];omega
theorem w64(n:Int):wrap64 n=IntKind.i64.wrap n:=by
 simp only[wrap64,IntKind.wrap_i64]<;>omega
theorem zi4:∀x y:List Int,zC x (y.take x.length)=zC x y
 |[],y=>by rw[JS,JS]
 |a::x,[]=>rfl
 |a::x,b::y=>by
  simp only[List.length_cons,List.take_succ_cons,zC];rw[zi4 x y]
def qf(x y:List Int):Int:=IntKind.i64.wrap (zC x y)
theorem zeR{Y:Option Addr}{y:List Int}(hX:IntsA w0 X x)(hY:IntsA w0 Y y)(hxn:x.length=n)(hyn:y.length=k)(hl:n<=k)(hn:n<=1099511627776)[hx:Ext w0 w]:
  Cq 62 #[.slice X n c,.slice Y k d] w (Zu w (.int .i64 (qf x y))):=by
 have hX0:=hX.ext hx;have hY0:=hY.ext hx;have HXN:=Zh hxn;have HYN:=Zh hyn;clear hxn hyn hX hY;go_enter Tryz.func62,Tryz.ntmps62;go_wp2;go_loop [5,6,7,10] (fun s _ _ i=>∃q:Nat,q<=n/\i= .int .i64 q/\s= .int .i64 (qf (x.take q) (y.take q))) (fun _ _ _ i=>n-(intOf i).toNat)
 case atStart=>exact⟨0,by omega,rfl,rfl⟩
 case round=>
  obtain⟨q,hq,rfl,rfl⟩:=hrel;by_cases hlt:q<n
  ·obtain⟨b1,o1,a,rfl,ha,e1,e2⟩:=hX0.at_ (i:=q) (by rw[HXN.out];exact hlt);obtain⟨b2,o2,b,rfl,hb,f1,f2⟩:=hY0.at_ (i:=q) (by rw[HYN.out];omega);have hst:=za6 x y q a b ha hb;have HS:Hid (wrap64 (qf (x.take q) (y.take q)+wrap64 (a*b))=qf (x.take (q+1)) (y.take (q+1))):=Zh (by
    unfold qf;rw[w64,w64,zi3,zeQ,hst])
   generalize qf (x.take q) (y.take q)=s at*
   clear hst ha hb;go_wp2;exact⟨⟨q+1,by omega,by go_num,congrArg (Value.int IntKind.i64) HS.out⟩,by simp[intOf];omega⟩
  ·obtain rfl:q=n:=by omega
   have HV:Hid (qf (x.take q) (y.take q)=qf x y):=Zh (by
    have h1:x.take q=x:=List.take_of_length_le (by rw[HXN.out];exact Zr);have h2:zC x (y.take q)=zC x y:=by
     have h3:=zi4 x y;rw[HXN.out]at h3;exact h3
    unfold qf;rw[h1,h2])
   rw[HV.out];clear HV;go_wp2;go_ret;exact⟨rfl,rfl⟩
def ZH(m:List (List Int))(x:List Int):List Int:=m.map fun r=>qf r x
theorem zqh(Y:List Int)(q n:Nat)(v:Int)(h:Y[q]? =some v)(hq:q<n):(Y.take q++List.replicate (n-q) 0).set q v=Y.take (q+1)++List.replicate (n-(q+1)) 0:=by
 have hl:(Y.take q).length=q:=by
  have:=(Zg.1 h).1;simp;omega
 have e:List.replicate (n-q) (0:Int)=0::List.replicate (n-(q+1)) 0:=by rw[<-List.replicate_succ];congr 1;omega
 rw[List.set_append_right _ _ (by omega),hl,Nat.sub_self,e,List.set_cons_zero,List.take_add_one,h];simp
def zeS(w:World)(Y:List Int)(e:Ending)(w':World):Prop:=e= .returned (.slice (some ⟨w.heap.size,0,none⟩) Y.length Y.length)/\Row w' w.heap.size 2 .i64 Y/\Step w w'
theorem zqi(h:MatA w0 A m)(hX:IntsA w0 X x)(hxk:x.length=k)(hrl:∀r∈m,r.length<=k)(hk:k<=1099511627776)(hm:m.length<=1099511627776)[hx:Ext w0 w]:
  Cq 61 #[.slice A m.length c,.slice X k d] w (zeS w (ZH m x)):=by
 have h0:=h.ext hx;have hX0:=hX.ext hx;obtain⟨n,hN⟩:=Xz m.length;rw[<-hN]at hm|-
 have hmk:=Z8 (P:=Tryz.prog) Tryz.underlying28 qV (by omega) (n:Int) (by omega) (by omega);have HN:=Zh hN;have HXK:=Zh hxk;have HRL:=Zh hrl;obtain⟨Y,hY⟩:=Xz (ZH m x);have HY:=Zh hY;rw[<-hY];have HYl:Hid (Y.length=n):=Zh (by rw[HY.out,HN.out];simp[ZH]);clear hN hxk hrl hY;go_enter Tryz.func61,Tryz.ntmps61;go_wp2;go_loopw [6,7,13] (fun _ _ i wr=>∃q:Nat,q<=n/\i= .int .i64 q/\Row wr w.heap.size 2 .i64 (Y.take q++List.replicate (n-q) 0)/\Ext w wr) (fun _ _ i _=>n-(intOf i).toNat)
 case atStart=>exact⟨0,by omega,rfl,by have:=Row.made w n .i64 2;simpa[qF,zbW] using this,Zi⟩
 case round=>
  obtain⟨q,hq,rfl,hV,hxq⟩:=hrel;by_cases hlt:q<n
  ·obtain⟨wi,rfl⟩:∃wi:World,wi=wr:=⟨_,rfl⟩;have hkm:q<m.length:=by have:=HN.out;omega
   obtain⟨b,o,B,c1,rfl,e1,f1,f2,f3,f4⟩:=h0.at_ (i:=q) (r:=m[q]) (by simp[hkm]);obtain⟨r,hr⟩:=Xz (m[q]);rw[<-hr]at e1 f1 f2;have hrk:=HRL.out m[q] (List.getElem_mem hkm);rw[<-hr]at hrk;have HYk:Hid (Y[q]? =some (qf r x)):=Zh (by rw[HY.out,hr];simp[ZH,hkm]);have HD:=Zh (fun W(e:Ext w W)=>zeR (w:=W) (c:=c1) (d:=d) f1 hX0 rfl HXK.out hrk (by omega));have e3:wi.cell? ⟨b,o+q,none⟩=some (.slice B r.length c1):=(hxq.below.cell (p:=⟨b,o+q,none⟩) f4).trans e1
   have zso:=Zh (zqh Y q n (qf r x) HYk.out hlt);have hfz:=hV.frozen q;obtain⟨z0,-,hcz⟩:=hV.cell (i:=q) (by have:=HYl.out;simp;omega);have hsz:=hV.lt;have oB:Old b wi:=⟨Nat.lt_of_lt_of_le f4 hxq.size⟩;generalize hDW:qf r x=v at*
   clear hr e1 f1 f2 f4 hDW HYk;go_wp2_with (go_at_call 62;refine(HD.out _ Zi).mono ?_;rintro e w1 ⟨rfl,rfl⟩)
   refine⟨⟨q+1,by omega,by go_num,?_,?_⟩,by simp[intOf];omega⟩
   ·have h2:=hV.set q v;rw[zso.out]at h2;exact h2
   ·exact hxq.setCell (p:=⟨w.heap.size,q,none⟩) Zr _
  ·obtain rfl:q=n:=by omega
   clear hlt;go_wp2;go_ret;have e:Y.take q++List.replicate (q-q) 0=Y:=by rw[Nat.sub_self,List.take_of_length_le (by rw[HYl.out];omega)];simp
   rw[e]at hV;exact⟨by rw[HYl.out];rfl,hV,Step.of _ _⟩
end
end Go.Proofs.YtcmkopogafchiaaGreat
