/- Sh11 -/
import Derived.Test.YtjehjkipcaohpaaGreatProg
import Derived.Test.YtjehjkipcaohpaaGreatShelf
import Derived.Test.YtjehjkipcaohpaaGreatVS04
set_option maxHeartbeats 8000000
set_option linter.unusedVariables false
set_option linter.unusedSimpArgs false
set_option linter.constructorNameAsVariable false
namespace Go.Proofs.YtjehjkipcaohpaaGreat
open Go.RowKit
open La
theorem VecList.start {m:List (List Int)} (hr:RedOK m):VecList m ((0:Nat)-1) false []:=⟨List.Pairwise.nil,fun x=>by
 simp only [List.not_mem_nil,false_iff]
 rintro ⟨h1,-,h2,-⟩
 have :=nrm_nonneg hr x h1
 omega⟩
theorem VecList.step {m:List (List Int)} {k:Nat} {L S:List (List Int)} (h:VecList m ((k:Int)-1) false L) (h':VecList m k true S):VecList m (((k+1:Nat):Int)-1) false (L++S):=by
 refine ⟨?_,fun x=>?_⟩
 ·rw [List.pairwise_append]
  refine ⟨h.sorted,h'.sorted,fun x hx y hy=>?_⟩
  have h1:=((h.mem x).1 hx).2.2.1
  have h2:=((h'.mem y).1 hy).2.2.2 rfl
  have e1:cmpI (nrm m x) (nrm m y)=-1:=by unfold cmpI;rw [if_pos (by omega)]
  unfold cmpK orI
  rw [e1,if_neg (by decide)]
  decide
 ·rw [List.mem_append,h.mem,h'.mem]
  constructor
  ·rintro (⟨a1,a2,a3,-⟩ |⟨a1,a2,a3,-⟩)
   ·exact ⟨a1,a2,by omega,fun h=>by cases h⟩
   ·exact ⟨a1,a2,by omega,fun h=>by cases h⟩
  ·rintro ⟨a1,a2,a3,-⟩
   by_cases e:nrm m x=k
   ·exact .inr ⟨a1,a2,by omega,fun _=>e⟩
   ·exact .inl ⟨a1,a2,by omega,fun h=>by cases h⟩
theorem Mat64.ones {w:World} {vs:List Value} {m:List (List Int)} (h1:vs.length=m.length) (h3:∀(i:Nat) (r:List Int),m[i]? =some r->∃B c,vs[i]? =some (.slice B r.length c)/\Ints w B 2 .i64 r/\r.length<=c/\c<=9223372036854775807):∀u∈vs,u.oneCell'=true:=fun u hu=>by
 obtain ⟨i,hi⟩:=List.getElem?_of_mem hu
 have hl:=(List.getElem?_eq_some_iff.1 hi).1
 obtain ⟨B,c,h,-⟩:=h3 i m[i] (List.getElem?_eq_getElem (by omega))
 rw [hi] at h
 injection h with h
 rw [h];rfl
theorem MOwn.app {w W w':World} {base:Nat} {A A':Option Addr} {n c c' k:Nat} {m S:List (List Int)} {vs us:List Value} (h:MOwn w base A n c m vs) (hx:Ext w W) (hg:Grow base 37 W w') (ho:Own w' base 37 1 A' (n+k) c' (vs++us)) (hk:S.length=k) (h3:∀(i:Nat) (r:List Int),S[i]? =some r->∃B c,us[i]? =some (.slice B r.length c)/\Ints W B 2 .i64 r/\r.length<=c/\c<=9223372036854775807):MOwn w' base A' (n+k) c' (m++S) (vs++us):=by
 have hvl:vs.length=m.length:=by have :=h.own.len;rw [h.len];omega
 refine ⟨ho,by simp [h.len,hk],fun i x hx'=>?_⟩
 rcases Nat.lt_or_ge i m.length with hi |hi
 ·rw [List.getElem?_append_left hi] at hx'
  obtain ⟨B1,d1,a,b,e⟩:=h.row i x hx'
  exact ⟨B1,d1,by rw [List.getElem?_append_left (by omega)];exact a,(b.ext hx).grow hg (by decide),e⟩
 ·rw [List.getElem?_append_right hi] at hx'
  obtain ⟨B1,d1,a,b,e⟩:=h3 _ x hx'
  exact ⟨B1,d1,by rw [List.getElem?_append_right (by omega),hvl];exact a,b.grow hg (by decide),e⟩
def RetSL (w:World) (m:List (List Int)) (b:Int) (e:Ending) (w':World):Prop:=∃B d L,e= .returned (.tuple #[.slice B (List.length L) d,.int .i64 0])/\Mat64 w' B L/\L.length<=d/\d<=9223372036854775807/\VecList m b true L/\L.length<=4000/\Step w w'
theorem coll_shell {m:List (List Int)} (hr:isRedB m=true) {b:Nat} (h4:m.length<=4) (hb:b+2*m.length<=12∨b<=6∨(m.length<=3/\b<=8)):(collL m b false).length<=4000/\(collL m b true).length<=4000:=by
 have hR:=red_ok hr
 have hl:=isSmallB_len hR.small
 have hst:=(steps_ok hr (b:=b) (by omega)).1
 have hfew:=few_steps2 hr h4 hb
 have hlast:=hst.last_le (by omega)
 have hll:=hst.last
 obtain ⟨hv,hv2⟩:=items_vecList hR (b:=b) (by omega)
 have h1:=vecList_len hR (by omega) hv
 have h2:=vecList_len hR (by omega) (shl_vecList hv hv2)
 have h3:=shl_len b (itemsL m (lvs m b (m.length-1) []))
 rw [List.length_map] at h1
 omega
theorem Shell_red {w0 w:World} {A:Option Addr} {c b:Nat} {m:List (List Int)} {budget:Int} (h:Mat64 w0 A m) (hc:m.length<=c) (hc2:c<=9223372036854775807) (hr:isRedB m=true) (h4:m.length<=4) (hb:b+2*m.length<=12∨b<=6∨(m.length<=3/\b<=8)) (hbd:totS m b<=budget) (hbd2:budget<=1000000) [hx:Ext w0 w]:
  Calls Tryz.prog 36 #[.slice A m.length c,.int .i64 b,.int .i64 budget] w (RetSL w m b):=by
 have hR:=red_ok hr
 have hl:=isSmallB_len hR.small
 have hst:=(steps_ok hr (b:=b) (by omega)).1
 have hsl:=sum_ge_len _ hst.one
 have hsum:=hst.sum
 obtain ⟨-,hcl⟩:=coll_shell hr h4 hb
 have hspec:=hst.spec budget (by omega) hbd2
 rw [if_pos hbd] at hspec
 refine (Shell_ok h hc hc2 (enum_ok hr (by omega) true (by omega)) hspec (by omega)).mono ?_
 rintro e w' ⟨B,d,L,he,hM,h1,h2,hp,hw,hs⟩
 refine ⟨B,d,L,he,hM,h1,h2,vecList_of hR (by omega) hp hw,?_,hs⟩
 have :=hp.length_eq
 simp at this
 omega
def SxRel (w1:World) (m:List (List Int)) (b:Nat) (s7 i:Value) (wr:World):Prop:=∃(k:Nat) (A:Option Addr) (c:Nat) (L:List (List Int)) (vs:List Value),k<=b+1/\i= .int .i64 k/\s7= .slice A L.length c/\Hid (MOwn wr w1.heap.size A L.length c L vs)/\Hid (VecList m ((k:Int)-1) false L)/\L.length<=k*4000/\Ext w1 wr
set_option maxRecDepth 20000 in
theorem EnumerateShells_any {w:World} {dim kind bound:Int} {NA:Option Addr} {l:List Int} {nc:Nat} {v3:Value} {te:TypeId} (hN:Ints w NA te .i8 l) (h8:I8 l) (hl:l.length<=9223372036854775807) (hd0:0<=dim) (hd1:dim<256) (hk0:0<=kind) (hk1:kind<256) (hb0:0<=bound) (hb1:bound<256):
  Calls Tryz.prog 10 #[.agg #[.int .u8 dim,.int .u8 kind,.slice NA l.length nc,v3],.int .u8 bound] w (RetVal w (.bool true)):=by
 have HG:Hid (∀W,Ext w W->Calls Tryz.prog 22 #[.agg #[.int .u8 dim,.int .u8 kind,.slice NA l.length nc,v3],.int .u8 bound] W (RetSmall W (1+(dim%4).toNat) bound)):=Lib.hid (fun W e=>rsmall11_ok (hN.ext e) h8 hl hd0 hd1 hk0 hk1 hb0 hb1)
 have hn1:1<=1+(dim%4).toNat:=by omega
 have hn4:1+(dim%4).toNat<=4:=by omega
 clear hN h8
 generalize 1+(dim%4).toNat=n at*
 have e6:=Int.emod_nonneg bound (show 13-2*(n:Int)≠0 by omega)
 have e7:=Int.emod_lt_of_pos bound (show 0<13-2*(n:Int) by omega)
 unfold RetSmall at HG
 obtain ⟨b,hb⟩:∃b:Nat,bound%(13-2*(n:Int))=b:=⟨(bound%(13-2*(n:Int))).toNat,by omega⟩
 rw [hb] at HG e6 e7
 have hb10:b<=10:=by omega
 have HV:Hid (∀(m:List (List Int)) (W0 W:World) A c,isRedB m=true->m.length=n->Mat64 W0 A m->n<=c->c<=9223372036854775807->Ext W0 W->Calls Tryz.prog 23 #[.slice A n c,.int .i64 b,.int .i64 20000] W (RetVL W m b)):=Lib.hid (fun m W0 W A c hr hmn hM h1 h2 e=>by
  have :=few_steps2 hr (b:=b) (by omega) (by omega)
  have :=Vectors_red (w:=W) (c:=c) (b:=b) (budget:=20000) hM (by omega) h2 hr (by omega) (by omega) (by omega) (by omega)
  rwa [hmn] at this)
 have HS:Hid (∀(m:List (List Int)) (k:Nat) (W0 W:World) A c,LLLed m->m.length=n->k<=b->Mat64 W0 A m->n<=c->c<=9223372036854775807->Ext W0 W->Calls Tryz.prog 36 #[.slice A n c,.int .i64 k,.int .i64 20000] W (RetSL W m k)/\Calls Tryz.prog 37 #[.slice A n c,.int .i64 k,.int .i64 20000] W (RetSh10 W m k 20000)/\totS m k<=20000):=Lib.hid (fun m k W0 W A c hL hmn hk hM h1 h2 e=>by
  have hr:=hL.red
  have hfew:=few_steps2 hr (b:=k) (by omega) (by omega)
  have hcs:=coll_shell hr (b:=k) (by omega) (by omega)
  have hlv:=lvs_tot hr (b:=k) (by omega)
  rw [hmn] at hlv
  refine ⟨?_,rShell_ok hM hL hmn (by omega) (by omega) (by omega) (by omega) (by omega) (fun _=>by omega),by omega⟩
  have :=Shell_red (w:=W) (c:=c) (b:=k) (budget:=20000) hM (by omega) h2 hr (by omega) (by omega) (by omega) (by omega)
  rwa [hmn] at this)
 clear hb
 go_enter Tryz.func10,Tryz.ntmps10
 go_upto_region 2 with (go_at_call 22;refine (HG.out _ inferInstance).mono ?_;rintro e w1 ⟨g,m,A1,c1,rfl,-,hLL,hlen,-,hM1,hc1,hc2,hs1⟩;have HM:=Lib.hid hM1;have HR:=Lib.hid hLL;clear hM1 hLL)
 have HVM:=Lib.hid (fun W (e:Ext w1 W)=>HV.out m w1 W A1 c1 HR.out.red hlen HM.out hc1 hc2 e)
 have HSM:=Lib.hid (fun (k:Nat) (hk:k<=b) W (e:Ext w1 W)=>HS.out m k w1 W A1 c1 HR.out hlen hk HM.out hc1 hc2 e)
 have HLN:=Lib.hid hlen
 unfold RetVL at HVM
 unfold RetSL RetSh10 at HSM
 have hxw1:Ext w w1:=inferInstance
 clear HV HS HG hlen
 go_wp2_with fail
 go_loopw [7,8] (fun s7 i wr=>SxRel w1 m b s7 i wr) (fun _ i _=>b+1-(intOf i).toNat)
 case atStart=>exact ⟨0,none,0,[],[],by omega,rfl,rfl,Lib.hid (MOwn.nil _ _),Lib.hid (VecList.start (red_ok HR.out.red)),by simp,inferInstance⟩
 case round=>
  unfold SxRel at hrel
  obtain ⟨k,A7,c7,L,vs,hk,rfl,rfl,HMO,HVK,hLl,hxr⟩:=hrel
  have hxw:Ext w wr:=hxw1.trans hxr
  by_cases hlt:k<=b
  ·have HSK:=Lib.hid (fun W (e:Ext wr W)=>HSM.out k hlt W (hxr.trans e))
   have htk:=(HSM.out k hlt w1 inferInstance).2.2
   obtain ⟨ln,hln⟩:∃ln,ln=L.length:=⟨_,rfl⟩
   have HLL:=Lib.hid hln
   rw [<-hln] at hLl HMO |-
   clear hln HSM HVM
   go_wp2_with (first
    |(go_at_call 36;refine ((HSK.out _ inferInstance).1).mono ?_;rintro e w4 ⟨B4,d4,L4,rfl,hM4,h41,h42,hV4,h43,hs4⟩;have HM4:=Lib.hid hM4;have HV4:=Lib.hid hV4;clear hM4 hV4)
    |(go_at_call 37;refine ((HSK.out _ inferInstance).2.1).mono ?_;rintro e w5 (⟨-,B5,d5,L5,rfl,hM5,h51,h52,hV5,hs5⟩ |⟨hbad,-⟩);(rotate_left;(exact absurd hbad (by omega)));have hLe:L4=L5:=VecList.unique HV4.out hV5;subst hLe;have HRW:=Lib.hid HV4.out.rows;rw [HLN.out] at HRW;have HSA:=Lib.hid (fun W (c d:Nat) (e:Ext w5 W)=>ref09_Same_any (w:=W) (c:=c) (d:=d) (HM4.out.ext (inferInstance:Ext w4 w5)) hM5 (by omega) (by omega) (fun r hr=>by rw [HRW.out r hr];omega) (fun r hr=>by rw [HRW.out r hr];omega));rw [decide_eq_true rfl] at HSA;have hx45:Ext w4 w5:=inferInstance;have hx5:Ext w1 w5:=hxr.trans inferInstance;clear hM5 hV5)
    |(go_at_call 25;refine (HSA.out _ _ _ inferInstance).mono ?_;rintro e w6 ⟨rfl,nq,rfl⟩;obtain ⟨us,u1,u2,u3⟩:=HM4.out.ext (hx45.trans (inferInstance:Ext w5 (w5.drewN nq)));have hones:=Mat64.ones u1 u3;have U1:=Lib.hid u1;have U2:=Lib.hid u2;have U3:=Lib.hid u3;have U4:=Lib.hid hones;clear u1 u2 u3 hones)
    |(at_builtin;refine wpList_app _ rfl _ _ 26 rfl w1.heap.size 37 (.slice none 0 0) 1 24 Tryz.underlying26 infoSlI64 rfl (by omega) (by omega) A7 ln c7 vs rfl (HMO.out.own.ext inferInstance) B4 L4.length d4 us rfl U2.out (by rw [U1.out,Nat.mul_one]) U4.out (by omega) (by have :=hx5.size;simp;omega) ?_;intro A8 c8 w8 hown8 hg8))
   have hx58:Ext w1 w8:=hg8.ext (hx5.trans inferInstance) (Nat.le_refl _)
   have hll:(L++L4).length=ln+L4.length:=by rw [List.length_append,<-HLL.out]
   refine ⟨⟨k+1,A8,c8,L++L4,vs++us,by omega,by go_num,by rw [hll],Lib.hid ?_,Lib.hid (HVK.out.step HV4.out),by omega,hx58⟩,by simp [intOf]<;>omega⟩
   rw [hll]
   exact HMO.out.app inferInstance hg8 hown8 rfl U3.out
  ·obtain rfl:k=b+1:=by omega
   have HSM2:Hid (∀(W0 W:World) (B:Option Addr) (L2:List (List Int)) (c d:Nat),Mat64 W0 B L2->VecList m b false L2->L2.length<=8000->Ext W0 W->Ext wr W->Calls Tryz.prog 25 #[.slice A7 L.length c,.slice B L2.length d] W (RetQ W (.bool true))):=Lib.hid (fun W0 W B L2 c d hM2 hV2 h2 e1 e2=>by
    have hv:=HVK.out
    rw [show (((b+1:Nat):Int)-1)=b by omega] at hv
    have hLe:=VecList.unique hv hV2
    subst hLe
    have h:=ref09_Same_any (w:=W) (c:=c) (d:=d) (HMO.out.mat.ext e2) (hM2.ext e1) (by omega) (by omega) (fun r hr=>by rw [hv.rows r hr,HLN.out];omega) (fun r hr=>by rw [hv.rows r hr,HLN.out];omega)
    rwa [decide_eq_true rfl] at h)
   have HVB:=Lib.hid (fun W (e:Ext wr W)=>HVM.out W (hxr.trans e))
   clear HVM HSM HVK
   go_wp2_with (first
    |(go_at_call 23;refine (HVB.out _ inferInstance).mono ?_;rintro e w4 ⟨B4,d4,L4,rfl,hM4,h41,h42,hV4,h43,hs4⟩;have HM4:=Lib.hid hM4;have HV4:=Lib.hid hV4;clear hM4 hV4)
    |(go_at_call 25;refine (HSM2.out w4 _ _ _ _ _ HM4.out HV4.out h43 inferInstance inferInstance).mono ?_;rintro e w6 ⟨rfl,nq,rfl⟩)
    |(go_at_call 26;refine awake11_any.mono ?_;rintro e w7 ⟨rfl,hs7⟩))
   go_ret
   exact ⟨rfl,Step.of _ _⟩
end Go.Proofs.YtjehjkipcaohpaaGreat
