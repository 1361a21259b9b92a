/- Int3 Mat Mat2 -/
import Derived.Test.YtijfjailmilkfaaGreatG02
import Derived.Test.YtijfjailmilkfaaGreatProg
import Derived.Deep.RegionHeld3
set_option maxHeartbeats 8000000
set_option linter.unusedVariables false
set_option linter.unusedSimpArgs false
set_option linter.constructorNameAsVariable false
namespace Go.Proofs.YtijfjailmilkfaaGreat
open Go.RowKit
theorem addSigned_any {w0 w1 w:World} {A B:Option Addr} {c d:Nat} {l m:List Int} (na nb:Bool) (ha:Ints w0 A 280 .u32 l) (hb:Ints w1 B 280 .u32 m) (hl:Limbs l) (hm:Limbs m) (tl:Tight l) (tm:Tight m)
  (h1:l.length<=1099511627776) (h2:m.length<=1099511627776) [hx:Ext w0 w] [hy:Ext w1 w]:
  Calls Tryz.prog 297 #[.bool na,.slice A l.length c,.bool nb,.slice B m.length d] w (RetInt w (sgn na (val l)+sgn nb (val m))):=by
 by_cases hn:na=nb
 ·subst hn
  go_enter Tryz.func297,Tryz.ntmps297
  go_wp2_with fail
  refine (addNat_any ha hb hl hm h1 h2).mono ?_
  rintro e w1 ⟨B1,d1,l1,rfl,hi1,hl1,ht1,hv1,hd1,hd2,hs1⟩
  have HV:=Lib.hid hv1
  clear hv1
  go_wp2_with fail
  refine (build_any na hi1 hl1 ht1 hd1 hd2).mono ?_
  rintro e w2 ⟨g,B,k,d,rfl,hz,hs2⟩
  obtain ⟨q0,q1,q2,q3,q4,q5⟩:=box2 w w2 (.bool false) (.slice none 0 0) 117
  have Q0:=Lib.hid q0
  clear q0
  go_wp2
  refine bodyPost_ret (v:= .agg #[.bool g,.slice B k d]) (by simp [results,Tryz.results297,go_sem,q1,q2]) rfl ⟨_,_,_,_,rfl,?_,Step.of _ _⟩
  have e1:sgn na (val l1)=sgn na (val l)+sgn na (val m):=by rw [HV.out];cases na<;>simp [sgn];omega
  rw [e1] at hz
  exact hz.boxed (by decide) Q0.out _ _
 ·have hnb:(na==nb)=false:=by simp [hn]
  by_cases hle:val m<=val l
  ·have hlen:m.length<=l.length:=by
    rcases Nat.lt_or_ge l.length m.length with h |h
    ·have :=tight_len_lt hl hm tm h;omega
    ·exact h
   have hc:cmpI (val l) (val m)=0∨cmpI (val l) (val m)=1:=by unfold cmpI;split;omega;split<;>simp
   have hge:0<=cmpI (val l) (val m):=by omega
   have HE:=Lib.hid (show sgn na (val l-val m)=sgn na (val l)+sgn nb (val m) by cases na<;>cases nb<;>simp_all [sgn]<;>omega)
   clear hn hc
   go_enter Tryz.func297,Tryz.ntmps297
   go_wp2_with fail
   refine (compareNat_any ha hb hl hm tl tm (by omega) (by omega)).mono ?_
   rintro e w3 ⟨rfl,hs3⟩
   go_wp2_with fail
   refine (subNat_any ha hb hl hm h1 hlen hle).mono ?_
   rintro e w1 ⟨B1,d1,l1,rfl,hi1,hl1,ht1,hv1,hd1,hd2,hs1⟩
   have HV:=Lib.hid hv1
   clear hv1
   go_wp2_with fail
   refine (build_any na hi1 hl1 ht1 hd1 hd2).mono ?_
   rintro e w2 ⟨g,B,k,d,rfl,hz,hs2⟩
   obtain ⟨q0,q1,q2,q3,q4,q5⟩:=box2 w w2 (.bool false) (.slice none 0 0) 117
   have Q0:=Lib.hid q0
   clear q0
   go_wp2
   refine bodyPost_ret (v:= .agg #[.bool g,.slice B k d]) (by simp [results,Tryz.results297,go_sem,q1,q2]) rfl ⟨_,_,_,_,rfl,?_,Step.of _ _⟩
   rw [HV.out,HE.out] at hz
   exact hz.boxed (by decide) Q0.out _ _
  ·have hlen:l.length<=m.length:=by
    rcases Nat.lt_or_ge m.length l.length with h |h
    ·have :=tight_len_lt hm hl tl h;omega
    ·exact h
   have hc:=cmpI_lt (show val l<val m by omega)
   have HE:=Lib.hid (show sgn nb (val m-val l)=sgn na (val l)+sgn nb (val m) by cases na<;>cases nb<;>simp_all [sgn]<;>omega)
   clear hn
   go_enter Tryz.func297,Tryz.ntmps297
   go_wp2_with fail
   refine (compareNat_any ha hb hl hm tl tm (by omega) (by omega)).mono ?_
   rintro e w3 ⟨rfl,hs3⟩
   go_wp2_with fail
   refine (subNat_any hb ha hm hl h2 hlen (by omega)).mono ?_
   rintro e w1 ⟨B1,d1,l1,rfl,hi1,hl1,ht1,hv1,hd1,hd2,hs1⟩
   have HV:=Lib.hid hv1
   clear hv1
   go_wp2_with fail
   refine (build_any nb hi1 hl1 ht1 hd1 hd2).mono ?_
   rintro e w2 ⟨g,B,k,d,rfl,hz,hs2⟩
   obtain ⟨q0,q1,q2,q3,q4,q5⟩:=box2 w w2 (.bool false) (.slice none 0 0) 117
   have Q0:=Lib.hid q0
   clear q0
   go_wp2
   refine bodyPost_ret (v:= .agg #[.bool g,.slice B k d]) (by simp [results,Tryz.results297,go_sem,q1,q2]) rfl ⟨_,_,_,_,rfl,?_,Step.of _ _⟩
   rw [HV.out,HE.out] at hz
   exact hz.boxed (by decide) Q0.out _ _
theorem trimV_any {w0 w:World} {neg:Bool} {A:Option Addr} {n c:Nat} {z:Int} (h:IntV w0 neg A n c z) [hx:Ext w0 w]:
  Calls Tryz.prog 270 #[.slice A n c] w (RetSame w (.slice A n c)):=by
 obtain ⟨l,rfl,h2,h3,h4,h5,h6,h7,h8⟩:=h
 refine (trim_any (h6.ext hx) h7 h8).mono ?_
 rintro e w' ⟨m,hm,ht,hv,rfl,rfl⟩
 have :m=l.length:=by
  have e1:val (l.drop m)=0:=by
   have :=val_split (l:=l) m
   have hp:=pow_pos_B (l.take m).length
   have h9:(4294967296:Int)^(l.take m).length*val (l.drop m)=0:=by omega
   rcases Int.mul_eq_zero.1 h9 with h |h
   ·omega
   ·exact h
  have e2:Tight (l.drop m):=by
   intro hh
   apply h3
   rw [List.getLast?_drop] at hh
   split at hh
   ·simp at hh
   ·exact hh
  have e3:=(tight_zero (h2.drop m) e2).1 e1
  have :=List.drop_eq_nil_iff.1 e3
  omega
 subst this
 exact ⟨rfl,rfl⟩
theorem IntV.boxedN {w:World} {g:Bool} {B:Option Addr} {k d:Nat} {z z':Int} (hz:IntV w g B k d z) (he:z=z') {s:Nat} {cs:Array Value} {T:TypeId} (hT:280≠T) (q:w.heap[s]? =some (.cells cs T (0,0))) (u v:Value):
  IntV ((w.setCell ⟨s,0,none⟩ u).setCell ⟨s,1,none⟩ v) g B k d z':=he▸hz.boxed hT q u v
theorem Sub_any {w0 w1 w:World} {na nb:Bool} {A B:Option Addr} {n k c d:Nat} {x y:Int} (ha:IntV w0 na A n c x) (hb:IntV w1 nb B k d y)
  (h1:n<=1099511627776) (h2:k<=1099511627776) [hx:Ext w0 w] [hy:Ext w1 w]:
  Calls Tryz.prog 283 #[.agg #[.bool na,.slice A n c],.agg #[.bool nb,.slice B k d]] w (RetInt w (x-y)):=by
 obtain ⟨la,rfl,hl,tl,hv,hsx,hi,h7,h8⟩:=id ha
 obtain ⟨lb,rfl,hl',tl',hv',hsy,hi',h7',h8'⟩:=id hb
 have HE:=Lib.hid (show sgn na (val la)+sgn (!nb) (val lb)=x-y by subst hsx hsy;rw [hv,hv'];unfold sgn;split<;>split<;>simp_all<;>omega)
 clear hv hv' hsx hsy
 go_enter Tryz.func283,Tryz.ntmps283
 go_wp2
 go_region_held3 (fun w'=>w'.cell? ⟨w.heap.size,0,none⟩=some (.bool na)/\w'.cell? ⟨w.heap.size,1,none⟩=some (.slice A la.length c)/\w'.cell? ⟨w.heap.size+1,0,none⟩=some (.bool nb)/\w'.cell? ⟨w.heap.size+1,1,none⟩=some (.slice B lb.length d)) (exact boxes2 w _ _ _ _ _ 117 117)
  (first
   |(go_at_call_of 270 (Value.slice A la.length c);refine (trimV_any ha).mono ?_;rintro e w' ⟨rfl,rfl⟩)
   |(go_at_call_of 270 (Value.slice B lb.length d);refine (trimV_any hb).mono ?_;rintro e w' ⟨rfl,rfl⟩)
   |(go_at_call 297;refine (addSigned_any na (!nb) hi hi' hl hl' tl tl' h1 h2).mono ?_;rintro e w2 ⟨g,B1,k1,d1,rfl,hz,hs2⟩;obtain ⟨q0,q1,q2,q3,q4,q5⟩:=box2_2 w w2 (.cells #[.bool na,.slice A la.length c] 117) (.cells #[.bool nb,.slice B lb.length d] 117) (.bool false) (.slice none 0 0) 117))
 have Q0:=Lib.hid q0
 clear q0
 go_wp2
 exact bodyPost_ret (v:= .agg #[.bool g,.slice B1 k1 d1]) (by simp [results,Tryz.results283,go_sem,q1,q2]) rfl ⟨_,_,_,_,rfl,hz.boxedN HE.out (by decide) Q0.out _ _,Step.of _ _⟩
theorem IntV.zero_iff {w:World} {neg:Bool} {A:Option Addr} {n c:Nat} {z:Int} (h:IntV w neg A n c z):n=0↔z=0:=by
 obtain ⟨l,rfl,h2,h3,h4,_⟩:=h
 have :=tight_zero h2 h3
 constructor
 ·intro hn
  have hl:=List.eq_nil_of_length_eq_zero hn
  subst hl
  simp [val] at h4;omega
 ·rintro rfl
  have :=this.1 (by rw [h4];rfl)
  subst this;rfl
theorem IntV.neg_eq {w:World} {neg:Bool} {A:Option Addr} {n c:Nat} {z:Int} (h:IntV w neg A n c z):neg=decide (z<0):=by
 obtain ⟨l,_,_,_,_,h5,_⟩:=h;exact h5
theorem Mul_any {w0 w1 w:World} {na nb:Bool} {A B:Option Addr} {n k c d:Nat} {x y:Int} (ha:IntV w0 na A n c x) (hb:IntV w1 nb B k d y)
  (h1:n<=1099511627776) (h2:k<=1099511627776) [hx:Ext w0 w] [hy:Ext w1 w]:
  Calls Tryz.prog 284 #[.agg #[.bool na,.slice A n c],.agg #[.bool nb,.slice B k d]] w (RetInt w (x*y)):=by
 obtain ⟨la,rfl,hl,tl,hv,hsx,hi,h7,h8⟩:=id ha
 obtain ⟨lb,rfl,hl',tl',hv',hsy,hi',h7',h8'⟩:=id hb
 have HE:=Lib.hid (show sgn (na !=nb) (val la*val lb)=x*y by
  subst hsx hsy
  rw [hv,hv',<-Int.natCast_mul,<-Int.natAbs_mul]
  unfold sgn
  by_cases hx:x<0<;>by_cases hy:y<0<;>simp [hx,hy]
  ·have :=Int.mul_pos_of_neg_of_neg hx hy;omega
  ·have :=Int.mul_nonpos_of_nonpos_of_nonneg (Int.le_of_lt hx) (by omega:0<=y);omega
  ·have :=Int.mul_nonpos_of_nonneg_of_nonpos (by omega:0<=x) (Int.le_of_lt hy);omega
  ·have :=Int.mul_nonneg (by omega:0<=x) (by omega:0<=y);omega)
 clear hv hv' hsx hsy
 go_enter Tryz.func284,Tryz.ntmps284
 go_wp2
 go_region_held3 (fun w'=>w'.cell? ⟨w.heap.size,0,none⟩=some (.bool na)/\w'.cell? ⟨w.heap.size,1,none⟩=some (.slice A la.length c)/\w'.cell? ⟨w.heap.size+1,0,none⟩=some (.bool nb)/\w'.cell? ⟨w.heap.size+1,1,none⟩=some (.slice B lb.length d)) (exact boxes2 w _ _ _ _ _ 117 117)
  (first
   |(go_at_call_of 270 (Value.slice A la.length c);refine (trimV_any ha).mono ?_;rintro e w' ⟨rfl,rfl⟩)
   |(go_at_call_of 270 (Value.slice B lb.length d);refine (trimV_any hb).mono ?_;rintro e w' ⟨rfl,rfl⟩)
   |(go_at_call 298;refine (mulNat_any hi hi' hl hl' h1 h2).mono ?_;rintro e w3 ⟨B1,d1,l1,rfl,hi1,hl1,ht1,hv1,hd1,hd2,hs1⟩;have HV:=Lib.hid hv1;clear hv1)
   |(go_at_call 268;refine (build_any (na !=nb) hi1 hl1 ht1 hd1 hd2).mono ?_;rintro e w2 ⟨g,B2,k2,d2,rfl,hz,hs2⟩;obtain ⟨q0,q1,q2,q3,q4,q5⟩:=box2_2 w w2 (.cells #[.bool na,.slice A la.length c] 117) (.cells #[.bool nb,.slice B lb.length d] 117) (.bool false) (.slice none 0 0) 117))
 have Q0:=Lib.hid q0
 clear q0
 go_wp2
 exact bodyPost_ret (v:= .agg #[.bool g,.slice B2 k2 d2]) (by simp [results,Tryz.results284,go_sem,q1,q2]) rfl ⟨_,_,_,_,rfl,hz.boxedN (by rw [HV.out];exact HE.out) (by decide) Q0.out _ _,Step.of _ _⟩
theorem Sign_any {w0 w:World} {na:Bool} {A:Option Addr} {n c:Nat} {x:Int} (ha:IntV w0 na A n c x) [hx:Ext w0 w]:
  Calls Tryz.prog 248 #[.agg #[.bool na,.slice A n c]] w (RetVal w (.int .i64 (cmpI x 0))):=by
 have hz:=ha.zero_iff
 have hn:=ha.neg_eq
 by_cases h0:x=0
 ·obtain rfl:=hz.2 h0
  have HE:=Lib.hid (cmpI_eq h0)
  clear hz hn h0
  go_enter Tryz.func248,Tryz.ntmps248
  go_wp2_with (go_at_call 270;refine (trimV_any ha).mono ?_;rintro e w' ⟨rfl,rfl⟩)
  go_ret
  exact ⟨by rw [HE.out];rfl,Step.of _ _⟩
 ·have hn0:((n:Int)==0)=false:=by simp;exact fun h=>h0 (hz.1 h)
  by_cases hneg:x<0
  ·have HE:=Lib.hid (cmpI_lt hneg)
   obtain rfl:na=true:=by simp [hn,hneg]
   clear hz hn h0 hneg
   go_enter Tryz.func248,Tryz.ntmps248
   go_wp2_with (go_at_call 270;refine (trimV_any ha).mono ?_;rintro e w' ⟨rfl,rfl⟩)
   go_ret
   exact ⟨by rw [HE.out];rfl,Step.of _ _⟩
  ·have HE:=Lib.hid (cmpI_gt (show 0<x by omega))
   obtain rfl:na=false:=by simp [hn];omega
   clear hz hn h0 hneg
   go_enter Tryz.func248,Tryz.ntmps248
   go_wp2_with (go_at_call 270;refine (trimV_any ha).mono ?_;rintro e w' ⟨rfl,rfl⟩)
   go_ret
   exact ⟨by rw [HE.out];rfl,Step.of _ _⟩
theorem wordV_any {w0 w:World} {neg:Bool} {A:Option Addr} {n c:Nat} {z:Int} (h:IntV w0 neg A n c z) (h2:n<=2) [hx:Ext w0 w]:
  Calls Tryz.prog 271 #[.slice A n c] w (RetSame w (.int .u64 z.natAbs)):=by
 obtain ⟨l,rfl,hl,h3,h4,h5,h6,h7,h8⟩:=h
 rw [<-h4]
 exact word_any (h6.ext hx) hl h2
theorem Int64_fit {w0 w:World} {na:Bool} {A:Option Addr} {n c:Nat} {x:Int} (ha:IntV w0 na A n c x) (h0:-9223372036854775808<=x) (h1:x<=9223372036854775807) [hx:Ext w0 w]:
  Calls Tryz.prog 235 #[.agg #[.bool na,.slice A n c]] w (RetVal w (.tuple #[.int .i64 x,.bool true])):=by
 have hn:=ha.neg_eq
 have hlen:n<=2:=ha.len (k:=2) (by omega)
 by_cases hneg:x<0
 ·obtain rfl:na=true:=by simp [hn,hneg]
  have hab:(x.natAbs:Int)=-x:=by omega
  have hw:=wordV_any (w:=w.alloc (.cells #[.bool true,.slice A n c] 117)) ha hlen
  rw [hab] at hw
  have HW:=Lib.hid hw
  clear hn hw hab
  have hle:decide (-x<=9223372036854775808)=true:=by simp;omega
  go_enter Tryz.func235,Tryz.ntmps235
  go_wp2_with (first
   |(go_at_call 270;refine (trimV_any ha).mono ?_;rintro e w' ⟨rfl,rfl⟩)
   |(go_at_call 271;refine HW.out.mono ?_;rintro e w' ⟨rfl,rfl⟩))
  go_ret2
  refine ⟨?_,Step.of _ _⟩
  have e1:wrap64 (IntKind.u64.wrap x)=x:=by simp only [wrap64,IntKind.wrap_u64,IntKind.wrap_i64];omega
  simp [e1]
 ·obtain rfl:na=false:=by simp [hn];omega
  have hab:(x.natAbs:Int)=x:=by omega
  have hw:=wordV_any (w:=w.alloc (.cells #[.bool false,.slice A n c] 117)) ha hlen
  rw [hab] at hw
  have HW:=Lib.hid hw
  clear hn hw hab
  have hx0:0<=x:=by omega
  clear hneg
  go_enter Tryz.func235,Tryz.ntmps235
  go_wp2_with (first
   |(go_at_call 270;refine (trimV_any ha).mono ?_;rintro e w' ⟨rfl,rfl⟩)
   |(go_at_call 271;refine HW.out.mono ?_;rintro e w' ⟨rfl,rfl⟩))
  go_ret2
  refine ⟨?_,Step.of _ _⟩
  simp
theorem run_eql_nil {P:Program} {t e:TypeId} (h:P.underlying t=some (.slice e)) (a:Option Addr) (n c:Nat) (w:World):
  (binOp .eql t (.slice a n c) (.slice none 0 0)).run P w= .ok (.bool a.isNone) w:=by
 simp only [binOp]
 simp [Op.equal,Op.maxDepth,Lib.run_equalIn_slice_nil w 9999 t e a n c 0 0 h]
def RetClone (w:World) (e:TypeId) (k:IntKind) (l:List Int) (ev:Ending) (w':World):Prop:=∃B d,ev= .returned (.slice B l.length d)/\Ints w' B e k l/\l.length<=d/\d<=9223372036854775807/\Step w w'
theorem oneCell_ints {k:IntKind} {l:List Int}:∀u∈l.map (Value.int k),u.oneCell'=true:=by
 intro u hu
 obtain ⟨x,_,rfl⟩:=List.mem_map.1 hu
 rfl
theorem Own.empty (w:World) (e:TypeId):Own (w.alloc (.cells #[] e)) w.heap.size e 1 (some ⟨w.heap.size,0,none⟩) 0 0 []:=
 ⟨by simp,.inr ⟨w.heap.size,0,#[],rfl,Nat.le_refl _,heap_alloc_new w _,Nat.le_refl _,by simp [maxLen],by simp,by simp⟩⟩
theorem CloneU_any {w0 w:World} {A:Option Addr} {c:Nat} {l:List Int} (h:Ints w0 A 280 .u32 l) (hl:l.length<=1099511627776) [hx:Ext w0 w]:
  Calls Tryz.prog 281 #[.slice A l.length c] w (RetClone w 280 .u32 l):=by
 have hq:=run_eql_nil (P:=Tryz.prog) Tryz.underlying115
 have h1:=h.ext hx
 cases A with
 |none=>
  have h0:l=[]:=by
   rcases Nat.eq_zero_or_pos l.length with h0 |h0
   ·exact List.eq_nil_of_length_eq_zero h0
   ·obtain ⟨b,o,cs,fr,hh,_⟩:=h1 (by simpa using h0)
    cases hh
  subst h0
  go_enter Tryz.func281,Tryz.ntmps281
  go_wp2
  go_ret
  exact ⟨none,0,rfl,Ints.nil,by simp,by omega,Step.of _ _⟩
 |some ad=>
  go_enter Tryz.func281,Tryz.ntmps281
  go_wp2_with (at_builtin;refine wpList_app _ rfl _ _ 115 rfl w.heap.size 280 (.int .u32 0) 1 4 Tryz.underlying115 Tryz.infoU32 rfl (by omega) (by omega) _ 0 _ [] rfl (Own.empty w _) _ l.length c (l.map (Value.int .u32)) rfl (Arr.ext h1 inferInstance) (by simp) oneCell_ints (by omega) (by simp) ?_;intro A1 c1 w1 hown hg)
  go_ret
  have hcap:=hown.cap
  have hxx:Ext w w1:=hg.ext inferInstance (Nat.le_refl _)
  exact ⟨A1,c1,by simp,hown.arr,by omega,by omega,hxx.toStep⟩
def NatV (w:World) (A:Option Addr) (n c:Nat) (z:Int):Prop:=∃l:List Int,n=l.length/\Ints w A 280 .u32 l/\Limbs l/\Tight l/\val l=z/\n<=c/\c<=9223372036854775807
theorem NatV.ext {w w':World} {A:Option Addr} {n c:Nat} {z:Int} (h:NatV w A n c z) (hx:Ext w w'):NatV w' A n c z:=by
 obtain ⟨l,h1,h2,h3⟩:=h
 exact ⟨l,h1,h2.ext hx,h3⟩
theorem NatV.nil (w:World):NatV w none 0 0 0:=⟨[],rfl,Ints.nil,Limbs.nil,Tight.nil,rfl,Nat.le_refl _,by omega⟩
theorem NatV.zero_iff {w:World} {A:Option Addr} {n c:Nat} {z:Int} (h:NatV w A n c z):n=0↔z=0:=by
 obtain ⟨l,rfl,_,h2,h3,h4,_⟩:=h
 have :=tight_zero h2 h3
 constructor
 ·intro hn
  have hl:=List.eq_nil_of_length_eq_zero hn
  subst hl
  simpa [val] using h4.symm
 ·rintro rfl
  have :=this.1 h4
  subst this;rfl
theorem NatV.nonneg {w:World} {A:Option Addr} {n c:Nat} {z:Int} (h:NatV w A n c z):0<=z:=by
 obtain ⟨l,rfl,_,h2,h3,h4,_⟩:=h
 rw [<-h4];exact val_nonneg h2
theorem NatV.len {w:World} {A:Option Addr} {n c:Nat} {z:Int} (h:NatV w A n c z) {k:Nat} (hz:z<(4294967296:Int)^k):n<=k:=by
 obtain ⟨l,rfl,_,h2,h3,h4,_⟩:=h
 exact length_le_of_val h2 h3 (by rw [h4];exact hz)
theorem NatV.of_ret {w w':World} {z:Int} {e:Ending} (h:RetNat w z e w'):∃B n d,e= .returned (.slice B n d)/\NatV w' B n d z/\Step w w':=by
 obtain ⟨B,d,l,rfl,h1,h2,h3,h4,h5,h6,h7⟩:=h
 exact ⟨B,l.length,d,rfl,⟨l,rfl,h1,h2,h3,h4,h5,h6⟩,h7⟩
theorem IntV.nat {w:World} {neg:Bool} {A:Option Addr} {n c:Nat} {z:Int} (h:IntV w neg A n c z):NatV w A n c z.natAbs:=by
 obtain ⟨l,h1,h2,h3,h4,h5,h6,h7,h8⟩:=h
 exact ⟨l,h1,h6,h2,h3,h4,h7,h8⟩
theorem buildN_any {w0 w:World} {A:Option Addr} {n c:Nat} {z:Int} (neg:Bool) (h:NatV w0 A n c z) [hx:Ext w0 w]:
  Calls Tryz.prog 268 #[.bool neg,.slice A n c] w (RetInt w (sgn neg z)):=by
 obtain ⟨l,rfl,h1,h2,h3,rfl,h5,h6⟩:=h
 exact build_any neg h1 h2 h3 h5 h6
theorem compareN_any {w0 w1 w:World} {A B:Option Addr} {n k c d:Nat} {x y:Int} (ha:NatV w0 A n c x) (hb:NatV w1 B k d y) [hx:Ext w0 w] [hy:Ext w1 w]:
  Calls Tryz.prog 303 #[.slice A n c,.slice B k d] w (RetVal w (.int .i64 (cmpI x y))):=by
 obtain ⟨l,rfl,h1,h2,h3,rfl,h5,h6⟩:=ha
 obtain ⟨m,rfl,g1,g2,g3,rfl,g5,g6⟩:=hb
 exact compareNat_any h1 g1 h2 g2 h3 g3 (by omega) (by omega)
theorem addN_any {w0 w1 w:World} {A B:Option Addr} {n k c d:Nat} {x y:Int} (ha:NatV w0 A n c x) (hb:NatV w1 B k d y) (h1:n<=1099511627776) (h2:k<=1099511627776) [hx:Ext w0 w] [hy:Ext w1 w]:
  Calls Tryz.prog 295 #[.slice A n c,.slice B k d] w (RetNat w (x+y)):=by
 obtain ⟨l,rfl,a1,a2,a3,rfl,a5,a6⟩:=ha
 obtain ⟨m,rfl,g1,g2,g3,rfl,g5,g6⟩:=hb
 exact addNat_any a1 g1 a2 g2 h1 h2
theorem subN_any {w0 w1 w:World} {A B:Option Addr} {n k c d:Nat} {x y:Int} (ha:NatV w0 A n c x) (hb:NatV w1 B k d y) (h1:n<=1099511627776) (h2:y<=x) [hx:Ext w0 w] [hy:Ext w1 w]:
  Calls Tryz.prog 296 #[.slice A n c,.slice B k d] w (RetNat w (x-y)):=by
 obtain ⟨l,rfl,a1,a2,a3,rfl,a5,a6⟩:=ha
 obtain ⟨m,rfl,g1,g2,g3,rfl,g5,g6⟩:=hb
 refine subNat_any a1 g1 a2 g2 h1 ?_ h2
 rcases Nat.lt_or_ge l.length m.length with h |h
 ·have :=tight_len_lt a2 g2 g3 h;omega
 ·exact h
theorem wordN_any {w0 w:World} {A:Option Addr} {n c:Nat} {z:Int} (h:NatV w0 A n c z) (h2:n<=2) [hx:Ext w0 w]:
  Calls Tryz.prog 271 #[.slice A n c] w (RetSame w (.int .u64 z)):=by
 obtain ⟨l,rfl,a1,a2,a3,rfl,a5,a6⟩:=h
 exact word_any (a1.ext hx) a2 h2
theorem cloneN_any {w0 w:World} {A:Option Addr} {n c:Nat} {z:Int} (h:NatV w0 A n c z) (h2:n<=1099511627776) [hx:Ext w0 w]:
  Calls Tryz.prog 281 #[.slice A n c] w (RetNat w z):=by
 obtain ⟨l,rfl,a1,a2,a3,rfl,a5,a6⟩:=h
 refine (CloneU_any (c:=c) a1 h2).mono ?_
 rintro e w' ⟨B,d,rfl,h1,h3,h4,h5⟩
 exact ⟨B,d,l,rfl,h1,a2,a3,rfl,h3,h4,h5⟩
def RetNat2 (w:World) (q r:Int) (e:Ending) (w':World):Prop:=∃B n d B' n' d',e= .returned (.tuple #[.slice B n d,.slice B' n' d'])/\NatV w' B n d q/\NatV w' B' n' d' r/\Step w w'
theorem divNat_small {w0 w1 w:World} {A B:Option Addr} {n k c d:Nat} {x y:Int} (ha:NatV w0 A n c x) (hb:NatV w1 B k d y) (h1:x<18446744073709551616) (hy0:0<y) (hy1:y<18446744073709551616) [hx:Ext w0 w] [hy:Ext w1 w]:
  Calls Tryz.prog 294 #[.slice A n c,.slice B k d] w (RetNat2 w (x / y) (x%y)):=by
 have hn2:n<=2:=ha.len (k:=2) (by omega)
 have hk2:k<=2:=hb.len (k:=2) (by omega)
 have hx0:=ha.nonneg
 by_cases hlt:x<y
 ·have hc:=cmpI_lt hlt
  have HQ:=Lib.hid (show x / y=0 from Int.ediv_eq_zero_of_lt hx0 hlt)
  have HR:=Lib.hid (show x%y=x from Int.emod_eq_of_lt hx0 hlt)
  go_enter Tryz.func294,Tryz.ntmps294
  go_wp2_with fail
  refine (compareN_any ha hb).mono ?_
  rintro e w2 ⟨rfl,hs2⟩
  go_wp2_with fail
  refine (cloneN_any ha (by omega)).mono ?_
  intro e w3 hr
  obtain ⟨B3,n3,d3,rfl,hn3,hs3⟩:=NatV.of_ret hr
  go_wp2
  go_ret2
  exact ⟨_,_,_,_,_,_,rfl,by rw [HQ.out];exact NatV.nil _,by rw [HR.out];exact hn3,Step.of _ _⟩
 ·have hc:0<=cmpI x y:=by unfold cmpI;split;omega;split<;>decide
  have hq0:0<=x / y:=Int.ediv_nonneg hx0 (by omega)
  have hq1:x / y<=x:=Int.ediv_le_self y hx0
  have hr0:0<=x%y:=Int.emod_nonneg x (by omega)
  have hr1:x%y<y:=Int.emod_lt_of_pos x hy0
  have hyb:(y==0)=false:=by simp;omega
  go_enter Tryz.func294,Tryz.ntmps294
  go_wp2_with fail
  refine (compareN_any ha hb).mono ?_
  rintro e w2 ⟨rfl,hs2⟩
  go_wp2_with fail
  refine (wordN_any ha hn2).mono ?_
  rintro e w3 ⟨rfl,rfl⟩
  go_wp2_with fail
  refine (wordN_any hb hk2).mono ?_
  rintro e w3 ⟨rfl,rfl⟩
  go_wp2_with fail
  have hyn:¬y=0:=by omega
  have e1:x.tdiv y=x / y:=Int.tdiv_eq_ediv_of_nonneg hx0
  have e2:x.tmod y=x%y:=Int.tmod_eq_emod_of_nonneg hx0
  have e3:IntKind.u64.wrap (x / y)=x / y:=by rw [IntKind.wrap_u64];omega
  have e4:IntKind.u64.wrap (x%y)=x%y:=by rw [IntKind.wrap_u64];omega
  go_region_held3 (fun _=>True) (trivial)
   (first
    |(go_at_call_of 269 (Value.int IntKind.u64 (x / y));refine (fromWord_any (x / y) hq0 (by omega) _).mono ?_;intro e w4 hr;obtain ⟨B4,n4,d4,rfl,hn4,hs4⟩:=NatV.of_ret hr;clear hr)
    |(go_at_call_of 269 (Value.int IntKind.u64 (x%y));refine (fromWord_any (x%y) hr0 (by omega) _).mono ?_;intro e w5 hr;obtain ⟨B5,n5,d5,rfl,hn5,hs5⟩:=NatV.of_ret hr;clear hr))
  go_wp2
  go_ret2
  exact ⟨_,_,_,_,_,_,rfl,hn4.ext inferInstance,hn5,Step.of _ _⟩
def RetInt2 (w:World) (q r:Int) (b:Bool) (e:Ending) (w':World):Prop:=∃g B n d g' B' n' d',e= .returned (.tuple #[.agg #[.bool g,.slice B n d],.agg #[.bool g',.slice B' n' d'],.bool b])/\IntV w' g B n d q/\IntV w' g' B' n' d' r/\Step w w'
theorem box4 (w w':World) (x0 y0 x1 y1 x2 y2 x3 y3:Value) (T:TypeId) [h:Ext ((((w.alloc (.cells #[x0,y0] T)).alloc (.cells #[x1,y1] T)).alloc (.cells #[x2,y2] T)).alloc (.cells #[x3,y3] T)) w']:
  (w'.cell? ⟨w.heap.size,0,none⟩=some x0/\w'.cell? ⟨w.heap.size,1,none⟩=some y0/\w'.cell? ⟨w.heap.size+1,0,none⟩=some x1/\w'.cell? ⟨w.heap.size+1,1,none⟩=some y1)/\
  (w'.heap[w.heap.size+1+1]? =some (.cells #[x2,y2] T (0,0))/\w'.cell? ⟨w.heap.size+1+1,0,none⟩=some x2/\w'.cell? ⟨w.heap.size+1+1,1,none⟩=some y2/\w'.frozen? ⟨w.heap.size+1+1,0,none⟩=false/\w'.frozen? ⟨w.heap.size+1+1,1,none⟩=false/\w.heap.size+1+1<w'.heap.size)/\
  (w'.heap[w.heap.size+1+1+1]? =some (.cells #[x3,y3] T (0,0))/\w'.cell? ⟨w.heap.size+1+1+1,0,none⟩=some x3/\w'.cell? ⟨w.heap.size+1+1+1,1,none⟩=some y3/\w'.frozen? ⟨w.heap.size+1+1+1,0,none⟩=false/\w'.frozen? ⟨w.heap.size+1+1+1,1,none⟩=false/\w.heap.size+1+1+1<w'.heap.size):=by
 have h2:Ext ((w.alloc (.cells #[x0,y0] T)).alloc (.cells #[x1,y1] T)) w':=Ext.trans inferInstance h
 have h3:Ext (((w.alloc (.cells #[x0,y0] T)).alloc (.cells #[x1,y1] T)).alloc (.cells #[x2,y2] T)) w':=Ext.trans inferInstance h
 exact ⟨boxes2 w w' x0 y0 x1 y1 T T,box2_2 w w' (.cells #[x0,y0] T) (.cells #[x1,y1] T) x2 y2 T,box2At (((w.alloc (.cells #[x0,y0] T)).alloc (.cells #[x1,y1] T)).alloc (.cells #[x2,y2] T)) w' _ x3 y3 T (by simp)⟩
theorem heap_setCell_far {w:World} {s:Nat} {o:Obj} (h:w.heap[s]? =some o) {p:Addr} (hp:s≠p.block) (u:Value):(w.setCell p u).heap[s]? =some o:=(Below.heap_setCell w p u s hp).trans h
theorem IntV.boxed4 {w:World} {g:Bool} {B:Option Addr} {k d:Nat} {z:Int} (hz:IntV w g B k d z) {s s':Nat} (hss:s≠s') {cs cs':Array Value} {T T':TypeId} (hT:280≠T) (hT':280≠T') (q:w.heap[s]? =some (.cells cs T (0,0))) (q':w.heap[s']? =some (.cells cs' T' (0,0))) (u v u' v':Value):
  IntV ((((w.setCell ⟨s,0,none⟩ u).setCell ⟨s,1,none⟩ v).setCell ⟨s',0,none⟩ u').setCell ⟨s',1,none⟩ v') g B k d z:=
 (hz.boxed hT q u v).boxed hT' (heap_setCell_far (heap_setCell_far q' (fun h=>hss h.symm) _) (fun h=>hss h.symm) _) u' v'
theorem div_pos_case (x y:Int) (hx:0<=x) (hy:y≠0):sgn (decide (y<0)) ((x.natAbs:Int) / y.natAbs)=x / y/\(x.natAbs:Int)%y.natAbs=x%y:=by
 have e1:(x.natAbs:Int)=x:=by omega
 rw [e1]
 rcases (by omega:(y.natAbs:Int)=y∨(y.natAbs:Int)=-y) with h |h
 ·have :¬y<0:=by omega
  rw [h];simp [sgn,this]
 ·have :y<0:=by omega
  rw [h];simp [sgn,this,Int.ediv_neg,Int.emod_neg]
theorem div_neg_exact (x y:Int) (hx:x<0) (hy:y≠0) (hr:(x.natAbs:Int)%y.natAbs=0):sgn (!decide (y<0)) ((x.natAbs:Int) / y.natAbs)=x / y/\(x.natAbs:Int)%y.natAbs=x%y:=by
 have e1:(x.natAbs:Int)=-x:=by omega
 have hd:(y.natAbs:Int)∣x:=by
  have :=Int.dvd_of_emod_eq_zero hr
  rw [e1] at this
  exact (Int.dvd_neg).1 this
 rw [hr,e1]
 rcases (by omega:(y.natAbs:Int)=y∨(y.natAbs:Int)=-y) with h |h
 ·have :¬y<0:=by omega
  rw [h] at hd |-;simp [sgn,this,Int.neg_ediv_of_dvd hd,Int.emod_eq_zero_of_dvd hd]
 ·have :y<0:=by omega
  rw [h] at hd |-
  have hd':y∣x:=(Int.neg_dvd).1 hd
  simp [sgn,this,Int.ediv_neg,Int.neg_ediv_of_dvd hd',Int.emod_eq_zero_of_dvd hd']
theorem div_neg_case (x y:Int) (hx:x<0) (hy:y≠0) (hr:(x.natAbs:Int)%y.natAbs≠0):sgn (!decide (y<0)) ((x.natAbs:Int) / y.natAbs+1)=x / y/\(y.natAbs:Int)-(x.natAbs:Int)%y.natAbs=x%y:=by
 have hY:0<(y.natAbs:Int):=by omega
 generalize hYY:(y.natAbs:Int)=Y at*
 have e1:(x.natAbs:Int)=-x:=by omega
 rw [e1] at hr |-
 have h1:=Int.emod_nonneg (-x) (show Y≠0 by omega)
 have h2:=Int.emod_lt_of_pos (-x) hY
 have h3:Y*(-x / Y)+-x%Y=-x:=Int.mul_ediv_add_emod (-x) Y
 have hq:x / Y=-(-x / Y+1)/\x%Y=Y- -x%Y:=by
  have h4:x=(Y- -x%Y)+Y*(-(-x / Y+1)):=by
   rw [Int.mul_neg,Int.mul_add,Int.mul_one];omega
  constructor
  ·conv=>lhs;rw [h4]
   rw [Int.add_mul_ediv_left _ _ (by omega),Int.ediv_eq_zero_of_lt (by omega) (by omega)];omega
  ·conv=>lhs;rw [h4]
   rw [Int.add_mul_emod_self_left,Int.emod_eq_of_lt (by omega) (by omega)]
 rcases (by omega:Y=y∨Y=-y) with h |h
 ·have :¬y<0:=by omega
  rw [<-h];rw [hq.1,hq.2];simp [sgn];omega
 ·have hy':y<0:=by omega
  have :y=-Y:=by omega
  rw [this,Int.ediv_neg,Int.emod_neg,hq.1,hq.2]
  simp [sgn];omega
theorem one_nat (w:World):NatV (w.alloc (.cells #[.int .u32 1] 280)) (some ⟨w.heap.size,0,none⟩) 1 1 1:=
 ⟨[1],rfl,Arr.new w 280 #[.int .u32 1],Limbs.cons (by omega) Limbs.nil,by simp [Tight],by simp [val],Nat.le_refl _,by omega⟩
theorem DivMod_small {w0 w1 w:World} {na nb:Bool} {A B:Option Addr} {n k c d:Nat} {x y:Int} (ha:IntV w0 na A n c x) (hb:IntV w1 nb B k d y)
  (h1:x.natAbs<18446744073709551616) (hy0:y≠0) (h2:y.natAbs<18446744073709551616) [hx:Ext w0 w] [hy:Ext w1 w]:
  Calls Tryz.prog 282 #[.agg #[.bool na,.slice A n c],.agg #[.bool nb,.slice B k d]] w (RetInt2 w (x / y) (x%y) true):=by
 have hn2:n<=2:=ha.len (k:=2) (by omega)
 have hk2:k<=2:=hb.len (k:=2) (by omega)
 have hk0:((k:Int)==0)=false:=by simp;exact fun h=>hy0 (hb.zero_iff.1 h)
 have hna:=ha.neg_eq
 have hnb:=hb.neg_eq
 have hdn:=divNat_small (w:=(((w.alloc (.cells #[.bool na,.slice A n c] 117)).alloc (.cells #[.bool nb,.slice B k d] 117)).alloc (.cells #[.bool false,.slice none 0 0] 117)).alloc (.cells #[.bool false,.slice none 0 0] 117)) ha.nat hb.nat (by omega) (by omega) (by omega)
 have hr0:=Int.emod_nonneg (x.natAbs:Int) (show (y.natAbs:Int)≠0 by omega)
 have hr1:=Int.emod_lt_of_pos (x.natAbs:Int) (show 0<(y.natAbs:Int) by omega)
 have hq0:0<=(x.natAbs:Int) / y.natAbs:=Int.ediv_nonneg (by omega) (by omega)
 have hq1:(x.natAbs:Int) / y.natAbs<=x.natAbs:=Int.ediv_le_self _ (by omega)
 by_cases hneg:x<0
 ·obtain rfl:na=true:=by simp [hna,hneg]
  by_cases hrz:(x.natAbs:Int)%y.natAbs=0
  ·have HE:=Lib.hid (div_neg_exact x y hneg hy0 hrz)
   rw [<-hnb] at HE
   have HR:=Lib.hid hrz
   generalize (x.natAbs:Int) / y.natAbs=q at*
   generalize (x.natAbs:Int)%y.natAbs=r at*
   have HD:=Lib.hid hdn
   clear hna hnb hdn hrz
   go_enter Tryz.func282,Tryz.ntmps282
   go_wp2_with fail
   refine (trimV_any hb).mono ?_
   rintro e w' ⟨rfl,rfl⟩
   go_wp2_with fail
   refine (trimV_any ha).mono ?_
   rintro e w' ⟨rfl,rfl⟩
   go_wp2_with fail
   refine HD.out.mono ?_
   rintro e w2 ⟨B2,n2,d2,B3,n3,d3,rfl,hq,hr,hs2⟩
   obtain ⟨⟨c1,c2,c3,c4⟩,-,-⟩:=box4 w w2 (.bool true) (.slice A n c) (.bool nb) (.slice B k d) (.bool false) (.slice none 0 0) (.bool false) (.slice none 0 0) 117
   have hn3:n3=0:=hr.zero_iff.2 HR.out
   subst hn3
   go_wp2_with fail
   refine (buildN_any _ hq).mono ?_
   rintro e w4 ⟨g4,B4,n4,d4,rfl,hz4,hs4⟩
   go_wp2_with fail
   refine (buildN_any _ hr).mono ?_
   rintro e w5 ⟨g5,B5,n5,d5,rfl,hz5,hs5⟩
   obtain ⟨-,⟨p0,p1,p2,p3,p4,p5⟩,⟨q0,q1,q2,q3,q4,q5⟩⟩:=box4 w w5 (.bool true) (.slice A n c) (.bool nb) (.slice B k d) (.bool false) (.slice none 0 0) (.bool false) (.slice none 0 0) 117
   have P0:=Lib.hid p0
   have Q0:=Lib.hid q0
   clear p0 q0
   go_wp2
   refine bodyPost_ret (v:= .tuple #[.agg #[.bool g4,.slice B4 n4 d4],.agg #[.bool g5,.slice B5 n5 d5],.bool true]) (by simp [results,Tryz.results282,go_sem,p1,p2,q1,q2]) rfl ⟨_,_,_,_,_,_,_,_,rfl,?_,?_,Step.of _ _⟩
   ·rw [<-HE.out.1]
    exact (hz4.ext hs5.ext).boxed4 (by omega) (by decide) (by decide) P0.out Q0.out _ _ _ _
   ·rw [<-HE.out.2]
    exact hz5.boxed4 (by omega) (by decide) (by decide) P0.out Q0.out _ _ _ _
  ·have HE:=Lib.hid (div_neg_case x y hneg hy0 hrz)
   rw [<-hnb] at HE
   have HR:=Lib.hid hrz
   generalize (x.natAbs:Int) / y.natAbs=q at*
   generalize (x.natAbs:Int)%y.natAbs=r at*
   have HD:=Lib.hid hdn
   clear hna hnb hdn hrz
   go_enter Tryz.func282,Tryz.ntmps282
   go_wp2_with fail
   refine (trimV_any hb).mono ?_
   rintro e w' ⟨rfl,rfl⟩
   go_wp2_with fail
   refine (trimV_any ha).mono ?_
   rintro e w' ⟨rfl,rfl⟩
   go_wp2_with fail
   refine HD.out.mono ?_
   rintro e w2 ⟨B2,n2,d2,B3,n3,d3,rfl,hq,hr,hs2⟩
   obtain ⟨⟨c1,c2,c3,c4⟩,-,-⟩:=box4 w w2 (.bool true) (.slice A n c) (.bool nb) (.slice B k d) (.bool false) (.slice none 0 0) (.bool false) (.slice none 0 0) 117
   have hn3:0<n3:=Nat.pos_of_ne_zero fun h=>HR.out (hr.zero_iff.1 h)
   have hn2':n2<=2:=hq.len (k:=2) (by omega)
   have hn3b:decide ((0:Int)<(n3:Int))=true:=by simpa using hn3
   go_wp2_with fail
   refine (addN_any hq (one_nat w2) (by omega) (by omega)).mono ?_
   intro e w6 hr6
   obtain ⟨B6,n6,d6,rfl,hn6,hs6⟩:=NatV.of_ret hr6
   clear hr6
   go_wp2_with fail
   refine (subN_any hb.nat hr (by omega) (by omega)).mono ?_
   intro e w7 hr7
   obtain ⟨B7,n7,d7,rfl,hn7,hs7⟩:=NatV.of_ret hr7
   clear hr7
   go_wp2_with fail
   refine (buildN_any _ hn6).mono ?_
   rintro e w4 ⟨g4,B4,n4,d4,rfl,hz4,hs4⟩
   go_wp2_with fail
   refine (buildN_any _ hn7).mono ?_
   rintro e w5 ⟨g5,B5,n5,d5,rfl,hz5,hs5⟩
   obtain ⟨-,⟨p0,p1,p2,p3,p4,p5⟩,⟨q0,q1,q2,q3,q4,q5⟩⟩:=box4 w w5 (.bool true) (.slice A n c) (.bool nb) (.slice B k d) (.bool false) (.slice none 0 0) (.bool false) (.slice none 0 0) 117
   have P0:=Lib.hid p0
   have Q0:=Lib.hid q0
   clear p0 q0
   go_wp2
   refine bodyPost_ret (v:= .tuple #[.agg #[.bool g4,.slice B4 n4 d4],.agg #[.bool g5,.slice B5 n5 d5],.bool true]) (by simp [results,Tryz.results282,go_sem,p1,p2,q1,q2]) rfl ⟨_,_,_,_,_,_,_,_,rfl,?_,?_,Step.of _ _⟩
   ·rw [<-HE.out.1]
    exact (hz4.ext hs5.ext).boxed4 (by omega) (by decide) (by decide) P0.out Q0.out _ _ _ _
   ·rw [<-HE.out.2]
    exact hz5.boxed4 (by omega) (by decide) (by decide) P0.out Q0.out _ _ _ _
 ·obtain rfl:na=false:=by simp [hna];omega
  ·have HE:=Lib.hid (div_pos_case x y (by omega) hy0)
   rw [<-hnb] at HE
   generalize (x.natAbs:Int) / y.natAbs=q at*
   generalize (x.natAbs:Int)%y.natAbs=r at*
   have HD:=Lib.hid hdn
   clear hna hnb hdn
   go_enter Tryz.func282,Tryz.ntmps282
   go_wp2_with fail
   refine (trimV_any hb).mono ?_
   rintro e w' ⟨rfl,rfl⟩
   go_wp2_with fail
   refine (trimV_any ha).mono ?_
   rintro e w' ⟨rfl,rfl⟩
   go_wp2_with fail
   refine HD.out.mono ?_
   rintro e w2 ⟨B2,n2,d2,B3,n3,d3,rfl,hq,hr,hs2⟩
   obtain ⟨⟨c1,c2,c3,c4⟩,-,-⟩:=box4 w w2 (.bool false) (.slice A n c) (.bool nb) (.slice B k d) (.bool false) (.slice none 0 0) (.bool false) (.slice none 0 0) 117
   go_wp2_with fail
   refine (buildN_any _ hq).mono ?_
   rintro e w4 ⟨g4,B4,n4,d4,rfl,hz4,hs4⟩
   go_wp2_with fail
   refine (buildN_any _ hr).mono ?_
   rintro e w5 ⟨g5,B5,n5,d5,rfl,hz5,hs5⟩
   obtain ⟨-,⟨p0,p1,p2,p3,p4,p5⟩,⟨q0,q1,q2,q3,q4,q5⟩⟩:=box4 w w5 (.bool false) (.slice A n c) (.bool nb) (.slice B k d) (.bool false) (.slice none 0 0) (.bool false) (.slice none 0 0) 117
   have P0:=Lib.hid p0
   have Q0:=Lib.hid q0
   clear p0 q0
   go_wp2
   refine bodyPost_ret (v:= .tuple #[.agg #[.bool g4,.slice B4 n4 d4],.agg #[.bool g5,.slice B5 n5 d5],.bool true]) (by simp [results,Tryz.results282,go_sem,p1,p2,q1,q2]) rfl ⟨_,_,_,_,_,_,_,_,rfl,?_,?_,Step.of _ _⟩
   ·rw [<-HE.out.1]
    exact (hz4.ext hs5.ext).boxed4 (by omega) (by decide) (by decide) P0.out Q0.out _ _ _ _
   ·rw [<-HE.out.2]
    exact hz5.boxed4 (by omega) (by decide) (by decide) P0.out Q0.out _ _ _ _
theorem infoInt:(Tryz.prog.info? 117).map (fun i=>(i.zero,i.size,i.bytes))=some (some (.agg #[.bool false,.slice none 0 0]),2,32):=by kernel_rfl
theorem infoSlInt:(Tryz.prog.info? 104).map (fun i=>(i.zero,i.size,i.bytes))=some (some (.slice none 0 0),1,24):=by kernel_rfl
theorem infoSlSlInt:(Tryz.prog.info? 73).map (fun i=>(i.zero,i.size,i.bytes))=some (some (.slice none 0 0),1,24):=by kernel_rfl
theorem infoI64:(Tryz.prog.info? 2).map (fun i=>(i.zero,i.size,i.bytes))=some (some (.int .i64 0),1,8):=by kernel_rfl
theorem infoInt_:(Tryz.prog.info? 3).map (fun i=>(i.zero,i.size,i.bytes))=some (some (.int .i64 0),1,8):=by kernel_rfl
theorem infoSlI64:(Tryz.prog.info? 35).map (fun i=>(i.zero,i.size,i.bytes))=some (some (.slice none 0 0),1,24):=by kernel_rfl
/-! ## A row of any values that the call made: known whole -/
def VRow (w:World) (g:Nat) (e:TypeId) (vs:List Value):Prop:=w.heap[g]? =some (.cells vs.toArray e (0,0))
section
variable {w w':World} {g:Nat} {e:TypeId} {vs:List Value}
theorem VRow.lt (h:VRow w g e vs):g<w.heap.size:=lt_of_heap h
theorem VRow.cell (h:VRow w g e vs) {i:Nat} {u:Value} (hu:vs[i]? =some u):w.cell? ⟨g,i,none⟩=some u:=by
 rw [cell_of_row w g i _ e (0,0) h];simpa using hu
theorem VRow.frozen (h:VRow w g e vs) (i:Nat):w.frozen? ⟨g,i,none⟩=false:=by
 unfold VRow at h
 simp [World.frozen?,h]
theorem VRow.set (h:VRow w g e vs) (i:Nat) (u:Value):VRow (w.setCell ⟨g,i,none⟩ u) g e (vs.set i u):=by
 unfold VRow at h |-
 rw [heap_setCell_self' h]
 simp
theorem VRow.ext (h:VRow w g e vs) (hx:Ext w w'):VRow w' g e vs:=heap_of_ext hx h
theorem VRow.far (h:VRow w g e vs) {p:Addr} (hp:g≠p.block) (u:Value):VRow (w.setCell p u) g e vs:=(Below.heap_setCell w p u g hp).trans h
theorem VRow.new (w:World) (e:TypeId) (cs:Array Value):VRow (w.alloc (.cells cs e)) w.heap.size e cs.toList:=heap_alloc_new w _
theorem VRow.arr (h:VRow w g e vs):Arr w (some ⟨g,0,none⟩) e vs:=fun _=>⟨g,0,_,_,rfl,h,fun j u hu=>by simpa using hu⟩
theorem VRow.drewN (h:VRow w g e vs) (n:Nat):VRow (w.drewN n) g e vs:=h
end
def mkCells (z:Array Value) (n:Nat):Array Value:=madeCells z n
theorem run_make_any {P:Program} {t e:TypeId} {z:Value} {size by_:Nat} (ht:P.underlying t=some (.slice e)) (hi:(P.info? e).map (fun i=>(i.zero,i.size,i.bytes))=some (some z,size,by_)) (h8:by_<=128)
  (n:Int) (h0:0<=n) (h1:n<=1099511627776) (w:World):
  (Instr.makeSlice t (.int .i64 n) (.int .i64 n)).run P w= .ok (.slice (some ⟨w.heap.size,0,none⟩) n.toNat n.toNat) (w.alloc (.cells (mkCells z.cells (n.toNat*size)) e)):=by
 obtain ⟨i,hi1,hz,hs,hb⟩:=info_parts hi
 have hb':(i.bytes:Int)*n<=128*n:=Int.mul_le_mul_of_nonneg_right (by omega) h0
 rw [run_make (P:=P) w t e i z ht hi1 hz .i64 .i64 n n h0 (Int.le_refl _) (by omega) (by omega),hs]
 rfl
theorem mkCells_size (z:Array Value) (n:Nat):(mkCells z n).toList.length=n:=by simp [mkCells,size_madeCells]
theorem mkCells_one (z:Value) (n:Nat):(mkCells #[z] n).toList=List.replicate n z:=toList_madeCells_one z n
theorem mkCells_get (z:Array Value) (n i:Nat) (hi:i<n) (hz:0<z.size):(mkCells z n).toList[i]? =some (z[i%z.size]'(Nat.mod_lt _ hz)):=by
 simp [mkCells,madeCells,hi,Nat.mod_lt _ hz]
/-! ## Calls of function values -/
def IsFn (f:FuncId):Prop:=∀(args:Array Value) (w:World),(callFunc f args).run Tryz.prog w= .ok (.enter f args) w
theorem isFn_of {f : FuncId} {fn : Func} (hf : Tryz.prog.funcs[f]? = some fn) (hname : (fn.name == "runtime.NumGoroutine") = false) (hb : fn.body.isNone = false) : IsFn f := fun args w => by
 have h1 : fn.name ≠ "runtime.NumGoroutine" := by simpa using hname
 have h2:¬fn.body=none:=by intro h;rw [h] at hb;simp at hb
 simp [callFunc,hf,h1,h2]
/-! ## Slices of integers of any size; matrices -/
def IntsV (w:World) (A:Option Addr) (zs:List Int):Prop:=
 ∃vs:List Value,vs.length=zs.length*2/\Arr w A 117 vs/\∀(i:Nat) (z:Int),zs[i]? =some z->∃g B n c,vs[i*2]? =some (.bool g)/\vs[i*2+1]? =some (.slice B n c)/\IntV w g B n c z
theorem IntsV.ext {w w':World} {A:Option Addr} {zs:List Int} (h:IntsV w A zs) (hx:Ext w w'):IntsV w' A zs:=by
 obtain ⟨vs,h1,h2,h3⟩:=h
 refine ⟨vs,h1,h2.ext hx,fun i z hz=>?_⟩
 obtain ⟨g,B,n,c,a1,a2,a3⟩:=h3 i z hz
 exact ⟨g,B,n,c,a1,a2,a3.ext hx⟩
theorem IntsV.grow {w w':World} {base:Nat} {e:TypeId} {A:Option Addr} {zs:List Int} (h:IntsV w A zs) (hg:Grow base e w w') (h1:117≠e) (h2:280≠e):IntsV w' A zs:=by
 obtain ⟨vs,a1,a2,a3⟩:=h
 refine ⟨vs,a1,a2.grow hg h1,fun i z hz=>?_⟩
 obtain ⟨g,B,n,c,b1,b2,b3⟩:=a3 i z hz
 exact ⟨g,B,n,c,b1,b2,b3.grow hg h2⟩
theorem IntsV.at_ {w:World} {A:Option Addr} {zs:List Int} (h:IntsV w A zs) {i:Nat} (hi:i<zs.length):
  ∃b o g B n c,A=some ⟨b,o,none⟩/\w.cell? ⟨b,o+i*2,none⟩=some (.bool g)/\w.cell? ⟨b,o+i*2+1,none⟩=some (.slice B n c)/\IntV w g B n c zs[i]/\b<w.heap.size:=by
 obtain ⟨vs,a1,a2,a3⟩:=h
 obtain ⟨g,B,n,c,b1,b2,b3⟩:=a3 i zs[i] (by simp [hi])
 obtain ⟨b,o,rfl,c1,c2⟩:=a2.at_ b1
 obtain ⟨b',o',hh,d1,d2⟩:=a2.at_ b2
 injection hh with hh
 injection hh with h1 h2
 subst h1 h2
 exact ⟨b,o,g,B,n,c,rfl,c1,by rw [Nat.add_assoc];exact d1,b3,c2⟩
theorem IntsV.nil (w:World) (A:Option Addr):IntsV w A []:=⟨[],rfl,Arr.nil,fun i z hz=>by simp at hz⟩
def MatV (w:World) (A:Option Addr) (m:List (List Int)):Prop:=
 ∃vs:List Value,vs.length=m.length/\Arr w A 104 vs/\∀(i:Nat) (r:List Int),m[i]? =some r->∃B c,vs[i]? =some (.slice B r.length c)/\IntsV w B r/\r.length<=c/\c<=9223372036854775807
theorem MatV.ext {w w':World} {A:Option Addr} {m:List (List Int)} (h:MatV w A m) (hx:Ext w w'):MatV w' A m:=by
 obtain ⟨vs,h1,h2,h3⟩:=h
 refine ⟨vs,h1,h2.ext hx,fun i z hz=>?_⟩
 obtain ⟨B,c,a1,a2,a3⟩:=h3 i z hz
 exact ⟨B,c,a1,a2.ext hx,a3⟩
theorem MatV.grow {w w':World} {base:Nat} {e:TypeId} {A:Option Addr} {m:List (List Int)} (h:MatV w A m) (hg:Grow base e w w') (h0:104≠e) (h1:117≠e) (h2:280≠e):MatV w' A m:=by
 obtain ⟨vs,a1,a2,a3⟩:=h
 refine ⟨vs,a1,a2.grow hg h0,fun i z hz=>?_⟩
 obtain ⟨B,c,b1,b2,b3⟩:=a3 i z hz
 exact ⟨B,c,b1,b2.grow hg h1 h2,b3⟩
theorem MatV.at_ {w:World} {A:Option Addr} {m:List (List Int)} (h:MatV w A m) {i:Nat} {r:List Int} (hi:m[i]? =some r):
  ∃b o B c,A=some ⟨b,o,none⟩/\w.cell? ⟨b,o+i,none⟩=some (.slice B r.length c)/\IntsV w B r/\r.length<=c/\c<=9223372036854775807/\b<w.heap.size:=by
 obtain ⟨vs,a1,a2,a3⟩:=h
 obtain ⟨B,c,b1,b2,b3,b4⟩:=a3 i r hi
 obtain ⟨b,o,hA,hc,hb⟩:=a2.at_ b1
 exact ⟨b,o,B,c,hA,hc,b2,b3,b4,hb⟩
def Mat64 (w:World) (A:Option Addr) (m:List (List Int)):Prop:=
 ∃vs:List Value,vs.length=m.length/\Arr w A 35 vs/\∀(i:Nat) (r:List Int),m[i]? =some r->∃B c,vs[i]? =some (.slice B r.length c)/\Ints w B 2 .i64 r/\r.length<=c/\c<=9223372036854775807
theorem Mat64.ext {w w':World} {A:Option Addr} {m:List (List Int)} (h:Mat64 w A m) (hx:Ext w w'):Mat64 w' A m:=by
 obtain ⟨vs,h1,h2,h3⟩:=h
 refine ⟨vs,h1,h2.ext hx,fun i z hz=>?_⟩
 obtain ⟨B,c,a1,a2,a3⟩:=h3 i z hz
 exact ⟨B,c,a1,a2.ext hx,a3⟩
theorem Mat64.grow {w w':World} {base:Nat} {e:TypeId} {A:Option Addr} {m:List (List Int)} (h:Mat64 w A m) (hg:Grow base e w w') (h0:35≠e) (h1:2≠e):Mat64 w' A m:=by
 obtain ⟨vs,a1,a2,a3⟩:=h
 refine ⟨vs,a1,a2.grow hg h0,fun i z hz=>?_⟩
 obtain ⟨B,c,b1,b2,b3⟩:=a3 i z hz
 exact ⟨B,c,b1,b2.grow hg h1,b3⟩
theorem Mat64.at_ {w:World} {A:Option Addr} {m:List (List Int)} (h:Mat64 w A m) {i:Nat} {r:List Int} (hi:m[i]? =some r):
  ∃b o B c,A=some ⟨b,o,none⟩/\w.cell? ⟨b,o+i,none⟩=some (.slice B r.length c)/\Ints w B 2 .i64 r/\r.length<=c/\c<=9223372036854775807/\b<w.heap.size:=by
 obtain ⟨vs,a1,a2,a3⟩:=h
 obtain ⟨B,c,b1,b2,b3,b4⟩:=a3 i r hi
 obtain ⟨b,o,hA,hc,hb⟩:=a2.at_ b1
 exact ⟨b,o,B,c,hA,hc,b2,b3,b4,hb⟩
def IntsA (w:World) (A:Option Addr) (l:List Int):Prop:=∃te,Ints w A te .i64 l
theorem IntsA.ext {w w':World} {A:Option Addr} {l:List Int} (h:IntsA w A l) (hx:Ext w w'):IntsA w' A l:=by
 obtain ⟨te,h⟩:=h
 exact ⟨te,h.ext hx⟩
theorem IntsA.at_ {w:World} {A:Option Addr} {l:List Int} (h:IntsA w A l) {i:Nat} (hi:i<l.length):∃b o x,A=some ⟨b,o,none⟩/\l[i]? =some x/\w.cell? ⟨b,o+i,none⟩=some (.int .i64 x)/\b<w.heap.size:=by
 obtain ⟨te,h⟩:=h
 exact h.at_ hi
def MatA (w:World) (A:Option Addr) (m:List (List Int)):Prop:=
 ∃(te:TypeId) (vs:List Value),vs.length=m.length/\Arr w A te vs/\∀(i:Nat) (r:List Int),m[i]? =some r->∃B c,vs[i]? =some (.slice B r.length c)/\IntsA w B r/\r.length<=c/\c<=9223372036854775807
theorem Mat64.a {w:World} {A:Option Addr} {m:List (List Int)} (h:Mat64 w A m):MatA w A m:=by
 obtain ⟨vs,h1,h2,h3⟩:=h
 refine ⟨_,vs,h1,h2,fun i z hz=>?_⟩
 obtain ⟨B,c,a1,a2,a3⟩:=h3 i z hz
 exact ⟨B,c,a1,⟨_,a2⟩,a3⟩
theorem MatA.ext {w w':World} {A:Option Addr} {m:List (List Int)} (h:MatA w A m) (hx:Ext w w'):MatA w' A m:=by
 obtain ⟨te,vs,h1,h2,h3⟩:=h
 refine ⟨te,vs,h1,h2.ext hx,fun i z hz=>?_⟩
 obtain ⟨B,c,a1,a2,a3⟩:=h3 i z hz
 exact ⟨B,c,a1,a2.ext hx,a3⟩
theorem MatA.at_ {w:World} {A:Option Addr} {m:List (List Int)} (h:MatA w A m) {i:Nat} {r:List Int} (hi:m[i]? =some r):
  ∃b o B c,A=some ⟨b,o,none⟩/\w.cell? ⟨b,o+i,none⟩=some (.slice B r.length c)/\IntsA w B r/\r.length<=c/\c<=9223372036854775807/\b<w.heap.size:=by
 obtain ⟨te,vs,a1,a2,a3⟩:=h
 obtain ⟨B,c,b1,b2,b3,b4⟩:=a3 i r hi
 obtain ⟨b,o,hA,hc,hb⟩:=a2.at_ b1
 exact ⟨b,o,B,c,hA,hc,b2,b3,b4,hb⟩
def StV (w:World) (A:Option Addr) (s:List (List (List Int))):Prop:=
 ∃vs:List Value,vs.length=s.length/\Arr w A 73 vs/\∀(i:Nat) (m:List (List Int)),s[i]? =some m->∃B c,vs[i]? =some (.slice B m.length c)/\MatV w B m/\m.length<=c/\c<=9223372036854775807
theorem StV.ext {w w':World} {A:Option Addr} {s:List (List (List Int))} (h:StV w A s) (hx:Ext w w'):StV w' A s:=by
 obtain ⟨vs,h1,h2,h3⟩:=h
 refine ⟨vs,h1,h2.ext hx,fun i z hz=>?_⟩
 obtain ⟨B,c,a1,a2,a3⟩:=h3 i z hz
 exact ⟨B,c,a1,a2.ext hx,a3⟩
theorem StV.at_ {w:World} {A:Option Addr} {s:List (List (List Int))} (h:StV w A s) {i:Nat} {m:List (List Int)} (hi:s[i]? =some m):
  ∃b o B c,A=some ⟨b,o,none⟩/\w.cell? ⟨b,o+i,none⟩=some (.slice B m.length c)/\MatV w B m/\m.length<=c/\c<=9223372036854775807/\b<w.heap.size:=by
 obtain ⟨vs,a1,a2,a3⟩:=h
 obtain ⟨B,c,b1,b2,b3,b4⟩:=a3 i m hi
 obtain ⟨b,o,hA,hc,hb⟩:=a2.at_ b1
 exact ⟨b,o,B,c,hA,hc,b2,b3,b4,hb⟩
/-! ## Grow, step by step -/
section
variable {w w' w2:World} {base:Nat} {e:TypeId}
theorem Grow.of_ext (h:Ext w w') (hb:base<=w.heap.size):Grow base e w w':=⟨h.below.mono hb,fun k hk _=>h.below.block k hk⟩
theorem Grow.trans (h:Grow base e w w') (h':Ext w' w2) (hb:base<=w.heap.size):Grow base e w w2:=
 ⟨h.below.trans (h'.below.mono (Nat.le_trans hb h.below.size)),fun k hk hne=>(h'.below.block k (Nat.lt_of_lt_of_le hk h.below.size)).trans (h.typed k hk hne)⟩
theorem Grow.alloc (h:Grow base e w w') (hb:base<=w.heap.size) (o:Obj):Grow base e w (w'.alloc o):=h.trans inferInstance hb
theorem Grow.setNew (h:Grow base e w w') {p:Addr} (hp:w.heap.size<=p.block) (hb:base<=w.heap.size) (u:Value):Grow base e w (w'.setCell p u):=
 ⟨h.below.setCell (Nat.le_trans hb hp) u,fun k hk hne=>(Below.heap_setCell w' p u k (by omega)).trans (h.typed k hk hne)⟩
theorem Grow.setOld (h:Grow base e w w') {g:Nat} {cs:Array Value} {fr:Nat×Nat} (hg:w.heap[g]? =some (.cells cs e fr)) (hb:base<=g) {p:Addr} (hp:p.block=g) (u:Value):Grow base e w (w'.setCell p u):=
 ⟨h.below.setCell (by omega) u,fun k hk hne=>(Below.heap_setCell w' p u k (fun hh=>by rw [hp] at hh;subst hh;exact hne _ _ hg)).trans (h.typed k hk hne)⟩
end
def tab (F:Nat->Nat->Int) (rows cols:Nat):List (List Int):=(List.range rows).map fun i=>(List.range cols).map fun j=>F i j
theorem tab_get (F:Nat->Nat->Int) (rows cols i:Nat) (hi:i<rows):(tab F rows cols)[i]? =some ((List.range cols).map fun j=>F i j):=by simp [tab,hi]
theorem tab_length (F:Nat->Nat->Int) (rows cols:Nat):(tab F rows cols).length=rows:=by simp [tab]
def RetMat (w:World) (m:List (List Int)) (e:Ending) (w':World):Prop:=∃A c,e= .returned (.slice A m.length c)/\MatV w' A m/\m.length<=c/\c<=9223372036854775807/\Step w w'
def Heads (w:World) (G:Nat) (F:Nat->Nat->Int) (rows cols k:Nat):Prop:=
 ∃hd:List Value,VRow w G 104 hd/\hd.length=rows/\(∀i,i<k->∃B,hd[i]? =some (.slice B cols cols)/\IntsV w B ((List.range cols).map fun j=>F i j))/\∀i,k<=i->i<rows->hd[i]? =some (.slice none 0 0)
def Cells2 (w:World) (g:Nat) (F:Nat->Int) (cols q:Nat):Prop:=
 ∃cs:List Value,VRow w g 117 cs/\cs.length=cols*2/\(∀j,j<q->∃s B n c,cs[j*2]? =some (.bool s)/\cs[j*2+1]? =some (.slice B n c)/\IntV w s B n c (F j))/\∀j,q<=j->j<cols->cs[j*2]? =some (.bool false)/\cs[j*2+1]? =some (.slice none 0 0)
theorem Heads.made (w:World) (F:Nat->Nat->Int) (rows cols:Nat):Heads (w.alloc (.cells (mkCells #[.slice none 0 0] (rows*1)) 104)) w.heap.size F rows cols 0:=by
 refine ⟨_,VRow.new w _ _,?_,fun i hi=>absurd hi (by omega),fun i _ hi=>?_⟩
 ·rw [mkCells_size];omega
 ·rw [mkCells_one,Nat.mul_one,List.getElem?_replicate];simp [hi]
theorem Cells2.made (w:World) (F:Nat->Int) (cols:Nat):Cells2 (w.alloc (.cells (mkCells #[.bool false,.slice none 0 0] (cols*2)) 117)) w.heap.size F cols 0:=by
 refine ⟨_,VRow.new w _ _,mkCells_size _ _,fun i hi=>absurd hi (by omega),fun j _ hj=>⟨?_,?_⟩⟩
 ·rw [mkCells_get _ _ _ (by omega) (by simp)];simp
 ·rw [mkCells_get _ _ _ (by omega) (by simp)];simp
theorem Cells2.full {w:World} {g:Nat} {F:Nat->Int} {cols:Nat} (h:Cells2 w g F cols cols):IntsV w (some ⟨g,0,none⟩) ((List.range cols).map F):=by
 obtain ⟨cs,h1,h2,h3,h4⟩:=h
 refine ⟨cs,by simp [h2],h1.arr,fun i z hz=>?_⟩
 have hi:i<cols:=by
  rcases Nat.lt_or_ge i cols with hi |hi
  ·exact hi
  ·rw [List.getElem?_eq_none (by simpa using hi)] at hz;cases hz
 simp [hi] at hz
 subst hz
 exact h3 i hi
theorem Cells2.ext {w w':World} {g:Nat} {F:Nat->Int} {cols q:Nat} (h:Cells2 w g F cols q) (hx:Ext w w'):Cells2 w' g F cols q:=by
 obtain ⟨cs,h1,h2,h3,h4⟩:=h
 refine ⟨cs,h1.ext hx,h2,fun j hj=>?_,h4⟩
 obtain ⟨s,B,n,c,a1,a2,a3⟩:=h3 j hj
 exact ⟨s,B,n,c,a1,a2,a3.ext hx⟩
theorem Cells2.put {w:World} {g:Nat} {F:Nat->Int} {cols q:Nat} (h:Cells2 w g F cols q) (hq:q<cols) {s:Bool} {B:Option Addr} {n c:Nat} (hz:IntV w s B n c (F q)):
  Cells2 ((w.setCell ⟨g,q*2,none⟩ (.bool s)).setCell ⟨g,q*2+1,none⟩ (.slice B n c)) g F cols (q+1):=by
 obtain ⟨cs,h1,h2,h3,h4⟩:=h
 have key:∀{s':Bool} {B':Option Addr} {n' c':Nat} {z:Int},IntV w s' B' n' c' z->IntV ((w.setCell ⟨g,q*2,none⟩ (.bool s)).setCell ⟨g,q*2+1,none⟩ (.slice B n c)) s' B' n' c' z:=fun hz'=>
  (hz'.setCell (p:=⟨g,q*2,none⟩) h1 (by decide) _).setCell (p:=⟨g,q*2+1,none⟩) (h1.set _ _) (by decide) _
 refine ⟨_,(h1.set (q*2) (.bool s)).set (q*2+1) (.slice B n c),by simp [h2],fun j hj=>?_,fun j hj1 hj2=>?_⟩
 ·rcases Nat.lt_or_ge j q with hjq |hjq
  ·obtain ⟨s',B',n',c',a1,a2,a3⟩:=h3 j hjq
   refine ⟨s',B',n',c',?_,?_,key a3⟩
   ·rw [List.getElem?_set_ne (by omega),List.getElem?_set_ne (by omega)];exact a1
   ·rw [List.getElem?_set_ne (by omega),List.getElem?_set_ne (by omega)];exact a2
  ·obtain rfl:j=q:=by omega
   refine ⟨s,B,n,c,?_,?_,key hz⟩
   ·rw [List.getElem?_set_ne (by omega),List.getElem?_set_self (by omega)]
   ·rw [List.getElem?_set_self (by rw [List.length_set];omega)]
 ·obtain ⟨a1,a2⟩:=h4 j (by omega) hj2
  constructor
  ·rw [List.getElem?_set_ne (by omega),List.getElem?_set_ne (by omega)];exact a1
  ·rw [List.getElem?_set_ne (by omega),List.getElem?_set_ne (by omega)];exact a2
theorem Cells2.cells {w:World} {g:Nat} {F:Nat->Int} {cols q:Nat} (h:Cells2 w g F cols q) (hq:q<cols):
  w.cell? ⟨g,q*2,none⟩=some (.bool false)/\w.cell? ⟨g,q*2+1,none⟩=some (.slice none 0 0)/\w.frozen? ⟨g,q*2,none⟩=false/\w.frozen? ⟨g,q*2+1,none⟩=false/\g<w.heap.size:=by
 obtain ⟨cs,h1,h2,h3,h4⟩:=h
 obtain ⟨a1,a2⟩:=h4 q (Nat.le_refl _) hq
 exact ⟨h1.cell a1,h1.cell a2,h1.frozen _,h1.frozen _,h1.lt⟩
theorem Cells2.far {w:World} {g:Nat} {F:Nat->Int} {cols q:Nat} (h:Cells2 w g F cols q) {p:Addr} {cs':Array Value} {e':TypeId} {fr:Nat×Nat} (hp:w.heap[p.block]? =some (.cells cs' e' fr)) (hne:117≠e') (hne':280≠e') (u:Value):Cells2 (w.setCell p u) g F cols q:=by
 obtain ⟨cs,h1,h2,h3,h4⟩:=h
 have hg:g≠p.block:=fun hh=>by
  rw [<-hh] at hp
  unfold VRow at h1
  rw [h1] at hp
  injection hp with hp
  injection hp with _ he
  exact hne he
 refine ⟨cs,h1.far hg u,h2,fun j hj=>?_,h4⟩
 obtain ⟨s',B',n',c',a1,a2,a3⟩:=h3 j hj
 exact ⟨s',B',n',c',a1,a2,a3.setCell hp hne' u⟩
theorem size_setCell (w:World) (p:Addr) (u:Value):(w.setCell p u).heap.size=w.heap.size:=by simp [World.setCell]
set_option maxRecDepth 10000 in
theorem buildInt_any {w:World} (f:FuncId) (caps:Array Value) (rows cols:Nat) (h1:rows<=1000000) (h2:cols<=1000000) (hf:IsFn f) (F:Nat->Nat->Int)
  (H:∀(i j:Nat) (W:World),i<rows->j<cols->Ext w W->Calls Tryz.prog f (#[.int .i64 i,.int .i64 j]++caps) W (RetInt W (F i j))):
  Calls Tryz.prog 242 #[.int .i64 rows,.int .i64 cols,.func (.func f) #[] caps] w (RetMat w (tab F rows cols)):=by
 have hmk:=run_make_any (P:=Tryz.prog) Tryz.underlying73 infoSlInt (by omega) (rows:Int) (by omega) (by omega)
 have hmk2:=run_make_any (P:=Tryz.prog) Tryz.underlying104 infoInt (by omega) (cols:Int) (by omega) (by omega)
 have HH:=Lib.hid H
 have HF:=Lib.hid hf
 clear H hf
 go_enter Tryz.func242,Tryz.ntmps242
 go_wp2
 go_loopw [8,9,14] (fun _ _ i wr=>∃k:Nat,k<=rows/\i= .int .i64 k/\Heads wr w.heap.size F rows cols k/\Ext w wr) (fun _ _ i _=>rows-(intOf i).toNat)
 case atStart=>exact ⟨0,by omega,rfl,by simpa [Value.cells] using Heads.made w F rows cols,inferInstance⟩
 case round=>
  obtain ⟨k,hk,rfl,hH,hxr⟩:=hrel
  by_cases hlt':k<rows
  ·obtain ⟨hd,v1,v2,v3,v4⟩:=hH
   have hc1:=v1.cell (v4 k (Nat.le_refl _) hlt')
   have hc2:=v1.frozen k
   have hsz:=v1.lt
   obtain ⟨wo,rfl⟩:∃wo:World,wo=wr:=⟨_,rfl⟩
   have V2:=Lib.hid v2
   have V3:=Lib.hid v3
   have V4:=Lib.hid v4
   clear v2 v3 v4
   go_wp2
   go_loopw [9,27] (fun _ j wr=>∃q:Nat,q<=cols/\j= .int .i64 q/\Grow w.heap.size 104 wo wr/\VRow wr w.heap.size 104 (hd.set k (.slice (some ⟨wo.heap.size,0,none⟩) cols cols))/\Cells2 wr wo.heap.size (F k) cols q/\Ext w wr) (fun _ j _=>cols-(intOf j).toNat)
   case atStart=>
    refine ⟨0,by omega,rfl,?_,?_,?_,?_⟩
    ·exact ((Grow.refl _ _ _).setOld (p:=⟨w.heap.size,k,none⟩) v1 (Nat.le_refl _) rfl _).alloc hxr.size _
    ·exact (v1.set _ _).ext inferInstance
    ·have :=Cells2.made (wo.setCell ⟨w.heap.size,k,none⟩ (.slice (some ⟨wo.heap.size,0,none⟩) cols cols)) (F k) cols
     rwa [size_setCell] at this
    ·exact inferInstance
   case round=>
    obtain ⟨q,hq,rfl,hG,hV,hC,hxq⟩:=hrel
    by_cases hlt:q<cols
    ·have hkl:k<hd.length:=by have :=V2.out;omega
     have hrow:wr.cell? ⟨w.heap.size,k,none⟩=some (.slice (some ⟨wo.heap.size,0,none⟩) cols cols):=hV.cell (by rw [List.getElem?_set_self hkl])
     obtain ⟨c1,c2,c3,c4,c5⟩:=hC.cells hlt
     go_wp2
     have hcf:=HF.out
     unfold IsFn at hcf
     have hne:w.heap.size≠wo.heap.size:=by omega
     have hself:(hd.set k (.slice (some ⟨wo.heap.size,0,none⟩) cols cols))[k]? =some (.slice (some ⟨wo.heap.size,0,none⟩) cols cols):=by rw [List.getElem?_set_self hkl]
     have HN:=Lib.hid hne
     have HS:=Lib.hid hself
     clear hne hself
     go_region_held3 (fun w'=>w'.cell? ⟨w.heap.size,k,none⟩=some (.slice (some ⟨wo.heap.size,0,none⟩) cols cols))
      (first
       |exact (hV.ext inferInstance).cell HS.out
       |exact (((hV.ext inferInstance).far (p:=⟨wo.heap.size,q*2,none⟩) HN.out _).far (p:=⟨wo.heap.size,q*2+1,none⟩) HN.out _).cell HS.out)
      (first
       |(refine (HH.out _ _ _ hlt' hlt inferInstance).mono ?_;rintro e w2 ⟨g,B,k',d,rfl,hz,hs2⟩;obtain ⟨d1,d2,d3,d4,d5⟩:=(hC.ext (inferInstance:Ext wr w2)).cells hlt))
     go_wp2
     refine ⟨⟨q+1,by omega,by go_num,?_,?_,?_,?_⟩,by simp [intOf]<;>omega⟩
     ·exact ((hG.trans (inferInstance:Ext wr w2) hxr.size).setNew (p:=⟨wo.heap.size,q*2,none⟩) (Nat.le_refl _) hxr.size _).setNew (p:=⟨wo.heap.size,q*2+1,none⟩) (Nat.le_refl _) hxr.size _
     ·exact ((hV.ext (inferInstance:Ext wr w2)).far (p:=⟨wo.heap.size,q*2,none⟩) HN.out _).far (p:=⟨wo.heap.size,q*2+1,none⟩) HN.out _
     ·exact (hC.ext (inferInstance:Ext wr w2)).put hlt hz
     ·exact ((inferInstance:Ext w w2).setCell (p:=⟨wo.heap.size,q*2,none⟩) hxr.size _).setCell (p:=⟨wo.heap.size,q*2+1,none⟩) hxr.size _
    ·obtain rfl:q=cols:=by omega
     have hrowk:=hC.full
     go_wp2
     refine ⟨⟨k+1,by omega,by go_num,⟨_,hV,by rw [List.length_set];exact V2.out,fun i hi=>?_,fun i hi1 hi2=>?_⟩,hxq⟩,by simp [intOf]<;>omega⟩
     ·have hkl:k<hd.length:=by have :=V2.out;omega
      rcases Nat.lt_or_ge i k with h |h
      ·obtain ⟨B,b1,b2⟩:=V3.out i h
       exact ⟨B,by rw [List.getElem?_set_ne (by omega)];exact b1,b2.grow hG (by decide) (by decide)⟩
      ·obtain rfl:i=k:=by omega
       exact ⟨_,by rw [List.getElem?_set_self hkl],hrowk⟩
     ·rw [List.getElem?_set_ne (by omega)];exact V4.out i (by omega) hi2
  ·obtain rfl:k=rows:=by omega
   have HHd:=Lib.hid hH
   clear hH
   go_wp2
   go_ret
   obtain ⟨hd,v1,v2,v3,v4⟩:=HHd.out
   refine ⟨_,k,by rw [tab_length];rfl,⟨hd,by rw [v2,tab_length],v1.arr,fun i r hr=>?_⟩,by rw [tab_length];omega,by omega,hxr.toStep⟩
   have hi:i<k:=by
    rcases Nat.lt_or_ge i k with hi |hi
    ·exact hi
    ·rw [List.getElem?_eq_none (by rw [tab_length];exact hi)] at hr;cases hr
   rw [tab_get _ _ _ _ hi] at hr
   injection hr with hr
   subst hr
   obtain ⟨B,b1,b2⟩:=v3 i hi
   exact ⟨B,cols,by simpa using b1,b2,by simp,by omega⟩
def Heads1 (w:World) (G:Nat) (F:Nat->Nat->Int) (rows cols k:Nat):Prop:=
 ∃hd:List Value,VRow w G 35 hd/\hd.length=rows/\(∀i,i<k->∃B,hd[i]? =some (.slice B cols cols)/\Ints w B 2 .i64 ((List.range cols).map fun j=>F i j))/\∀i,k<=i->i<rows->hd[i]? =some (.slice none 0 0)
def Cells1 (w:World) (g:Nat) (F:Nat->Int) (cols q:Nat):Prop:=Row w g 2 .i64 ((List.range q).map F++List.replicate (cols-q) 0)/\q<=cols
theorem Cells1.made (w:World) (F:Nat->Int) (cols:Nat):Cells1 (w.alloc (.cells (mkCells #[.int .i64 0] (cols*1)) 2)) w.heap.size F cols 0:=by
 refine ⟨?_,Nat.zero_le _⟩
 have :(mkCells #[.int .i64 0] (cols*1))=mkRow cols .i64:=by
  apply Array.ext'
  rw [mkCells_one];simp [mkRow]
 rw [this]
 simpa using Row.made w cols .i64 2
theorem Cells1.full {w:World} {g:Nat} {F:Nat->Int} {cols:Nat} (h:Cells1 w g F cols cols):Ints w (some ⟨g,0,none⟩) 2 .i64 ((List.range cols).map F):=by
 have :=h.1.ints
 simpa using this
theorem Cells1.ext {w w':World} {g:Nat} {F:Nat->Int} {cols q:Nat} (h:Cells1 w g F cols q) (hx:Ext w w'):Cells1 w' g F cols q:=⟨h.1.ext hx,h.2⟩
theorem Cells1.put {w:World} {g:Nat} {F:Nat->Int} {cols q:Nat} (h:Cells1 w g F cols q) (hq:q<cols):Cells1 (w.setCell ⟨g,q,none⟩ (.int .i64 (F q))) g F cols (q+1):=by
 refine ⟨?_,hq⟩
 have :=h.1.fill (by omega) (show ((List.range q).map F).length=q by simp) (F q)
 rw [List.range_succ,List.map_append,show cols-(q+1)=cols-q-1 by omega]
 exact this
theorem Cells1.cells {w:World} {g:Nat} {F:Nat->Int} {cols q:Nat} (h:Cells1 w g F cols q) (hq:q<cols):
  w.cell? ⟨g,q,none⟩=some (.int .i64 0)/\w.frozen? ⟨g,q,none⟩=false/\g<w.heap.size:=by
 obtain ⟨x,hx,hc⟩:=h.1.cell (i:=q) (by simp;omega)
 rw [List.getElem?_append_right (by simp)] at hx
 have hx0:x=0:=List.eq_of_mem_replicate (List.mem_of_getElem? hx)
 subst hx0
 exact ⟨hc,h.1.frozen _,h.1.lt⟩
theorem Heads1.made (w:World) (F:Nat->Nat->Int) (rows cols:Nat):Heads1 (w.alloc (.cells (mkCells #[.slice none 0 0] (rows*1)) 35)) w.heap.size F rows cols 0:=by
 refine ⟨_,VRow.new w _ _,?_,fun i hi=>absurd hi (by omega),fun i _ hi=>?_⟩
 ·rw [mkCells_size];omega
 ·rw [mkCells_one,Nat.mul_one,List.getElem?_replicate];simp [hi]
def AllLen (m:List (List Int)) (n:Nat):Prop:=∀r∈m,r.length=n
theorem shapeI64_ok {w0 w:World} {A:Option Addr} {c:Nat} {m:List (List Int)} (h:MatA w0 A m) (n:Nat) (h1:1<=m.length) (h2:m.length<=16) (h3:1<=n) (h4:n<=16) (hn:AllLen m n) [hx:Ext w0 w]:
  Calls Tryz.prog 241 #[.slice A m.length c] w (RetSame w (.tuple #[.int .i64 m.length,.int .i64 n,.bool true])):=by
 have h0:=h.ext hx
 have hg:∀(i:Nat) (r:List Int),m[i]? =some r->r.length=n:=fun i r hr=>hn r (List.mem_of_getElem? hr)
 obtain ⟨b,o,B,c0,rfl,hc0,-,-,-,hb⟩:=h0.at_ (i:=0) (r:=m[0]) (by simp)
 rw [hg 0 m[0] (by simp)] at hc0
 simp only [Nat.add_zero] at hc0
 have HG:=Lib.hid hg
 clear hg hn
 have hd1:decide ((m.length:Int)<1)=false:=by simp;omega
 have hd2:decide ((16:Int)<(m.length:Int))=false:=by simp;omega
 have hd3:decide ((n:Int)<1)=false:=by simp;omega
 have hd4:decide ((16:Int)<(n:Int))=false:=by simp;omega
 go_enter Tryz.func241,Tryz.ntmps241
 go_wp2
 go_loop [7,28] (fun _ i=>∃k:Nat,k<=m.length/\i= .int .i64 k) (fun _ i=>m.length-(intOf i).toNat)
 case atStart=>exact ⟨0,by omega,rfl⟩
 case round=>
  obtain ⟨k,hk,rfl⟩:=hrel
  by_cases hlt:k<m.length
  ·obtain ⟨b',o',B',c',hh,hc,-,-,-,-⟩:=h0.at_ (i:=k) (r:=m[k]) (by simp [hlt])
   injection hh with hh
   injection hh with e1 e2
   subst e1 e2
   rw [HG.out k m[k] (by simp [hlt])] at hc
   go_wp2
   exact ⟨⟨k+1,by omega,by go_num⟩,by simp [intOf]<;>omega⟩
  ·go_wp2
   go_ret3
   exact ⟨rfl,rfl⟩
theorem FromInts1_any {w0 w:World} {A:Option Addr} {c:Nat} {m:List (List Int)} {pb:Nat} (h:MatA w0 A m) (i j:Nat) (r:List Int) (x:Int) (hr:m[i]? =some r) (hxr:r[j]? =some x) (hx0:-9223372036854775808<=x) (hx1:x<=9223372036854775807)
  (hp:w.cell? ⟨pb,0,none⟩=some (.slice A m.length c)) (hpb:pb<w.heap.size) [hx:Ext w0 w]:
  Calls Tryz.prog 243 #[.int .i64 i,.int .i64 j,.pointer (some ⟨pb,0,none⟩)] w (RetInt w x):=by
 have h0:=h.ext hx
 obtain ⟨b,o,B,c0,rfl,hc0,hI,hc1,hc2,hb⟩:=h0.at_ hr
 have hi:i<m.length:=(List.getElem?_eq_some_iff.1 hr).1
 have hj:j<r.length:=(List.getElem?_eq_some_iff.1 hxr).1
 obtain ⟨b1,o1,x1,rfl,hx2,hc3,hb1⟩:=hI.at_ hj
 have hxx:x1=x:=by rw [hx2] at hxr;injection hxr
 subst hxx
 clear hx2 hxr hr
 go_enter Tryz.func243,Tryz.ntmps243
 go_wp2_with fail
 refine (Small_any x1 hx0 hx1 _).mono ?_
 rintro e w2 ⟨g,B2,k2,d2,rfl,hz,hs2⟩
 obtain ⟨q0,q1,q2,q3,q4,q5⟩:=box2 w w2 (.bool false) (.slice none 0 0) 117
 have Q0:=Lib.hid q0
 clear q0
 go_wp2
 exact bodyPost_ret (v:= .agg #[.bool g,.slice B2 k2 d2]) (by simp [results,Tryz.results243,go_sem,q1,q2]) rfl ⟨_,_,_,_,rfl,hz.boxed (by decide) Q0.out _ _,Step.of _ _⟩
def Fits64 (m:List (List Int)):Prop:=∀r∈m,∀x∈r,-9223372036854775808<=x/\x<=9223372036854775807
def RetMatB (w:World) (m:List (List Int)) (b:Bool) (e:Ending) (w':World):Prop:=∃A c,e= .returned (.tuple #[.slice A m.length c,.bool b])/\MatV w' A m/\m.length<=c/\c<=9223372036854775807/\Step w w'
theorem tab_eq (m:List (List Int)) (n:Nat) (hn:AllLen m n):tab (fun i j=>(m.getD i []).getD j 0) m.length n=m:=by
 apply List.ext_getElem?
 intro i
 rcases Nat.lt_or_ge i m.length with hi |hi
 ·rw [tab_get _ _ _ _ hi]
  have hr:m[i]? =some m[i]:=by simp
  rw [hr]
  congr 1
  have hl:m[i].length=n:=hn _ (List.getElem_mem hi)
  apply List.ext_getElem?
  intro j
  rcases Nat.lt_or_ge j n with hj |hj
  ·simp [hj,hi,List.getD,hl]
  ·rw [List.getElem?_eq_none (by simpa using hj),List.getElem?_eq_none (by omega)]
 ·rw [List.getElem?_eq_none (by rw [tab_length];exact hi),List.getElem?_eq_none hi]
theorem isFn_FromInts1:IsFn 243:=isFn_of Tryz.func243 (by kernel_rfl) (by kernel_rfl)
theorem FromInts_ok {w0 w:World} {A:Option Addr} {c:Nat} {m:List (List Int)} (h:MatA w0 A m) (n:Nat) (h1:1<=m.length) (h2:m.length<=16) (h3:1<=n) (h4:n<=16) (hn:AllLen m n) (h64:Fits64 m) [hx:Ext w0 w]:
  Calls Tryz.prog 203 #[.slice A m.length c] w (RetMatB w m true):=by
 have hb:=buildInt_any (w:=w.alloc (.cells #[.slice A m.length c] 22)) 243 #[.pointer (some ⟨w.heap.size,0,none⟩)] m.length n (by omega) (by omega) isFn_FromInts1 (fun i j=>(m.getD i []).getD j 0)
  (fun i j W hi hj hW=>by
   have hr:m[i]? =some m[i]:=by simp
   have hl:m[i].length=n:=hn _ (List.getElem_mem hi)
   have hxj:m[i][j]? =some (m[i][j]'(by omega)):=by simp
   have hfit:=h64 m[i] (List.getElem_mem hi) _ (List.getElem_mem (by omega:j<m[i].length))
   have e1:(m.getD i []).getD j 0=m[i][j]'(by omega):=by simp [List.getD,hi,hxj]
   rw [e1]
   have hcell:W.cell? ⟨w.heap.size,0,none⟩=some (.slice A m.length c):=by
    have :=heap_of_ext hW (heap_alloc_new w _)
    simp [World.cell?,this]
   have hsz:w.heap.size<W.heap.size:=lt_of_heap (heap_of_ext hW (heap_alloc_new w _))
   have :Ext w W:=Ext.trans inferInstance hW
   have :Ext w0 W:=hx.trans this
   exact FromInts1_any h i j m[i] _ hr hxj hfit.1 hfit.2 hcell hsz)
 rw [tab_eq m n hn] at hb
 have HB:=Lib.hid hb
 clear hb
 go_enter Tryz.func203,Tryz.ntmps203
 go_wp2_with fail
 refine (shapeI64_ok h n h1 h2 h3 h4 hn).mono ?_
 rintro e w' ⟨rfl,rfl⟩
 go_wp2_with fail
 refine HB.out.mono ?_
 rintro e w2 ⟨A2,c2,rfl,hm,hc1,hc2,hs2⟩
 go_wp2
 go_ret2
 exact ⟨A2,c2,rfl,hm,hc1,hc2,Step.of _ _⟩
theorem shapeInt_ok {w0 w:World} {A:Option Addr} {c:Nat} {m:List (List Int)} (h:MatV w0 A m) (n:Nat) (h1:1<=m.length) (h2:m.length<=16) (h3:1<=n) (h4:n<=16) (hn:AllLen m n) [hx:Ext w0 w]:
  Calls Tryz.prog 251 #[.slice A m.length c] w (RetSame w (.tuple #[.int .i64 m.length,.int .i64 n,.bool true])):=by
 have h0:=h.ext hx
 have hg:∀(i:Nat) (r:List Int),m[i]? =some r->r.length=n:=fun i r hr=>hn r (List.mem_of_getElem? hr)
 obtain ⟨b,o,B,c0,rfl,hc0,-,-,-,hb⟩:=h0.at_ (i:=0) (r:=m[0]) (by simp)
 rw [hg 0 m[0] (by simp)] at hc0
 simp only [Nat.add_zero] at hc0
 have HG:=Lib.hid hg
 clear hg hn
 have hd1:decide ((m.length:Int)<1)=false:=by simp;omega
 have hd2:decide ((16:Int)<(m.length:Int))=false:=by simp;omega
 have hd3:decide ((n:Int)<1)=false:=by simp;omega
 have hd4:decide ((16:Int)<(n:Int))=false:=by simp;omega
 go_enter Tryz.func251,Tryz.ntmps251
 go_wp2
 go_loop [7,28] (fun _ i=>∃k:Nat,k<=m.length/\i= .int .i64 k) (fun _ i=>m.length-(intOf i).toNat)
 case atStart=>exact ⟨0,by omega,rfl⟩
 case round=>
  obtain ⟨k,hk,rfl⟩:=hrel
  by_cases hlt:k<m.length
  ·obtain ⟨b',o',B',c',hh,hc,-,-,-,-⟩:=h0.at_ (i:=k) (r:=m[k]) (by simp [hlt])
   injection hh with hh
   injection hh with e1 e2
   subst e1 e2
   rw [HG.out k m[k] (by simp [hlt])] at hc
   go_wp2
   exact ⟨⟨k+1,by omega,by go_num⟩,by simp [intOf]<;>omega⟩
  ·go_wp2
   go_ret3
   exact ⟨rfl,rfl⟩
theorem Shape_ok {w0 w:World} {A:Option Addr} {c:Nat} {m:List (List Int)} (h:MatV w0 A m) (n:Nat) (h1:1<=m.length) (h2:m.length<=16) (h3:1<=n) (h4:n<=16) (hn:AllLen m n) [hx:Ext w0 w]:
  Calls Tryz.prog 280 #[.slice A m.length c] w (RetSame w (.tuple #[.int .i64 m.length,.int .i64 n,.bool true])):=by
 go_enter Tryz.func280,Tryz.ntmps280
 go_wp2_with (go_at_call 251;refine (shapeInt_ok h n h1 h2 h3 h4 hn).mono ?_;rintro e w' ⟨rfl,rfl⟩)
 go_ret3
 exact ⟨rfl,rfl⟩
theorem setCell_same {w:World} {b i:Nat} {v:Value} (h:w.cell? ⟨b,i,none⟩=some v):w.setCell ⟨b,i,none⟩ v=w:=by
 unfold World.cell? at h
 unfold World.setCell
 have :(w.heap.modify b fun x=>match x with
   | .cells c elem frozen=> .cells (if (none:Option Nat).isSome then c else c.setIfInBounds i v) elem frozen
   |o=>o)=w.heap:=by
  apply Array.ext_getElem?
  intro k
  rw [Array.getElem?_modify]
  split
  ·rename_i hk
   subst hk
   cases hb:w.heap[b]? with
   |none=>simp
   |some o=>
    simp only [hb] at h
    cases o with
    |cells cs e fr=>
     simp at h
     simp only [Option.map_some,Option.isSome_none,Bool.false_eq_true,if_false]
     congr 2
     apply Array.ext_getElem?
     intro q
     rw [Array.getElem?_setIfInBounds]
     split
     ·rename_i hq
      subst hq
      obtain ⟨hlt,hv⟩:=Array.getElem?_eq_some_iff.1 h
      simp [hlt,hv]
     ·rfl
    |_=>simp at h
  ·rfl
 exact (congrArg (fun hp=>({w with heap:=hp}:World)) this).trans rfl
theorem ToInts1_any {w0 w:World} {A:Option Addr} {c:Nat} {m:List (List Int)} {pb ob:Nat} (h:MatV w0 A m) (i j:Nat) (r:List Int) (x:Int) (hr:m[i]? =some r) (hxr:r[j]? =some x) (hx0:-9223372036854775808<=x) (hx1:x<=9223372036854775807)
  (hp:w.cell? ⟨pb,0,none⟩=some (.slice A m.length c)) (ho:w.cell? ⟨ob,0,none⟩=some (.bool true)) (hob:ob<w.heap.size) (hof:w.frozen? ⟨ob,0,none⟩=false) [hx:Ext w0 w]:
  Calls Tryz.prog 253 #[.int .i64 i,.int .i64 j,.pointer (some ⟨pb,0,none⟩),.pointer (some ⟨ob,0,none⟩)] w (RetVal w (.int .i64 x)):=by
 have h0:=h.ext hx
 obtain ⟨b,o,B,c0,rfl,hc0,hI,hc1,hc2,hb⟩:=h0.at_ hr
 have hi:i<m.length:=(List.getElem?_eq_some_iff.1 hr).1
 have hj:j<r.length:=(List.getElem?_eq_some_iff.1 hxr).1
 obtain ⟨b1,o1,g1,B1,n1,c1,rfl,hd1,hd2,hV,hb1⟩:=hI.at_ hj
 have hxx:r[j]=x:=(List.getElem?_eq_some_iff.1 hxr).2
 rw [hxx] at hV
 clear hxx hxr hr
 go_enter Tryz.func253,Tryz.ntmps253
 go_wp2_with fail
 refine (Int64_fit hV hx0 hx1).mono ?_
 rintro e w2 ⟨rfl,hs2⟩
 have hx2:Ext w w2:=hs2.ext
 have ho2:w2.cell? ⟨ob,0,none⟩=some (.bool true):=(hx2.below.cell (p:=⟨ob,0,none⟩) hob).trans ho
 have hf2:w2.frozen? ⟨ob,0,none⟩=false:=(hx2.below.frozen (p:=⟨ob,0,none⟩) hob).trans hof
 have hsame:=Lib.hid (setCell_same ho2)
 go_wp2
 go_ret
 refine ⟨rfl,?_⟩
 rw [hsame.out]
 exact hs2
theorem isFn_ToInts1:IsFn 253:=isFn_of Tryz.func253 (by kernel_rfl) (by kernel_rfl)
def RetMat64B (w:World) (m:List (List Int)) (b:Bool) (e:Ending) (w':World):Prop:=∃A c,e= .returned (.tuple #[.slice A m.length c,.bool b])/\Mat64 w' A m/\m.length<=c/\c<=9223372036854775807/\Step w w'
theorem box1At (W w':World) (s:Nat) (x:Value) (T:TypeId) (hs:W.heap.size=s) [h:Ext (W.alloc (.cells #[x] T)) w']:
  w'.heap[s]? =some (.cells #[x] T (0,0))/\w'.cell? ⟨s,0,none⟩=some x/\w'.frozen? ⟨s,0,none⟩=false/\s<w'.heap.size:=by
 subst hs
 have h0:w'.heap[W.heap.size]? =some (.cells #[x] T (0,0)):=heap_of_ext h (heap_alloc_new W _)
 exact ⟨h0,by simp [World.cell?,h0],by simp [World.frozen?,h0],(Array.getElem?_eq_some_iff.1 h0).1⟩
end Go.Proofs.YtijfjailmilkfaaGreat
