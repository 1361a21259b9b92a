/- Ref1 Ref2 -/
import Derived.Test.YtijfjailmilkfaaGreatProg
import Derived.Test.YtijfjailmilkfaaGreatG05
set_option maxHeartbeats 8000000
set_option linter.unusedVariables false
set_option linter.unusedSimpArgs false
set_option linter.constructorNameAsVariable false
namespace Go.Proofs.YtijfjailmilkfaaGreat
open Go.RowKit
def NatX (base:Nat) (w:World) (A:Option Addr) (n c:Nat) (z:Int):Prop:=∃l:List Int,n=l.length/\Own w base 280 1 A n c (l.map (Value.int .u32))/\Limbs l/\Tight l/\val l=z
theorem NatX.nat {base:Nat} {w:World} {A:Option Addr} {n c:Nat} {z:Int} (h:NatX base w A n c z):NatV w A n c z:=by
 obtain ⟨l,rfl,h1,h2,h3,h4⟩:=h
 exact ⟨l,rfl,h1.arr,h2,h3,h4,h1.cap.1,h1.cap.2⟩
theorem NatX.ext {base:Nat} {w w':World} {A:Option Addr} {n c:Nat} {z:Int} (h:NatX base w A n c z) (hx:Ext w w'):NatX base w' A n c z:=by
 obtain ⟨l,rfl,h1,h2⟩:=h
 exact ⟨l,rfl,h1.ext hx,h2⟩
theorem NatX.lower {base base':Nat} {w:World} {A:Option Addr} {n c:Nat} {z:Int} (h:NatX base w A n c z) (hb:base'<=base):NatX base' w A n c z:=by
 obtain ⟨l,rfl,h1,h2⟩:=h
 exact ⟨l,rfl,h1.lower hb,h2⟩
theorem NatX.set {base:Nat} {w:World} {A:Option Addr} {n c:Nat} {z:Int} (h:NatX base w A n c z) {p:Addr} (hp:p.block<base) (u:Value):NatX base (w.setCell p u) A n c z:=by
 obtain ⟨l,rfl,h1,h2⟩:=h
 refine ⟨l,rfl,⟨h1.1,?_⟩,h2⟩
 rcases h1.2 with hv |⟨g,cap,cur,hv,g1,g2,g3⟩
 ·exact .inl hv
 ·exact .inr ⟨g,cap,cur,hv,g1,(Below.heap_setCell w p u g (by omega)).trans g2,g3⟩
def RetNatX (w:World) (z:Int) (e:Ending) (w':World):Prop:=∃B k d,e= .returned (.slice B k d)/\NatX w.heap.size w' B k d z/\Step w w'
theorem RetNatX.ret {w w':World} {z:Int} {e:Ending} (h:RetNatX w z e w'):RetNat w z e w':=by
 obtain ⟨B,k,d,rfl,hN,hs⟩:=h
 obtain ⟨l,rfl,h1,h2,h3,h4,h5,h6⟩:=hN.nat
 exact ⟨B,d,l,rfl,h1,h2,h3,h4,h5,h6,hs⟩
theorem retNat_own {w w1:World} {A1:Option Addr} {c1:Nat} {l:List Int} (hl:Limbs l) (ht:Tight l) {z:Int} (hv:val l=z) (hown:Own w1 w.heap.size 280 1 A1 l.length c1 (l.map (Value.int .u32))) (hx:Ext w w1):RetNatX w z (.returned (.slice A1 l.length c1)) w1:=
 ⟨A1,l.length,c1,rfl,⟨l,rfl,hown,hl,ht,hv⟩,hx.toStep⟩
theorem rtrimX_any {w0 w:World} {A:Option Addr} {c:Nat} {l:List Int} (h0:Ints w0 A 280 .u32 l) (hl:Limbs l) (hc:l.length<=c) (hc2:c<=9223372036854775807) (h40:l.length<=1099511627776) [hx:Ext w0 w]:
  Calls Tryz.prog 185 #[.slice A l.length c] w (RetNatX w (val l)):=by
 have h:=h0.ext hx
 clear h0
 go_enter Tryz.func185,Tryz.ntmps185
 go_wp2
 go_loop [3] (fun v=>∃m:Nat,m<=l.length/\Hid (val (l.take m)=val l)/\v= .int .i64 m) (fun v=>(intOf v).toNat)
 case atStart=>exact ⟨l.length,Nat.le_refl _,by rw [List.take_length];exact Lib.hid rfl,rfl⟩
 case round=>
  obtain ⟨m,hm,hv,rfl⟩:=hrel
  by_cases h0:0<m
  ·obtain ⟨k,rfl⟩:∃k,m=k+1:=⟨m-1,by omega⟩
   obtain ⟨b,o,x,rfl,hx',hcell,hb⟩:=h.at_ (i:=k) (by omega)
   have hx2:=Lib.hid hx'
   clear hx'
   by_cases hx0:x=0
   ·subst hx0
    go_wp2
    exact ⟨⟨k,by omega,by rw [Hid,<-val_take_zero hx2.out];exact hv,rfl⟩,by simp [intOf]⟩
   ·have hx1:(x==0)=false:=by simp [hx0]
    have ht:=Lib.hid (tight_take_succ hx2.out hx0)
    clear hx0
    go_wp2_with (at_builtin;refine wpList_app _ rfl _ _ 115 rfl w.heap.size 280 (.int .u32 0) 1 4 Tryz.underlying115 Tryz.infoU32 rfl (by omega) (by omega) none 0 0 [] rfl (Own.nil _ _ _ _) _ (k+1) c ((l.take (k+1)).map (Value.int .u32)) rfl (Ints.take h (k+1)) (by simp;try omega) oneCell_ints (by omega) (Nat.le_refl _) ?_;intro A1 c1 w1 hown hg)
    go_ret
    have hxx:Ext w w1:=hg.ext inferInstance (Nat.le_refl _)
    have e1:(l.take (k+1)).length=k+1:=take_len hm
    rw [List.nil_append,Nat.zero_add] at hown
    have :=retNat_own (hl.take (k+1)) ht.out hv.out (by rw [e1];exact hown) hxx
    rw [e1] at this
    simpa using this
  ·obtain rfl:m=0:=by omega
   go_wp2_with (at_builtin;refine wpList_app _ rfl _ _ 115 rfl w.heap.size 280 (.int .u32 0) 1 4 Tryz.underlying115 Tryz.infoU32 rfl (by omega) (by omega) none 0 0 [] rfl (Own.nil _ _ _ _) _ 0 c ((l.take (0)).map (Value.int .u32)) rfl (Ints.take h (0)) (by simp;try omega) oneCell_ints (by omega) (Nat.le_refl _) ?_;intro A1 c1 w1 hown hg)
   go_ret
   have hxx:Ext w w1:=hg.ext inferInstance (Nat.le_refl _)
   have e1:(l.take (0)).length=0:=take_len hm
   rw [List.nil_append,Nat.zero_add] at hown
   have :=retNat_own (hl.take (0)) (by simp [Tight]) hv.out (by rw [e1];exact hown) hxx
   rw [e1] at this
   simpa using this
theorem rtrim_any {w0 w:World} {A:Option Addr} {c:Nat} {l:List Int} (h0:Ints w0 A 280 .u32 l) (hl:Limbs l) (hc:l.length<=c) (hc2:c<=9223372036854775807) (h40:l.length<=1099511627776) [hx:Ext w0 w]:
  Calls Tryz.prog 185 #[.slice A l.length c] w (RetNat w (val l)):=(rtrimX_any h0 hl hc hc2 h40).mono fun _ _ h=>h.ret
theorem rMake_any {w0 w:World} {A:Option Addr} {c:Nat} {l:List Int} (neg:Bool) (h:Ints w0 A 280 .u32 l) (hl:Limbs l) (hc:l.length<=c) (hc2:c<=9223372036854775807) (h40:l.length<=1099511627776) [hx:Ext w0 w]:
  Calls Tryz.prog 208 #[.bool neg,.slice A l.length c] w (RetInt w (sgn neg (val l))):=by
 have ht:=fun W (hxx:Ext w0 W)=>rtrim_any (w:=W) h hl hc hc2 h40
 have HT:=Lib.hid ht
 have hv0:=val_nonneg hl
 clear ht
 obtain ⟨z,hz⟩:∃z,val l=z:=⟨_,rfl⟩
 rw [hz] at HT hv0 |-
 by_cases h0:z=0
 ·subst h0
  have HZ:Hid (sgn neg 0=0):=Lib.hid (by cases neg<;>rfl)
  cases neg
  all_goals
   go_enter Tryz.func208,Tryz.ntmps208
   go_wp2_with (go_at_call 185;refine (HT.out _ inferInstance).mono ?_;rintro e w1 ⟨B,d,l1,rfl,hi1,hl1,ht1,hv1,hd1,hd2,hs1⟩;obtain rfl:l1=[]:=(tight_zero hl1 ht1).1 hv1;simp only [List.length_nil];obtain ⟨q0,q1,q2,q3,q4,q5⟩:=box2 w w1 (.bool false) (.slice none 0 0) 117;have Q0:=Lib.hid q0;clear q0)
   refine bodyPost_ret (v:= .agg #[.bool false,.slice B 0 d]) (by simp [results,Tryz.results208,go_sem,q1,q2]) rfl ⟨_,_,_,_,rfl,?_,Step.of _ _⟩
   rw [HZ.out]
   exact IntV.zero _ B d hd2
 ·have hpos:0<z:=by omega
  have HP:Hid (∀(W:World) (B:Option Addr) (d:Nat) (l1:List Int),Ints W B 280 .u32 l1->Limbs l1->Tight l1->val l1=z->l1.length<=d->d<=9223372036854775807->IntV W neg B l1.length d (sgn neg z)/\0<l1.length):=Lib.hid (by
   intro W B d l1 a1 a2 a3 a4 a5 a6
   refine ⟨⟨l1,rfl,a2,a3,?_,?_,a1,a5,a6⟩,?_⟩
   ·rw [a4];cases neg<;>simp [sgn]<;>omega
   ·cases neg<;>simp [sgn]<;>omega
   ·rcases Nat.eq_zero_or_pos l1.length with hh |hh
    ·have :=List.eq_nil_of_length_eq_zero hh;subst this;simp [val] at a4;omega
    ·exact hh)
  clear hz h0
  cases neg
  all_goals
   go_enter Tryz.func208,Tryz.ntmps208
   go_wp2_with (go_at_call 185;refine (HT.out _ inferInstance).mono ?_;rintro e w1 ⟨B,d,l1,rfl,hi1,hl1,ht1,hv1,hd1,hd2,hs1⟩;obtain ⟨hiv,hlp⟩:=HP.out _ _ _ _ hi1 hl1 ht1 hv1 hd1 hd2;have HIV:=Lib.hid hiv;obtain ⟨k,hk⟩:∃k,l1.length=k:=⟨_,rfl⟩;rw [hk] at hlp HIV |-;clear hiv hi1 hl1 ht1 hv1 hd1 hk;obtain ⟨q0,q1,q2,q3,q4,q5⟩:=box2 w w1 (.bool false) (.slice none 0 0) 117;have Q0:=Lib.hid q0;clear q0)
   first
    |exact bodyPost_ret (v:= .agg #[.bool true,.slice B k d]) (by simp [results,Tryz.results208,go_sem,q1,q2]) rfl ⟨_,_,_,_,rfl,HIV.out.boxed (by decide) Q0.out _ _,Step.of _ _⟩
    |exact bodyPost_ret (v:= .agg #[.bool false,.slice B k d]) (by simp [results,Tryz.results208,go_sem,q1,q2]) rfl ⟨_,_,_,_,rfl,HIV.out.boxed (by decide) Q0.out _ _,Step.of _ _⟩
theorem rMakeV_any {w0 w:World} {na:Bool} {A:Option Addr} {n c:Nat} {x:Int} (g:Bool) (h:IntV w0 na A n c x) (h40:n<=1099511627776) [hx:Ext w0 w]:
  Calls Tryz.prog 208 #[.bool g,.slice A n c] w (RetInt w (sgn g x.natAbs)):=by
 obtain ⟨l,rfl,h2,h3,h4,h5,h6,h7,h8⟩:=h
 rw [<-h4]
 exact rMake_any g h6 h2 h7 h8 h40
theorem rNormalize_any {w0 w:World} {na:Bool} {A:Option Addr} {n c:Nat} {x:Int} (ha:IntV w0 na A n c x) (h40:n<=1099511627776) [hx:Ext w0 w]:
  Calls Tryz.prog 146 #[.agg #[.bool na,.slice A n c]] w (RetInt w x):=by
 have hm:=fun W (hh:Ext w0 W)=>rMakeV_any (w:=W) na ha h40
 have HE:=Lib.hid (show sgn na x.natAbs=x by rw [ha.neg_eq];unfold sgn;by_cases hneg:x<0<;>simp [hneg]<;>omega)
 have HM:=Lib.hid hm
 clear hm
 go_enter Tryz.func146,Tryz.ntmps146
 go_wp2_with (go_at_call 208;refine (HM.out _ inferInstance).mono ?_;rintro e w2 ⟨g,B1,k1,d1,rfl,hz,hs2⟩;obtain ⟨q0,q1,q2,q3,q4,q5⟩:=box2_1 w w2 (.cells #[.bool na,.slice A n c] 117) (.bool false) (.slice none 0 0) 117;have Q0:=Lib.hid q0;clear q0)
 exact bodyPost_ret (v:= .agg #[.bool g,.slice B1 k1 d1]) (by simp [results,Tryz.results146,go_sem,q1,q2]) rfl ⟨_,_,_,_,rfl,hz.boxedN HE.out (by decide) Q0.out _ _,Step.of _ _⟩
theorem rNeg_any {w0 w:World} {na:Bool} {A:Option Addr} {n c:Nat} {x:Int} (ha:IntV w0 na A n c x) (h40:n<=1099511627776) [hx:Ext w0 w]:
  Calls Tryz.prog 149 #[.agg #[.bool na,.slice A n c]] w (RetInt w (-x)):=by
 have hm:=fun W (hh:Ext w0 W)=>rMakeV_any (w:=W) (!na) ha h40
 have HE:=Lib.hid (show sgn (!na) x.natAbs=-x by rw [ha.neg_eq];unfold sgn;by_cases hneg:x<0<;>simp [hneg]<;>omega)
 have HM:=Lib.hid hm
 clear hm
 go_enter Tryz.func149,Tryz.ntmps149
 go_wp2_with (go_at_call 208;refine (HM.out _ inferInstance).mono ?_;rintro e w2 ⟨g,B1,k1,d1,rfl,hz,hs2⟩;obtain ⟨q0,q1,q2,q3,q4,q5⟩:=box2_1 w w2 (.cells #[.bool na,.slice A n c] 117) (.bool false) (.slice none 0 0) 117;have Q0:=Lib.hid q0;clear q0)
 exact bodyPost_ret (v:= .agg #[.bool g,.slice B1 k1 d1]) (by simp [results,Tryz.results149,go_sem,q1,q2]) rfl ⟨_,_,_,_,rfl,hz.boxedN HE.out (by decide) Q0.out _ _,Step.of _ _⟩
theorem rAbs_any {w0 w:World} {na:Bool} {A:Option Addr} {n c:Nat} {x:Int} (ha:IntV w0 na A n c x) (h40:n<=1099511627776) [hx:Ext w0 w]:
  Calls Tryz.prog 209 #[.agg #[.bool na,.slice A n c]] w (RetInt w x.natAbs):=by
 have hm:=fun W (hh:Ext w0 W)=>rMakeV_any (w:=W) false ha h40
 have HE:=Lib.hid (show sgn false x.natAbs=x.natAbs by rfl)
 have HM:=Lib.hid hm
 clear hm
 go_enter Tryz.func209,Tryz.ntmps209
 go_wp2_with (go_at_call 208;refine (HM.out _ inferInstance).mono ?_;rintro e w2 ⟨g,B1,k1,d1,rfl,hz,hs2⟩;obtain ⟨q0,q1,q2,q3,q4,q5⟩:=box2_1 w w2 (.cells #[.bool na,.slice A n c] 117) (.bool false) (.slice none 0 0) 117;have Q0:=Lib.hid q0;clear q0)
 exact bodyPost_ret (v:= .agg #[.bool g,.slice B1 k1 d1]) (by simp [results,Tryz.results209,go_sem,q1,q2]) rfl ⟨_,_,_,_,rfl,hz.boxedN HE.out (by decide) Q0.out _ _,Step.of _ _⟩
theorem rword_any (neg:Bool) (n:Int) (h0:0<=n) (h1:n<18446744073709551616) (w:World):
  Calls Tryz.prog 179 #[.bool neg,.int .u64 n] w (RetInt w (sgn neg n)):=by
 have hl:Limbs [n%4294967296,n / 4294967296]:=Limbs.cons (by omega) (Limbs.cons (by omega) Limbs.nil)
 have hm:=fun (W W2:World) (b:Nat) (hh:Ints W (some ⟨b,0,none⟩) 280 .u32 [n%4294967296,n / 4294967296]) (hx:Ext W W2)=>rMake_any (w:=W2) (c:=2) neg hh hl (Nat.le_refl 2) (by omega) (show 2<=1099511627776 by omega)
 rw [val_two] at hm
 have HM:=Lib.hid hm
 have hi:Ints ((w.alloc (.cells #[.bool false,.slice none 0 0] 117)).alloc (.cells #[.int .u32 (n%4294967296),.int .u32 (n / 4294967296)] 280)) (some ⟨w.heap.size+1,0,none⟩) 280 .u32 [n%4294967296,n / 4294967296]:=by
  have :=Arr.new (w.alloc (.cells #[.bool false,.slice none 0 0] 117)) 280 #[.int .u32 (n%4294967296),.int .u32 (n / 4294967296)]
  rwa [World.size_alloc] at this
 have HI:=Lib.hid hi
 clear hm hi
 go_enter Tryz.func179,Tryz.ntmps179
 go_wp2_with (go_at_call 208;refine (HM.out _ _ _ HI.out inferInstance).mono ?_;rintro e w2 ⟨g,B1,k1,d1,rfl,hz,hs2⟩;obtain ⟨q0,q1,q2,q3,q4,q5⟩:=box2 w w2 (.bool false) (.slice none 0 0) 117;have Q0:=Lib.hid q0;clear q0)
 exact bodyPost_ret (v:= .agg #[.bool g,.slice B1 k1 d1]) (by simp [results,Tryz.results179,go_sem,q1,q2]) rfl ⟨_,_,_,_,rfl,hz.boxed (by decide) Q0.out _ _,Step.of _ _⟩
theorem rSmall_any (n:Int) (h0:-9223372036854775808<=n) (h1:n<=9223372036854775807) (w:World):
  Calls Tryz.prog 113 #[.int .i64 n] w (RetInt w n):=by
 by_cases hn:n<0
 ·have HE:=Lib.hid (show sgn true (-n)=n by simp [sgn])
  have hb:decide (n<0)=true:=by simpa using hn
  go_enter Tryz.func113,Tryz.ntmps113
  go_wp2_with fail
  rw [show IntKind.u64.wrap (-IntKind.u64.wrap n)=-n by simp only [IntKind.wrap_u64];omega]
  refine (rword_any true (-n) (by omega) (by omega) _).mono ?_
  rintro e w2 ⟨g,B,k,d,rfl,hz,hs2⟩
  obtain ⟨q0,q1,q2,q3,q4,q5⟩:=box2 w w2 (.bool false) (.slice none 0 0) 117
  have Q0:=Lib.hid q0
  clear q0
  go_wp2
  exact bodyPost_ret (v:= .agg #[.bool g,.slice B k d]) (by simp [results,Tryz.results113,go_sem,q1,q2]) rfl ⟨_,_,_,_,rfl,hz.boxedN HE.out (by decide) Q0.out _ _,Step.of _ _⟩
 ·have HE:=Lib.hid (show sgn false n=n by simp [sgn])
  have hb:decide (n<0)=false:=by simpa using hn
  have h0':0<=n:=by omega
  clear hn h0
  go_enter Tryz.func113,Tryz.ntmps113
  go_wp2_with fail
  try rw [show IntKind.u64.wrap n=n by simp only [IntKind.wrap_u64];omega]
  refine (rword_any false n (by omega) (by omega) _).mono ?_
  rintro e w2 ⟨g,B,k,d,rfl,hz,hs2⟩
  obtain ⟨q0,q1,q2,q3,q4,q5⟩:=box2 w w2 (.bool false) (.slice none 0 0) 117
  have Q0:=Lib.hid q0
  clear q0
  go_wp2
  exact bodyPost_ret (v:= .agg #[.bool g,.slice B k d]) (by simp [results,Tryz.results113,go_sem,q1,q2]) rfl ⟨_,_,_,_,rfl,hz.boxedN HE.out (by decide) Q0.out _ _,Step.of _ _⟩
theorem rlow_any {w0 w:World} {A:Option Addr} {c:Nat} {l:List Int} (h0:Ints w0 A 280 .u32 l) (hl:Limbs l) (hlen:l.length<=9223372036854775807) [hx:Ext w0 w]:
  Calls Tryz.prog 186 #[.slice A l.length c] w (RetSame w (.int .u64 (val (l.take 2)))):=by
 have h:=h0.ext hx
 go_enter Tryz.func186,Tryz.ntmps186
 go_wp2
 go_loop [3,4] (fun v i=>∃k:Nat,k<=l.length/\k<=2/\i= .int .i64 k/\v= .int .u64 (val (l.take k))) (fun _ i=>2-(intOf i).toNat)
 case atStart=>exact ⟨0,by omega,by omega,rfl,rfl⟩
 case round=>
  obtain ⟨k,hk,hk2,rfl,rfl⟩:=hrel
  by_cases hlt:k<l.length
  ·by_cases h2:k<2
   ·obtain rfl |rfl:k=0∨k=1:=by omega
    ·obtain ⟨b,o,x,rfl,hx',hcell,hb⟩:=h.at0 hlt
     obtain ⟨hx0,hx1⟩:=hl.get hx'
     have hs:=Lib.hid (val_take1 hx')
     clear hx'
     simp only [List.take_zero,val]
     go_wp2
     refine ⟨⟨1,by omega,by omega,rfl,?_⟩,by simp [intOf]⟩
     rw [or_zero_left _ hx0 (by omega),hs.out]
    ·obtain ⟨b,o,x,rfl,hx',hcell,hb⟩:=h.at_ hlt
     obtain ⟨hx0,hx1⟩:=hl.get hx'
     have hs:=Lib.hid (val_take_succ hx')
     clear hx'
     have hy0:=val_nonneg (hl.take 1)
     have hy1:=val_lt (hl.take 1)
     have hy2:(l.take 1).length=1:=by simp;omega
     rw [hy2] at hy1
     clear hy2
     go_wp2
     refine ⟨⟨2,by omega,by omega,rfl,?_⟩,by simp [intOf]⟩
     rw [or_hi _ _ hy0 (by omega) hx0 hx1,hs.out]
     congr 1;omega
   ·obtain rfl:k=2:=by omega
    go_wp2
    go_ret
    exact ⟨rfl,rfl⟩
  ·obtain rfl:k=l.length:=by omega
   have HT:=Lib.hid (show l.take l.length=l.take 2 by rw [List.take_length,List.take_of_length_le hk2])
   rw [HT.out]
   go_wp2
   go_ret
   exact ⟨rfl,rfl⟩
theorem take_trim {l:List Int} (h:l.length<=2):l.take 2=l:=List.take_of_length_le h
theorem rInt64_fit {w0 w:World} {na:Bool} {A:Option Addr} {n c:Nat} {x:Int} (ha:IntV w0 na A n c x) (h0:-9223372036854775808<=x) (h1:x<=9223372036854775807) [hx:Ext w0 w]:
  Calls Tryz.prog 116 #[.agg #[.bool na,.slice A n c]] w (RetVal w (.tuple #[.int .i64 x,.bool true])):=by
 have hn:=ha.neg_eq
 have hlen:n<=2:=ha.len (k:=2) (by omega)
 obtain ⟨l,rfl,hl,tl,hv,hs,hi,h7,h8⟩:=ha
 have htr:=fun W (hh:Ext w0 W)=>rtrim_any (w:=W) hi hl h7 h8 (by omega)
 rw [hv] at htr
 have HT:=Lib.hid htr
 have HLO:Hid (∀(W W2:World) (B:Option Addr) (d:Nat) (l1:List Int),Ints W B 280 .u32 l1->Limbs l1->Tight l1->val l1=x.natAbs->Ext W W2->Calls Tryz.prog 186 #[.slice B l1.length d] W2 (RetSame W2 (.int .u64 x.natAbs))/\l1.length<=2):=Lib.hid (by
  intro W W2 B d l1 a1 a2 a3 a4 a5
  have hl2:l1.length<=2:=length_le_of_val a2 a3 (k:=2) (by rw [a4];omega)
  refine ⟨?_,hl2⟩
  have :=rlow_any (w:=W2) (c:=d) a1 a2 (by omega)
  rwa [take_trim hl2,a4] at this)
 clear htr hi hl tl hv h7 h8
 by_cases hneg:x<0
 ·obtain rfl:na=true:=by simp [hn,hneg]
  have hab:(x.natAbs:Int)=-x:=by omega
  rw [hab] at HT HLO
  have hle:decide (-x<=9223372036854775808)=true:=by simp;omega
  clear hn hab hs
  go_enter Tryz.func116,Tryz.ntmps116
  go_wp2_with (first
   |(go_at_call 185;refine (HT.out _ inferInstance).mono ?_;rintro e w1 ⟨B,d,l1,rfl,hi1,hl1,ht1,hv1,hd1,hd2,hs1⟩;obtain ⟨hlo,hl2⟩:=HLO.out _ _ _ d _ hi1 hl1 ht1 hv1 (Ext.refl w1);have HL:=Lib.hid hlo;obtain ⟨k,hk⟩:∃k,l1.length=k:=⟨_,rfl⟩;rw [hk] at HL hl2 |-;clear hlo hi1 hl1 ht1 hv1 hd1 hk;obtain ⟨q1,q2⟩:=box1 w w1 (.bool true) (.slice A l.length c) 117)
   |(go_at_call 186;refine (HL.out).mono ?_;rintro e w' ⟨rfl,rfl⟩))
  go_ret2
  refine ⟨?_,Step.of _ _⟩
  have e1:wrap64 (IntKind.u64.wrap x)=x:=by simp only [wrap64,IntKind.wrap_u64,IntKind.wrap_i64];omega
  simp [e1]
 ·obtain rfl:na=false:=by simp [hn];omega
  have hab:(x.natAbs:Int)=x:=by omega
  rw [hab] at HT HLO
  have hle:decide (x<9223372036854775808)=true:=by simp;omega
  have hx0:0<=x:=by omega
  clear hn hab hs hneg
  go_enter Tryz.func116,Tryz.ntmps116
  go_wp2_with (first
   |(go_at_call 185;refine (HT.out _ inferInstance).mono ?_;rintro e w1 ⟨B,d,l1,rfl,hi1,hl1,ht1,hv1,hd1,hd2,hs1⟩;obtain ⟨hlo,hl2⟩:=HLO.out _ _ _ d _ hi1 hl1 ht1 hv1 (Ext.refl w1);have HL:=Lib.hid hlo;obtain ⟨k,hk⟩:∃k,l1.length=k:=⟨_,rfl⟩;rw [hk] at HL hl2 |-;clear hlo hi1 hl1 ht1 hv1 hd1 hk;obtain ⟨q1,q2⟩:=box1 w w1 (.bool false) (.slice A l.length c) 117)
   |(go_at_call 186;refine (HL.out).mono ?_;rintro e w' ⟨rfl,rfl⟩))
  go_ret2
  refine ⟨?_,Step.of _ _⟩
  simp
theorem rtrimV {w0 w:World} {na:Bool} {A:Option Addr} {n c:Nat} {x:Int} (ha:IntV w0 na A n c x) (h40:n<=1099511627776) [hx:Ext w0 w]:Calls Tryz.prog 185 #[.slice A n c] w (fun e w'=>∃B k d,e= .returned (.slice B k d)/\NatV w' B k d x.natAbs/\Step w w'):=by
 obtain ⟨l,rfl,hl,tl,hv,hs,hi,h7,h8⟩:=ha
 rw [<-hv]
 exact (rtrim_any hi hl h7 h8 h40).mono fun e w' h=>NatV.of_ret h
theorem rSign_any {w0 w:World} {na:Bool} {A:Option Addr} {n c:Nat} {x:Int} (ha:IntV w0 na A n c x) (h40:n<=1099511627776) [hx:Ext w0 w]:
  Calls Tryz.prog 175 #[.agg #[.bool na,.slice A n c]] w (RetVal w (.int .i64 (cmpI x 0))):=by
 have hn:=ha.neg_eq
 have htr:=fun W (hh:Ext w0 W)=>rtrimV (w:=W) ha h40
 have HT:=Lib.hid htr
 have HZ:Hid (∀(W:World) B k d,NatV W B k d (x.natAbs:Int)->(k=0↔x=0)):=Lib.hid (by intro W B k d h;rw [h.zero_iff];omega)
 clear htr
 by_cases h0:x=0
 ·have HE:=Lib.hid (cmpI_eq h0)
  have H0:=Lib.hid h0
  clear hn h0
  go_enter Tryz.func175,Tryz.ntmps175
  go_wp2_with (go_at_call 185;refine (HT.out _ inferInstance).mono ?_;rintro e w1 ⟨B,k,d,rfl,hN,hs1⟩;obtain rfl:k=0:=(HZ.out _ _ _ _ hN).2 H0.out;clear hN)
  go_ret
  exact ⟨by rw [HE.out];rfl,Step.of _ _⟩
 ·have H0:=Lib.hid h0
  by_cases hneg:x<0
  ·have HE:=Lib.hid (cmpI_lt hneg)
   obtain rfl:na=true:=by simp [hn,hneg]
   clear hn h0 hneg
   go_enter Tryz.func175,Tryz.ntmps175
   go_wp2_with (go_at_call 185;refine (HT.out _ inferInstance).mono ?_;rintro e w1 ⟨B,k,d,rfl,hN,hs1⟩;have hk:((k:Int)==0)=false:=(by have :=HZ.out _ _ _ _ hN;have :=H0.out;simp;omega);clear hN;obtain ⟨q1,q2⟩:=box1 w w1 (.bool true) (.slice A n c) 117)
   go_ret
   exact ⟨by rw [HE.out];rfl,Step.of _ _⟩
  ·have HE:=Lib.hid (cmpI_gt (show 0<x by omega))
   obtain rfl:na=false:=by simp [hn];omega
   clear hn h0 hneg
   go_enter Tryz.func175,Tryz.ntmps175
   go_wp2_with (go_at_call 185;refine (HT.out _ inferInstance).mono ?_;rintro e w1 ⟨B,k,d,rfl,hN,hs1⟩;have hk:((k:Int)==0)=false:=(by have :=HZ.out _ _ _ _ hN;have :=H0.out;simp;omega);clear hN;obtain ⟨q1,q2⟩:=box1 w w1 (.bool false) (.slice A n c) 117)
   go_ret
   exact ⟨by rw [HE.out];rfl,Step.of _ _⟩
theorem rcmp_eq {w:World} {A B:Option Addr} {c d:Nat} {l m:List Int} (ha:Ints w A 280 .u32 l) (hb:Ints w B 280 .u32 m) (hl:Limbs l) (hm:Limbs m)
  (h1:l.length<=9223372036854775807) (hn:m.length=l.length):
  Calls Tryz.prog 207 #[.slice A l.length c,.slice B l.length d] w (RetVal w (.int .i64 (cmpI (val l) (val m)))):=by
 have HN:=Lib.hid hn
 clear hn
 go_enter Tryz.func207,Tryz.ntmps207
 go_wp2
 go_loopw [5] (fun i wr=>∃k:Nat,k<=l.length/\i= .int .i64 ((k:Int)-1)/\Hid (l.drop k=m.drop k)/\Ext w wr) (fun i _=>(intOf i+1).toNat)
 case atStart=>exact ⟨l.length,by omega,rfl,by simp [Hid,HN.out],inferInstance⟩
 case round=>
  obtain ⟨k,hk,rfl,hd,hxr⟩:=hrel
  cases k with
  |zero=>
   go_wp2
   go_ret
   refine ⟨?_,hxr.toStep⟩
   have :=hd.out
   simp only [List.drop_zero] at this
   rw [cmpI_eq (by rw [this])];rfl
  |succ j=>
   obtain ⟨b,o,x,rfl,hx',hcx,hbx⟩:=(ha.ext hxr).at_ (i:=j) (by omega)
   obtain ⟨b',o',y,rfl,hy',hcy,hby⟩:=(hb.ext hxr).at_ (i:=j) (by have :=HN.out;omega)
   obtain ⟨hx0,hx1⟩:=hl.get hx'
   obtain ⟨hy0,hy1⟩:=hm.get hy'
   have HX:=Lib.hid hx'
   have HY:=Lib.hid hy'
   clear hx' hy'
   rw [show ((j+1:Nat):Int)-1=(j:Int) by omega]
   by_cases hlt:x<y
   ·have hltb:decide (x<y)=true:=by simpa using hlt
    have hne:(x !=y)=true:=by simp;omega
    have e1:=Lib.hid (cmpI_lt (val_lt_of_limb hl hm HX.out HY.out hd.out hlt))
    go_wp2
    go_quiet (fail)
    go_wp2
    go_quiet (fail)
    go_wp2
    go_ret
    exact ⟨by rw [e1.out];rfl,(inferInstance:Ext w _).toStep⟩
   ·by_cases hgt:y<x
    ·have hltb:decide (x<y)=false:=by simpa using hlt
     have hne:(x !=y)=true:=by simp;omega
     have e1:=Lib.hid (cmpI_gt (val_lt_of_limb hm hl HY.out HX.out hd.out.symm hgt))
     clear hlt
     go_wp2
     go_quiet (fail)
     go_wp2
     go_quiet (fail)
     go_wp2
     go_ret
     exact ⟨by rw [e1.out];rfl,(inferInstance:Ext w _).toStep⟩
    ·obtain rfl:x=y:=by omega
     have hd':Hid (l.drop j=m.drop j):=by
      have h1:j<l.length:=(List.getElem?_eq_some_iff.1 HX.out).1
      have h2:j<m.length:=(List.getElem?_eq_some_iff.1 HY.out).1
      unfold Hid
      rw [List.drop_eq_getElem_cons h1,List.drop_eq_getElem_cons h2,hd.out,(List.getElem?_eq_some_iff.1 HX.out).2,(List.getElem?_eq_some_iff.1 HY.out).2]
     clear hlt hgt
     go_wp2
     go_quiet (fail)
     go_wp2
     exact ⟨⟨j,by omega,rfl,hd',inferInstance⟩,by simp [intOf]<;>omega⟩
theorem rcmp_any {w0 w1 w:World} {A B:Option Addr} {n k c d:Nat} {x y:Int} (ha':NatV w0 A n c x) (hb':NatV w1 B k d y) [hx:Ext w0 w] [hy:Ext w1 w]:
  Calls Tryz.prog 207 #[.slice A n c,.slice B k d] w (RetVal w (.int .i64 (cmpI x y))):=by
 obtain ⟨l,rfl,ha,hl,tl,rfl,h5,h6⟩:=ha'
 obtain ⟨m,rfl,hb,hm,tm,rfl,g5,g6⟩:=hb'
 by_cases hlt:l.length<m.length
 ·have e1:=Lib.hid (cmpI_lt (tight_len_lt hl hm tm hlt))
  have hne:((l.length:Int) !=(m.length:Int))=true:=by simp;omega
  go_enter Tryz.func207,Tryz.ntmps207
  go_wp2
  go_ret
  exact ⟨by rw [e1.out];rfl,Step.of _ _⟩
 by_cases hgt:m.length<l.length
 ·have e1:=Lib.hid (cmpI_gt (tight_len_lt hm hl tl hgt))
  have hne:((l.length:Int) !=(m.length:Int))=true:=by simp;omega
  go_enter Tryz.func207,Tryz.ntmps207
  go_wp2
  go_ret
  exact ⟨by rw [e1.out];rfl,Step.of _ _⟩
 ·have hn:m.length=l.length:=by omega
  rw [hn]
  exact rcmp_eq (ha.ext hx) (hb.ext hy) hl hm (by omega) hn
theorem cmpI_range (a b:Int):-1<=cmpI a b/\cmpI a b<=1:=by unfold cmpI;split<;>(try split)<;>omega
theorem cmpI_sgn (x y:Int) (h:cmpI x 0=cmpI y 0):cmpI x 0*cmpI x.natAbs y.natAbs=cmpI x y:=by
 unfold cmpI at*
 by_cases h1:x<0
 ·have h2:y<0:=by
   rw [if_pos h1] at h
   split at h
   ·assumption
   ·split at h<;>omega
  rw [if_pos h1]
  by_cases h3:x<y
  ·rw [if_pos h3,if_neg (by omega),if_neg (by omega)];rfl
  ·by_cases h4:x=y
   ·subst h4;simp
   ·rw [if_neg h3,if_neg h4,if_pos (by omega)];rfl
 ·rw [if_neg h1] at h
  by_cases h2:x=0
  ·subst h2
   simp at h |-
   have :y=0:=by
    by_cases h5:y<0
    ·rw [if_pos h5] at h;omega
    ·rw [if_neg h5] at h
     by_cases h6:y=0
     ·exact h6
     ·rw [if_neg h6] at h;omega
   subst this;simp
  ·rw [if_neg h2] at h
   have h7:0<y:=by
    by_cases h5:y<0
    ·rw [if_pos h5] at h;omega
    ·rw [if_neg h5] at h
     by_cases h6:y=0
     ·rw [if_pos h6] at h;omega
     ·omega
   rw [if_neg h1,if_neg h2,Int.one_mul,show ((x.natAbs:Nat):Int)=x by omega,show ((y.natAbs:Nat):Int)=y by omega]
theorem boxes2s (w w':World) (x y x' y':Value) (T T':TypeId) [h:Ext ((w.alloc (.cells #[x,y] T)).alloc (.cells #[x',y'] T')) w']:w'.cell? ⟨w.heap.size,1,none⟩=some y/\w'.cell? ⟨w.heap.size+1,1,none⟩=some y':=by
 obtain ⟨_,a,_,b⟩:=boxes2 w w' x y x' y' T T'
 exact ⟨a,b⟩
theorem rCmp_any {w0 w1 w:World} {na nb:Bool} {A B:Option Addr} {n k c d:Nat} {x y:Int} (ha:IntV w0 na A n c x) (hb:IntV w1 nb B k d y) (h1:n<=1099511627776) (h2:k<=1099511627776) [hx:Ext w0 w] [hy:Ext w1 w]:
  Calls Tryz.prog 144 #[.agg #[.bool na,.slice A n c],.agg #[.bool nb,.slice B k d]] w (RetVal w (.int .i64 (cmpI x y))):=by
 have hsa:=fun W (hh:Ext w0 W)=>rSign_any (w:=W) ha h1
 have hsb:=fun W (hh:Ext w1 W)=>rSign_any (w:=W) hb h2
 have hta:=fun W (hh:Ext w0 W)=>rtrimV (w:=W) ha h1
 have htb:=fun W (hh:Ext w1 W)=>rtrimV (w:=W) hb h2
 have HSA:=Lib.hid hsa
 have HSB:=Lib.hid hsb
 have HTA:=Lib.hid hta
 have HTB:=Lib.hid htb
 obtain ⟨p,hp⟩:∃p,cmpI x 0=p:=⟨_,rfl⟩
 obtain ⟨q,hq⟩:∃q,cmpI y 0=q:=⟨_,rfl⟩
 have rp:=cmpI_range x 0
 have rq:=cmpI_range y 0
 rw [hp] at HSA rp
 rw [hq] at HSB rq
 have HS:=Lib.hid (fun h=>cmpI_sgn x y h)
 have HR:=Lib.hid (cmpI_range x.natAbs y.natAbs)
 have HD:Hid (p<q->cmpI x y=-1):=Lib.hid (by
  subst hp hq;intro h;unfold cmpI at*;split at h<;>split at h<;>(try split at h)<;>(try split at h)<;>(try omega)<;>(rw [if_pos (by omega)]))
 have HU:Hid (q<p->cmpI x y=1):=Lib.hid (by
  subst hp hq;intro h;unfold cmpI at*;split at h<;>split at h<;>(try split at h)<;>(try split at h)<;>(try omega)<;>(rw [if_neg (by omega),if_neg (by omega)]))
 rw [hp,hq] at HS
 clear hsa hsb hta htb hp hq
 by_cases hne:p=q
 ·subst hne
  have hbe:(p !=p)=false:=by simp
  have HC:Hid (∀(W0 W1 W:World) B1 k1 d1 B2 k2 d2,NatV W0 B1 k1 d1 x.natAbs->NatV W1 B2 k2 d2 y.natAbs->Ext W0 W->Ext W1 W->Calls Tryz.prog 207 #[.slice B1 k1 d1,.slice B2 k2 d2] W (RetVal W (.int .i64 (cmpI x.natAbs y.natAbs)))):=Lib.hid (fun W0 W1 W B1 k1 d1 B2 k2 d2 a b e1 e2=>rcmp_any a b)
  obtain ⟨t,ht⟩:∃t,cmpI x.natAbs y.natAbs=t:=⟨_,rfl⟩
  rw [ht] at HS HR HC
  have HE:=Lib.hid (HS.out rfl)
  have hpt:-1<=p*t/\p*t<=1:=by
   rcases (by omega:p=-1∨p=0∨p=1) with h |h |h<;>subst h<;>have :=HR.out<;>omega
  clear HD HU HS HR ht
  obtain ⟨hpt1,hpt2⟩:=hpt
  obtain ⟨u,hu⟩:∃u,p*t=u:=⟨_,rfl⟩
  rw [hu] at HE hpt1 hpt2
  have hw:IntKind.i64.wrap u=u:=by simp only [IntKind.wrap_i64];omega
  go_enter Tryz.func144,Tryz.ntmps144
  go_wp2
  go_region_held3 (fun w'=>w'.cell? ⟨w.heap.size,0,none⟩=some (.bool na)/\w'.cell? ⟨w.heap.size,1,none⟩=some (.slice A n c)/\w'.cell? ⟨w.heap.size+1,0,none⟩=some (.bool nb)/\w'.cell? ⟨w.heap.size+1,1,none⟩=some (.slice B k d)) (exact boxes2 w _ _ _ _ _ 117 117)
   (first
    |(go_at_call_of 175 (Value.agg #[.bool na,.slice A n c]);refine (HSA.out _ inferInstance).mono ?_;rintro e w2 ⟨rfl,hs2⟩)
    |(go_at_call_of 175 (Value.agg #[.bool nb,.slice B k d]);refine (HSB.out _ inferInstance).mono ?_;rintro e w2 ⟨rfl,hs2⟩))
  all_goals
   go_wp2
   go_region_held3 (fun w'=>w'.cell? ⟨w.heap.size,1,none⟩=some (.slice A n c)/\w'.cell? ⟨w.heap.size+1,1,none⟩=some (.slice B k d)) (exact boxes2s w _ (.bool na) (.slice A n c) (.bool nb) (.slice B k d) 117 117)
    (first
     |(go_at_call_of 185 (Value.slice A n c);refine (HTA.out _ inferInstance).mono ?_;rintro e w4 ⟨B4,k4,d4,rfl,hN4,hs4⟩)
     |(go_at_call_of 185 (Value.slice B k d);refine (HTB.out _ inferInstance).mono ?_;rintro e w5 ⟨B5,k5,d5,rfl,hN5,hs5⟩)
     |(go_at_call 207;refine (HC.out _ _ _ _ _ _ _ _ _ hN4 hN5 inferInstance inferInstance).mono ?_;rintro e w6 ⟨rfl,hs6⟩))
  all_goals
   go_wp2
   go_ret
   exact ⟨by rw [<-HE.out];simp [hw],Step.of _ _⟩
 ·have hbe:(p !=q)=true:=by simp;exact hne
  by_cases hlt:p<q
  ·have hb2:decide (p<q)=true:=by simpa using hlt
   have HE:=Lib.hid (HD.out hlt)
   clear HD HU HS HR hne hlt
   go_enter Tryz.func144,Tryz.ntmps144
   go_wp2
   go_region_held3 (fun w'=>w'.cell? ⟨w.heap.size,0,none⟩=some (.bool na)/\w'.cell? ⟨w.heap.size,1,none⟩=some (.slice A n c)/\w'.cell? ⟨w.heap.size+1,0,none⟩=some (.bool nb)/\w'.cell? ⟨w.heap.size+1,1,none⟩=some (.slice B k d)) (exact boxes2 w _ _ _ _ _ 117 117)
    (first
     |(go_at_call_of 175 (Value.agg #[.bool na,.slice A n c]);refine (HSA.out _ inferInstance).mono ?_;rintro e w2 ⟨rfl,hs2⟩)
     |(go_at_call_of 175 (Value.agg #[.bool nb,.slice B k d]);refine (HSB.out _ inferInstance).mono ?_;rintro e w2 ⟨rfl,hs2⟩))
   all_goals
    go_wp2
    go_ret
    exact ⟨by rw [HE.out];rfl,Step.of _ _⟩
  ·have hb2:decide (p<q)=false:=by simpa using hlt
   have HE:=Lib.hid (HU.out (by omega))
   clear HD HU HS HR hne hlt
   go_enter Tryz.func144,Tryz.ntmps144
   go_wp2
   go_region_held3 (fun w'=>w'.cell? ⟨w.heap.size,0,none⟩=some (.bool na)/\w'.cell? ⟨w.heap.size,1,none⟩=some (.slice A n c)/\w'.cell? ⟨w.heap.size+1,0,none⟩=some (.bool nb)/\w'.cell? ⟨w.heap.size+1,1,none⟩=some (.slice B k d)) (exact boxes2 w _ _ _ _ _ 117 117)
    (first
     |(go_at_call_of 175 (Value.agg #[.bool na,.slice A n c]);refine (HSA.out _ inferInstance).mono ?_;rintro e w2 ⟨rfl,hs2⟩)
     |(go_at_call_of 175 (Value.agg #[.bool nb,.slice B k d]);refine (HSB.out _ inferInstance).mono ?_;rintro e w2 ⟨rfl,hs2⟩))
   all_goals
    go_wp2
    go_ret
    exact ⟨by rw [HE.out];rfl,Step.of _ _⟩
def RetLimbs (w:World) (z:Int) (n:Nat) (e:Ending) (w':World):Prop:=∃B d l,e= .returned (.slice B (List.length l) d)/\Ints w' B 280 .u32 l/\Limbs l/\val l=z/\l.length<=n/\l.length<=d/\d<=9223372036854775807/\Step w w'
theorem retLimbs_own {w w1:World} {base:Nat} {A1:Option Addr} {c1 n:Nat} {l:List Int} (hl:Limbs l) {z:Int} (hv:val l=z) (hn:l.length<=n) (hown:Own w1 base 280 1 A1 l.length c1 (l.map (Value.int .u32))) (hx:Ext w w1):RetLimbs w z n (.returned (.slice A1 l.length c1)) w1:=
 ⟨A1,c1,l,rfl,hown.arr,hl,hv,hn,hown.cap.1,hown.cap.2,hx.toStep⟩
theorem own_snoc {w1:World} {base k:Nat} {A1:Option Addr} {c1:Nat} {s:List Int} {x:Int} (_hs:s.length=k) (hown:Own w1 base 280 1 A1 (k+1) c1 (s.map (Value.int .u32)++[.int .u32 x])):Own w1 base 280 1 A1 (k+1) c1 ((s++[x]).map (Value.int .u32)):=by
 simpa using hown
theorem arr_one (W:World) (x:Int):Arr (W.alloc (.cells #[.int .u32 x] 280)) (some ⟨W.heap.size,0,none⟩) 280 [.int .u32 x]:=Arr.new W 280 #[.int .u32 x]
theorem one_u32 (x:Int):∀u∈[Value.int .u32 x],u.oneCell'=true:=by intro u hu;obtain rfl:u= .int .u32 x:=by simpa using hu
                                                                  rfl
theorem rsum_any {w0 w1 w:World} {A B:Option Addr} {c d:Nat} {l m:List Int} (ha':Ints w0 A 280 .u32 l) (hb':Ints w1 B 280 .u32 m) (hl:Limbs l) (hm:Limbs m) (h1:l.length<=274877906944) (h2:m.length<=274877906944) [hx:Ext w0 w] [hy:Ext w1 w]:
  Calls Tryz.prog 230 #[.slice A l.length c,.slice B m.length d] w (RetLimbs w (val l+val m) (max l.length m.length+1)):=by
 have ha:=ha'.ext hx
 have hb:=hb'.ext hy
 obtain ⟨N,hN⟩:∃N,N=max l.length m.length:=⟨_,rfl⟩
 have hN1:l.length<=N:=by omega
 have hN2:m.length<=N:=by omega
 have hN3:N<=274877906944:=by omega
 have hN4:N=l.length∨N=m.length:=by omega
 rw [<-hN]
 clear hN ha' hb'
 go_enter Tryz.func230,Tryz.ntmps230
 go_wp2
 go_loopw [5,6,7] (fun v cv i wr=>∃(k:Nat) (s:List Int) (cy:Int) (A1:Option Addr) (c1:Nat),k<=N/\i= .int .i64 k/\v= .slice A1 k c1/\cv= .int .u64 cy/\0<=cy/\cy<=1/\Hid (s.length=k)/\Hid (Limbs s)/\Hid (val s+(4294967296:Int)^k*cy=val (l.take k)+val (m.take k))/\Hid (Own wr w.heap.size 280 1 A1 k c1 (s.map (Value.int .u32)))/\Ext w wr) (fun _ _ i _=>N-(intOf i).toNat)
 case atStart=>exact ⟨0,[],0,none,0,by omega,rfl,rfl,rfl,by omega,by omega,Lib.hid rfl,Lib.hid Limbs.nil,Lib.hid (by simp [val]),Lib.hid (Own.nil _ _ _ _),inferInstance⟩
 case round=>
  obtain ⟨k,s,cy,A1,c1,hk,rfl,rfl,rfl,hc0,hc1,HS,HLs,HV,HO,hxr⟩:=hrel
  by_cases hkl:k<l.length
  ·obtain ⟨b,o,x,rfl,hx',hcx,hbx⟩:=(ha.ext hxr).at_ (i:=k) (by omega)
   obtain ⟨hx0,hx1⟩:=hl.get hx'
   have HX:=Lib.hid (val_take_succ hx')
   clear hx'
   by_cases hkm:k<m.length
   ·obtain ⟨b',o',y,rfl,hy',hcy,hby⟩:=(hb.ext hxr).at_ (i:=k) (by omega)
    obtain ⟨hy0,hy1⟩:=hm.get hy'
    have HY:=Lib.hid (val_take_succ hy')
    clear hy'
    go_wp2_with (at_builtin;refine wpList_app _ rfl _ _ 115 rfl w.heap.size 280 (.int .u32 0) 1 4 Tryz.underlying115 Tryz.infoU32 rfl (by omega) (by omega) A1 k c1 (s.map (Value.int .u32)) rfl (HO.out.ext inferInstance) _ 1 1 _ rfl (arr_one _ _) rfl (one_u32 _) (by omega) (by have :=hxr.size;simp;omega) ?_;intro A2 c2 w2 hown hg;have HO2:=Lib.hid (own_snoc HS.out hown);have hx2:Ext w w2:=hg.ext inferInstance (Nat.le_refl _);clear hown hg)
    refine ⟨⟨k+1,s++[(cy+x+y)%4294967296],(cy+x+y) / 4294967296,A2,c2,by omega,by go_num,rfl,rfl,by omega,by omega,Lib.hid (snoc_len HS.out _),Lib.hid (HLs.out.snoc (by omega) (by omega)),Lib.hid ?_,HO2,inferInstance⟩,by simp [intOf]<;>omega⟩
    rw [val_carry HS.out cy (cy+x+y) _ ((4294967296:Int)^k*x+(4294967296:Int)^k*y) HV.out (by rw [<-Int.mul_add];congr 1;omega),HX.out,HY.out]
    omega
   ·have HY:=Lib.hid (show val (m.take (k+1))=val (m.take k) by rw [val_take_all (by omega),val_take_all (by omega)])
    go_wp2_with (at_builtin;refine wpList_app _ rfl _ _ 115 rfl w.heap.size 280 (.int .u32 0) 1 4 Tryz.underlying115 Tryz.infoU32 rfl (by omega) (by omega) A1 k c1 (s.map (Value.int .u32)) rfl (HO.out.ext inferInstance) _ 1 1 _ rfl (arr_one _ _) rfl (one_u32 _) (by omega) (by have :=hxr.size;simp;omega) ?_;intro A2 c2 w2 hown hg;have HO2:=Lib.hid (own_snoc HS.out hown);have hx2:Ext w w2:=hg.ext inferInstance (Nat.le_refl _);clear hown hg)
    refine ⟨⟨k+1,s++[(cy+x)%4294967296],(cy+x) / 4294967296,A2,c2,by omega,by go_num,rfl,rfl,by omega,by omega,Lib.hid (snoc_len HS.out _),Lib.hid (HLs.out.snoc (by omega) (by omega)),Lib.hid ?_,HO2,inferInstance⟩,by simp [intOf]<;>omega⟩
    rw [val_carry HS.out cy (cy+x) _ ((4294967296:Int)^k*x) HV.out (by congr 1;omega),HX.out,HY.out]
    omega
  ·by_cases hkm:k<m.length
   ·have HX:=Lib.hid (show val (l.take (k+1))=val (l.take k) by rw [val_take_all (by omega),val_take_all (by omega)])
    obtain ⟨b',o',y,rfl,hy',hcy,hby⟩:=(hb.ext hxr).at_ (i:=k) (by omega)
    obtain ⟨hy0,hy1⟩:=hm.get hy'
    have HY:=Lib.hid (val_take_succ hy')
    clear hy'
    go_wp2_with (at_builtin;refine wpList_app _ rfl _ _ 115 rfl w.heap.size 280 (.int .u32 0) 1 4 Tryz.underlying115 Tryz.infoU32 rfl (by omega) (by omega) A1 k c1 (s.map (Value.int .u32)) rfl (HO.out.ext inferInstance) _ 1 1 _ rfl (arr_one _ _) rfl (one_u32 _) (by omega) (by have :=hxr.size;simp;omega) ?_;intro A2 c2 w2 hown hg;have HO2:=Lib.hid (own_snoc HS.out hown);have hx2:Ext w w2:=hg.ext inferInstance (Nat.le_refl _);clear hown hg)
    refine ⟨⟨k+1,s++[(cy+y)%4294967296],(cy+y) / 4294967296,A2,c2,by omega,by go_num,rfl,rfl,by omega,by omega,Lib.hid (snoc_len HS.out _),Lib.hid (HLs.out.snoc (by omega) (by omega)),Lib.hid ?_,HO2,inferInstance⟩,by simp [intOf]<;>omega⟩
    rw [val_carry HS.out cy (cy+y) _ ((4294967296:Int)^k*y) HV.out (by congr 1;omega),HX.out,HY.out]
    omega
   ·obtain rfl:k=N:=by omega
    have hfin:=HV.out
    rw [val_take_all (by omega),val_take_all (by omega)] at hfin
    have HF:=Lib.hid hfin
    clear hfin HV hN4
    have hcm:cy%4294967296=cy:=by omega
    go_wp2_with (at_builtin;refine wpList_app _ rfl _ _ 115 rfl w.heap.size 280 (.int .u32 0) 1 4 Tryz.underlying115 Tryz.infoU32 rfl (by omega) (by omega) A1 k c1 (s.map (Value.int .u32)) rfl (HO.out.ext inferInstance) _ 1 1 _ rfl (arr_one _ _) rfl (one_u32 _) (by omega) (by have :=hxr.size;simp;omega) ?_;intro A2 c2 w2 hown hg;have HO2:=Lib.hid (own_snoc HS.out hown);have hx2:Ext w w2:=hg.ext inferInstance (Nat.le_refl _);clear hown hg)
    go_ret
    have e1:(s++[cy]).length=k+1:=snoc_len HS.out _
    have :=retLimbs_own (w:=w) (n:=k+1) (HLs.out.snoc hc0 (by omega)) (show val (s++[cy])=val l+val m by rw [val_snoc,HS.out,HF.out]) (by omega) (by rw [e1];exact HO2.out) inferInstance
    rw [e1] at this
    simpa using this
theorem diff_limb (x t:Int):IntKind.u64.wrap (x-t)%4294967296=(x-t)%4294967296:=by
 simp only [IntKind.wrap_u64];omega
theorem rdifference_any {w0 w1 w:World} {A B:Option Addr} {c d:Nat} {l m:List Int} (ha':Ints w0 A 280 .u32 l) (hb':Ints w1 B 280 .u32 m) (hl:Limbs l) (hm:Limbs m) (h1:l.length<=274877906944) (hn:m.length<=l.length) (hle:val m<=val l) [hx:Ext w0 w] [hy:Ext w1 w]:
  Calls Tryz.prog 231 #[.slice A l.length c,.slice B m.length d] w (RetLimbs w (val l-val m) l.length):=by
 have ha:=ha'.ext hx
 have hb:=hb'.ext hy
 clear ha' hb'
 go_enter Tryz.func231,Tryz.ntmps231
 go_wp2
 go_loopw [5,6,7,8] (fun v cv i _ wr=>∃(k:Nat) (s:List Int) (cy:Int) (A1:Option Addr) (c1:Nat),k<=l.length/\i= .int .i64 k/\v= .slice A1 k c1/\cv= .int .u64 cy/\0<=cy/\cy<=1/\Hid (s.length=k)/\Hid (Limbs s)/\Hid (val s+(4294967296:Int)^k*(-cy)=val (l.take k)-val (m.take k))/\Hid (Own wr w.heap.size 280 1 A1 k c1 (s.map (Value.int .u32)))/\Ext w wr) (fun _ _ i _ _=>l.length-(intOf i).toNat)
 case atStart=>exact ⟨0,[],0,none,0,by omega,rfl,rfl,rfl,by omega,by omega,Lib.hid rfl,Lib.hid Limbs.nil,Lib.hid (by simp [val]),Lib.hid (Own.nil _ _ _ _),inferInstance⟩
 case round=>
  obtain ⟨k,s,cy,A1,c1,hk,rfl,rfl,rfl,hc0,hc1,HS,HLs,HV,HO,hxr⟩:=hrel
  by_cases hkl:k<l.length
  ·obtain ⟨b,o,x,rfl,hx',hcw',hbw'⟩:=ha.at_ (i:=k) (by omega)
   have hcx:=(hxr.below.cell (p:=⟨b,o+k,none⟩) hbw').trans hcw'
   have HCW:=Lib.hid (And.intro hcw' hbw')
   clear hcw' hbw'
   obtain ⟨hx0,hx1⟩:=hl.get hx'
   have HX:=Lib.hid (val_take_succ hx')
   clear hx'
   by_cases hkm:k<m.length
   ·obtain ⟨b',o',y,rfl,hy',hcy,hby⟩:=(hb.ext hxr).at_ (i:=k) (by omega)
    obtain ⟨hy0,hy1⟩:=hm.get hy'
    have HY:=Lib.hid (val_take_succ hy')
    clear hy'
    have hw:=diff_limb x (cy+y)
    by_cases hlt:x<cy+y
    ·have hlb:decide (x<cy+y)=true:=by simpa using hlt
     go_wp2_with (at_builtin;refine wpList_app _ rfl _ _ 115 rfl w.heap.size 280 (.int .u32 0) 1 4 Tryz.underlying115 Tryz.infoU32 rfl (by omega) (by omega) A1 k c1 (s.map (Value.int .u32)) rfl (HO.out.ext inferInstance) _ 1 1 _ rfl (arr_one _ _) rfl (one_u32 _) (by omega) (by have :=hxr.size;simp;omega) ?_;intro A2 c2 w2 hown hg;have HO2:=Lib.hid (own_snoc HS.out hown);have hx2:Ext w w2:=hg.ext inferInstance (Nat.le_refl _);clear hown hg;have cx2:=(hx2.below.cell (p:=⟨b,o+k,none⟩) HCW.out.2).trans HCW.out.1)
     have hc2:(x-(cy+y)) / 4294967296=-1:=by omega
     refine ⟨⟨k+1,s++[(x-(cy+y))%4294967296],1,A2,c2,by omega,by go_num,rfl,rfl,by omega,by omega,Lib.hid (snoc_len HS.out _),Lib.hid (HLs.out.snoc (by omega) (by omega)),Lib.hid ?_,HO2,inferInstance⟩,by simp [intOf]<;>omega⟩
     rw [<-hc2,val_carry HS.out (-cy) (x-(cy+y)) _ ((4294967296:Int)^k*x-(4294967296:Int)^k*y) HV.out (by (try rw [<-Int.mul_sub]);congr 1;omega),HX.out,HY.out]
     omega
    ·have hlb:decide (x<cy+y)=false:=by simpa using hlt
     go_wp2_with (at_builtin;refine wpList_app _ rfl _ _ 115 rfl w.heap.size 280 (.int .u32 0) 1 4 Tryz.underlying115 Tryz.infoU32 rfl (by omega) (by omega) A1 k c1 (s.map (Value.int .u32)) rfl (HO.out.ext inferInstance) _ 1 1 _ rfl (arr_one _ _) rfl (one_u32 _) (by omega) (by have :=hxr.size;simp;omega) ?_;intro A2 c2 w2 hown hg;have HO2:=Lib.hid (own_snoc HS.out hown);have hx2:Ext w w2:=hg.ext inferInstance (Nat.le_refl _);clear hown hg;have cx2:=(hx2.below.cell (p:=⟨b,o+k,none⟩) HCW.out.2).trans HCW.out.1)
     have hc2:(x-(cy+y)) / 4294967296=-0:=by omega
     refine ⟨⟨k+1,s++[(x-(cy+y))%4294967296],0,A2,c2,by omega,by go_num,rfl,rfl,by omega,by omega,Lib.hid (snoc_len HS.out _),Lib.hid (HLs.out.snoc (by omega) (by omega)),Lib.hid ?_,by rw [show (x-(cy+y))%4294967296=x-(cy+y) by omega];exact HO2,inferInstance⟩,by simp [intOf]<;>omega⟩
     rw [<-hc2,val_carry HS.out (-cy) (x-(cy+y)) _ ((4294967296:Int)^k*x-(4294967296:Int)^k*y) HV.out (by (try rw [<-Int.mul_sub]);congr 1;omega),HX.out,HY.out]
     omega
   ·have HY:=Lib.hid (show val (m.take (k+1))=val (m.take k) by rw [val_take_all (by omega),val_take_all (by omega)])
    have hw:=diff_limb x cy
    by_cases hlt:x<cy
    ·have hlb:decide (x<cy)=true:=by simpa using hlt
     go_wp2_with (at_builtin;refine wpList_app _ rfl _ _ 115 rfl w.heap.size 280 (.int .u32 0) 1 4 Tryz.underlying115 Tryz.infoU32 rfl (by omega) (by omega) A1 k c1 (s.map (Value.int .u32)) rfl (HO.out.ext inferInstance) _ 1 1 _ rfl (arr_one _ _) rfl (one_u32 _) (by omega) (by have :=hxr.size;simp;omega) ?_;intro A2 c2 w2 hown hg;have HO2:=Lib.hid (own_snoc HS.out hown);have hx2:Ext w w2:=hg.ext inferInstance (Nat.le_refl _);clear hown hg;have cx2:=(hx2.below.cell (p:=⟨b,o+k,none⟩) HCW.out.2).trans HCW.out.1)
     have hc2:(x-cy) / 4294967296=-1:=by omega
     refine ⟨⟨k+1,s++[(x-cy)%4294967296],1,A2,c2,by omega,by go_num,rfl,rfl,by omega,by omega,Lib.hid (snoc_len HS.out _),Lib.hid (HLs.out.snoc (by omega) (by omega)),Lib.hid ?_,HO2,inferInstance⟩,by simp [intOf]<;>omega⟩
     rw [<-hc2,val_carry HS.out (-cy) (x-cy) _ ((4294967296:Int)^k*x) HV.out (by (try rw [<-Int.mul_sub]);congr 1;omega),HX.out,HY.out]
     omega
    ·have hlb:decide (x<cy)=false:=by simpa using hlt
     go_wp2_with (at_builtin;refine wpList_app _ rfl _ _ 115 rfl w.heap.size 280 (.int .u32 0) 1 4 Tryz.underlying115 Tryz.infoU32 rfl (by omega) (by omega) A1 k c1 (s.map (Value.int .u32)) rfl (HO.out.ext inferInstance) _ 1 1 _ rfl (arr_one _ _) rfl (one_u32 _) (by omega) (by have :=hxr.size;simp;omega) ?_;intro A2 c2 w2 hown hg;have HO2:=Lib.hid (own_snoc HS.out hown);have hx2:Ext w w2:=hg.ext inferInstance (Nat.le_refl _);clear hown hg;have cx2:=(hx2.below.cell (p:=⟨b,o+k,none⟩) HCW.out.2).trans HCW.out.1)
     have hc2:(x-cy) / 4294967296=-0:=by omega
     refine ⟨⟨k+1,s++[(x-cy)%4294967296],0,A2,c2,by omega,by go_num,rfl,rfl,by omega,by omega,Lib.hid (snoc_len HS.out _),Lib.hid (HLs.out.snoc (by omega) (by omega)),Lib.hid ?_,by rw [show (x-cy)%4294967296=x-cy by omega];exact HO2,inferInstance⟩,by simp [intOf]<;>omega⟩
     rw [<-hc2,val_carry HS.out (-cy) (x-cy) _ ((4294967296:Int)^k*x) HV.out (by (try rw [<-Int.mul_sub]);congr 1;omega),HX.out,HY.out]
     omega
  ·obtain rfl:k=l.length:=by omega
   have hfin:=HV.out
   rw [val_take_all (Nat.le_refl _),val_take_all hn] at hfin
   have hs1:=val_lt HLs.out
   rw [HS.out] at hs1
   have hp:=pow_pos_B l.length
   have hcy:cy=0:=by
    rcases (by omega:cy=0∨cy=1) with h |h
    ·exact h
    ·subst h;omega
   subst hcy
   have HF:=Lib.hid (show val s=val l-val m by simpa using hfin)
   clear hfin HV hs1 hp hc0 hc1
   go_wp2
   go_ret
   have :=retLimbs_own (w:=w) (n:=l.length) HLs.out HF.out (by rw [HS.out];omega) (by rw [HS.out];exact HO.out) hxr
   rw [HS.out] at this
   simpa using this
theorem rsumN {w0 w1 w:World} {A B:Option Addr} {n k c d:Nat} {x y:Int} (ha:NatV w0 A n c x) (hb:NatV w1 B k d y) (h1:n<=274877906944) (h2:k<=274877906944) [hx:Ext w0 w] [hy:Ext w1 w]:Calls Tryz.prog 230 #[.slice A n c,.slice B k d] w (RetLimbs w (x+y) 274877906945):=by
 obtain ⟨l,rfl,a1,a2,a3,rfl,a5,a6⟩:=ha
 obtain ⟨m,rfl,b1,b2,b3,rfl,b5,b6⟩:=hb
 refine (rsum_any a1 b1 a2 b2 h1 h2).mono ?_
 rintro e w' ⟨B,d,l',q1,q2,q3,q4,q5,q6,q7,q8⟩
 exact ⟨B,d,l',q1,q2,q3,q4,by omega,q6,q7,q8⟩
theorem rdiffN {w0 w1 w:World} {A B:Option Addr} {n k c d:Nat} {x y:Int} (ha:NatV w0 A n c x) (hb:NatV w1 B k d y) (h1:n<=274877906944) (hle:y<=x) [hx:Ext w0 w] [hy:Ext w1 w]:Calls Tryz.prog 231 #[.slice A n c,.slice B k d] w (RetLimbs w (x-y) 274877906945):=by
 obtain ⟨l,rfl,a1,a2,a3,rfl,a5,a6⟩:=ha
 obtain ⟨m,rfl,b1,b2,b3,rfl,b5,b6⟩:=hb
 have hlen:m.length<=l.length:=by
  rcases Nat.lt_or_ge l.length m.length with h |h
  ·have :=tight_len_lt a2 b2 b3 h;omega
  ·exact h
 refine (rdifference_any a1 b1 a2 b2 h1 hlen hle).mono ?_
 rintro e w' ⟨B,d,l',q1,q2,q3,q4,q5,q6,q7,q8⟩
 exact ⟨B,d,l',q1,q2,q3,q4,by omega,q6,q7,q8⟩
theorem rMakeL {w0 w':World} {z:Int} {n:Nat} {e:Ending} (neg:Bool) (h:RetLimbs w0 z n e w') (hn:n<=1099511627776):∃B k d,e= .returned (.slice B k d)/\Step w0 w'/\(∀W,Ext w' W->Calls Tryz.prog 208 #[.bool neg,.slice B k d] W (RetInt W (sgn neg z))):=by
 obtain ⟨B,d,l',rfl,q2,q3,rfl,q5,q6,q7,q8⟩:=h
 exact ⟨B,l'.length,d,rfl,q8,fun W hh=>rMake_any neg q2 q3 q6 q7 (by omega)⟩
theorem box2s (w w':World) (x y x' y':Value) (T T':TypeId) [h:Ext ((w.alloc (.cells #[x,y] T)).alloc (.cells #[x',y'] T')) w']:w'.cell? ⟨w.heap.size,0,none⟩=some x/\w'.cell? ⟨w.heap.size+1,0,none⟩=some x':=by
 obtain ⟨a,_,b,_⟩:=boxes2 w w' x y x' y' T T'
 exact ⟨a,b⟩
theorem rAdd_any {w0 w1 w:World} {na nb:Bool} {A B:Option Addr} {n k c d:Nat} {x y:Int} (ha:IntV w0 na A n c x) (hb:IntV w1 nb B k d y) (h1:n<=274877906944) (h2:k<=274877906944) [hx:Ext w0 w] [hy:Ext w1 w]:
  Calls Tryz.prog 180 #[.agg #[.bool na,.slice A n c],.agg #[.bool nb,.slice B k d]] w (RetInt w (x+y)):=by
 have hta:=fun W (hh:Ext w0 W)=>rtrimV (w:=W) ha (by omega)
 have htb:=fun W (hh:Ext w1 W)=>rtrimV (w:=W) hb (by omega)
 have HTA:=Lib.hid hta
 have HTB:=Lib.hid htb
 have hsx:=ha.neg_eq
 have hsy:=hb.neg_eq
 have HL:Hid ((∀(W:World) B1 k1 d1,NatV W B1 k1 d1 x.natAbs->k1<=274877906944)/\(∀(W:World) B1 k1 d1,NatV W B1 k1 d1 y.natAbs->k1<=274877906944)):=Lib.hid (by
  obtain ⟨l,rfl,a2,a3,a4,_⟩:=ha
  obtain ⟨m,rfl,b2,b3,b4,_⟩:=hb
  constructor
  ·intro W B1 k1 d1 hN
   have :=hN.len (k:=l.length) (by rw [<-a4];exact val_lt a2)
   omega
  ·intro W B1 k1 d1 hN
   have :=hN.len (k:=m.length) (by rw [<-b4];exact val_lt b2)
   omega)
 clear hta htb
 by_cases hn:na=nb
 ·subst hn
  have HE:Hid (sgn na (x.natAbs+y.natAbs)=x+y):=Lib.hid (by rw [hsx] at hsy |-;unfold sgn;by_cases h3:x<0<;>by_cases h4:y<0<;>simp [h3,h4] at hsy |-<;>omega)
  have HS:Hid (∀(W0 W1 W:World) B1 k1 d1 B2 k2 d2,NatV W0 B1 k1 d1 x.natAbs->NatV W1 B2 k2 d2 y.natAbs->Ext W0 W->Ext W1 W->Calls Tryz.prog 230 #[.slice B1 k1 d1,.slice B2 k2 d2] W (RetLimbs W (x.natAbs+y.natAbs) 274877906945)):=Lib.hid (fun W0 W1 W B1 k1 d1 B2 k2 d2 a b e1 e2=>rsumN a b (HL.out.1 _ _ _ _ a) (HL.out.2 _ _ _ _ b))
  clear hsx hsy
  go_enter Tryz.func180,Tryz.ntmps180
  go_wp2
  go_region_held3 (fun w'=>w'.cell? ⟨w.heap.size,0,none⟩=some (.bool na)/\w'.cell? ⟨w.heap.size,1,none⟩=some (.slice A n c)/\w'.cell? ⟨w.heap.size+1,0,none⟩=some (.bool na)/\w'.cell? ⟨w.heap.size+1,1,none⟩=some (.slice B k d)) (exact boxes2 w _ (.bool na) (.slice A n c) (.bool na) (.slice B k d) 117 117)
   (first
    |(go_at_call_of 185 (Value.slice A n c);refine (HTA.out _ inferInstance).mono ?_;rintro e w4 ⟨B4,k4,d4,rfl,hN4,hs4⟩)
    |(go_at_call_of 185 (Value.slice B k d);refine (HTB.out _ inferInstance).mono ?_;rintro e w5 ⟨B5,k5,d5,rfl,hN5,hs5⟩))
  all_goals
   go_wp2
   go_region_held3 (fun w'=>w'.cell? ⟨w.heap.size,0,none⟩=some (.bool na)/\w'.cell? ⟨w.heap.size+1,0,none⟩=some (.bool na)) (exact box2s w _ (.bool na) (.slice A n c) (.bool na) (.slice B k d) 117 117)
    (first
     |(go_at_call 230;refine (HS.out _ _ _ _ _ _ _ _ _ hN4 hN5 inferInstance inferInstance).mono ?_;rintro e w6 hR6;obtain ⟨B6,k6,d6,rfl,hs6,hM6⟩:=rMakeL na hR6 (by omega);clear hR6)
     |(go_at_call 208;refine (hM6 _ inferInstance).mono ?_;rintro e w7 ⟨g,B7,k7,d7,rfl,hz,hs7⟩;obtain ⟨q0,q1,q2,q3,q4,q5⟩:=box2_2 w w7 (.cells #[.bool na,.slice A n c] 117) (.cells #[.bool na,.slice B k d] 117) (.bool false) (.slice none 0 0) 117))
   all_goals
    have Q0:=Lib.hid q0
    clear q0 hM6
    go_wp2
    exact bodyPost_ret (v:= .agg #[.bool g,.slice B7 k7 d7]) (by simp [results,Tryz.results180,go_sem,q1,q2]) rfl ⟨_,_,_,_,rfl,hz.boxedN HE.out (by decide) Q0.out _ _,Step.of _ _⟩
 ·have hnb:(na==nb)=false:=by simp [hn]
  have HC:Hid (∀(W0 W1 W:World) B1 k1 d1 B2 k2 d2,NatV W0 B1 k1 d1 x.natAbs->NatV W1 B2 k2 d2 y.natAbs->Ext W0 W->Ext W1 W->Calls Tryz.prog 207 #[.slice B1 k1 d1,.slice B2 k2 d2] W (RetVal W (.int .i64 (cmpI x.natAbs y.natAbs)))):=Lib.hid (fun W0 W1 W B1 k1 d1 B2 k2 d2 a b e1 e2=>rcmp_any a b)
  by_cases hle:(y.natAbs:Int)<=x.natAbs
  ·have hge:0<=cmpI x.natAbs y.natAbs:=by unfold cmpI;split;omega;split<;>omega
   have HE:Hid (sgn na ((x.natAbs:Int)-y.natAbs)=x+y):=Lib.hid (by subst hsx hsy;unfold sgn;by_cases h3:x<0<;>by_cases h4:y<0<;>simp [h3,h4] at hn |-<;>omega)
   have HS:Hid (∀(W0 W1 W:World) B1 k1 d1 B2 k2 d2,NatV W0 B1 k1 d1 x.natAbs->NatV W1 B2 k2 d2 y.natAbs->Ext W0 W->Ext W1 W->Calls Tryz.prog 231 #[.slice B1 k1 d1,.slice B2 k2 d2] W (RetLimbs W ((x.natAbs:Int)-y.natAbs) 274877906945)):=Lib.hid (fun W0 W1 W B1 k1 d1 B2 k2 d2 a b e1 e2=>rdiffN a b (HL.out.1 _ _ _ _ a) hle)
   obtain ⟨t,ht⟩:∃t,cmpI x.natAbs y.natAbs=t:=⟨_,rfl⟩
   rw [ht] at HC hge
   have hgb:decide (0<=t)=true:=by simpa using hge
   clear hsx hsy hle hn ht
   go_enter Tryz.func180,Tryz.ntmps180
   go_wp2
   go_region_held3 (fun w'=>w'.cell? ⟨w.heap.size,0,none⟩=some (.bool na)/\w'.cell? ⟨w.heap.size,1,none⟩=some (.slice A n c)/\w'.cell? ⟨w.heap.size+1,0,none⟩=some (.bool nb)/\w'.cell? ⟨w.heap.size+1,1,none⟩=some (.slice B k d)) (exact boxes2 w _ (.bool na) (.slice A n c) (.bool nb) (.slice B k d) 117 117)
    (first
     |(go_at_call_of 185 (Value.slice A n c);refine (HTA.out _ inferInstance).mono ?_;rintro e w4 ⟨B4,k4,d4,rfl,hN4,hs4⟩)
     |(go_at_call_of 185 (Value.slice B k d);refine (HTB.out _ inferInstance).mono ?_;rintro e w5 ⟨B5,k5,d5,rfl,hN5,hs5⟩))
   all_goals
    go_wp2_with (go_at_call 207;refine (HC.out _ _ _ _ _ _ _ _ _ hN4 hN5 inferInstance inferInstance).mono ?_;rintro e w8 ⟨rfl,hs8⟩)
    go_region_held3 (fun w'=>w'.cell? ⟨w.heap.size,0,none⟩=some (.bool na)/\w'.cell? ⟨w.heap.size+1,0,none⟩=some (.bool nb)) (exact box2s w _ (.bool na) (.slice A n c) (.bool nb) (.slice B k d) 117 117)
     (first
      |(go_at_call 231;refine (HS.out _ _ _ _ _ _ _ _ _ hN4 hN5 inferInstance inferInstance).mono ?_;rintro e w6 hR6;obtain ⟨B6,k6,d6,rfl,hs6,hM6⟩:=rMakeL na hR6 (by omega);clear hR6)
      |(go_at_call 208;refine (hM6 _ inferInstance).mono ?_;rintro e w7 ⟨g,B7,k7,d7,rfl,hz,hs7⟩;obtain ⟨q0,q1,q2,q3,q4,q5⟩:=box2_2 w w7 (.cells #[.bool na,.slice A n c] 117) (.cells #[.bool nb,.slice B k d] 117) (.bool false) (.slice none 0 0) 117))
    all_goals
     have Q0:=Lib.hid q0
     clear q0 hM6
     go_wp2
     exact bodyPost_ret (v:= .agg #[.bool g,.slice B7 k7 d7]) (by simp [results,Tryz.results180,go_sem,q1,q2]) rfl ⟨_,_,_,_,rfl,hz.boxedN HE.out (by decide) Q0.out _ _,Step.of _ _⟩
  ·have hlt:=cmpI_lt (show (x.natAbs:Int)<y.natAbs by omega)
   have HE:Hid (sgn nb ((y.natAbs:Int)-x.natAbs)=x+y):=Lib.hid (by subst hsx hsy;unfold sgn;by_cases h3:x<0<;>by_cases h4:y<0<;>simp [h3,h4] at hn |-<;>omega)
   have HS:Hid (∀(W0 W1 W:World) B1 k1 d1 B2 k2 d2,NatV W0 B1 k1 d1 y.natAbs->NatV W1 B2 k2 d2 x.natAbs->Ext W0 W->Ext W1 W->Calls Tryz.prog 231 #[.slice B1 k1 d1,.slice B2 k2 d2] W (RetLimbs W ((y.natAbs:Int)-x.natAbs) 274877906945)):=Lib.hid (fun W0 W1 W B1 k1 d1 B2 k2 d2 a b e1 e2=>rdiffN a b (HL.out.2 _ _ _ _ a) (by omega))
   rw [hlt] at HC
   clear hsx hsy hle hn hlt
   go_enter Tryz.func180,Tryz.ntmps180
   go_wp2
   go_region_held3 (fun w'=>w'.cell? ⟨w.heap.size,0,none⟩=some (.bool na)/\w'.cell? ⟨w.heap.size,1,none⟩=some (.slice A n c)/\w'.cell? ⟨w.heap.size+1,0,none⟩=some (.bool nb)/\w'.cell? ⟨w.heap.size+1,1,none⟩=some (.slice B k d)) (exact boxes2 w _ (.bool na) (.slice A n c) (.bool nb) (.slice B k d) 117 117)
    (first
     |(go_at_call_of 185 (Value.slice A n c);refine (HTA.out _ inferInstance).mono ?_;rintro e w4 ⟨B4,k4,d4,rfl,hN4,hs4⟩)
     |(go_at_call_of 185 (Value.slice B k d);refine (HTB.out _ inferInstance).mono ?_;rintro e w5 ⟨B5,k5,d5,rfl,hN5,hs5⟩))
   all_goals
    go_wp2_with (go_at_call 207;refine (HC.out _ _ _ _ _ _ _ _ _ hN4 hN5 inferInstance inferInstance).mono ?_;rintro e w8 ⟨rfl,hs8⟩)
    go_region_held3 (fun w'=>w'.cell? ⟨w.heap.size,0,none⟩=some (.bool na)/\w'.cell? ⟨w.heap.size+1,0,none⟩=some (.bool nb)) (exact box2s w _ (.bool na) (.slice A n c) (.bool nb) (.slice B k d) 117 117)
     (first
      |(go_at_call 231;refine (HS.out _ _ _ _ _ _ _ _ _ hN5 hN4 inferInstance inferInstance).mono ?_;rintro e w6 hR6;obtain ⟨B6,k6,d6,rfl,hs6,hM6⟩:=rMakeL nb hR6 (by omega);clear hR6)
      |(go_at_call 208;refine (hM6 _ inferInstance).mono ?_;rintro e w7 ⟨g,B7,k7,d7,rfl,hz,hs7⟩;obtain ⟨q0,q1,q2,q3,q4,q5⟩:=box2_2 w w7 (.cells #[.bool na,.slice A n c] 117) (.cells #[.bool nb,.slice B k d] 117) (.bool false) (.slice none 0 0) 117))
    all_goals
     have Q0:=Lib.hid q0
     clear q0 hM6
     go_wp2
     exact bodyPost_ret (v:= .agg #[.bool g,.slice B7 k7 d7]) (by simp [results,Tryz.results180,go_sem,q1,q2]) rfl ⟨_,_,_,_,rfl,hz.boxedN HE.out (by decide) Q0.out _ _,Step.of _ _⟩
theorem rSub_any {w0 w1 w:World} {na nb:Bool} {A B:Option Addr} {n k c d:Nat} {x y:Int} (ha:IntV w0 na A n c x) (hb:IntV w1 nb B k d y) (h1:n<=274877906944) (h2:k<=274877906944) [hx:Ext w0 w] [hy:Ext w1 w]:
  Calls Tryz.prog 182 #[.agg #[.bool na,.slice A n c],.agg #[.bool nb,.slice B k d]] w (RetInt w (x-y)):=by
 have hne:=fun W (hh:Ext w1 W)=>rNeg_any (w:=W) hb (by omega)
 have HNE:=Lib.hid hne
 have HAD:Hid (∀(W1 W:World) (g2:Bool) B2 k2 d2,IntV W1 g2 B2 k2 d2 (-y)->Ext w0 W->Ext W1 W->Calls Tryz.prog 180 #[.agg #[.bool na,.slice A n c],.agg #[.bool g2,.slice B2 k2 d2]] W (RetInt W (x-y))):=Lib.hid (by
  intro W1 W g2 B2 k2 d2 hz e1 e2
  have hk2:k2<=k:=by
   obtain ⟨m,rfl,b2,b3,b4,_⟩:=hb
   refine hz.len (k:=m.length) ?_
   rw [Int.natAbs_neg,<-b4];exact val_lt b2
  have :=rAdd_any (w:=W) ha hz h1 (by omega)
  rwa [show x+-y=x-y by omega] at this)
 clear hne
 go_enter Tryz.func182,Tryz.ntmps182
 go_wp2
 go_region_held3 (fun w'=>w'.cell? ⟨w.heap.size,0,none⟩=some (.bool na)/\w'.cell? ⟨w.heap.size,1,none⟩=some (.slice A n c)/\w'.cell? ⟨w.heap.size+1,0,none⟩=some (.bool nb)/\w'.cell? ⟨w.heap.size+1,1,none⟩=some (.slice B k d)) (exact boxes2 w _ (.bool na) (.slice A n c) (.bool nb) (.slice B k d) 117 117)
  (first
   |(go_at_call 149;refine (HNE.out _ inferInstance).mono ?_;rintro e w6 ⟨g6,B6,k6,d6,rfl,hz6,hs6⟩)
   |(go_at_call 180;refine (HAD.out _ _ _ _ _ _ hz6 inferInstance inferInstance).mono ?_;rintro e w7 ⟨g,B7,k7,d7,rfl,hz,hs7⟩;obtain ⟨q0,q1,q2,q3,q4,q5⟩:=box2_2 w w7 (.cells #[.bool na,.slice A n c] 117) (.cells #[.bool nb,.slice B k d] 117) (.bool false) (.slice none 0 0) 117))
 all_goals
  have Q0:=Lib.hid q0
  clear q0
  go_wp2
  exact bodyPost_ret (v:= .agg #[.bool g,.slice B7 k7 d7]) (by simp [results,Tryz.results182,go_sem,q1,q2]) rfl ⟨_,_,_,_,rfl,hz.boxed (by decide) Q0.out _ _,Step.of _ _⟩
theorem boxes3 {w w':World} {x y x' y' x2 y2:Value} {T:TypeId} (h:Ext (((w.alloc (.cells #[x,y] T)).alloc (.cells #[x',y'] T)).alloc (.cells #[x2,y2] T)) w'):
  w'.cell? ⟨w.heap.size,0,none⟩=some x/\w'.cell? ⟨w.heap.size,1,none⟩=some y/\w'.cell? ⟨w.heap.size+1,0,none⟩=some x'/\w'.cell? ⟨w.heap.size+1,1,none⟩=some y':=by
 have h1:Ext ((w.alloc (.cells #[x,y] T)).alloc (.cells #[x',y'] T)) w':=Ext.trans inferInstance h
 exact boxes2 w w' x y x' y' T T
theorem rMul_any {w0 w1 w:World} {na nb:Bool} {A B:Option Addr} {n k c d:Nat} {x y:Int} (ha0:IntV w0 na A n c x) (hb0:IntV w1 nb B k d y) (h1:n<=274877906944) (h2:k<=274877906944) [hx:Ext w0 w] [hy:Ext w1 w]:
  Calls Tryz.prog 181 #[.agg #[.bool na,.slice A n c],.agg #[.bool nb,.slice B k d]] w (RetInt w (x*y)):=by
 obtain ⟨l,rfl,hl,tl,hv,hsx,hi,h7,h8⟩:=id ha0
 obtain ⟨m,rfl,hm,tm,hv',hsy,hi',h7',h8'⟩:=id hb0
 have ha:=hi.ext hx
 have hb:=hi'.ext hy
 have HE:=Lib.hid (show sgn (na !=nb) (val l*val m)=x*y by
  subst hsx hsy
  rw [hv,hv',<-Int.natCast_mul,<-Int.natAbs_mul]
  unfold sgn
  by_cases hx:x<0<;>by_cases hy:y<0<;>simp [hx,hy]
  ·have :=Int.mul_pos_of_neg_of_neg hx hy;omega
  ·have :=Int.mul_nonpos_of_nonpos_of_nonneg (Int.le_of_lt hx) (by omega:0<=y);omega
  ·have :=Int.mul_nonpos_of_nonneg_of_nonpos (by omega:0<=x) (Int.le_of_lt hy);omega
  ·have :=Int.mul_nonneg (by omega:0<=x) (by omega:0<=y);omega)
 clear hv hv' hsx hsy hi hi'
 have hmk:=run_make_ints (P:=Tryz.prog) Tryz.underlying115 Tryz.infoU32 (by omega) ((l.length:Int)+m.length) (by omega) (by omega)
 obtain ⟨W3,hW3⟩:∃W3,W3=(((w.alloc (.cells #[.bool na,.slice A l.length c] 117)).alloc (.cells #[.bool nb,.slice B m.length d] 117)).alloc (.cells #[.bool false,.slice none 0 0] 117)):=⟨_,rfl⟩
 have HW3:=Lib.hid hW3
 have HBX:Hid (∀wr,Ext W3 wr->wr.cell? ⟨w.heap.size,0,none⟩=some (.bool na)/\wr.cell? ⟨w.heap.size,1,none⟩=some (.slice A l.length c)/\wr.cell? ⟨w.heap.size+1,0,none⟩=some (.bool nb)/\wr.cell? ⟨w.heap.size+1,1,none⟩=some (.slice B m.length d)):=Lib.hid (fun wr h=>by subst hW3;exact boxes3 h)
 have HSZ:Hid (W3.heap.size=w.heap.size+1+1+1):=Lib.hid (by subst hW3;simp)
 have HXW:Hid (Ext w W3):=Lib.hid (by subst hW3;exact inferInstance)
 have HRM:Hid (Row (W3.alloc (.cells (mkRow (l.length+m.length) .u32) 280)) (w.heap.size+1+1+1) 280 .u32 (List.replicate (l.length+m.length) 0)):=Lib.hid (by rw [<-HSZ.out];exact Row.made W3 _ _ _)
 clear hW3
 go_enter Tryz.func181,Tryz.ntmps181
 go_wp2
 go_loopw [6,7,8,9,10,22] (fun _ _ _ _ _ i wr=>∃(k:Nat) (p:List Int),k<=l.length/\i= .int .i64 k/\Hid (p.length=l.length+m.length)/\Limbs p/\ZeroFrom p (k+m.length)/\Hid (val p=val (l.take k)*val m)/\Row wr (w.heap.size+1+1+1) 280 .u32 p/\Ext W3 wr) (fun _ _ _ _ _ i _=>l.length-(intOf i).toNat)
 case atStart=>
  refine ⟨0,List.replicate (l.length+m.length) 0,by omega,rfl,Lib.hid (by simp),?_,?_,?_,?_,?_⟩
  ·intro x hx;rw [List.eq_of_mem_replicate hx];omega
  ·intro j x _ hx;exact List.eq_of_mem_replicate (List.mem_of_getElem? hx)
  ·refine Lib.hid ?_
   rw [val_replicate];simp [val]
  ·rw [<-HW3.out];exact HRM.out
  ·rw [<-HW3.out];exact inferInstance
 case round=>
  obtain ⟨k,p,hk,rfl,HP,hp,hz,hv,hrow,hxr⟩:=hrel
  obtain ⟨p1,p2,p3,p4⟩:=HBX.out _ hxr
  have hxw:Ext w wr:=HXW.out.trans hxr
  by_cases hlt:k<l.length
  ·obtain ⟨b,o,x,rfl,hx',hcx,hbx⟩:=(ha.ext hxw).at_ (i:=k) (by omega)
   obtain ⟨hx0,hx1⟩:=hl.get hx'
   have HX:=Lib.hid (val_take_succ hx')
   clear hx'
   go_wp2
   go_loopw [8,9,10,30] (fun cy _ _ j wr'=>∃(q:Nat) (p':List Int) (cv:Int),q<=m.length/\j= .int .i64 q/\cy= .int .u64 cv/\0<=cv/\cv<4294967296/\Hid (p'.length=l.length+m.length)/\Limbs p'/\ZeroFrom p' (k+m.length)/\Hid (val p'+(4294967296:Int)^(k+q)*cv=val p+(4294967296:Int)^k*(x*val (m.take q)))/\Row wr' (w.heap.size+1+1+1) 280 .u32 p'/\Ext W3 wr') (fun _ _ _ j _=>m.length-(intOf j).toNat)
   case atStart=>exact ⟨0,p,0,by omega,rfl,rfl,by omega,by omega,HP,hp,hz,Lib.hid (by simp [val]),hrow,hxr⟩
   case round=>
    obtain ⟨q,p',cv,hq,rfl,rfl,hc0,hc1,HP',hp',hz',hv',hrow',hxr'⟩:=hrel
    obtain ⟨r1,r2,r3,r4⟩:=HBX.out _ hxr'
    have hxw':Ext w wr:=HXW.out.trans hxr'
    by_cases hlt':q<m.length
    ·obtain ⟨b',o',y,rfl,hy',hcy,hby⟩:=(hb.ext hxw').at_ (i:=q) (by omega)
     obtain ⟨hy0,hy1⟩:=hm.get hy'
     have HY:=Lib.hid (val_take_succ hy')
     clear hy'
     obtain ⟨hxy0,hxy1⟩:=limb_prod x y hx0 hx1 hy0 hy1
     obtain ⟨r,hr,hcr⟩:=hrow'.cell (i:=k+q) (by rw [HP'.out];omega)
     have hfr:=hrow'.frozen (k+q)
     obtain ⟨hr0,hr1⟩:=hp'.get hr
     have HR:=Lib.hid hr
     clear hr
     go_wp2
     refine ⟨⟨q+1,p'.set (k+q) ((cv+(x*y+r))%4294967296),_,by omega,by go_num,rfl,by omega,by omega,Lib.hid (by rw [List.length_set];exact HP'.out),hp'.set _ (by omega) (by omega),hz'.set (by omega) _,?_,hrow'.set _ _,?_⟩,by simp [intOf]<;>omega⟩
     ·refine Lib.hid ?_
      rw [val_set HR.out,HY.out]
      have e1:=carry_step ((4294967296:Int)^(k+q)) (cv+(x*y+r))
      have e2:=hv'.out
      rw [show k+(q+1)=k+q+1 by omega,Int.pow_succ]
      have e3:(4294967296:Int)^k*(x*(val (m.take q)+(4294967296:Int)^q*y))=(4294967296:Int)^k*(x*val (m.take q))+(4294967296:Int)^(k+q)*(x*y):=by
       rw [Int.pow_add,Int.mul_add,Int.mul_add,Int.mul_assoc,Int.mul_left_comm x]
      rw [e3]
      simp only [Int.mul_sub,Int.mul_add] at e1 |-
      omega
     ·exact hxr'.setCell (by rw [HSZ.out];exact Nat.le_refl _) _
    ·obtain rfl:q=m.length:=by omega
     obtain ⟨r,hr,hcr⟩:=hrow'.cell (i:=k+m.length) (by rw [HP'.out];omega)
     have hfr:=hrow'.frozen (k+m.length)
     obtain rfl:r=0:=hz' _ _ (Nat.le_refl _) hr
     have HR:=Lib.hid hr
     clear hr
     go_wp2
     refine ⟨⟨k+1,p'.set (k+m.length) cv,by omega,by go_num,Lib.hid (by rw [List.length_set];exact HP'.out),hp'.set _ hc0 hc1,(hz'.mono (by omega)).set (by omega) _,?_,hrow'.set _ _,?_⟩,by simp [intOf]<;>omega⟩
     ·refine Lib.hid ?_
      have e2:=hv'.out
      rw [val_take_all (Nat.le_refl _)] at e2
      rw [val_set HR.out,HX.out,Int.sub_zero,e2,hv.out,Int.add_mul,Int.mul_assoc]
     ·exact hxr'.setCell (by rw [HSZ.out];exact Nat.le_refl _) _
  ·obtain rfl:k=l.length:=by omega
   have hfin:=hv.out
   rw [val_take_all (Nat.le_refl _)] at hfin
   have HF:=Lib.hid hfin
   clear hfin hv
   have hT:=fun W (hh:Ext wr W)=>rMake_any (w:=W) (c:=l.length+m.length) (na !=nb) hrow.ints hp (by rw [HP.out];omega) (by omega) (by rw [HP.out];omega)
   rw [HF.out,HE.out,HP.out] at hT
   have HT:=Lib.hid hT
   clear hT
   have hbx2:Hid (∀W,Ext wr W->W.heap[w.heap.size+1+1]? =some (.cells #[.bool false,.slice none 0 0] 117 (0,0))):=Lib.hid (fun W hh=>by
    have :Ext W3 W:=hxr.trans hh
    rw [HW3.out] at this
    exact (box2_2 w W (.cells #[.bool na,.slice A l.length c] 117) (.cells #[.bool nb,.slice B m.length d] 117) (.bool false) (.slice none 0 0) 117).1)
   go_wp2_with (go_at_call 208;refine (HT.out _ inferInstance).mono ?_;rintro e w7 ⟨g,B7,k7,d7,rfl,hz7,hs7⟩;have Q0:=Lib.hid (hbx2.out w7 inferInstance);obtain ⟨q1,q2,q3,q4,q5⟩:=box_cells2 Q0.out)
   refine bodyPost_ret (v:= .agg #[.bool g,.slice B7 k7 d7]) (by simp [results,Tryz.results181,go_sem,q1,q2]) rfl ⟨_,_,_,_,rfl,hz7.boxed (by decide) Q0.out _ _,?_⟩
   have hxf:Ext w w7:=hxw.trans inferInstance
   exact ((hxf.setCell (p:=⟨w.heap.size+1+1,0,none⟩) (by simp;omega) _).setCell (p:=⟨w.heap.size+1+1,1,none⟩) (by simp;omega) _).toStep
end Go.Proofs.YtijfjailmilkfaaGreat
