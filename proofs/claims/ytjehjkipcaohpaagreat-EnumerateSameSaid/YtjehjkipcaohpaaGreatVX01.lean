/- Root Mult Form Srch1 Srch2a Srch2 Coll -/
import Derived.Test.YtjehjkipcaohpaaGreatProg
import Derived.Test.YtjehjkipcaohpaaGreatShelf
import Derived.Test.YtjehjkipcaohpaaGreatV09
set_option maxHeartbeats 8000000
set_option linter.unusedVariables false
set_option linter.unusedSimpArgs false
set_option linter.constructorNameAsVariable false
namespace Go.Proofs.YtjehjkipcaohpaaGreat
open Go.RowKit
theorem enumerate_floor_any {w:World} {a b:Int} (ha0:-9223372036854775807<=a) (ha1:a<=9223372036854775807) (hb:1<=b) (hb1:b<=9223372036854775807):
  Calls Tryz.prog 83 #[.int .i64 a,.int .i64 b] w (RetSame w (.int .i64 (a / b))):=by
 have HF:=Lib.hid (floor_eq (a:=a) (b:=b) (by omega))
 have hq:=tdiv_between a b hb
 have hq1:-9223372036854775807<=a.tdiv b:=by omega
 have hq2:a.tdiv b<=9223372036854775807:=by omega
 have hm:=Lib.hid (Int.tmod_def a b)
 have hr:-9223372036854775807<=a.tmod b/\a.tmod b<=9223372036854775807:=by
  have h1:=Int.tmod_lt_of_pos a (show 0<b by omega)
  have h2:=Int.lt_tmod_of_pos a (show 0<b by omega)
  omega
 have hb0:(b==0)=false:=by simp;omega
 clear hq
 by_cases hneg:a.tmod b<0
 ·have hd:decide (a.tmod b<0)=true:=by simpa using hneg
  have HV:=Lib.hid (HF.out.trans (if_pos hneg))
  clear hneg HF
  go_enter Tryz.func83,Tryz.ntmps83
  go_wp2
  go_ret
  exact ⟨by rw [HV.out];rfl,rfl⟩
 ·have hd:decide (a.tmod b<0)=false:=by simpa using hneg
  have HV:=Lib.hid (HF.out.trans (if_neg hneg))
  clear hneg HF
  go_enter Tryz.func83,Tryz.ntmps83
  go_wp2
  go_ret
  exact ⟨by rw [HV.out];rfl,rfl⟩
set_option maxRecDepth 10000 in
theorem enumerate_root_any {w:World} {a:Nat} (ha:a<9223372036854775808):
  Calls Tryz.prog 82 #[.int .i64 a] w (RetSame w (.int .i64 (isq a))):=by
 by_cases h0:a=0
 ·subst h0
  go_enter Tryz.func82,Tryz.ntmps82
  go_wp2
  go_ret
  exact ⟨rfl,rfl⟩
 have hb0:((a:Int)==0)=false:=by simp;omega
 have h1:1<=a:=by omega
 obtain ⟨s,hs,hs32,hroot,hL1,hL2⟩:=root_start h1 ha
 obtain ⟨L,hL⟩:∃L,L=Lib.bitLen a:=⟨_,rfl⟩
 rw [<-hL] at hs hL1 hL2
 have hp:(2:Nat)^s<=2^32:=Nat.pow_le_pow_right (by omega) hs32
 have hp1:1<=(2:Nat)^s:=Nat.one_le_two_pow
 have hst:((L:Int)+1) / 2=(s:Int):=by omega
 have hpw:(2:Int)^s=((2^s:Nat):Int):=by simp
 obtain ⟨p,hpp⟩:∃p,p=2^s:=⟨_,rfl⟩
 rw [<-hpp] at hpw hp1 hp hroot
 have HL:=Lib.hid hL
 have hc:=Tryz.bits_Len64 (a:Int) w (by omega) (by omega)
 rw [show ((a:Int).toNat)=a by omega,<-hL] at hc
 have HC:=Lib.hid hc
 have HR:=Lib.hid hroot
 clear hc hL h0 hpp hs hroot
 go_enter Tryz.func82,Tryz.ntmps82
 go_wp2_with fail
 refine HC.out.mono ?_
 rintro e w' ⟨rfl,rfl⟩
 go_wp2
 go_loop [3,4] (fun r _=>∃p:Nat,1<=p/\p<=4294967296/\Hid (isq a<=p)/\r= .int .i64 p) (fun r _=>(intOf r).toNat)
 case atStart=>exact ⟨p,hp1,by omega,HR,rfl⟩
 case round=>
  clear HR hpw hp hp1 hst HL HC hL1 hL2 hs32
  obtain ⟨p,hp1,hp,HR,rfl⟩:=hrel
  have hge:=Lib.hid (newton_ge (a:=a) hp1)
  have hend:=Lib.hid (newton_end (a:=a) hp1)
  have hy:=newton_quot (a:=a) HR.out
  obtain ⟨y,ey⟩:∃y,y=a / p:=⟨_,rfl⟩
  have hdiv:(a:Int) / (p:Int)=(y:Int):=by rw [ey];simp
  rw [<-ey] at hge hend hy
  obtain ⟨q,eq⟩:∃q,q=(p+y) / 2:=⟨_,rfl⟩
  have hdiv2:((p:Int)+(y:Int)) / 2=(q:Int):=by omega
  have hq:q<=p+1:=by omega
  rw [<-eq] at hge hend
  clear ey eq
  by_cases hle:p<=q
  ·have HV:=Lib.hid (hend.out hle HR.out)
   go_wp2
   go_ret
   exact ⟨by rw [HV.out];rfl,rfl⟩
  ·have hlt:q<p:=by omega
   have hq1:1<=q:=by
    have :=hge.out
    have h2:=(isq_spec a).2
    rcases Nat.lt_or_ge 0 (isq a) with h |h
    ·omega
    ·have :isq a=0:=by omega
     rw [this] at h2;omega
   go_wp2
   refine ⟨⟨q,hq1,by omega,hge,by rw [hdiv2]⟩,by rw [hdiv2];simp [intOf]<;>omega⟩
theorem multL_succ_in (h bound:Int) (exact:Bool) (k:Nat) (hh:(!exact||decide (h*((k:Int)+1)*((k:Int)+1)=bound))=true):multL h bound exact (k+1)=multL h bound exact k++[[(k:Int)+1]]:=by
 simp only [multL,List.range_succ,List.filter_append,List.map_append,List.filter_cons,hh,if_true,List.filter_nil,List.map_cons,List.map_nil]
theorem multL_succ_out (h bound:Int) (exact:Bool) (k:Nat) (hh:(!exact||decide (h*((k:Int)+1)*((k:Int)+1)=bound))=false):multL h bound exact (k+1)=multL h bound exact k:=by
 simp [multL,List.range_succ,List.filter_append,hh]
def RetMatL (w:World) (m:List (List Int)) (e:Ending) (w':World):Prop:=∃A c,e= .returned (.slice A m.length c)/\Mat64 w' A m/\m.length<=c/\c<=9223372036854775807/\Step w w'
structure MOwn (w:World) (base:Nat) (A:Option Addr) (n c:Nat) (m:List (List Int)) (vs:List Value):Prop where
 own:Own w base 37 1 A n c vs
 len:m.length=n
 row:∀(i:Nat) (r:List Int),m[i]? =some r->∃B c,vs[i]? =some (.slice B r.length c)/\Ints w B 2 .i64 r/\r.length<=c/\c<=9223372036854775807
theorem MOwn.nil (w:World) (base:Nat):MOwn w base none 0 0 [] []:=⟨Own.nil _ _ _ _,rfl,fun i r hr=>by simp at hr⟩
theorem MOwn.mat {w:World} {base:Nat} {A:Option Addr} {n c:Nat} {m:List (List Int)} {vs:List Value} (h:MOwn w base A n c m vs):Mat64 w A m:=
 ⟨vs,by have :=h.own.len;rw [h.len];omega,h.own.arr,h.row⟩
theorem MOwn.snoc {w W w':World} {base:Nat} {A A' B:Option Addr} {n c c' d:Nat} {m:List (List Int)} {r:List Int} {vs:List Value} (h:MOwn w base A n c m vs) (hx:Ext w W) (hg:Grow base 37 W w') (ho:Own w' base 37 1 A' (n+1) c' (vs++[.slice B r.length d])) (hr:Ints W B 2 .i64 r) (h1:r.length<=d) (h2:d<=9223372036854775807):MOwn w' base A' (n+1) c' (m++[r]) (vs++[.slice B r.length d]):=by
 have hvl:vs.length=m.length:=by have :=h.own.len;rw [h.len];omega
 refine ⟨ho,by simp [h.len],fun i x hx'=>?_⟩
 rcases Nat.lt_or_ge i m.length with hi |hi
 ·rw [List.getElem?_append_left hi] at hx'
  obtain ⟨B1,d1,a,b,e⟩:=h.row i x hx'
  exact ⟨B1,d1,by rw [List.getElem?_append_left (by omega)];exact a,(b.ext hx).grow hg (by decide),e⟩
 ·have hi':i=m.length:=by
   have :=(List.getElem?_eq_some_iff.1 hx').1
   simp at this;omega
  subst hi'
  have :x=r:=by simpa using hx'.symm
  subst this
  exact ⟨B,d,by rw [List.getElem?_append_right (by omega),hvl];simp,hr.grow hg (by decide),h1,h2⟩
theorem multiples_any {w:World} {h bound:Int} {exact:Bool} (r:Nat) (h1:1<=h) (hr:r<=1073741824) (hin:∀x:Int,1<=x->x<=r->h*x*x<=bound) (hout:bound<h*((r:Int)+1)*((r:Int)+1)) (hfit:h*((r:Int)+1)*((r:Int)+1)<=9223372036854775807) (hfit2:h*((r:Int)+1)<=9223372036854775807):
  Calls Tryz.prog 79 #[.int .i64 h,.int .i64 bound,.bool exact] w (RetMatL w (multL h bound exact r)):=by
 go_enter Tryz.func79,Tryz.ntmps79
 go_wp2
 go_loopw [7,8] (fun s7 s8 wr=>∃(k:Nat) (x:Int) (n:Nat) (B:Option Addr) (c:Nat) (vs:List Value),k<=r/\Hid (x=(k:Int)+1)/\1<=x/\x<=1073741825/\s8= .int .i64 x/\s7= .slice B n c/\n<=k/\MOwn wr w.heap.size B n c (multL h bound exact k) vs/\Ext w wr) (fun _ s8 _=>(r+1-(intOf s8).toNat))
 case atStart=>exact ⟨0,1,0,none,0,[],by omega,Lib.hid rfl,by omega,by omega,rfl,rfl,by omega,MOwn.nil _ _,inferInstance⟩
 case round=>
  obtain ⟨k,x,n,B,c,vs,hk,HX,hx1,hx2,rfl,rfl,hnk,hM,hxr⟩:=hrel
  have hxk:=HX.out
  obtain ⟨p,hp⟩:∃p,p=h*x:=⟨_,rfl⟩
  obtain ⟨s,hs⟩:∃s,s=p*x:=⟨_,rfl⟩
  have hp0:0<=p:=by rw [hp];exact Int.mul_nonneg (by omega) (by omega)
  have hs0:0<=s:=by rw [hs];exact Int.mul_nonneg hp0 (by omega)
  have hp1:p<=9223372036854775807:=by
   have :h*x<=h*((r:Int)+1):=Int.mul_le_mul_of_nonneg_left (by omega) (by omega)
   omega
  have hs1:s<=9223372036854775807:=by
   have a1:h*x<=h*((r:Int)+1):=Int.mul_le_mul_of_nonneg_left (by omega) (by omega)
   have a2:p*x<=h*((r:Int)+1)*((r:Int)+1):=by
    rw [hp]
    exact Int.mul_le_mul a1 (by omega) (by omega) (by omega)
   omega
  have hps:=hp.symm
  have hss:=hs.symm
  have HS:Hid (h*((k:Int)+1)*((k:Int)+1)=s):=Lib.hid (by rw [hs,hp,hxk])
  by_cases hlt:k<r
  ·have hsb:s<=bound:=by
    have :=hin x hx1 (by omega)
    rw [<-hp,<-hs] at this;exact this
   by_cases hcol:(!exact||decide (s=bound))=true
   ·have HC:=Lib.hid (multL_succ_in h bound exact k (by rw [HS.out];exact hcol))
    have hdec:(exact=false)∨(exact=true/\(s==bound)=true):=by
     cases exact
     ·exact .inl rfl
     ·simp at hcol;exact .inr ⟨rfl,by simp [hcol]⟩
    have hex:Ints (wr.alloc (.cells #[.int .i64 x] 2)) (some ⟨wr.heap.size,0,none⟩) 2 .i64 [x]:=Arr.new wr 2 #[.int .i64 x]
    have HEX:=Lib.hid hex
    have hsrc:Arr ((wr.alloc (.cells #[.int .i64 x] 2)).alloc (.cells #[.slice (some ⟨wr.heap.size,0,none⟩) 1 1] 37)) (some ⟨wr.heap.size+1,0,none⟩) 37 [.slice (some ⟨wr.heap.size,0,none⟩) 1 1]:=by
     have :=Arr.new (wr.alloc (.cells #[.int .i64 x] 2)) 37 #[.slice (some ⟨wr.heap.size,0,none⟩) 1 1]
     rwa [World.size_alloc] at this
    clear hp hs hxk hcol hex
    rcases hdec with rfl |⟨rfl,hse⟩
    all_goals
     go_wp2_with (at_builtin;refine wpList_app _ rfl _ _ 26 rfl w.heap.size 37 (.slice none 0 0) 1 24 Tryz.underlying26 infoSlI64 rfl (by omega) (by omega) B n c vs rfl (hM.own.ext inferInstance) _ 1 1 [.slice (some ⟨wr.heap.size,0,none⟩) 1 1] rfl hsrc (by simp) (by simp [Value.oneCell']) (by omega) (by have :=hxr.size;simp;omega) ?_;intro A4 d4 w4 hown4 hg4)
     refine ⟨⟨k+1,x+1,n+1,A4,d4,vs++[.slice (some ⟨wr.heap.size,0,none⟩) 1 1],by omega,Lib.hid (by have :=HX.out;omega),by omega,by have :=HX.out;omega,rfl,rfl,by omega,?_,?_⟩,by have :=HX.out;simp [intOf];omega⟩
     ·rw [HC.out,<-HX.out]
      exact hM.snoc (r:=[x]) (d:=1) inferInstance hg4 hown4 (HEX.out.ext inferInstance) (by simp) (by omega)
     ·exact hg4.ext inferInstance (Nat.le_refl _)
   ·have hexe:exact=true/\(s==bound)=false:=by
     cases exact
     ·simp at hcol
     ·simp at hcol;exact ⟨rfl,by simp [hcol]⟩
    have HC:=Lib.hid (multL_succ_out h bound exact k (by rw [HS.out];simpa using hcol))
    clear hp hs hxk hcol
    obtain ⟨rfl,hse⟩:=hexe
    go_wp2
    refine ⟨⟨k+1,x+1,n,B,c,vs,by omega,Lib.hid (by have :=HX.out;omega),by omega,by have :=HX.out;omega,rfl,rfl,by omega,by rw [HC.out];exact hM,hxr⟩,by have :=HX.out;simp [intOf];omega⟩
  ·have hkr:k=r:=by omega
   have hsb:bound<s:=by rw [<-HS.out,hkr];exact hout
   have HKR:=Lib.hid hkr
   clear hp hs hxk hkr hlt
   go_wp2
   go_ret
   have hcap:=hM.own.cap
   rw [<-HKR.out]
   have hml:=hM.len
   exact ⟨B,c,by rw [hml];rfl,hM.mat,by omega,by omega,Step.of _ _⟩
def RetForm (w:World) (D:List Int) (L:List (List Int)) (e:Ending) (w':World):Prop:=∃mA mc lA lc,e= .returned (.agg #[.slice mA D.length mc,.slice lA L.length lc])/\Ints w' mA 2 .i64 D/\Mat64 w' lA L/\D.length<=mc/\mc<=9223372036854775807/\L.length<=lc/\lc<=9223372036854775807/\Step w w'
structure FormI (m:List (List Int)) (wr:World) (base:Nat) (mB lB:Option Addr) (k mc lc:Nat) (vs:List Value):Prop where
 mi:Own wr base 2 1 mB (k+1) mc ((minorsTo m k).map (Value.int .i64))
 la:Own wr base 37 1 lB k lc vs
 row:∀i,i<k->∃B c,vs[i]? =some (.slice B (lamRow m i).length c)/\ArrN mB wr B 2 ((lamRow m i).map (Value.int .i64))/\(lamRow m i).length<=c/\c<=9223372036854775807
structure FormJ (m:List (List Int)) (w2 w5:World) (mB lB:Option Addr) (k mc lc:Nat) (vs:List Value) (bx ox by_ oy r cy:Nat) (e0:Int):Prop where
 st:w5.heap[w2.heap.size+1]? =some (.cells #[.slice mB (k+1+1) mc,.slice lB k lc] 121 (0,0))
 mi:Own w5 w2.heap.size 2 1 mB (k+1+1) mc ((minorsTo m (k+1)).map (Value.int .i64))
 la:Own w5 w2.heap.size 37 1 lB k lc vs
 row:∀i,i<k->∃B c,vs[i]? =some (.slice B (lamRow m i).length c)/\ArrN mB w5 B 2 ((lamRow m i).map (Value.int .i64))/\(lamRow m i).length<=c/\c<=9223372036854775807
 hd:w5.cell? ⟨bx,ox,none⟩=some (.slice (some ⟨by_,oy,none⟩) (r+1) cy)
 bxl:bx<w5.heap.size
 new:ArrN mB w5 (some ⟨by_,oy,none⟩) 2 ((e0::lamRow m k).map (Value.int .i64))
 ex:Ext w2 w5
theorem FormI.step1 {m:List (List Int)} {w2 wr W w4:World} {mB lB A4:Option Addr} {k mc lc d4:Nat} {vs:List Value} {bx ox by_ oy r cy:Nat} {e0:Int} {x1:Value}
  (hI:FormI m wr w2.heap.size mB lB k mc lc vs) (hxw:Ext wr W) (hx2:Ext w2 W) (hown4:Own w4 w2.heap.size 2 1 A4 (k+1+1) d4 ((minorsTo m k).map (Value.int .i64)++[.int .i64 e0])) (hg4:Grow w2.heap.size 2 W w4) (hgr4:Grew mB A4 W w4) (he0:e0=ent (stAt m k).2 0 0)
  (hB4:w4.heap[w2.heap.size+1]? =some (.cells #[x1,.slice lB k lc] 121 (0,0))) (hX:∃cs fr,W.heap[bx]? =some (.cells cs 37 fr)/\cs[ox]? =some (.slice (some ⟨by_,oy,none⟩) (r+1) cy)) (hY:ArrX wr.heap.size W (some ⟨by_,oy,none⟩) 2 ((e0::lamRow m k).map (Value.int .i64))):
  FormJ m w2 (w4.setCell ⟨w2.heap.size+1,0,none⟩ (.slice A4 (k+1+1) d4)) A4 lB k d4 lc vs bx ox by_ oy r cy e0:=by
 have hoS:=Oth.set (p:=⟨w2.heap.size+1,0,none⟩) hB4 (.slice A4 (k+1+1) d4)
 obtain ⟨cs,fr,hh,hc⟩:=hX
 have hh5:=hoS _ _ _ _ (by decide) (hg4.heap hh (by decide))
 refine ⟨box_set2_0 hB4,?_,((hI.la.ext hxw).grow hg4 (by decide)).oth hoS (by decide),fun i hi=>?_,by simp [World.cell?,hh5];exact hc,lt_of_heap hh5,?_,?_⟩
 ·rw [minorsTo_succ,List.map_append,<-he0]
  exact hown4.oth hoS (by decide)
 ·obtain ⟨B,c,a,b,e⟩:=hI.row i hi
  exact ⟨B,c,a,((b.ext hxw).grew hgr4).oth hoS (by decide),e⟩
 ·exact ((hY.arrN hI.mi.blockLt).grew hgr4).oth hoS (by decide)
 ·exact (hg4.ext hx2 (Nat.le_refl _)).setCell (p:=⟨w2.heap.size+1,0,none⟩) (Nat.le_succ _) _
theorem FormJ.step2 {m:List (List Int)} {w2 w5 W w6:World} {mB lB A6 Z:Option Addr} {k mc lc d6 dz:Nat} {vs:List Value} {bx ox by_ oy r cy:Nat} {e0:Int}
  (hJ:FormJ m w2 w5 mB lB k mc lc vs bx ox by_ oy r cy e0) (hxw:Ext w5 W) (hown6:Own w6 w2.heap.size 37 1 A6 (k+1) d6 (vs++[.slice Z r dz])) (hg6:Grow w2.heap.size 37 W w6)
  (hr:(lamRow m k).length=r) (hZ:0<r->Z=some ⟨by_,oy+1,none⟩) (hd1:r<=dz) (hd2:dz<=9223372036854775807) (hB6:w6.heap[w2.heap.size+1]? =some (.cells #[.slice mB (k+1+1) mc,.slice lB k lc] 121 (0,0))):
  (w6.setCell ⟨w2.heap.size+1,1,none⟩ (.slice A6 (k+1) d6)).heap[w2.heap.size+1]? =some (.cells #[.slice mB (k+1+1) mc,.slice A6 (k+1) d6] 121 (0,0))/\FormI m (w6.setCell ⟨w2.heap.size+1,1,none⟩ (.slice A6 (k+1) d6)) w2.heap.size mB A6 (k+1) mc d6 (vs++[.slice Z r dz])/\Ext w2 (w6.setCell ⟨w2.heap.size+1,1,none⟩ (.slice A6 (k+1) d6)):=by
 have hoS:=Oth.set (p:=⟨w2.heap.size+1,1,none⟩) hB6 (.slice A6 (k+1) d6)
 have hvl:vs.length=k:=by have :=hJ.la.len;omega
 refine ⟨box_set2_1 hB6,⟨((hJ.mi.ext hxw).grow hg6 (by decide)).oth hoS (by decide),hown6.oth hoS (by decide),fun i hi=>?_⟩,?_⟩
 ·rcases Nat.lt_or_ge i k with h |h
  ·obtain ⟨B,c,a,b,e⟩:=hJ.row i h
   exact ⟨B,c,by rw [List.getElem?_append_left (by omega)];exact a,((b.ext hxw).oth (Oth.of_grow hg6) (by decide)).oth hoS (by decide),e⟩
  ·obtain rfl:i=k:=by omega
   refine ⟨Z,dz,by rw [List.getElem?_append_right (by omega),hvl,hr];simp,fun h0=>?_,by rw [hr];exact hd1,hd2⟩
   have h0':0<r:=by simp at h0;omega
   obtain ⟨b,o,cs,fr,hA,h1,hb,hc⟩:=((hJ.new.ext hxw).oth (Oth.of_grow hg6) (by decide)).oth hoS (by decide) (by simp)
   injection hA with hA
   injection hA with x1 x2
   subst x1 x2
   refine ⟨by_,oy+1,cs,fr,hZ h0',h1,hb,fun j u hu=>?_⟩
   have :=hc (j+1) u (by rw [List.map_cons,List.getElem?_cons_succ];exact hu)
   rw [show oy+1+j=oy+(j+1) by omega];exact this
 ·exact (hg6.ext (hJ.ex.trans hxw) (Nat.le_refl _)).setCell (p:=⟨w2.heap.size+1,1,none⟩) (Nat.le_succ _) _
set_option maxRecDepth 10000 in
theorem newForm_any {w0 w:World} {A:Option Addr} {c:Nat} {m:List (List Int)} (h:Mat64 w0 A m) (h1:1<=m.length) (h8:m.length<=8) (hn:AllLen m m.length) (hF:Fits64 m) (hok:ElimOK m) (h64:St64 m) [hx:Ext w0 w]:
  Calls Tryz.prog 80 #[.slice A m.length c] w (RetForm w (minorsTo m m.length) (lamTo m m.length)):=by
 have HN:=Lib.hid hn
 have HOK:=Lib.hid hok
 have HFI:=Lib.hid hF
 have H64:=Lib.hid h64
 clear hn hok hF h64
 go_enter Tryz.func80,Tryz.ntmps80
 go_wp2_with (first |(go_at_call 136;refine (FromInts_ok h m.length h1 (by omega) h1 (by omega) HN.out HFI.out).mono ?_;rintro e w1 ⟨A1,c1,rfl,hM,k1,k2,hs1⟩) |(go_at_call 137;refine (Stages_ok hM h1 (by omega) HN.out HOK.out).mono ?_;rintro e w2 ⟨A2,c2,rfl,hS,k3,k4,hs2⟩))
 have hsl:(stagesOf m).length=m.length:=by simp [stagesOf]
 rw [hsl]
 have HSL:=Lib.hid hsl
 clear hsl
 obtain ⟨b,o,-,-,-,-,-,-,rfl,-⟩:=StV.rowAt hS HN.out (k:=0) (by omega)
 have hst0:((w2.alloc (.cells #[.int .i64 1] 2)).alloc (.cells #[.slice (some ⟨w2.heap.size,0,none⟩) 1 1,.slice none 0 0] 121)).heap[w2.heap.size+1]? =some (.cells #[.slice (some ⟨w2.heap.size,0,none⟩) 1 1,.slice none 0 0] 121 (0,0)):=by
  have :=heap_alloc_new (w2.alloc (.cells #[.int .i64 1] 2)) (.cells #[.slice (some ⟨w2.heap.size,0,none⟩) 1 1,.slice none 0 0] 121)
  rwa [World.size_alloc] at this
 go_loopw [9,10,11,26] (fun _ _ _ i wr=>∃(k:Nat) (mB lB:Option Addr) (mc lc:Nat) (vs:List Value),k<=m.length/\i= .int .i64 k/\wr.heap[w2.heap.size+1]? =some (.cells #[.slice mB (k+1) mc,.slice lB k lc] 121 (0,0))/\FormI m wr w2.heap.size mB lB k mc lc vs/\Ext w2 wr) (fun _ _ _ i _=>m.length-(intOf i).toNat)
 case atStart=>
  exact ⟨0,_,none,_,0,[],by omega,rfl,hst0,⟨(Own.new w2 2 1 1 #[.int .i64 1] rfl (by omega)).ext inferInstance,Own.nil _ _ _ _,fun i hi=>absurd hi (by omega)⟩,inferInstance⟩
 case round=>
  clear hst0
  obtain ⟨k,mB,lB,mc,lc,vs,hk,rfl,hst,hI,hxr⟩:=hrel
  by_cases hlt:k<m.length
  ·have hsk:(stagesOf m)[k]? =some (stAt m k).2:=by simp [stagesOf,hlt]
   obtain ⟨b',o',B1,c1',hA,e1,hMk,l1,l2,hb⟩:=(hS.ext hxr).at_ hsk
   injection hA with hA
   injection hA with x1 x2
   subst x1 x2
   have hstl:=stAt_length m k
   have hto:=fun W (hh:Ext wr W)=>ToIntsX_ok (w:=W) (c:=c1') hMk (m.length-k) (by omega) (by omega) (by omega) (by omega) (stAt_allLen m HN.out k) (H64.out k hlt)
   rw [hstl] at e1 l1
   obtain ⟨r,hr⟩:∃r,m.length-k=r+1:=⟨m.length-k-1,by omega⟩
   rw [hr] at e1 l1
   have hto2:∀W,Ext wr W->Calls Tryz.prog 138 #[.slice B1 (r+1) c1'] W fun e w'=>∃X cX,e= .returned (.tuple #[.slice X (r+1) cX,.bool true])/\Mat64X W.heap.size w' X (stAt m k).2/\r+1<=cX/\cX<=9223372036854775807/\Step W w':=fun W hh=>by
    have :=hto W hh
    unfold RetMat64BX at this
    rw [hstl,hr] at this
    exact this
   have HTO:=Lib.hid hto2
   have HR:=Lib.hid hr
   have HSTL:=Lib.hid hstl
   obtain ⟨s1,s2,s3,s4,s5⟩:=box_cells2 hst
   have HST:=Lib.hid hst
   have oS:Old (w2.heap.size+1) wr:=⟨s5⟩
   clear hto hto2 hr hstl hsk hst
   go_wp2_with (go_at_call 138;refine (HTO.out _ inferInstance).mono ?_;rintro e w3 ⟨X,cX,rfl,hX,x1,x2,hs3⟩)
   obtain ⟨vx,v1,v2,v3⟩:=hX
   obtain ⟨By,cy,y1,y2,y3,y4⟩:=v3 0 _ (stRow0 HN.out hlt)
   obtain ⟨bx,ox,rfl,y5,y6,y7⟩:=v2.at_ y1
   have hlrl:(lamRow m k).length=r:=by have :=HR.out;simp [lamRow];omega
   obtain ⟨e0,he0⟩:∃e0,e0=ent (stAt m k).2 0 0:=⟨_,rfl⟩
   rw [<-he0] at y1 y2 y3 y5
   have HE0:=Lib.hid he0
   obtain ⟨by_,oy,rfl,y8,y9,y10⟩:=y2.at_ (i:=0) (u:= .int .i64 e0) (by simp)
   simp only [List.length_cons,hlrl,Nat.add_zero] at y1 y3 y5 y8
   have HY2:=Lib.hid y2
   have HLR:=Lib.hid hlrl
   have hmBl:=hI.mi.blockLt
   have HX:Hid (∃cs fr,w3.heap[bx]? =some (.cells cs 37 fr)/\cs[ox]? =some (.slice (some ⟨by_,oy,none⟩) (r+1) cy)):=Lib.hid (by
    obtain ⟨bq,oq,cs,fr,hA,_,hh,hc⟩:=v2 (by rw [v1];have :=HSTL.out;have :=HR.out;omega)
    injection hA with hA
    injection hA with z1 z2
    subst z1 z2
    exact ⟨cs,fr,hh,by simpa using hc 0 _ y1⟩)
   have oX:Old bx w3:=⟨y7⟩
   have oY:Old by_ w3:=⟨y10⟩
   clear v1 v2 v3 he0 hlrl y1 y2
   go_region_law ((refine step_appx _ rfl (.tmp 36) (.tmp 42) 37 rfl w2.heap.size 2 (.int .i64 0) 1 8 Tryz.underlying37 infoI64 rfl (by decide) (by decide) mB (k+1) mc _ (by simp [Act.eval]) (hI.mi.ext inferInstance) ⟨w3.heap.size,0,none⟩ 1 1 [.int .i64 e0] (by simp [Act.eval]) ((Arr.new w3 2 #[.int .i64 e0]).ext inferInstance) rfl (by simp [Value.oneCell']) (by omega) (by have :=hxr.size;have :=hs3.size;simp<;>omega) ?_);intro A4 d4 w4 hown4 hg4 hgr4;have hb4:=hg4.heap (heap_of_ext (inferInstance:Ext wr ((w3.alloc (Obj.cells #[Value.int .i64 e0] 2)).drew)) HST.out) (by decide);obtain ⟨q1,q2,q3,q4,q5⟩:=box_cells2 hb4;have HB4:=Lib.hid hb4;clear hb4)
   all_goals
    have hJ:=hI.step1 (W:=(w3.alloc (Obj.cells #[Value.int .i64 e0] 2)).drew) (bx:=bx) (ox:=ox) (by_:=by_) (oy:=oy) (r:=r) (cy:=cy) inferInstance inferInstance hown4 hg4 hgr4 HE0.out HB4.out (by obtain ⟨cs,fr,z1,z2⟩:=HX.out;exact ⟨cs,fr,heap_of_ext (inferInstance:Ext w3 ((w3.alloc (Obj.cells #[Value.int .i64 e0] 2)).drew)) z1,z2⟩) (HY2.out.ext inferInstance)
    generalize w4.setCell ⟨w2.heap.size+1,0,none⟩ (.slice A4 (k+1+1) d4)=w5 at hJ |-
    clear hown4 hg4 hgr4 HB4 q1 q2 q3 q4 q5
    obtain ⟨t1,t2,t3,t4,t5⟩:=box_cells2 hJ.st
    have t6:=hJ.hd
    have t7:=hJ.bxl
    have HJ:=Lib.hid hJ
    have oS5:Old (w2.heap.size+1) w5:=⟨t5⟩
    have oX5:Old bx w5:=⟨t7⟩
    have hx25:Ext w2 w5:=hJ.ex
    clear hJ
    by_cases hcy:cy=1
    ·obtain rfl:r=0:=by omega
     subst hcy
     go_wp2_with fail
     go_region_law ((refine step_app _ rfl (.tmp 46) (.tmp 51) 26 rfl w2.heap.size 37 (.slice none 0 0) 1 24 Tryz.underlying26 infoSlI64 rfl (by decide) (by decide) lB k lc vs (by simp [Act.eval]) (HJ.out.la.ext inferInstance) (some ⟨w5.heap.size,0,none⟩) 1 1 [.slice (some ⟨by_,oy,none⟩) 0 0] (by simp [Act.eval]) ((Arr.new w5 37 #[.slice (some ⟨by_,oy,none⟩) 0 0]).ext inferInstance) rfl (by simp [Value.oneCell']) (by omega) (by have :=hx25.size;simp<;>omega) ?_);intro A6 d6 w6 hown6 hg6;have hb6:=hg6.heap (heap_of_ext (inferInstance:Ext w5 ((w5.alloc (Obj.cells #[Value.slice (some ⟨by_,oy,none⟩) 0 0] 37)).drew)) HJ.out.st) (by decide);obtain ⟨q1,q2,q3,q4,q5⟩:=box_cells2 hb6;have HB6:=Lib.hid hb6;clear hb6)
     all_goals
      have hfin:=HJ.out.step2 (W:=(w5.alloc (Obj.cells #[Value.slice (some ⟨by_,oy,none⟩) 0 0] 37)).drew) inferInstance hown6 hg6 HLR.out (fun h0=>absurd h0 (by omega)) (by omega) (by omega) HB6.out
      have HFN:=Lib.hid hfin
      clear hfin
      go_wp2
      refine ⟨⟨k+1,A4,A6,d4,d6,_,by omega,by go_num,HFN.out.1,HFN.out.2.1,HFN.out.2.2⟩,by simp [intOf]<;>omega⟩
    ·have hr11:(1:Int)<=(r:Int)+1:=by omega
     go_wp2_with fail
     go_region_law ((refine step_app _ rfl (.tmp 46) (.tmp 51) 26 rfl w2.heap.size 37 (.slice none 0 0) 1 24 Tryz.underlying26 infoSlI64 rfl (by decide) (by decide) lB k lc vs (by simp [Act.eval]) (HJ.out.la.ext inferInstance) (some ⟨w5.heap.size,0,none⟩) 1 1 [.slice (some ⟨by_,oy+1,none⟩) r (cy-1)] (by simp [Act.eval]) ((Arr.new w5 37 #[.slice (some ⟨by_,oy+1,none⟩) r (cy-1)]).ext inferInstance) rfl (by simp [Value.oneCell']) (by omega) (by have :=hx25.size;simp<;>omega) ?_);intro A6 d6 w6 hown6 hg6;have hb6:=hg6.heap (heap_of_ext (inferInstance:Ext w5 ((w5.alloc (Obj.cells #[Value.slice (some ⟨by_,oy+1,none⟩) r (cy-1)] 37)).drew)) HJ.out.st) (by decide);obtain ⟨q1,q2,q3,q4,q5⟩:=box_cells2 hb6;have HB6:=Lib.hid hb6;clear hb6)
     all_goals
      have hfin:=HJ.out.step2 (W:=(w5.alloc (Obj.cells #[Value.slice (some ⟨by_,oy+1,none⟩) r (cy-1)] 37)).drew) inferInstance hown6 hg6 HLR.out (fun _=>rfl) (by omega) (by omega) HB6.out
      have HFN:=Lib.hid hfin
      clear hfin
      go_wp2
      refine ⟨⟨k+1,A4,A6,d4,d6,_,by omega,by go_num,HFN.out.1,HFN.out.2.1,HFN.out.2.2⟩,by simp [intOf]<;>omega⟩
  ·obtain rfl:k=m.length:=by omega
   clear hlt
   obtain ⟨s1,s2,s3,s4,s5⟩:=box_cells2 hst
   have hr1:wr.heap[w.heap.size]? =some (.cells #[.slice none 0 0,.slice none 0 0] 121 (0,0)):=heap_of_ext (Ext.trans (Ext.trans (hs1.ext) (hs2.ext)) hxr) (heap_alloc_new w _)
   obtain ⟨r1,r2,r3,r4,r5⟩:=box_cells2 hr1
   have HR:=Lib.hid hr1
   clear hr1 hst
   go_wp2
   have hDl:(minorsTo m m.length).length=m.length+1:=minorsTo_length _ _
   have hLl:(lamTo m m.length).length=m.length:=by simp [lamTo]
   have hcap:=hI.mi.cap
   have hcapL:=hI.la.cap
   have hoR:=Oth.set2 HR.out 0 1 (.slice mB (m.length+1) mc) (.slice lB m.length lc)
   have hxw:Ext w wr:=Ext.trans (Ext.trans (Ext.trans (inferInstance:Ext w (w.alloc (.cells #[.slice none 0 0,.slice none 0 0] 121))) hs1.ext) hs2.ext) hxr
   refine bodyPost_ret (v:= .agg #[.slice mB (m.length+1) mc,.slice lB m.length lc]) (by simp [results,Tryz.results80,go_sem,r1,r2]) rfl ⟨mB,mc,lB,lc,by rw [hDl,hLl],?_,?_,by rw [hDl];exact hcap.1,hcap.2,by rw [hLl];exact hcapL.1,hcapL.2,?_⟩
   ·exact Ints.oth hI.mi.arr hoR (by decide)
   ·refine ⟨vs,by rw [hLl];have :=hI.la.len;omega,hI.la.arr.oth hoR (by decide),fun i r hr=>?_⟩
    have hi:i<m.length:=by
     have :=(List.getElem?_eq_some_iff.1 hr).1
     omega
    have hr':r=lamRow m i:=by
     rw [lamTo,List.getElem?_map,List.getElem?_range hi] at hr
     simpa using hr.symm
    subst hr'
    obtain ⟨B5,c5,y1,y2,y3,y4⟩:=hI.row i hi
    exact ⟨B5,c5,y1,y2.arr.oth hoR (by decide),y3,y4⟩
   ·exact ((hxw.setCell (p:=⟨w.heap.size,0,none⟩) (Nat.le_refl _) _).setCell (p:=⟨w.heap.size,1,none⟩) (Nat.le_refl _) _).toStep
/-! ## What the search of collect finds -/
def searchC (D:List Int) (L:List (List Int)) (exact:Bool) (k:Nat) (rest:Int) (zero:Bool) (tail:List Int) (c:Int):List (List Int):=
 if k=0 then (if takes zero exact c (vRest D L k rest tail c) then [c::tail] else []) else searchL D L exact (k-1) (vRest D L k rest tail c) (zero&&decide (c=0)) (c::tail)
def searchTo (D:List Int) (L:List (List Int)) (exact:Bool) (k:Nat) (rest:Int) (zero:Bool) (tail:List Int) (j:Nat):List (List Int):=
 (List.range j).flatMap fun (i:Nat)=>searchC D L exact k rest zero tail (sLo D L k rest zero tail+(i:Int))
theorem searchTo_succ (D:List Int) (L:List (List Int)) (exact:Bool) (k:Nat) (rest:Int) (zero:Bool) (tail:List Int) (j:Nat):
  searchTo D L exact k rest zero tail (j+1)=searchTo D L exact k rest zero tail j++searchC D L exact k rest zero tail (sLo D L k rest zero tail+(j:Int)):=by
 simp [searchTo,List.range_succ]
theorem searchL_eq (D:List Int) (L:List (List Int)) (exact:Bool) (k:Nat) (rest:Int) (zero:Bool) (tail:List Int):
  searchL D L exact k rest zero tail=searchTo D L exact k rest zero tail (sCnt D L k rest zero tail):=by
 cases k with
 |zero=>simp [searchL,searchTo,searchC]
 |succ k=>simp [searchL,searchTo,searchC]
theorem searchTo_prefix (D:List Int) (L:List (List Int)) (exact:Bool) (k:Nat) (rest:Int) (zero:Bool) (tail:List Int) {i j:Nat} (h:i<=j):searchTo D L exact k rest zero tail i<+:searchTo D L exact k rest zero tail j:=by
 obtain ⟨m,rfl⟩:∃m,j=i+m:=⟨j-i,by omega⟩
 induction m with
 |zero=>exact List.prefix_rfl
 |succ m ih=>rw [<-Nat.add_assoc,searchTo_succ];exact (ih (by omega)).trans (List.prefix_append _ _)
theorem vLo_zero {D:List Int} {L:List (List Int)} {n:Nat} {bound:Int} {k:Nat} {rest:Int} {tail:List Int} (hN:NumOK D L n bound) (h:LevOK D n bound k rest tail) (h0:absSum tail=0):vLo D L k rest tail<=0:=by
 have :=(vEnds hN h).2.1
 omega
/-! ## The list in memory -/
def sCaps (s eb:Nat):Array Value:=#[.pointer (some ⟨s,0,none⟩),.pointer (some ⟨s+2,0,none⟩),.pointer (some ⟨s+4,0,none⟩),.pointer (some ⟨eb,0,none⟩),.pointer (some ⟨s+3,0,none⟩)]
structure SMem (w1 W:World) (n:Nat) (mA lA:Option Addr) (mc lc eb:Nat) (exact:Bool) (lB:Option Addr) (c:Nat) (l:List (List Int)) (vs:List Value):Prop where
 ext:Ext w1 W
 fb:W.heap[w1.heap.size]? =some (.cells #[.slice mA (n+1) mc,.slice lA n lc] 121 (0,0))
 xb:W.heap[w1.heap.size+2]? =some (.cells #[.slice (some ⟨w1.heap.size+1,0,none⟩) n n] 37 (0,0))
 lb:W.heap[w1.heap.size+3]? =some (.cells #[.slice lB l.length c] 26 (0,0))
 sb:W.heap[w1.heap.size+4]? =some (.cells #[.func (.func 81) #[] (sCaps w1.heap.size eb)] 123 (0,0))
 ebl:eb<w1.heap.size
 ec:w1.cell? ⟨eb,0,none⟩=some (.bool exact)
 ls:LOwn W (w1.heap.size+5) lB c l vs
 sz:w1.heap.size+5<=W.heap.size
theorem SMem.setX {w1 W:World} {n:Nat} {mA lA:Option Addr} {mc lc eb:Nat} {exact:Bool} {lB:Option Addr} {c:Nat} {l:List (List Int)} {vs:List Value} (h:SMem w1 W n mA lA mc lc eb exact lB c l vs) (i:Nat) (u:Value):SMem w1 (W.setCell ⟨w1.heap.size+1,i,none⟩ u) n mA lA mc lc eb exact lB c l vs where
 ext:=h.ext.setCell (p:=⟨w1.heap.size+1,i,none⟩) (Nat.le_succ _) u
 fb:=heap_setCell_far h.fb (show w1.heap.size≠w1.heap.size+1 by omega) u
 xb:=heap_setCell_far h.xb (show w1.heap.size+2≠w1.heap.size+1 by omega) u
 lb:=heap_setCell_far h.lb (show w1.heap.size+3≠w1.heap.size+1 by omega) u
 sb:=heap_setCell_far h.sb (show w1.heap.size+4≠w1.heap.size+1 by omega) u
 ebl:=h.ebl
 ec:=h.ec
 ls:=h.ls.set (p:=⟨w1.heap.size+1,i,none⟩) (show w1.heap.size+1<w1.heap.size+5 by omega) u
 sz:=by rw [size_setCell];exact h.sz
theorem XRow.put0 {w:World} {sz n k:Nat} {tail:List Int} (h:XRow w sz n k tail) (x:Int):XRow (w.setCell ⟨sz,k,none⟩ (.int .i64 x)) sz n k tail:=by
 obtain ⟨xs,h1,h2,h3⟩:=h
 exact ⟨_,h1.set k x,by simp [h2],by rw [List.drop_set_of_lt (by omega),h3]⟩
theorem XRow.full {w:World} {sz n k:Nat} {tail:List Int} (h:XRow w sz n k tail) (hk:k=0) (hn:k<n) (x:Int):Row (w.setCell ⟨sz,k,none⟩ (.int .i64 x)) sz 2 .i64 (x::tail)/\(x::tail).length=n:=by
 subst hk
 obtain ⟨xs,h1,h2,h3⟩:=h
 cases xs with
 |nil=>simp at h2;omega
 |cons y ys=>
  simp at h3
  subst h3
  exact ⟨h1.set 0 x,by simpa using h2⟩
theorem SMem.snoc {w1 W W3 w4:World} {n:Nat} {mA lA:Option Addr} {mc lc eb:Nat} {exact:Bool} {lB:Option Addr} {c:Nat} {l:List (List Int)} {vs:List Value} (h:SMem w1 W n mA lA mc lc eb exact lB c l vs) (hx:Ext W W3) {A4 B:Option Addr} {d4 d:Nat} {r:List Int} (hg:Grow (w1.heap.size+5) 37 W3 w4) (ho:Own w4 (w1.heap.size+5) 37 1 A4 (l.length+1) d4 (vs++[.slice B r.length d])) (hr:ArrX (w1.heap.size+5) W3 B 2 (r.map (Value.int .i64))) (h1:r.length<=d) (h2:d<=9223372036854775807):
  SMem w1 (w4.setCell ⟨w1.heap.size+3,0,none⟩ (.slice A4 (l.length+1) d4)) n mA lA mc lc eb exact A4 d4 (l++[r]) (vs++[.slice B r.length d]):=by
 have hk:∀b,b<w1.heap.size+5->∀o,W.heap[b]? =some o->w4.heap[b]? =some o:=fun b hb o ho=>(hg.below.block b hb).trans (heap_of_ext hx ho)
 refine ⟨?_,?_,?_,?_,?_,h.ebl,h.ec,?_,?_⟩
 ·exact (hg.ext (h.ext.trans hx) (by omega)).setCell (p:=⟨w1.heap.size+3,0,none⟩) (by simp) _
 ·exact heap_setCell_far (hk _ (by omega) _ h.fb) (show w1.heap.size≠w1.heap.size+3 by omega) _
 ·exact heap_setCell_far (hk _ (by omega) _ h.xb) (show w1.heap.size+2≠w1.heap.size+3 by omega) _
 ·rw [List.length_append];exact box_set1 (hk _ (by omega) _ h.lb)
 ·exact heap_setCell_far (hk _ (by omega) _ h.sb) (show w1.heap.size+4≠w1.heap.size+3 by omega) _
 ·exact (h.ls.snoc hx hg ho hr h1 h2).set (p:=⟨w1.heap.size+3,0,none⟩) (show w1.heap.size+3<w1.heap.size+5 by omega) _
 ·rw [size_setCell]
  have :=h.sz;have :=hx.size;have :=hg.below.size
  omega
def SearchPost (w1:World) (n:Nat) (mA lA:Option Addr) (mc lc eb:Nat) (exact:Bool) (l:List (List Int)) (k:Nat) (tail:List Int) (e:Ending) (W':World):Prop:=
 e= .returned (.tuple #[])/\XRow W' (w1.heap.size+1) n k tail/\∃lB c vs,SMem w1 W' n mA lA mc lc eb exact lB c l vs
theorem isFn_search:IsFn 81:=isFn_of Tryz.func81 (by kernel_rfl) (by kernel_rfl)
theorem SMem.took {w1 wS W5 w6:World} {n k ln s5:Nat} {mA lA:Option Addr} {mc lc eb:Nat} {exact:Bool} {lB:Option Addr} {c:Nat} {l t t':List (List Int)} {tail:List Int} {x:Int} {vs:List Value} {A6 B5:Option Addr} {d5 d6:Nat}
  (hM:SMem w1 wS n mA lA mc lc eb exact lB c (l++t) vs) (hX:XRow wS (w1.heap.size+1) n k tail) (hs:Ext wS W5) (hO:Own W5 s5 2 1 B5 (x::tail).length d5 ((x::tail).map (Value.int .i64))) (hs5:w1.heap.size+5<=s5) (hn:(x::tail).length=n) (hl:(l++t).length=ln)
  (ho:Own w6 (w1.heap.size+5) 37 1 A6 (ln+1) d6 (vs++[.slice B5 n d5])) (hg:Grow (w1.heap.size+5) 37 (W5.alloc (.cells #[.slice B5 n d5] 37)) w6) (ht:t'=t++[x::tail]):
  XRow (w6.setCell ⟨w1.heap.size+3,0,none⟩ (.slice A6 (ln+1) d6)) (w1.heap.size+1) n k tail/\SMem w1 (w6.setCell ⟨w1.heap.size+3,0,none⟩ (.slice A6 (ln+1) d6)) n mA lA mc lc eb exact A6 d6 (l++t') (vs++[.slice B5 n d5]):=by
 subst hl ht
 have hx:Ext wS (W5.alloc (.cells #[.slice B5 n d5] 37)):=Ext.alloc _ _ _
 have hc:=hO.cap
 constructor
 ·refine hX.keep ?_
  rw [Below.heap_setCell _ _ _ _ (show w1.heap.size+1≠w1.heap.size+3 by omega),hg.below.block _ (by omega)]
  exact hx.below.block _ (by have :=hM.sz;omega)
 ·have :=hM.snoc hx (r:=x::tail) (B:=B5) (d:=d5) hg (by rw [hn];exact ho) ((hO.arrX.lower hs5).ext (Ext.alloc _ _ _)) hc.1 hc.2
  rw [<-List.append_assoc]
  rw [hn] at this
  exact this
set_option maxRecDepth 100000 in
theorem search_any {w1:World} {bound:Int} {D:List Int} {L:List (List Int)} {n:Nat} {mA lA:Option Addr} {mc lc eb:Nat} {exact:Bool} (hD:Ints w1 mA 2 .i64 D) (hL:Mat64 w1 lA L) (hmc:n+1<=mc) (hmc2:mc<=9223372036854775807) (hlc:n<=lc) (hlc2:lc<=9223372036854775807) (hN:NumOK D L n bound) (k:Nat):
  ∀(rest:Int) (zero:Bool) (tail:List Int) (W:World) (lB:Option Addr) (c:Nat) (l:List (List Int)) (vs:List Value),LevOK D n bound k rest tail->(zero=true->absSum tail=0)->XRow W (w1.heap.size+1) n k tail->SMem w1 W n mA lA mc lc eb exact lB c l vs->(l++searchL D L exact k rest zero tail).length<=1073741824->
   Calls Tryz.prog 81 (#[.int .i64 k,.int .i64 rest,.bool zero]++sCaps w1.heap.size eb) W (SearchPost w1 n mA lA mc lc eb exact (l++searchL D L exact k rest zero tail) k tail):=by
 induction k using Nat.strongRecOn with
 |ind k ih=>
  intro rest zero tail W lB c l vs hLv hz hX hM hlen
  have hkn:=hLv.kn
  have hn8:=hN.n8
  obtain ⟨f1,f2,-,-,f5⟩:=box_cells2 hM.fb
  have xb1:W.cell? ⟨w1.heap.size+2,0,none⟩=some (.slice (some ⟨w1.heap.size+1,0,none⟩) n n):=by simp [World.cell?,hM.xb]
  have sb1:W.cell? ⟨w1.heap.size+4,0,none⟩=some (.func (.func 81) #[] (sCaps w1.heap.size eb)):=by simp [World.cell?,hM.sb]
  obtain ⟨xs,hrow,hxl,hxd⟩:=id hX
  have hdl:=hN.dl
  have hll:=hN.ll
  have hd0:D[k]? =some (vD D k):=by unfold vD;simp [show k<D.length by omega]
  have hd1':D[k+1]? =some (vD D (k+1)):=by unfold vD;simp [show k+1<D.length by omega]
  obtain ⟨bm,om,-,rfl,-⟩:=hD.at_ (i:=k) (by omega)
  obtain ⟨m3,m4⟩:=ints_cell (hD.ext hM.ext) hd0
  obtain ⟨m1,-⟩:=ints_cell (hD.ext hM.ext) hd1'
  obtain ⟨bl,ol,B,cl,rfl,l3,l5,l1,l2,l4⟩:=(hL.ext hM.ext).at_ (i:=k) (r:=L.getD k []) (by simp [show k<L.length by omega])
  have hrl:=hN.row k hkn
  obtain ⟨lam,hlam⟩:∃lam,lam=L.getD k []:=⟨_,rfl⟩
  rw [hrl] at l1 l3
  rw [<-hlam] at hrl l5
  have HL5:=Lib.hid l5
  have HLAM:=Lib.hid hlam
  have HRL:=Lib.hid hrl
  have hsq:=vSq_bounds hN hLv
  have hR:=vR_bounds hN hLv
  have hd1:=hN.d1 (k+1) (by omega)
  have hd2:=hN.d2 (k+1) (by omega)
  obtain ⟨sqn,hsqn⟩:∃sqn,sqn=(vSq D k rest).toNat:=⟨_,rfl⟩
  have hsqe:vD D k*rest=(sqn:Int):=by have :=hsq.1;rw [hsqn];unfold vSq at this |-;omega
  have hsq1:sqn<4611686018427387904:=by have :=hsq.2;omega
  have HSQ:Hid (vSq D k rest=(sqn:Int)):=Lib.hid hsqe
  have HRT:Hid (vR D k rest=(isq sqn:Nat)):=Lib.hid (by rw [hsqn];rfl)
  have hisq:isq sqn<2147483648:=by have :=hR.2.1;rw [HRT.out] at this;omega
  obtain ⟨r,hr⟩:∃r,r=n-1-k:=⟨_,rfl⟩
  rw [<-hr] at l1 l3 HRL
  have HRR:=Lib.hid hr
  have hr1:r+k+1<=n:=by omega
  have hr2:n<=r+k+1:=by omega
  obtain ⟨d,hd⟩:∃d,d=vD D (k+1):=⟨_,rfl⟩
  rw [<-hd] at m1 hd1 hd2
  have HD:=Lib.hid hd
  obtain ⟨dk,hdk⟩:∃dk,dk=vD D k:=⟨_,rfl⟩
  rw [<-hdk] at m3 hsqe
  have HXD:=Lib.hid hxd
  have HROW:=Lib.hid hrow
  have HM:=Lib.hid hM
  have HX:=Lib.hid hX
  have HZ:=Lib.hid hz
  have HLV:=Lib.hid hLv
  have HLEN:=Lib.hid hlen
  have bw:w1.heap.size+1<W.heap.size:=by have :=hM.sz;omega
  clear hr hd hdk hsqn hsq hR hxd hdl hll hd0 hd1' hlam hrl hX hM hz hlen l5
  unfold sCaps at sb1 |-
  go_enter Tryz.func81,Tryz.ntmps81
  go_wp2_with fail
  go_loop [12,13,14,34] (fun s _ _ i=>∃q:Nat,q<=r/\i= .int .i64 q/\s= .int .i64 (dotL (lam.take q) (tail.take q))) (fun _ _ _ i=>r-(intOf i).toNat)
  case atStart=>exact ⟨0,by omega,rfl,by simp [dotL]⟩
  case round=>
   obtain ⟨q,hq,rfl,rfl⟩:=hrel
   by_cases hlt:q<r
   ·obtain ⟨a,ha⟩:∃a,lam[q]? =some a:=⟨_,List.getElem?_eq_getElem (by have :=HRL.out;omega)⟩
    obtain ⟨y,hy⟩:∃y,tail[q]? =some y:=⟨_,List.getElem?_eq_getElem (by have :=hLv.tl;have :=HRR.out;omega)⟩
    obtain ⟨b1,o1,-,rfl,-⟩:=HL5.out.at_ (i:=q) (by have :=HRL.out;omega)
    obtain ⟨g1,g2⟩:=ints_cell HL5.out ha
    have hxy:xs[k+1+q]? =some y:=by rw [<-hy,<-HXD.out,List.getElem?_drop]
    obtain ⟨y',hy1,hy2⟩:=hrow.cell (i:=k+1+q) (by rw [hxl];omega)
    rw [hxy] at hy1
    injection hy1 with hy1
    subst hy1
    have hdv:=hN.d2 (k+1) (by omega)
    have ba:=hN.lam k hkn a (by rw [<-HLAM.out];exact List.mem_of_getElem? ha)
    have bb:=le_absSum tail q y hy
    have bS:=absSum_bound hN hLv
    have bs:=dotL_bound (A:=32768) (B:=549755813888) (by omega) (by omega) (lam.take q) (tail.take q) (fun z hz=>by have :=hN.lam k hkn z (by rw [<-HLAM.out];exact List.mem_of_mem_take hz);omega) (fun z hz=>by
     obtain ⟨j,hj,e⟩:=List.getElem_of_mem (List.mem_of_mem_take hz)
     have :=le_absSum tail j z (by simp [hj,e])
     omega)
    have bm:=mul_abs_le (a:=a) (b:=y) (A:=32768) (B:=549755813888) (by omega) (by omega) (by omega) (by omega)
    have hstep:=Lib.hid (dotL_take_succ lam tail q a y ha hy)
    have htl:(lam.take q).length<=8:=by rw [List.length_take];omega
    obtain ⟨s,hs⟩:∃s,s=dotL (lam.take q) (tail.take q):=⟨_,rfl⟩
    rw [<-hs] at bs hstep |-
    have bs1:-144115188075855872<=s:=by omega
    have bs2:s<=144115188075855872:=by omega
    obtain ⟨bm1,bm2⟩:=bm
    have bm3:-18014398509481984<=a*y:=by omega
    have bm4:a*y<=18014398509481984:=by omega
    clear hdv ba bb bS bs bm1 bm2 hs ha hy hxy htl
    go_wp2_with fail
    refine ⟨⟨q+1,by omega,by go_num,by rw [hstep.out]⟩,by simp [intOf]<;>omega⟩
   ·obtain rfl:q=r:=by omega
    clear hlt
    have e1:lam.take q=lam:=List.take_of_length_le (by have :=HRL.out;omega)
    have e2:tail.take q=tail:=List.take_of_length_le (by have :=hLv.tl;have :=HRR.out;omega)
    rw [e1,e2]
    clear e1 e2
    have hshe:Hid (dotL lam tail=vSh L k tail):=Lib.hid (by rw [HLAM.out];rfl)
    rw [hshe.out]
    obtain ⟨sh,hsh⟩:∃sh,sh=vSh L k tail:=⟨_,rfl⟩
    have bsh:=vSh_bounds hN hLv
    have bmS:=mulS_bound hN hLv
    rw [<-hsh] at bsh |-
    have bsh1:-36028247263150080<=sh:=by omega
    have bsh2:sh<=36028247263150080:=by omega
    have HSH:=Lib.hid hsh
    obtain ⟨p,hp⟩:∃p,p=((isq sqn:Int)+sh) / d:=⟨_,rfl⟩
    obtain ⟨hi,hhi⟩:∃hi,hi=((isq sqn:Int)-sh) / d:=⟨_,rfl⟩
    have HLO:Hid (vLo D L k rest tail=-p):=Lib.hid (by rw [hp,hsh,HD.out,vLo,HRT.out])
    have HHI:Hid (vHi D L k rest tail=hi):=Lib.hid (by rw [hhi,hsh,HD.out,vHi,HRT.out])
    have hends:=vEnds hN hLv
    have hcnt:=vCnt_bounds hN hLv
    have hSb:=absSum_bound hN hLv
    have HCNT:Hid (vCnt D L k rest tail=hi+p+1):=Lib.hid (by rw [vCnt,HLO.out,HHI.out];omega)
    rw [HLO.out,HHI.out,HRT.out] at hends
    rw [HCNT.out] at hcnt
    have hp1:-1099511627776<=p:=by omega
    have hp2:p<=1099511627776:=by omega
    have hi1:-1099511627776<=hi:=by omega
    have hi2:hi<=1099511627776:=by omega
    have hq1:=hp.symm
    have hq2:=hhi.symm
    obtain ⟨hcnt0,hcnt1⟩:=hcnt
    have hlop:zero=true->0<=p:=fun h=>by have :=vLo_zero hN hLv (HZ.out h);rw [HLO.out] at this;omega
    obtain ⟨lo,HLOV,hlo1⟩:∃lo,Hid (sLo D L k rest zero tail=lo)/\lo=if zero then 0 else-p:=⟨_,Lib.hid rfl,by unfold sLo;rw [HLO.out]⟩
    clear bsh bmS hends hSb hp hhi hsh
    obtain ⟨z,HZV⟩:∃z,Hid (z=zero):=⟨_,Lib.hid rfl⟩
    obtain ⟨T,HT⟩:∃T:Nat->List (List Int),Hid (∀j,T j=searchTo D L exact k rest z tail j):=⟨_,Lib.hid fun _=>rfl⟩
    have HT1:Hid (∀j,T (j+1)=T j++searchC D L exact k rest z tail (lo+(j:Int))):=Lib.hid fun j=>by rw [HT.out,HT.out,searchTo_succ,HZV.out,HLOV.out]
    have HTN:Hid (searchL D L exact k rest zero tail=T (hi-lo+1).toNat):=Lib.hid (by rw [searchL_eq,HT.out,HZV.out,sCnt,HHI.out,HLOV.out])
    have HTL:Hid (∀(x:Int) (j:Nat),x=lo+j->x<=hi->(l++T (j+1)).length<=1073741824):=Lib.hid fun x j h1 h2=>by
     have hh:=HLEN.out
     rw [HTN.out,HT.out] at hh
     have :=(searchTo_prefix D L exact k rest z tail (i:=j+1) (j:=(hi-lo+1).toNat) (by omega)).length_le
     rw [HT.out]
     simp only [List.length_append] at hh |-
     omega
    have hZ2:Hid (z=true->absSum tail=0):=Lib.hid (by rw [HZV.out];exact HZ.out)
    rw [HTN.out]
    clear HZ HLOV HLEN
    cases zero
    all_goals (try simp only [if_true,if_false,Bool.false_eq_true,forall_const] at hlo1 hlop)
    all_goals (
     go_wp2_with (first
      |(go_at_call 82;refine (enumerate_root_any (a:=sqn) (by omega)).mono ?_;rintro e w' ⟨rfl,rfl⟩)
      |(go_at_call 83;refine (enumerate_floor_any (by omega) (by omega) (by omega) (by omega)).mono ?_;rintro e w' ⟨rfl,rfl⟩)))
    all_goals (
     go_loopw [19,20,21,99,112] (fun sx _ _ _ _ wr=>∃(x:Int) (j:Nat),sx= .int .i64 x/\Hid (x=lo+j)/\lo<=x/\-p<=x/\(x<=hi+1∨j=0)/\XRow wr (w1.heap.size+1) n k tail/\∃lB c vs,SMem w1 wr n (some ⟨bm,om,none⟩) (some ⟨bl,ol,none⟩) mc lc eb exact lB c (l++T j) vs) (fun sx _ _ _ _ _=>(hi+1-intOf sx).toNat)
     case atStart=>
      refine ⟨_,0,rfl,Lib.hid (by omega),by omega,by omega,.inr rfl,HX.out,lB,c,vs,?_⟩
      rw [HT.out]
      simpa [searchTo] using HM.out
     case round=>
      obtain ⟨x,j,rfl,HXJ,hx1,hx2,hx3,hX2,lB2,c2,vs2,hM2⟩:=hrel
      clear xb1 sb1 f1 f2 f5 m1 m3 m4 l2 l3 l4 hrow HROW hxl HXD HM HX bw HL5
      by_cases hlt:x<=hi
      ·have hin1:vLo D L k rest tail<=x:=by rw [HLO.out];exact hx2
       have hin2:x<=vHi D L k rest tail:=by rw [HHI.out];exact hlt
       have hub:=vU_bounds hN hLv hin1 hin2
       obtain ⟨hr1',hr2',-,-⟩:=vRest_bounds hN hLv hin1 hin2
       obtain ⟨u,hu⟩:∃u,u=d*x+sh:=⟨_,rfl⟩
       have HU:Hid (vU D L k tail x=u):=Lib.hid (by rw [hu,HSH.out,HD.out];rfl)
       have HRS:Hid (vRest D L k rest tail x=((sqn:Int)-u*u) / d):=Lib.hid (by rw [vRest,HU.out,HSQ.out,<-HD.out])
       rw [HU.out] at hub hr1' hr2'
       rw [HSQ.out] at hr1'
       rw [HRT.out] at hub
       have hln:=HTL.out x j HXJ.out hlt
       have xb2:wr.cell? ⟨w1.heap.size+2,0,none⟩=some (.slice (some ⟨w1.heap.size+1,0,none⟩) n n):=by simp [World.cell?,hM2.xb]
       have sb2:wr.cell? ⟨w1.heap.size+4,0,none⟩=some (.func (.func 81) #[] (sCaps w1.heap.size eb)):=by simp [World.cell?,hM2.sb]
       have lb2:wr.cell? ⟨w1.heap.size+3,0,none⟩=some (.slice lB2 (l++T j).length c2):=by simp [World.cell?,hM2.lb]
       have ec2:wr.cell? ⟨eb,0,none⟩=some (.bool exact):=(World.cell?_of_block (hM2.ext.below.block eb hM2.ebl)).trans hM2.ec
       have bw2:w1.heap.size+5<=wr.heap.size:=hM2.sz
       have hebl:=hM2.ebl
       obtain ⟨xs2,hrow2,hxl2,-⟩:=id hX2
       obtain ⟨y0,-,hc0⟩:=hrow2.cell (i:=k) (by omega)
       have hf0:=hrow2.frozen k
       have hu':=hu.symm
       have hub1:-2147483648<=u:=by omega
       have hub2:u<=2147483648:=by omega
       have hus:u*u<=4611686018427387904:=by omega
       have hdx:=mul_abs_le (a:=d) (b:=x) (A:=65536) (B:=2199023255552) (by omega) (by omega) (by omega) (by omega)
       have hdx1:-144115188075855872<=d*x:=by omega
       have hdx2:d*x<=144115188075855872:=by omega
       by_cases hk0:k=0
       ·have hkb:¬((0:Int)<k):=by omega
        have hk00:k<1:=by omega
        have hX3:=hX2.put0 x
        obtain ⟨hR3,hRl⟩:=hX2.full hk0 hkn x
        have hM3:=hM2.setX k (.int .i64 x)
        obtain ⟨lf,hlf⟩:∃lf,lf=((sqn:Int)-u*u) / d:=⟨_,rfl⟩
        have HLF:=Lib.hid hlf
        have HNX:Hid (T (j+1)=T j++if takes z exact x lf then [x::tail] else []):=Lib.hid (by
         rw [HT1.out,<-HXJ.out,searchC,if_pos hk0,HRS.out,hlf])
        have hlf':=hlf.symm
        clear hub hu hin1 hin2 hdx hxl2 hrow2 hlf
        have HX3:=Lib.hid hX3
        have HR3:=Lib.hid hR3
        have HM3:=Lib.hid hM3
        have HLN:=Lib.hid hln
        have HRL3:=Lib.hid hRl
        have HK0:=Lib.hid hk0
        clear hM2 hX2 hX3 hR3 hM3 hln hRl hk0
        by_cases htk:takes z exact x lf=true
        ·have hT2:Hid (T (j+1)=T j++[x::tail]):=Lib.hid (by rw [HNX.out];simp [htk])
         have htk':¬(z=true/\x=0)/\(exact=false∨(exact=true/\lf=0)):=by
          cases z<;>cases exact<;>by_cases hx0:x=0<;>by_cases hl0:lf=0<;>simp_all [takes]
         have htk2:(z=false∨(z=true/\(x==0)=false))/\(exact=false∨(exact=true/\(lf==0)=true)):=by
          cases z<;>cases exact<;>by_cases hx0:x=0<;>by_cases hl0:lf=0<;>simp_all [takes]
         rw [HZV.out] at htk2
         simp only [Bool.false_eq_true,Bool.true_eq_false,false_and,true_and,false_or,or_false,true_or] at htk2
         clear htk HNX htk'
         first
          |(obtain ⟨hx0b,he1⟩:=htk2
            rcases he1 with rfl |⟨rfl,hl0⟩
            ·go_wp2_with fail
             generalize wr.setCell ⟨w1.heap.size+1,k,none⟩ (.int .i64 x)=wS at HX3 HR3 HM3 |-
             obtain ⟨ln,hln1⟩:∃ln,(l++T j).length=ln:=⟨_,rfl⟩
             have HLN1:=Lib.hid hln1
             have hlb3:=HM3.out.lb
             rw [hln1] at hlb3
             have lb3:wS.cell? ⟨w1.heap.size+3,0,none⟩=some (.slice lB2 ln c2):=by simp [World.cell?,hlb3]
             have lf3:wS.frozen? ⟨w1.heap.size+3,0,none⟩=false:=by simp [World.frozen?,hlb3]
             have hown3:=HM3.out.ls.own
             rw [hln1] at hown3
             have HO3:=Lib.hid hown3
             have HLB:=Lib.hid hlb3
             have hle:ln+1<=1073741824:=by
              have :=HLN.out
              rw [hT2.out,<-List.append_assoc,List.length_append,hln1] at this
              simpa using this
             have xb3:wS.cell? ⟨w1.heap.size+2,0,none⟩=some (.slice (some ⟨w1.heap.size+1,0,none⟩) n n):=by simp [World.cell?,HM3.out.xb]
             have bw3:=HM3.out.sz
             have oS3:Old (w1.heap.size+3) wS:=⟨by omega⟩
             have hcl:=fun W (hxx:Ext wS W)=>CloneI_any (w:=W) (c:=n) HR3.out.ints (by rw [HRL3.out];omega)
             rw [HRL3.out] at hcl
             have HCL:=Lib.hid hcl
             clear hcl hln1 lb2 hlb3 hown3
             go_region_law (first
              |((refine step_app _ rfl (.tmp 94) (.tmp 97) 26 rfl (w1.heap.size+5) 37 (.slice none 0 0) 1 24 Tryz.underlying26 infoSlI64 rfl (by decide) (by decide) lB2 ln c2 vs2 (by simp [Act.eval]) (HO3.out.ext inferInstance) (some ⟨W5.heap.size,0,none⟩) 1 1 [.slice B5 n d5] (by simp [Act.eval]) ((Arr.new W5 37 #[.slice B5 n d5]).ext inferInstance) rfl (by simp [Value.oneCell']) (by omega) (by have :=hs5.size;simp at this |-;omega) ?_);intro A6 d6 w6 hown6 hg6;have hb6:=(hg6.below.block (w1.heap.size+3) (by omega)).trans (heap_of_ext (inferInstance:Ext wS ((W5.alloc (Obj.cells #[Value.slice B5 n d5] 37)))) HLB.out);have q1:w6.cell? ⟨w1.heap.size+3,0,none⟩=some (.slice lB2 ln c2):=(by simp [World.cell?,hb6]);have q2:w6.frozen? ⟨w1.heap.size+3,0,none⟩=false:=(by simp [World.frozen?,hb6]);have q3:w1.heap.size+3<w6.heap.size:=lt_of_heap hb6;clear hb6)
              |(go_simp;go_at_call 84;refine (HCL.out _ inferInstance).mono ?_;rintro e W5 ⟨B5,d5,rfl,hO5,hs5⟩;rw [HRL3.out]))
             all_goals (
              obtain ⟨hX6,hM6⟩:=SMem.took HM3.out HX3.out (inferInstance:Ext wS W5) hO5 HM3.out.sz HRL3.out HLN1.out hown6 hg6 hT2.out
              clear q1 q2 q3 hown6 hg6 hO5 hs5 HCL HO3 HLB lb3 lf3 xb3
              generalize w6.setCell ⟨w1.heap.size+3,0,none⟩ (.slice A6 (ln+1) d6)=w7 at hX6 hM6 |-
              have HX6:=Lib.hid hX6
              have HM6:=Lib.hid hM6
              clear hX6 hM6
              go_wp2_with fail
              exact ⟨⟨x+1,j+1,rfl,Lib.hid (by have :=HXJ.out;omega),by omega,by omega,.inl (by omega),HX6.out,A6,d6,_,HM6.out⟩,by simp [intOf]<;>omega⟩)
            ·go_wp2_with fail
             generalize wr.setCell ⟨w1.heap.size+1,k,none⟩ (.int .i64 x)=wS at HX3 HR3 HM3 |-
             obtain ⟨ln,hln1⟩:∃ln,(l++T j).length=ln:=⟨_,rfl⟩
             have HLN1:=Lib.hid hln1
             have hlb3:=HM3.out.lb
             rw [hln1] at hlb3
             have lb3:wS.cell? ⟨w1.heap.size+3,0,none⟩=some (.slice lB2 ln c2):=by simp [World.cell?,hlb3]
             have lf3:wS.frozen? ⟨w1.heap.size+3,0,none⟩=false:=by simp [World.frozen?,hlb3]
             have hown3:=HM3.out.ls.own
             rw [hln1] at hown3
             have HO3:=Lib.hid hown3
             have HLB:=Lib.hid hlb3
             have hle:ln+1<=1073741824:=by
              have :=HLN.out
              rw [hT2.out,<-List.append_assoc,List.length_append,hln1] at this
              simpa using this
             have xb3:wS.cell? ⟨w1.heap.size+2,0,none⟩=some (.slice (some ⟨w1.heap.size+1,0,none⟩) n n):=by simp [World.cell?,HM3.out.xb]
             have bw3:=HM3.out.sz
             have oS3:Old (w1.heap.size+3) wS:=⟨by omega⟩
             have hcl:=fun W (hxx:Ext wS W)=>CloneI_any (w:=W) (c:=n) HR3.out.ints (by rw [HRL3.out];omega)
             rw [HRL3.out] at hcl
             have HCL:=Lib.hid hcl
             clear hcl hln1 lb2 hlb3 hown3
             go_region_law (first
              |((refine step_app _ rfl (.tmp 94) (.tmp 97) 26 rfl (w1.heap.size+5) 37 (.slice none 0 0) 1 24 Tryz.underlying26 infoSlI64 rfl (by decide) (by decide) lB2 ln c2 vs2 (by simp [Act.eval]) (HO3.out.ext inferInstance) (some ⟨W5.heap.size,0,none⟩) 1 1 [.slice B5 n d5] (by simp [Act.eval]) ((Arr.new W5 37 #[.slice B5 n d5]).ext inferInstance) rfl (by simp [Value.oneCell']) (by omega) (by have :=hs5.size;simp at this |-;omega) ?_);intro A6 d6 w6 hown6 hg6;have hb6:=(hg6.below.block (w1.heap.size+3) (by omega)).trans (heap_of_ext (inferInstance:Ext wS ((W5.alloc (Obj.cells #[Value.slice B5 n d5] 37)))) HLB.out);have q1:w6.cell? ⟨w1.heap.size+3,0,none⟩=some (.slice lB2 ln c2):=(by simp [World.cell?,hb6]);have q2:w6.frozen? ⟨w1.heap.size+3,0,none⟩=false:=(by simp [World.frozen?,hb6]);have q3:w1.heap.size+3<w6.heap.size:=lt_of_heap hb6;clear hb6)
              |(go_simp;go_at_call 84;refine (HCL.out _ inferInstance).mono ?_;rintro e W5 ⟨B5,d5,rfl,hO5,hs5⟩;rw [HRL3.out]))
             all_goals (
              obtain ⟨hX6,hM6⟩:=SMem.took HM3.out HX3.out (inferInstance:Ext wS W5) hO5 HM3.out.sz HRL3.out HLN1.out hown6 hg6 hT2.out
              clear q1 q2 q3 hown6 hg6 hO5 hs5 HCL HO3 HLB lb3 lf3 xb3
              generalize w6.setCell ⟨w1.heap.size+3,0,none⟩ (.slice A6 (ln+1) d6)=w7 at hX6 hM6 |-
              have HX6:=Lib.hid hX6
              have HM6:=Lib.hid hM6
              clear hX6 hM6
              go_wp2_with fail
              exact ⟨⟨x+1,j+1,rfl,Lib.hid (by have :=HXJ.out;omega),by omega,by omega,.inl (by omega),HX6.out,A6,d6,_,HM6.out⟩,by simp [intOf]<;>omega⟩))
          |(rcases htk2 with rfl |⟨rfl,hl0⟩
            ·go_wp2_with fail
             generalize wr.setCell ⟨w1.heap.size+1,k,none⟩ (.int .i64 x)=wS at HX3 HR3 HM3 |-
             obtain ⟨ln,hln1⟩:∃ln,(l++T j).length=ln:=⟨_,rfl⟩
             have HLN1:=Lib.hid hln1
             have hlb3:=HM3.out.lb
             rw [hln1] at hlb3
             have lb3:wS.cell? ⟨w1.heap.size+3,0,none⟩=some (.slice lB2 ln c2):=by simp [World.cell?,hlb3]
             have lf3:wS.frozen? ⟨w1.heap.size+3,0,none⟩=false:=by simp [World.frozen?,hlb3]
             have hown3:=HM3.out.ls.own
             rw [hln1] at hown3
             have HO3:=Lib.hid hown3
             have HLB:=Lib.hid hlb3
             have hle:ln+1<=1073741824:=by
              have :=HLN.out
              rw [hT2.out,<-List.append_assoc,List.length_append,hln1] at this
              simpa using this
             have xb3:wS.cell? ⟨w1.heap.size+2,0,none⟩=some (.slice (some ⟨w1.heap.size+1,0,none⟩) n n):=by simp [World.cell?,HM3.out.xb]
             have bw3:=HM3.out.sz
             have oS3:Old (w1.heap.size+3) wS:=⟨by omega⟩
             have hcl:=fun W (hxx:Ext wS W)=>CloneI_any (w:=W) (c:=n) HR3.out.ints (by rw [HRL3.out];omega)
             rw [HRL3.out] at hcl
             have HCL:=Lib.hid hcl
             clear hcl hln1 lb2 hlb3 hown3
             go_region_law (first
              |((refine step_app _ rfl (.tmp 94) (.tmp 97) 26 rfl (w1.heap.size+5) 37 (.slice none 0 0) 1 24 Tryz.underlying26 infoSlI64 rfl (by decide) (by decide) lB2 ln c2 vs2 (by simp [Act.eval]) (HO3.out.ext inferInstance) (some ⟨W5.heap.size,0,none⟩) 1 1 [.slice B5 n d5] (by simp [Act.eval]) ((Arr.new W5 37 #[.slice B5 n d5]).ext inferInstance) rfl (by simp [Value.oneCell']) (by omega) (by have :=hs5.size;simp at this |-;omega) ?_);intro A6 d6 w6 hown6 hg6;have hb6:=(hg6.below.block (w1.heap.size+3) (by omega)).trans (heap_of_ext (inferInstance:Ext wS ((W5.alloc (Obj.cells #[Value.slice B5 n d5] 37)))) HLB.out);have q1:w6.cell? ⟨w1.heap.size+3,0,none⟩=some (.slice lB2 ln c2):=(by simp [World.cell?,hb6]);have q2:w6.frozen? ⟨w1.heap.size+3,0,none⟩=false:=(by simp [World.frozen?,hb6]);have q3:w1.heap.size+3<w6.heap.size:=lt_of_heap hb6;clear hb6)
              |(go_simp;go_at_call 84;refine (HCL.out _ inferInstance).mono ?_;rintro e W5 ⟨B5,d5,rfl,hO5,hs5⟩;rw [HRL3.out]))
             all_goals (
              obtain ⟨hX6,hM6⟩:=SMem.took HM3.out HX3.out (inferInstance:Ext wS W5) hO5 HM3.out.sz HRL3.out HLN1.out hown6 hg6 hT2.out
              clear q1 q2 q3 hown6 hg6 hO5 hs5 HCL HO3 HLB lb3 lf3 xb3
              generalize w6.setCell ⟨w1.heap.size+3,0,none⟩ (.slice A6 (ln+1) d6)=w7 at hX6 hM6 |-
              have HX6:=Lib.hid hX6
              have HM6:=Lib.hid hM6
              clear hX6 hM6
              go_wp2_with fail
              exact ⟨⟨x+1,j+1,rfl,Lib.hid (by have :=HXJ.out;omega),by omega,by omega,.inl (by omega),HX6.out,A6,d6,_,HM6.out⟩,by simp [intOf]<;>omega⟩)
            ·go_wp2_with fail
             generalize wr.setCell ⟨w1.heap.size+1,k,none⟩ (.int .i64 x)=wS at HX3 HR3 HM3 |-
             obtain ⟨ln,hln1⟩:∃ln,(l++T j).length=ln:=⟨_,rfl⟩
             have HLN1:=Lib.hid hln1
             have hlb3:=HM3.out.lb
             rw [hln1] at hlb3
             have lb3:wS.cell? ⟨w1.heap.size+3,0,none⟩=some (.slice lB2 ln c2):=by simp [World.cell?,hlb3]
             have lf3:wS.frozen? ⟨w1.heap.size+3,0,none⟩=false:=by simp [World.frozen?,hlb3]
             have hown3:=HM3.out.ls.own
             rw [hln1] at hown3
             have HO3:=Lib.hid hown3
             have HLB:=Lib.hid hlb3
             have hle:ln+1<=1073741824:=by
              have :=HLN.out
              rw [hT2.out,<-List.append_assoc,List.length_append,hln1] at this
              simpa using this
             have xb3:wS.cell? ⟨w1.heap.size+2,0,none⟩=some (.slice (some ⟨w1.heap.size+1,0,none⟩) n n):=by simp [World.cell?,HM3.out.xb]
             have bw3:=HM3.out.sz
             have oS3:Old (w1.heap.size+3) wS:=⟨by omega⟩
             have hcl:=fun W (hxx:Ext wS W)=>CloneI_any (w:=W) (c:=n) HR3.out.ints (by rw [HRL3.out];omega)
             rw [HRL3.out] at hcl
             have HCL:=Lib.hid hcl
             clear hcl hln1 lb2 hlb3 hown3
             go_region_law (first
              |((refine step_app _ rfl (.tmp 94) (.tmp 97) 26 rfl (w1.heap.size+5) 37 (.slice none 0 0) 1 24 Tryz.underlying26 infoSlI64 rfl (by decide) (by decide) lB2 ln c2 vs2 (by simp [Act.eval]) (HO3.out.ext inferInstance) (some ⟨W5.heap.size,0,none⟩) 1 1 [.slice B5 n d5] (by simp [Act.eval]) ((Arr.new W5 37 #[.slice B5 n d5]).ext inferInstance) rfl (by simp [Value.oneCell']) (by omega) (by have :=hs5.size;simp at this |-;omega) ?_);intro A6 d6 w6 hown6 hg6;have hb6:=(hg6.below.block (w1.heap.size+3) (by omega)).trans (heap_of_ext (inferInstance:Ext wS ((W5.alloc (Obj.cells #[Value.slice B5 n d5] 37)))) HLB.out);have q1:w6.cell? ⟨w1.heap.size+3,0,none⟩=some (.slice lB2 ln c2):=(by simp [World.cell?,hb6]);have q2:w6.frozen? ⟨w1.heap.size+3,0,none⟩=false:=(by simp [World.frozen?,hb6]);have q3:w1.heap.size+3<w6.heap.size:=lt_of_heap hb6;clear hb6)
              |(go_simp;go_at_call 84;refine (HCL.out _ inferInstance).mono ?_;rintro e W5 ⟨B5,d5,rfl,hO5,hs5⟩;rw [HRL3.out]))
             all_goals (
              obtain ⟨hX6,hM6⟩:=SMem.took HM3.out HX3.out (inferInstance:Ext wS W5) hO5 HM3.out.sz HRL3.out HLN1.out hown6 hg6 hT2.out
              clear q1 q2 q3 hown6 hg6 hO5 hs5 HCL HO3 HLB lb3 lf3 xb3
              generalize w6.setCell ⟨w1.heap.size+3,0,none⟩ (.slice A6 (ln+1) d6)=w7 at hX6 hM6 |-
              have HX6:=Lib.hid hX6
              have HM6:=Lib.hid hM6
              clear hX6 hM6
              go_wp2_with fail
              exact ⟨⟨x+1,j+1,rfl,Lib.hid (by have :=HXJ.out;omega),by omega,by omega,.inl (by omega),HX6.out,A6,d6,_,HM6.out⟩,by simp [intOf]<;>omega⟩))
        ·have hT2:Hid (T (j+1)=T j):=Lib.hid (by rw [HNX.out];simp [htk])
         have htk':(z=true/\(x==0)=true)∨(z=true/\(x==0)=false/\exact=true/\(lf==0)=false)∨(z=false/\exact=true/\(lf==0)=false):=by
          cases z<;>cases exact<;>by_cases hx0:x=0<;>by_cases hl0:lf=0<;>simp_all [takes]
         rw [HZV.out] at htk'
         simp only [Bool.false_eq_true,Bool.true_eq_false,false_and,true_and,false_or,or_false] at htk'
         clear htk HNX
         have hfin:∀v:Value,v= .int .i64 (x+1)->(∃(x':Int) (j:Nat),v= .int .i64 x'/\Hid (x'=lo+j)/\lo<=x'/\-p<=x'/\(x'<=hi+1∨j=0)/\XRow (wr.setCell ⟨w1.heap.size+1,k,none⟩ (.int .i64 x)) (w1.heap.size+1) n k tail/\∃lB c vs,SMem w1 (wr.setCell ⟨w1.heap.size+1,k,none⟩ (.int .i64 x)) n (some ⟨bm,om,none⟩) (some ⟨bl,ol,none⟩) mc lc eb exact lB c (l++T j) vs):=fun v hv=>⟨x+1,j+1,hv,Lib.hid (by have :=HXJ.out;omega),by omega,by omega,.inl (by omega),HX3.out,lB2,c2,vs2,by rw [hT2.out];exact HM3.out⟩
         have HFIN:=Lib.hid hfin
         clear hfin
         first
          |(obtain ⟨rfl,hl0⟩:=htk'
            go_wp2_with fail
            exact ⟨HFIN.out _ rfl,by simp [intOf]<;>omega⟩)
          |(rcases htk' with hx0b |⟨hx0b,rfl,hl0⟩
            ·go_wp2_with fail
             exact ⟨HFIN.out _ rfl,by simp [intOf]<;>omega⟩
            ·go_wp2_with fail
             exact ⟨HFIN.out _ rfl,by simp [intOf]<;>omega⟩)
       ·obtain ⟨k',HK1⟩:∃k',Hid (k=k'+1):=⟨k-1,Lib.hid (by omega)⟩
        have hk1':1<=k:=by omega
        have hkb:decide ((0:Int)<k)=true:=by simp;omega
        have hLn:LevOK D n bound (k'+1) rest tail:=by rw [<-HK1.out];exact hLv
        have hL':LevOK D n bound k' (((sqn:Int)-u*u) / d) (x::tail):=by
         have :=LevOK.next hN hLn (x:=x) (by rw [<-HK1.out];exact hin1) (by rw [<-HK1.out];exact hin2)
         rw [<-HK1.out,HRS.out] at this
         exact this
        have hX3:XRow (wr.setCell ⟨w1.heap.size+1,k,none⟩ (.int .i64 x)) (w1.heap.size+1) n k' (x::tail):=by
         have h1:XRow wr (w1.heap.size+1) n (k'+1) tail:=by rw [<-HK1.out];exact hX2
         have :=h1.put (by have :=HK1.out;omega) x
         rw [<-HK1.out] at this;exact this
        obtain ⟨zb,HZB⟩:∃zb,Hid (zb=(z&&decide (x=0))):=⟨_,Lib.hid rfl⟩
        have hz3:zb=true->absSum (x::tail)=0:=fun h=>by
         rw [HZB.out] at h
         simp at h
         have :=hZ2.out h.1
         simp [absSum,h.2] at this |-
         exact this
        have HNX:Hid (T (j+1)=T j++searchL D L exact k' (((sqn:Int)-u*u) / d) zb (x::tail)):=Lib.hid (by
         rw [HT1.out,<-HXJ.out,searchC,if_neg hk0,HRS.out,HZB.out,show k-1=k' by have :=HK1.out;omega])
        have hcall:=ih k' (by have :=HK1.out;omega) _ zb _ _ _ _ (l++T j) _ hL' hz3 hX3 (hM2.setX k (.int .i64 x)) (by rw [List.append_assoc,<-HNX.out];exact hln)
        rw [List.append_assoc,<-HNX.out,show ((k':Nat):Int)=(k:Int)-1 by have :=HK1.out;omega] at hcall
        unfold sCaps at sb2 hcall
        simp only [List.append_toArray,List.cons_append,List.nil_append] at hcall
        have HC:=Lib.hid hcall
        have hfn:=isFn_search
        unfold IsFn at hfn
        clear hub hu hin1 hin2 hX3 hL' hLn hcall hdx hxl2 hrow2 hz3 hln hk0
        have HM2:=Lib.hid hM2
        have HX2:=Lib.hid hX2
        clear hM2 hX2
        by_cases hx0:x=0
        all_goals (
         have hzb:=HZB.out
         rw [HZV.out] at hzb
         simp [hx0] at hzb
         subst hzb)
        ·have hx0b:(x==0)=true:=by simp [hx0]
         clear hx0
         go_wp2_with (refine HC.out.mono ?_;rintro e W3 ⟨rfl,hX4,lB4,c4,vs4,hM4⟩)
         refine ⟨⟨x+1,j+1,rfl,Lib.hid (by have :=HXJ.out;omega),by omega,by omega,.inl (by omega),?_,lB4,c4,vs4,hM4⟩,by simp [intOf]<;>omega⟩
         have :=hX4.up
         rw [<-HK1.out] at this;exact this
        ·have hx0b:(x==0)=false:=by simp [hx0]
         clear hx0
         go_wp2_with (refine HC.out.mono ?_;rintro e W3 ⟨rfl,hX4,lB4,c4,vs4,hM4⟩)
         refine ⟨⟨x+1,j+1,rfl,Lib.hid (by have :=HXJ.out;omega),by omega,by omega,.inl (by omega),?_,lB4,c4,vs4,hM4⟩,by simp [intOf]<;>omega⟩
         have :=hX4.up
         rw [<-HK1.out] at this;exact this
      ·have hj:j=(hi-lo+1).toNat:=by have :=HXJ.out;omega
       have HJJ:=Lib.hid hj
       clear hj
       go_wp2_with fail
       go_end0
       refine ⟨rfl,hX2,lB2,c2,vs2,?_⟩
       rw [HTN.out,<-HJJ.out]
       exact hM2)
theorem box1c (w w':World) (x:Value) (T:TypeId) [h:Ext (w.alloc (.cells #[x] T)) w']:w'.cell? ⟨w.heap.size,0,none⟩=some x:=by
 have h0:w'.heap[w.heap.size]? =some (.cells #[x] T (0,0)):=heap_of_ext h (heap_alloc_new w _)
 simp [World.cell?,h0]
theorem collect_one {w0 w:World} {A:Option Addr} {c:Nat} {m:List (List Int)} {bound:Int} {exact:Bool} (h:Mat64 w0 A m) (hm:m.length=1) (hl:AllLen m 1) (h1:1<=ent m 0 0) (h2:ent m 0 0<65536) (hb:0<=bound) (hr:isq (bound / ent m 0 0).toNat<=1048576) [hx:Ext w0 w]:
  Calls Tryz.prog 52 #[.slice A m.length c,.int .i64 bound,.bool exact] w (RetMatL w (collL m bound exact)):=by
 obtain ⟨hin,hout⟩:=isq_bounds h1 hb
 obtain ⟨r,hre⟩:∃r,r=isq (bound / ent m 0 0).toNat:=⟨_,rfl⟩
 have HC:Hid (collL m bound exact=multL (ent m 0 0) bound exact r):=Lib.hid (by rw [collL,if_pos hm,hre])
 rw [HC.out]
 rw [<-hre] at hin hout hr
 obtain ⟨r0,hr0⟩:∃r0,m[0]? =some r0:=⟨_,List.getElem?_eq_getElem (by omega)⟩
 obtain ⟨b,o,B,c1,rfl,e1,f1,f2,f3,f4⟩:=h.at_ hr0
 have hrl:r0.length=1:=hl r0 (List.mem_of_getElem? hr0)
 obtain ⟨b2,o2,a,rfl,ha,g1,g2⟩:=f1.at0 (by omega)
 have hae:ent m 0 0=a:=by unfold ent;simp [hr0,ha]
 rw [hae] at h1 h2 hin hout |-
 rw [hrl] at e1 f2
 rw [hm]
 have k1:a*((r:Int)+1)<=65535*1048577:=Int.mul_le_mul (by omega) (by omega) (by omega) (by omega)
 have k0:0<=a*((r:Int)+1):=Int.mul_nonneg (by omega) (by omega)
 have k2:a*((r:Int)+1)*((r:Int)+1)<=65535*1048577*1048577:=Int.mul_le_mul k1 (by omega) (by omega) (by omega)
 have hc:=fun W=>multiples_any (w:=W) (exact:=exact) r h1 (by omega) hin hout (by omega) (by omega)
 have HM:=Lib.hid hc
 clear hc hin hout k1 k0 k2 hre hrl hae ha hr0 hm
 have ob:Old b w0:=⟨f4⟩
 have ob2:Old b2 w0:=⟨g2⟩
 simp only [Nat.add_zero] at e1
 have E1:=fun W (hh:Ext w0 W)=>(cellE w0 (w':=W) (b:=b) (o:=o)).trans e1
 have E2:=fun W (hh:Ext w0 W)=>(cellE w0 (w':=W) (b:=b2) (o:=o2)).trans g1
 have HE1:=Lib.hid E1
 have HE2:=Lib.hid E2
 clear E1 E2 e1 g1
 go_enter Tryz.func52,Tryz.ntmps52
 go_wp2
 go_region_held3 (fun w'=>w'.cell? ⟨b,o,none⟩=some (.slice (some ⟨b2,o2,none⟩) 1 c1)/\w'.cell? ⟨b2,o2,none⟩=some (.int .i64 a)/\w'.cell? ⟨w.heap.size,0,none⟩=some (.bool exact)) (exact ⟨HE1.out _ inferInstance,HE2.out _ inferInstance,box1c w _ _ 4⟩)
  ((go_at_call 79;refine (HM.out _).mono ?_;rintro e w2 ⟨A2,c2,rfl,hM2,l1,l2,hs2⟩))
 go_wp2
 go_ret
 exact ⟨A2,c2,rfl,hM2,l1,l2,Step.of _ _⟩
theorem SMem.drew {w1 W:World} {n:Nat} {mA lA:Option Addr} {mc lc eb:Nat} {exact:Bool} {lB:Option Addr} {c:Nat} {l:List (List Int)} {vs:List Value} (h:SMem w1 W n mA lA mc lc eb exact lB c l vs):SMem w1 W.drew n mA lA mc lc eb exact lB c l vs where
 ext:=have :=h.ext;inferInstance
 fb:=h.fb
 xb:=h.xb
 lb:=h.lb
 sb:=h.sb
 ebl:=h.ebl
 ec:=h.ec
 ls:=have :=h.ext;h.ls.ext (Ext.drew W W)
 sz:=h.sz
theorem SMem.start {w1:World} {n mc lc eb:Nat} {mA lA:Option Addr} {exact:Bool} (hn:1<=n) (heb:eb<w1.heap.size) (hec:w1.cell? ⟨eb,0,none⟩=some (.bool exact)):
  XRow (((((w1.alloc (.cells #[.slice mA (n+1) mc,.slice lA n lc] 121)).alloc (.cells (mkCells #[.int .i64 0] n) 2)).alloc (.cells #[.slice (some ⟨w1.heap.size+1,0,none⟩) n n] 37)).alloc (.cells #[.slice none 0 0] 26)).alloc (.cells #[.func (.func 81) #[] #[.pointer (some ⟨w1.heap.size,0,none⟩),.pointer (some ⟨w1.heap.size+1+1,0,none⟩),.pointer (some ⟨w1.heap.size+1+1+1+1,0,none⟩),.pointer (some ⟨eb,0,none⟩),.pointer (some ⟨w1.heap.size+1+1+1,0,none⟩)]] 123)) (w1.heap.size+1) n (n-1) []/\
  SMem w1 (((((w1.alloc (.cells #[.slice mA (n+1) mc,.slice lA n lc] 121)).alloc (.cells (mkCells #[.int .i64 0] n) 2)).alloc (.cells #[.slice (some ⟨w1.heap.size+1,0,none⟩) n n] 37)).alloc (.cells #[.slice none 0 0] 26)).alloc (.cells #[.func (.func 81) #[] #[.pointer (some ⟨w1.heap.size,0,none⟩),.pointer (some ⟨w1.heap.size+1+1,0,none⟩),.pointer (some ⟨w1.heap.size+1+1+1+1,0,none⟩),.pointer (some ⟨eb,0,none⟩),.pointer (some ⟨w1.heap.size+1+1+1,0,none⟩)]] 123)) n mA lA mc lc eb exact none 0 [] []:=by
 generalize e1:w1.alloc (.cells #[.slice mA (n+1) mc,.slice lA n lc] 121)=W1
 generalize e2:W1.alloc (.cells (mkCells #[.int .i64 0] n) 2)=W2
 generalize e3:W2.alloc (.cells #[.slice (some ⟨w1.heap.size+1,0,none⟩) n n] 37)=W3
 generalize e4:W3.alloc (.cells #[.slice none 0 0] 26)=W4
 generalize e5:W4.alloc (.cells #[.func (.func 81) #[] #[.pointer (some ⟨w1.heap.size,0,none⟩),.pointer (some ⟨w1.heap.size+1+1,0,none⟩),.pointer (some ⟨w1.heap.size+1+1+1+1,0,none⟩),.pointer (some ⟨eb,0,none⟩),.pointer (some ⟨w1.heap.size+1+1+1,0,none⟩)]] 123)=W5
 have s1:W1.heap.size=w1.heap.size+1:=by rw [<-e1,World.size_alloc]
 have s2:W2.heap.size=w1.heap.size+2:=by rw [<-e2,World.size_alloc,s1]
 have s3:W3.heap.size=w1.heap.size+3:=by rw [<-e3,World.size_alloc,s2]
 have s4:W4.heap.size=w1.heap.size+4:=by rw [<-e4,World.size_alloc,s3]
 have s5:W5.heap.size=w1.heap.size+5:=by rw [<-e5,World.size_alloc,s4]
 have x1:Ext w1 W1:=by rw [<-e1];infer_instance
 have x2:Ext W1 W2:=by rw [<-e2];infer_instance
 have x3:Ext W2 W3:=by rw [<-e3];infer_instance
 have x4:Ext W3 W4:=by rw [<-e4];infer_instance
 have x5:Ext W4 W5:=by rw [<-e5];infer_instance
 have h1:=heap_alloc_new w1 (.cells #[.slice mA (n+1) mc,.slice lA n lc] 121)
 have h2:=heap_alloc_new W1 (.cells (mkCells #[.int .i64 0] n) 2)
 have h3:=heap_alloc_new W2 (.cells #[.slice (some ⟨w1.heap.size+1,0,none⟩) n n] 37)
 have h4:=heap_alloc_new W3 (.cells #[.slice none 0 0] 26)
 have h5:=heap_alloc_new W4 (.cells #[.func (.func 81) #[] #[.pointer (some ⟨w1.heap.size,0,none⟩),.pointer (some ⟨w1.heap.size+1+1,0,none⟩),.pointer (some ⟨w1.heap.size+1+1+1+1,0,none⟩),.pointer (some ⟨eb,0,none⟩),.pointer (some ⟨w1.heap.size+1+1+1,0,none⟩)]] 123)
 rw [e1] at h1
 rw [e2,s1] at h2
 rw [e3,s2] at h3
 rw [e4,s3] at h4
 rw [e5,s4] at h5
 have x35:=x4.trans x5
 have x25:=x3.trans x35
 have x15:=x2.trans x25
 refine ⟨⟨List.replicate n 0,?_,by simp,by simp;omega⟩,x1.trans x15,heap_of_ext x15 h1,heap_of_ext x35 h3,heap_of_ext x5 h4,h5,heb,hec,LOwn.nil _ _,by omega⟩
 have :(mkCells #[.int .i64 0] n)=((List.replicate n (0:Int)).map (Value.int .i64)).toArray:=by
  apply Array.ext'
  rw [mkCells_one];simp
 rw [this] at h2
 exact heap_of_ext x25 h2
theorem collect_many {w0 w:World} {A:Option Addr} {c:Nat} {m:List (List Int)} {bound:Int} {exact:Bool} (h:Mat64 w0 A m) (h2:2<=m.length) (hf:FormOK m) (h64:St64 m) (hb0:0<=bound) (hb1:bound<1073741824) (hlen:(searchL (minorsTo m m.length) (lamTo m m.length) exact (m.length-1) (vD (minorsTo m m.length) m.length*bound) true []).length<=1073741824) [hx:Ext w0 w]:
  Calls Tryz.prog 52 #[.slice A m.length c,.int .i64 bound,.bool exact] w (RetMatL w (searchL (minorsTo m m.length) (lamTo m m.length) exact (m.length-1) (vD (minorsTo m m.length) m.length*bound) true [])):=by
 have hN:=hf.num bound hb0 hb1
 have h8:=hN.n8
 have hnf:=fun W (hh:Ext w0 W)=>newForm_any (w:=W) (c:=c) h hf.len1 h8 hf.all hf.fits hf.elim h64
 have hDl:(minorsTo m m.length).length=m.length+1:=minorsTo_length m _
 have hLl:(lamTo m m.length).length=m.length:=by simp [lamTo]
 obtain ⟨D,hD⟩:∃D,D=minorsTo m m.length:=⟨_,rfl⟩
 obtain ⟨L,hL⟩:∃L,L=lamTo m m.length:=⟨_,rfl⟩
 rw [<-hD,<-hL] at hnf hN hlen |-
 rw [<-hD] at hDl
 rw [<-hL] at hLl
 unfold RetForm at hnf
 rw [hDl,hLl] at hnf
 obtain ⟨n,hn⟩:∃n,n=m.length:=⟨_,rfl⟩
 rw [<-hn] at hnf hN hDl hLl h2 h8 hlen |-
 obtain ⟨dn,hdn⟩:∃dn,dn=vD D n:=⟨_,rfl⟩
 have e1:=hN.d1 n (by omega)
 have e2:=hN.d2 n (by omega)
 rw [<-hdn] at e1 e2 hlen |-
 have hm1:0<=dn*bound:=Int.mul_nonneg (by omega) (by omega)
 have hm2:dn*bound<=65535*1073741823:=Int.mul_le_mul (by omega) (by omega) (by omega) (by omega)
 have hlev:LevOK D n bound (n-1) (dn*bound) []:=⟨by omega,hm1,by rw [show n-1+1=n by omega,hdn];exact Int.le_refl _,by simp,by simp [absSum]⟩
 obtain ⟨rest,hrest⟩:∃rest,dn*bound=rest:=⟨_,rfl⟩
 rw [hrest] at hm1 hm2 hlev hlen |-
 have hdi:D[n]? =some dn:=by rw [hdn];unfold vD;simp [show n<D.length by omega]
 have HNF:=Lib.hid hnf
 have HDL:=Lib.hid hDl
 have HLEV:=Lib.hid hlev
 have HLEN:=Lib.hid hlen
 have HDI:=Lib.hid hdi
 have hne:((n:Int)==1)=false:=by simp;omega
 have hmk:=run_make_any (P:=Tryz.prog) Tryz.underlying37 infoI64 (by omega) (n:Int) (by omega) (by omega)
 clear hnf hD hL hn hDl hLl hlev hdi hdn hlen hf h64
 go_enter Tryz.func52,Tryz.ntmps52
 go_wp2_with (go_at_call 80;refine (HNF.out _ inferInstance).mono ?_;clear HNF;rintro e w1 ⟨mA,mc,lA,lc,rfl,hD,hL,d1,d2,d3,d4,hs1⟩)
 have heb:w.heap.size<w1.heap.size:=by have :=hs1.size;simp at this;omega
 have hec:w1.cell? ⟨w.heap.size,0,none⟩=some (.bool exact):=box1c w _ _ 4
 obtain ⟨hX,hM⟩:=SMem.start (mA:=mA) (lA:=lA) (mc:=mc) (lc:=lc) (n:=n) (by omega) heb hec
 generalize (((((w1.alloc (.cells #[.slice mA (n+1) mc,.slice lA n lc] 121)).alloc (.cells (mkCells #[.int .i64 0] n) 2)).alloc (.cells #[.slice (some ⟨w1.heap.size+1,0,none⟩) n n] 37)).alloc (.cells #[.slice none 0 0] 26)).alloc (.cells #[.func (.func 81) #[] #[.pointer (some ⟨w1.heap.size,0,none⟩),.pointer (some ⟨w1.heap.size+1+1,0,none⟩),.pointer (some ⟨w1.heap.size+1+1+1+1,0,none⟩),.pointer (some ⟨w.heap.size,0,none⟩),.pointer (some ⟨w1.heap.size+1+1+1,0,none⟩)]] 123))=W at hX hM |-
 obtain ⟨f1,f2,f3,f4,f5⟩:=box_cells2 hM.fb
 have sb1:W.cell? ⟨w1.heap.size+1+1+1+1,0,none⟩=some (.func (.func 81) #[] #[.pointer (some ⟨w1.heap.size,0,none⟩),.pointer (some ⟨w1.heap.size+1+1,0,none⟩),.pointer (some ⟨w1.heap.size+1+1+1+1,0,none⟩),.pointer (some ⟨w.heap.size,0,none⟩),.pointer (some ⟨w1.heap.size+1+1+1,0,none⟩)]):=by
  have :W.cell? ⟨w1.heap.size+4,0,none⟩=some (.func (.func 81) #[] (sCaps w1.heap.size w.heap.size)):=by simp [World.cell?,hM.sb]
  exact this
 obtain ⟨bm,om,-,rfl,-⟩:=hD.at_ (i:=n) (by have :=HDL.out;omega)
 obtain ⟨m3,m4⟩:=ints_cell (hD.ext hM.ext) HDI.out
 have hcall:=fun (W':World) hX' hM'=>search_any (exact:=exact) (eb:=w.heap.size) hD hL d1 d2 d3 d4 hN (n-1) rest true [] W' none 0 [] [] HLEV.out (fun _=>rfl) hX' hM' (by rw [List.nil_append];exact HLEN.out)
 rw [show ((n-1:Nat):Int)=(n:Int)-1 by omega,List.nil_append] at hcall
 unfold sCaps at hcall
 simp only [List.append_toArray,List.cons_append,List.nil_append] at hcall
 have HC:=Lib.hid hcall
 have hfn:=isFn_search
 unfold IsFn at hfn
 have HX:=Lib.hid hX
 have HM:=Lib.hid hM
 have w1e:IntKind.i64.wrap ((n:Int)-1)=(n:Int)-1:=IntWalk.i64_in _ (by omega)
 have w2e:IntKind.i64.wrap rest=rest:=IntWalk.i64_in _ (by omega)
 clear hcall hX hM
 go_region_with (refine (HC.out _ HX.out.drew HM.out.drew).mono ?_;rintro e W3 ⟨rfl,hX4,lB4,c4,vs4,hM4⟩)
 all_goals (
  have lb4:W3.cell? ⟨w1.heap.size+1+1+1,0,none⟩=some (.slice lB4 (searchL D L exact (n-1) rest true []).length c4):=by
   have :W3.cell? ⟨w1.heap.size+3,0,none⟩=some (.slice lB4 (searchL D L exact (n-1) rest true []).length c4):=by simp [World.cell?,hM4.lb]
   exact this
  have hlt4:w1.heap.size+1+1+1<W3.heap.size:=by have :=hM4.sz;omega
  have hfin:RetMatL w (searchL D L exact (n-1) rest true []) (.returned (.slice lB4 (searchL D L exact (n-1) rest true []).length c4)) W3:=by
   have hc:=hM4.ls.own.cap
   have hxw:Ext w w1:=inferInstance
   exact ⟨lB4,c4,rfl,hM4.ls.mat,hc.1,hc.2,(hxw.trans hM4.ext).toStep⟩
  have HF:=Lib.hid hfin
  clear hfin hM4 hX4
  generalize (searchL D L exact (n-1) rest true []).length=ln at lb4 HF |-
  go_wp2
  go_ret
  exact HF.out)
theorem collect_any {w0 w:World} {A:Option Addr} {c:Nat} {m:List (List Int)} {bound:Int} {exact:Bool} (h:Mat64 w0 A m) (hf:FormOK m) (h64:St64 m) (hb0:0<=bound) (hb1:1<m.length->bound<1073741824) (hr:m.length=1->isq (bound / ent m 0 0).toNat<=1048576) (hlen:(collL m bound exact).length<=1073741824) [hx:Ext w0 w]:
  Calls Tryz.prog 52 #[.slice A m.length c,.int .i64 bound,.bool exact] w (RetMatL w (collL m bound exact)):=by
 have h1:=hf.len1
 by_cases hm:m.length=1
 ·have hN:=hf.num 0 (by omega) (by omega)
  have d1:=hN.d1 1 (by omega)
  have d2:=hN.d2 1 (by omega)
  have e:vD (minorsTo m m.length) 1=ent m 0 0:=by rw [hm];simp [vD,minorsTo,stAt]
  rw [e] at d1 d2
  exact collect_one h hm (by have :=hf.all;rwa [hm] at this) d1 d2 hb0 (hr hm)
 ·have e:collL m bound exact=searchL (minorsTo m m.length) (lamTo m m.length) exact (m.length-1) (vD (minorsTo m m.length) m.length*bound) true []:=by rw [collL,if_neg hm]
  rw [e] at hlen |-
  exact collect_many h (by omega) hf h64 hb0 (hb1 (by omega)) hlen
end Go.Proofs.YtjehjkipcaohpaaGreat
