/- Coll Enum Enum2 Fix Awk11 Vm3 Vm5 -/
import Derived.Test.YtjehjkipcaohpaaGreatVS01
import Derived.Test.YtjehjkipcaohpaaGreatProg
import Derived.Test.YtjehjkipcaohpaaGreatShelf
import Derived.Test.YtjehjkipcaohpaaGreatV11
set_option maxHeartbeats 8000000
set_option linter.unusedVariables false
set_option linter.unusedSimpArgs false
set_option linter.constructorNameAsVariable false
namespace Go.Proofs.YtjehjkipcaohpaaGreat
open Go.RowKit
theorem box1c (w w':World) (x:Value) (T:TypeId) [h:Ext (w.alloc (.cells #[x] T)) w']:w'.cell? ⟨w.heap.size,0,none⟩=some x:=by
 have h0:w'.heap[w.heap.size]? =some (.cells #[x] T (0,0)):=heap_of_ext h (heap_alloc_new w _)
 simp [World.cell?,h0]
theorem collect_one {w0 w:World} {A:Option Addr} {c:Nat} {m:List (List Int)} {bound:Int} {exact:Bool} (h:Mat64 w0 A m) (hm:m.length=1) (hl:AllLen m 1) (h1:1<=ent m 0 0) (h2:ent m 0 0<65536) (hb:0<=bound) (hr:isq (bound / ent m 0 0).toNat<=1048576) [hx:Ext w0 w]:
  Calls Tryz.prog 52 #[.slice A m.length c,.int .i64 bound,.bool exact] w (RetMatL w (collL m bound exact)):=by
 obtain ⟨hin,hout⟩:=isq_bounds h1 hb
 obtain ⟨r,hre⟩:∃r,r=isq (bound / ent m 0 0).toNat:=⟨_,rfl⟩
 have HC:Hid (collL m bound exact=multL (ent m 0 0) bound exact r):=Lib.hid (by rw [collL,if_pos hm,hre])
 rw [HC.out]
 rw [<-hre] at hin hout hr
 obtain ⟨r0,hr0⟩:∃r0,m[0]? =some r0:=⟨_,List.getElem?_eq_getElem (by omega)⟩
 obtain ⟨b,o,B,c1,rfl,e1,f1,f2,f3,f4⟩:=h.at_ hr0
 have hrl:r0.length=1:=hl r0 (List.mem_of_getElem? hr0)
 obtain ⟨b2,o2,a,rfl,ha,g1,g2⟩:=f1.at0 (by omega)
 have hae:ent m 0 0=a:=by unfold ent;simp [hr0,ha]
 rw [hae] at h1 h2 hin hout |-
 rw [hrl] at e1 f2
 rw [hm]
 have k1:a*((r:Int)+1)<=65535*1048577:=Int.mul_le_mul (by omega) (by omega) (by omega) (by omega)
 have k0:0<=a*((r:Int)+1):=Int.mul_nonneg (by omega) (by omega)
 have k2:a*((r:Int)+1)*((r:Int)+1)<=65535*1048577*1048577:=Int.mul_le_mul k1 (by omega) (by omega) (by omega)
 have hc:=fun W=>multiples_any (w:=W) (exact:=exact) r h1 (by omega) hin hout (by omega) (by omega)
 have HM:=Lib.hid hc
 clear hc hin hout k1 k0 k2 hre hrl hae ha hr0 hm
 have ob:Old b w0:=⟨f4⟩
 have ob2:Old b2 w0:=⟨g2⟩
 simp only [Nat.add_zero] at e1
 have E1:=fun W (hh:Ext w0 W)=>(cellE w0 (w':=W) (b:=b) (o:=o)).trans e1
 have E2:=fun W (hh:Ext w0 W)=>(cellE w0 (w':=W) (b:=b2) (o:=o2)).trans g1
 have HE1:=Lib.hid E1
 have HE2:=Lib.hid E2
 clear E1 E2 e1 g1
 go_enter Tryz.func52,Tryz.ntmps52
 go_wp2
 go_region_held3 (fun w'=>w'.cell? ⟨b,o,none⟩=some (.slice (some ⟨b2,o2,none⟩) 1 c1)/\w'.cell? ⟨b2,o2,none⟩=some (.int .i64 a)/\w'.cell? ⟨w.heap.size,0,none⟩=some (.bool exact)) (exact ⟨HE1.out _ inferInstance,HE2.out _ inferInstance,box1c w _ _ 4⟩)
  ((go_at_call 79;refine (HM.out _).mono ?_;rintro e w2 ⟨A2,c2,rfl,hM2,l1,l2,hs2⟩))
 go_wp2
 go_ret
 exact ⟨A2,c2,rfl,hM2,l1,l2,Step.of _ _⟩
theorem SMem.drew {w1 W:World} {n:Nat} {mA lA:Option Addr} {mc lc eb:Nat} {exact:Bool} {lB:Option Addr} {c:Nat} {l:List (List Int)} {vs:List Value} (h:SMem w1 W n mA lA mc lc eb exact lB c l vs):SMem w1 W.drew n mA lA mc lc eb exact lB c l vs where
 ext:=have :=h.ext;inferInstance
 fb:=h.fb
 xb:=h.xb
 lb:=h.lb
 sb:=h.sb
 ebl:=h.ebl
 ec:=h.ec
 ls:=have :=h.ext;h.ls.ext (Ext.drew W W)
 sz:=h.sz
theorem SMem.start {w1:World} {n mc lc eb:Nat} {mA lA:Option Addr} {exact:Bool} (hn:1<=n) (heb:eb<w1.heap.size) (hec:w1.cell? ⟨eb,0,none⟩=some (.bool exact)):
  XRow (((((w1.alloc (.cells #[.slice mA (n+1) mc,.slice lA n lc] 121)).alloc (.cells (mkCells #[.int .i64 0] n) 2)).alloc (.cells #[.slice (some ⟨w1.heap.size+1,0,none⟩) n n] 37)).alloc (.cells #[.slice none 0 0] 26)).alloc (.cells #[.func (.func 81) #[] #[.pointer (some ⟨w1.heap.size,0,none⟩),.pointer (some ⟨w1.heap.size+1+1,0,none⟩),.pointer (some ⟨w1.heap.size+1+1+1+1,0,none⟩),.pointer (some ⟨eb,0,none⟩),.pointer (some ⟨w1.heap.size+1+1+1,0,none⟩)]] 123)) (w1.heap.size+1) n (n-1) []/\
  SMem w1 (((((w1.alloc (.cells #[.slice mA (n+1) mc,.slice lA n lc] 121)).alloc (.cells (mkCells #[.int .i64 0] n) 2)).alloc (.cells #[.slice (some ⟨w1.heap.size+1,0,none⟩) n n] 37)).alloc (.cells #[.slice none 0 0] 26)).alloc (.cells #[.func (.func 81) #[] #[.pointer (some ⟨w1.heap.size,0,none⟩),.pointer (some ⟨w1.heap.size+1+1,0,none⟩),.pointer (some ⟨w1.heap.size+1+1+1+1,0,none⟩),.pointer (some ⟨eb,0,none⟩),.pointer (some ⟨w1.heap.size+1+1+1,0,none⟩)]] 123)) n mA lA mc lc eb exact none 0 [] []:=by
 generalize e1:w1.alloc (.cells #[.slice mA (n+1) mc,.slice lA n lc] 121)=W1
 generalize e2:W1.alloc (.cells (mkCells #[.int .i64 0] n) 2)=W2
 generalize e3:W2.alloc (.cells #[.slice (some ⟨w1.heap.size+1,0,none⟩) n n] 37)=W3
 generalize e4:W3.alloc (.cells #[.slice none 0 0] 26)=W4
 generalize e5:W4.alloc (.cells #[.func (.func 81) #[] #[.pointer (some ⟨w1.heap.size,0,none⟩),.pointer (some ⟨w1.heap.size+1+1,0,none⟩),.pointer (some ⟨w1.heap.size+1+1+1+1,0,none⟩),.pointer (some ⟨eb,0,none⟩),.pointer (some ⟨w1.heap.size+1+1+1,0,none⟩)]] 123)=W5
 have s1:W1.heap.size=w1.heap.size+1:=by rw [<-e1,World.size_alloc]
 have s2:W2.heap.size=w1.heap.size+2:=by rw [<-e2,World.size_alloc,s1]
 have s3:W3.heap.size=w1.heap.size+3:=by rw [<-e3,World.size_alloc,s2]
 have s4:W4.heap.size=w1.heap.size+4:=by rw [<-e4,World.size_alloc,s3]
 have s5:W5.heap.size=w1.heap.size+5:=by rw [<-e5,World.size_alloc,s4]
 have x1:Ext w1 W1:=by rw [<-e1];infer_instance
 have x2:Ext W1 W2:=by rw [<-e2];infer_instance
 have x3:Ext W2 W3:=by rw [<-e3];infer_instance
 have x4:Ext W3 W4:=by rw [<-e4];infer_instance
 have x5:Ext W4 W5:=by rw [<-e5];infer_instance
 have h1:=heap_alloc_new w1 (.cells #[.slice mA (n+1) mc,.slice lA n lc] 121)
 have h2:=heap_alloc_new W1 (.cells (mkCells #[.int .i64 0] n) 2)
 have h3:=heap_alloc_new W2 (.cells #[.slice (some ⟨w1.heap.size+1,0,none⟩) n n] 37)
 have h4:=heap_alloc_new W3 (.cells #[.slice none 0 0] 26)
 have h5:=heap_alloc_new W4 (.cells #[.func (.func 81) #[] #[.pointer (some ⟨w1.heap.size,0,none⟩),.pointer (some ⟨w1.heap.size+1+1,0,none⟩),.pointer (some ⟨w1.heap.size+1+1+1+1,0,none⟩),.pointer (some ⟨eb,0,none⟩),.pointer (some ⟨w1.heap.size+1+1+1,0,none⟩)]] 123)
 rw [e1] at h1
 rw [e2,s1] at h2
 rw [e3,s2] at h3
 rw [e4,s3] at h4
 rw [e5,s4] at h5
 have x35:=x4.trans x5
 have x25:=x3.trans x35
 have x15:=x2.trans x25
 refine ⟨⟨List.replicate n 0,?_,by simp,by simp;omega⟩,x1.trans x15,heap_of_ext x15 h1,heap_of_ext x35 h3,heap_of_ext x5 h4,h5,heb,hec,LOwn.nil _ _,by omega⟩
 have :(mkCells #[.int .i64 0] n)=((List.replicate n (0:Int)).map (Value.int .i64)).toArray:=by
  apply Array.ext'
  rw [mkCells_one];simp
 rw [this] at h2
 exact heap_of_ext x25 h2
theorem collect_many {w0 w:World} {A:Option Addr} {c:Nat} {m:List (List Int)} {bound:Int} {exact:Bool} (h:Mat64 w0 A m) (h2:2<=m.length) (hf:FormOK m) (h64:St64 m) (hb0:0<=bound) (hb1:bound<1073741824) (hlen:(searchL (minorsTo m m.length) (lamTo m m.length) exact (m.length-1) (vD (minorsTo m m.length) m.length*bound) true []).length<=1073741824) [hx:Ext w0 w]:
  Calls Tryz.prog 52 #[.slice A m.length c,.int .i64 bound,.bool exact] w (RetMatL w (searchL (minorsTo m m.length) (lamTo m m.length) exact (m.length-1) (vD (minorsTo m m.length) m.length*bound) true [])):=by
 have hN:=hf.num bound hb0 hb1
 have h8:=hN.n8
 have hnf:=fun W (hh:Ext w0 W)=>newForm_any (w:=W) (c:=c) h hf.len1 h8 hf.all hf.fits hf.elim h64
 have hDl:(minorsTo m m.length).length=m.length+1:=minorsTo_length m _
 have hLl:(lamTo m m.length).length=m.length:=by simp [lamTo]
 obtain ⟨D,hD⟩:∃D,D=minorsTo m m.length:=⟨_,rfl⟩
 obtain ⟨L,hL⟩:∃L,L=lamTo m m.length:=⟨_,rfl⟩
 rw [<-hD,<-hL] at hnf hN hlen |-
 rw [<-hD] at hDl
 rw [<-hL] at hLl
 unfold RetForm at hnf
 rw [hDl,hLl] at hnf
 obtain ⟨n,hn⟩:∃n,n=m.length:=⟨_,rfl⟩
 rw [<-hn] at hnf hN hDl hLl h2 h8 hlen |-
 obtain ⟨dn,hdn⟩:∃dn,dn=vD D n:=⟨_,rfl⟩
 have e1:=hN.d1 n (by omega)
 have e2:=hN.d2 n (by omega)
 rw [<-hdn] at e1 e2 hlen |-
 have hm1:0<=dn*bound:=Int.mul_nonneg (by omega) (by omega)
 have hm2:dn*bound<=65535*1073741823:=Int.mul_le_mul (by omega) (by omega) (by omega) (by omega)
 have hlev:LevOK D n bound (n-1) (dn*bound) []:=⟨by omega,hm1,by rw [show n-1+1=n by omega,hdn];exact Int.le_refl _,by simp,by simp [absSum]⟩
 obtain ⟨rest,hrest⟩:∃rest,dn*bound=rest:=⟨_,rfl⟩
 rw [hrest] at hm1 hm2 hlev hlen |-
 have hdi:D[n]? =some dn:=by rw [hdn];unfold vD;simp [show n<D.length by omega]
 have HNF:=Lib.hid hnf
 have HDL:=Lib.hid hDl
 have HLEV:=Lib.hid hlev
 have HLEN:=Lib.hid hlen
 have HDI:=Lib.hid hdi
 have hne:((n:Int)==1)=false:=by simp;omega
 have hmk:=run_make_any (P:=Tryz.prog) Tryz.underlying37 infoI64 (by omega) (n:Int) (by omega) (by omega)
 clear hnf hD hL hn hDl hLl hlev hdi hdn hlen hf h64
 go_enter Tryz.func52,Tryz.ntmps52
 go_wp2_with (go_at_call 80;refine (HNF.out _ inferInstance).mono ?_;clear HNF;rintro e w1 ⟨mA,mc,lA,lc,rfl,hD,hL,d1,d2,d3,d4,hs1⟩)
 have heb:w.heap.size<w1.heap.size:=by have :=hs1.size;simp at this;omega
 have hec:w1.cell? ⟨w.heap.size,0,none⟩=some (.bool exact):=box1c w _ _ 4
 obtain ⟨hX,hM⟩:=SMem.start (mA:=mA) (lA:=lA) (mc:=mc) (lc:=lc) (n:=n) (by omega) heb hec
 generalize (((((w1.alloc (.cells #[.slice mA (n+1) mc,.slice lA n lc] 121)).alloc (.cells (mkCells #[.int .i64 0] n) 2)).alloc (.cells #[.slice (some ⟨w1.heap.size+1,0,none⟩) n n] 37)).alloc (.cells #[.slice none 0 0] 26)).alloc (.cells #[.func (.func 81) #[] #[.pointer (some ⟨w1.heap.size,0,none⟩),.pointer (some ⟨w1.heap.size+1+1,0,none⟩),.pointer (some ⟨w1.heap.size+1+1+1+1,0,none⟩),.pointer (some ⟨w.heap.size,0,none⟩),.pointer (some ⟨w1.heap.size+1+1+1,0,none⟩)]] 123))=W at hX hM |-
 obtain ⟨f1,f2,f3,f4,f5⟩:=box_cells2 hM.fb
 have sb1:W.cell? ⟨w1.heap.size+1+1+1+1,0,none⟩=some (.func (.func 81) #[] #[.pointer (some ⟨w1.heap.size,0,none⟩),.pointer (some ⟨w1.heap.size+1+1,0,none⟩),.pointer (some ⟨w1.heap.size+1+1+1+1,0,none⟩),.pointer (some ⟨w.heap.size,0,none⟩),.pointer (some ⟨w1.heap.size+1+1+1,0,none⟩)]):=by
  have :W.cell? ⟨w1.heap.size+4,0,none⟩=some (.func (.func 81) #[] (sCaps w1.heap.size w.heap.size)):=by simp [World.cell?,hM.sb]
  exact this
 obtain ⟨bm,om,-,rfl,-⟩:=hD.at_ (i:=n) (by have :=HDL.out;omega)
 obtain ⟨m3,m4⟩:=ints_cell (hD.ext hM.ext) HDI.out
 have hcall:=fun (W':World) hX' hM'=>search_any (exact:=exact) (eb:=w.heap.size) hD hL d1 d2 d3 d4 hN (n-1) rest true [] W' none 0 [] [] HLEV.out (fun _=>rfl) hX' hM' (by rw [List.nil_append];exact HLEN.out)
 rw [show ((n-1:Nat):Int)=(n:Int)-1 by omega,List.nil_append] at hcall
 unfold sCaps at hcall
 simp only [List.append_toArray,List.cons_append,List.nil_append] at hcall
 have HC:=Lib.hid hcall
 have hfn:=isFn_search
 unfold IsFn at hfn
 have HX:=Lib.hid hX
 have HM:=Lib.hid hM
 have w1e:IntKind.i64.wrap ((n:Int)-1)=(n:Int)-1:=IntWalk.i64_in _ (by omega)
 have w2e:IntKind.i64.wrap rest=rest:=IntWalk.i64_in _ (by omega)
 clear hcall hX hM
 go_region_with (refine (HC.out _ HX.out.drew HM.out.drew).mono ?_;rintro e W3 ⟨rfl,hX4,lB4,c4,vs4,hM4⟩)
 all_goals (
  have lb4:W3.cell? ⟨w1.heap.size+1+1+1,0,none⟩=some (.slice lB4 (searchL D L exact (n-1) rest true []).length c4):=by
   have :W3.cell? ⟨w1.heap.size+3,0,none⟩=some (.slice lB4 (searchL D L exact (n-1) rest true []).length c4):=by simp [World.cell?,hM4.lb]
   exact this
  have hlt4:w1.heap.size+1+1+1<W3.heap.size:=by have :=hM4.sz;omega
  have hfin:RetMatL w (searchL D L exact (n-1) rest true []) (.returned (.slice lB4 (searchL D L exact (n-1) rest true []).length c4)) W3:=by
   have hc:=hM4.ls.own.cap
   have hxw:Ext w w1:=inferInstance
   exact ⟨lB4,c4,rfl,hM4.ls.mat,hc.1,hc.2,(hxw.trans hM4.ext).toStep⟩
  have HF:=Lib.hid hfin
  clear hfin hM4 hX4
  generalize (searchL D L exact (n-1) rest true []).length=ln at lb4 HF |-
  go_wp2
  go_ret
  exact HF.out)
theorem collect_any {w0 w:World} {A:Option Addr} {c:Nat} {m:List (List Int)} {bound:Int} {exact:Bool} (h:Mat64 w0 A m) (hf:FormOK m) (h64:St64 m) (hb0:0<=bound) (hb1:1<m.length->bound<1073741824) (hr:m.length=1->isq (bound / ent m 0 0).toNat<=1048576) (hlen:(collL m bound exact).length<=1073741824) [hx:Ext w0 w]:
  Calls Tryz.prog 52 #[.slice A m.length c,.int .i64 bound,.bool exact] w (RetMatL w (collL m bound exact)):=by
 have h1:=hf.len1
 by_cases hm:m.length=1
 ·have hN:=hf.num 0 (by omega) (by omega)
  have d1:=hN.d1 1 (by omega)
  have d2:=hN.d2 1 (by omega)
  have e:vD (minorsTo m m.length) 1=ent m 0 0:=by rw [hm];simp [vD,minorsTo,stAt]
  rw [e] at d1 d2
  exact collect_one h hm (by have :=hf.all;rwa [hm] at this) d1 d2 hb0 (hr hm)
 ·have e:collL m bound exact=searchL (minorsTo m m.length) (lamTo m m.length) exact (m.length-1) (vD (minorsTo m m.length) m.length*bound) true []:=by rw [collL,if_neg hm]
  rw [e] at hlen |-
  exact collect_many h (by omega) hf h64 hb0 (hb1 (by omega)) hlen
theorem pairs_any {w0 w:World} {A:Option Addr} {c:Nat} {st:List Int} (h:Ints w0 A 3 .i64 st) (h1:1<=st.length) (h2:st.length<=1099511627776) (l1:1<=lastOf st) (l2:lastOf st<=1099511627776) [hx:Ext w0 w]:
  Calls Tryz.prog 50 #[.slice A st.length c] w (RetSame w (.int .i64 ((lastOf st-1) / 2))):=by
 obtain ⟨b,o,x,rfl,hx',g1,g2⟩:=(h.ext hx).at_ (i:=st.length-1) (by omega)
 have he:lastOf st=x:=by unfold lastOf;simp [hx']
 rw [he] at l1 l2 |-
 obtain ⟨n,hn⟩:∃n,st.length=n+1:=⟨st.length-1,by omega⟩
 rw [hn] at h2 g1 |-
 simp only [Nat.add_sub_cancel] at g1
 clear hn he hx' h h1
 go_enter Tryz.func50,Tryz.ntmps50
 go_wp2
 go_ret
 exact ⟨rfl,rfl⟩
structure EnumOK (m:List (List Int)) (bound:Int) (exact:Bool):Prop where
 form:FormOK m
 s64:St64 m
 red:RedM m
 b0:0<=bound
 b1:1<m.length->bound<1073741824
 one:m.length=1->isq (bound / ent m 0 0).toNat<=1048576
 len:(collL m bound exact).length<=1073741824
 vec:∀x∈collL m bound exact,VecOK m x
 nd:((collL m bound exact).map canonL).Nodup
def RetVecs (w:World) (m ls:List (List Int)) (total:Int) (e:Ending) (w':World):Prop:=∃A c L,e= .returned (.tuple #[.slice A (List.length L) c,.int .i64 total,.int .i64 0])/\Mat64 w' A L/\L.length<=c/\c<=9223372036854775807/\L.Perm (ls.map canonL)/\L.Pairwise (fun x y=>cmpK (nrm m x) (nrm m y) x y<0)/\Step w w'
def RetShell (w:World) (m ls:List (List Int)) (e:Ending) (w':World):Prop:=∃A c L,e= .returned (.tuple #[.slice A (List.length L) c,.int .i64 0])/\Mat64 w' A L/\L.length<=c/\c<=9223372036854775807/\L.Perm (ls.map canonL)/\L.Pairwise (fun x y=>cmpK (nrm m x) (nrm m y) x y<0)/\Step w w'
theorem sum_take_bound (l:List Int) (hb:∀x∈l,0<=x/\x<=1099511627776) (k:Nat):0<=(l.take k).sum/\(l.take k).sum<=k*1099511627776:=by
 induction k with
 |zero=>simp
 |succ k ih=>
  cases h:l[k]? with
  |none=>rw [List.take_add_one,h];simp;omega
  |some x=>
   rw [sum_take_succ l k x h]
   have :=hb x (List.mem_of_getElem? h)
   omega
theorem Vectors_ok {w0 w:World} {A:Option Addr} {c:Nat} {m:List (List Int)} {bound budget:Int} {st:List Int} (h:Mat64 w0 A m) (hc:m.length<=c) (hc2:c<=9223372036854775807) (hok:EnumOK m bound false) (hs:stepsSpec m bound budget=(st,0)) (h1:1<=st.length) (h2:st.length<=8) (l1:1<=lastOf st) (hb:∀x∈st,0<=x/\x<=1099511627776) (hsm:(lastOf st-1) / 2<=4096) [hx:Ext w0 w]:
  Calls Tryz.prog 23 #[.slice A m.length c,.int .i64 bound,.int .i64 budget] w (RetVecs w m (collL m bound false) st.sum):=by
 have hn8:=hok.red.n8
 have l2:lastOf st<=1099511627776:=by omega
 have hst:=fun W (hh:Ext w0 W)=>Steps_any (w:=W) (bound:=bound) (budget:=budget) h (by omega) hc hc2 (fun _=>hok.form)
 rw [hs] at hst
 have HST:=Lib.hid hst
 have hpa:=fun W A' c' (hI:Ints W A' 3 .i64 st)=>pairs_any (w:=W) (c:=c') hI h1 (by omega) l1 l2
 have HP:=Lib.hid hpa
 obtain ⟨q,hq⟩:∃q,(lastOf st-1) / 2=q:=⟨_,rfl⟩
 rw [hq] at HP hsm
 have hb':decide (4096<q)=false:=by simp;omega
 have hco:=fun W (hh:Ext w0 W)=>collect_any (w:=W) (c:=c) h hok.form hok.s64 hok.b0 hok.b1 hok.one hok.len
 have HCO:=Lib.hid hco
 have hso:=fun W X d (hh:Ext w0 W) (hX:Mat64 W X (collL m bound false))=>SortUnique_ok (w0:=W) (w:=W) (c:=c) (d:=d) (h.ext hh) hc hc2 hX hok.len hok.red hok.vec hok.nd
 have HSO:=Lib.hid hso
 obtain ⟨ls,hls⟩:∃ls,collL m bound false=ls:=⟨_,rfl⟩
 rw [hls] at HCO HSO |-
 have HB:=Lib.hid hb
 clear hst hpa hs hq hco hso hls hok hb
 go_enter Tryz.func23,Tryz.ntmps23
 go_wp2_with (first
  |(go_at_call 49;refine (HST.out _ inferInstance).mono ?_;rintro e w1 ⟨A1,c1,rfl,hI,k1,k2,hs1⟩)
  |(go_at_call 50;refine (HP.out _ _ _ hI).mono ?_;rintro e w2 ⟨rfl,rfl⟩))
 go_loop [11,13,31] (fun s _ i=>∃k:Nat,k<=st.length/\i= .int .i64 k/\s= .int .i64 (st.take k).sum) (fun _ _ i=>st.length-(intOf i).toNat)
 case atStart=>exact ⟨0,by omega,rfl,by simp⟩
 case round=>
  obtain ⟨k,hk,rfl,rfl⟩:=hrel
  have hbd:=sum_take_bound st HB.out k
  by_cases hlt:k<st.length
  ·obtain ⟨b,o,x,rfl,hx',g1,g2⟩:=hI.at_ hlt
   have hxb:=HB.out x (List.mem_of_getElem? hx')
   have HS:=Lib.hid (sum_take_succ st k x hx')
   obtain ⟨s,hs⟩:∃s,s=(st.take k).sum:=⟨_,rfl⟩
   rw [<-hs] at hbd HS |-
   have b1:s<=8*1099511627776:=by omega
   obtain ⟨b0,-⟩:=hbd
   obtain ⟨x0,x1⟩:=hxb
   clear hs hx'
   go_wp2
   exact ⟨⟨k+1,by omega,by go_num,by rw [HS.out]⟩,by simp [intOf];omega⟩
  ·have htk:st.take k=st:=List.take_of_length_le (by omega)
   rw [htk] at hbd |-
   obtain ⟨s,hs⟩:∃s,s=st.sum:=⟨_,rfl⟩
   have hsb:0<=s/\s<=8*1099511627776:=by rw [hs];omega
   rw [<-hs]
   have HS:=Lib.hid hs
   clear hs htk hbd
   go_wp2_with (first
    |(go_at_call 52;refine (HCO.out _ inferInstance).mono ?_;rintro e w3 ⟨A3,c3,rfl,hM3,k3,k4,hs3⟩)
    |(go_at_call 51;refine (HSO.out _ _ _ inferInstance hM3).mono ?_;rintro e w4 ⟨A4,c4,L,rfl,hM4,k5,k6,hp,hw,hs4⟩))
   go_ret3
   exact ⟨A4,c4,L,by rw [<-HS.out];rfl,hM4,k5,k6,hp,hw,Step.of _ _⟩
theorem Shell_ok {w0 w:World} {A:Option Addr} {c:Nat} {m:List (List Int)} {bound budget:Int} {st:List Int} (h:Mat64 w0 A m) (hc:m.length<=c) (hc2:c<=9223372036854775807) (hok:EnumOK m bound true) (hs:stepsSpec m bound budget=(st,0)) (hsm:(collL m bound true).length<=4096) [hx:Ext w0 w]:
  Calls Tryz.prog 36 #[.slice A m.length c,.int .i64 bound,.int .i64 budget] w (RetShell w m (collL m bound true)):=by
 have hn8:=hok.red.n8
 have hst:=fun W (hh:Ext w0 W)=>Steps_any (w:=W) (bound:=bound) (budget:=budget) h (by omega) hc hc2 (fun _=>hok.form)
 rw [hs] at hst
 have HST:=Lib.hid hst
 have hco:=fun W (hh:Ext w0 W)=>collect_any (w:=W) (c:=c) h hok.form hok.s64 hok.b0 hok.b1 hok.one hok.len
 have HCO:=Lib.hid hco
 have hso:=fun W X d (hh:Ext w0 W) (hX:Mat64 W X (collL m bound true))=>SortUnique_ok (w0:=W) (w:=W) (c:=c) (d:=d) (h.ext hh) hc hc2 hX hok.len hok.red hok.vec hok.nd
 have HSO:=Lib.hid hso
 obtain ⟨ls,hls⟩:∃ls,collL m bound true=ls:=⟨_,rfl⟩
 rw [hls] at HCO HSO hsm |-
 clear hst hs hco hso hls hok
 unfold RetMatL at HCO
 obtain ⟨ln,hln⟩:∃ln,ln=ls.length:=⟨_,rfl⟩
 rw [<-hln] at HCO HSO hsm
 have hb':decide (4096<ln)=false:=by simp;omega
 clear hln
 go_enter Tryz.func36,Tryz.ntmps36
 go_wp2_with (first
  |(go_at_call 49;refine (HST.out _ inferInstance).mono ?_;rintro e w1 ⟨A1,c1,rfl,hI,k1,k2,hs1⟩)
  |(go_at_call 52;refine (HCO.out _ inferInstance).mono ?_;rintro e w3 ⟨A3,c3,rfl,hM3,k3,k4,hs3⟩)
  |(go_at_call 51;refine (HSO.out _ _ _ inferInstance hM3).mono ?_;rintro e w4 ⟨A4,c4,L,rfl,hM4,k5,k6,hp,hw,hs4⟩))
 go_ret2
 exact ⟨A4,c4,L,rfl,hM4,k5,k6,hp,hw,Step.of _ _⟩
/-! ## The form (1) -/
/-! ## The form of example 1 -/
theorem coll_m2:collL m2 2 false=[[1,0],[-1,1],[0,1]]:=by decide
theorem enum_m2:EnumOK m2 2 false:=by
 refine ⟨form_m2,s64_m2,red_m2,by decide,by decide,by decide,by decide,?_,by decide⟩
 rw [coll_m2]
 intro x hx
 simp only [List.mem_cons,List.not_mem_nil,or_false] at hx
 rcases hx with rfl |rfl |rfl<;>exact ⟨by decide,by decide,by decide⟩
theorem sorted_m2 {L:List (List Int)} (hp:L.Perm ((collL m2 2 false).map canonL)) (hw:L.Pairwise (fun x y=>cmpK (nrm m2 x) (nrm m2 y) x y<0)):L=vecs_m2:=by
 refine sorted_eq hp hw (by decide) ?_ (by decide)
 rw [coll_m2]
 decide
theorem awake11_any {w:World}:Calls Tryz.prog 26 #[] w (RetVal w (.bool true)):=by
 have hv:=fun W A (hM:Mat64 W A m2)=>Vectors_ok (w0:=W) (w:=W) (c:=2) (st:=[3,7]) hM (by decide) (by decide) enum_m2 steps_m2 (by decide) (by decide) (by decide) (by decide) (by decide)
 have HV:Hid (∀W A,Mat64 W A m2->Calls Tryz.prog 23 #[.slice A 2 2,.int .i64 2,.int .i64 100] W fun e w'=>∃B c,e= .returned (.tuple #[.slice B 3 c,.int .i64 10,.int .i64 0])/\Mat64 w' B vecs_m2/\Step W w'):=Lib.hid (fun W A hM=>(hv W A hM).mono (fun e w' ⟨B,c,L,he,h1,_,_,hp,hw,hs⟩=>by
  obtain rfl:=sorted_m2 hp hw
  exact ⟨B,c,he,h1,hs⟩))
 have HS:Hid (∀W B c C d,Mat64 W B vecs_m2->Mat64 W C vecs_m2->Calls Tryz.prog 25 #[.slice B 3 c,.slice C 3 d] W (RetQ W (.bool true))):=Lib.hid (fun W B c C d h1 h2=>ref09_Same_any (w0:=W) (w:=W) (c:=c) (d:=d) h1 h2 (by decide) (by decide) (by decide) (by decide))
 clear hv
 go_enter Tryz.func26,Tryz.ntmps26
 go_wp2_with (first
  |(go_at_call 23;refine (HV.out _ _ (mat22 w 2 1 1 2)).mono ?_;rintro e w1 ⟨B1,c1,rfl,hM1,hs1⟩)
  |(go_at_call 25;refine (HS.out _ _ _ _ _ (hM1.ext inferInstance) (mat32 w1 0 1 1 (-1) 1 0)).mono ?_;rintro e w2 ⟨rfl,n2,rfl⟩))
 go_ret
 exact ⟨rfl,Step.of _ _⟩
end Go.Proofs.YtjehjkipcaohpaaGreat
namespace Go.Proofs.YtjehjkipcaohpaaGreat
open La
/-! ## Levels -/
theorem qE_nonneg {m:List (List Int)} (hr:RedOK m) (t:List Int):∀k,k+t.length<=m.length->0<=qE (ent m) k t:=by
 have hsym:=sym_of (isSmallB_all hr.small) (fun i j hi hj=>((of_decide_eq_true hr.small).2.2.2 i hi j hj).1)
 induction t with
 |nil=>intro k _;exact Int.le_refl _
 |cons c t ih=>
  intro k hk
  simp only [List.length_cons] at hk
  have h1:=ih (k+1) (by omega)
  have h2:=qE_step hsym (hr.pos.le (by omega:k+1<=m.length)) c t
  have h3:=lastE_pos hr.pos (by omega:k<=m.length)
  have h4:=lastE_pos hr.pos (by omega:k+1<=m.length)
  have h5:=Int.mul_nonneg (Int.le_of_lt h3) h1
  have h6:=sq_nonnegZ (lE (ent m) k (c::t))
  rcases Int.lt_or_le (qE (ent m) k (c::t)) 0 with h7 |h7
  ·have :=Int.mul_neg_of_pos_of_neg h4 h7;omega
  ·exact h7
theorem nrm_nonneg {m:List (List Int)} (hr:RedOK m) (x:List Int) (hx:x.length=m.length):0<=nrm m x:=by
 rw [nrm_eq (isSmallB_all hr.small) x hx]
 exact qE_nonneg hr x 0 (by omega)
theorem coord_small {m:List (List Int)} (hr:RedOK m) {bound:Int} (hb:0<=bound) (hb1:bound<1073741824) (x:List Int) (hx:x.length=m.length) (hn:nrm m x<=bound):absSum x<=1099511627776:=by
 have hall:=isSmallB_all hr.small
 have hl:=isSmallB_len hr.small
 have hsym:=sym_of (isSmallB_all hr.small) (fun i j hi hj=>((of_decide_eq_true hr.small).2.2.2 i hi j hj).1)
 have h0:0<=left (ent m) bound 0 x:=by rw [left_nrm hall bound x hx];omega
 cases x with
 |nil=>simp [absSum]
 |cons c t=>
  simp only [List.length_cons] at hx
  have h1:=left_le hsym (hr.pos.le (by omega:0+1<=m.length)) bound c t h0
  have h2:=lev_of hr hb hb1 t 0 (by omega) (by omega) h1
  have h3:=(inv_iff hr (by omega:0<m.length) t (by omega) h1 c).2 h0
  have hN:=hr.num hb hb1
  have h4:=vEnds hN h2
  have h5:=absSum_bound hN h2
  have h6:=vR_bounds hN h2
  simp only [absSum]
  omega
theorem inRange_of {x:List Int} (h:absSum x<=1099511627776):inRangeB x=true:=by
 unfold inRangeB
 rw [List.all_eq_true]
 intro y hy
 obtain ⟨i,hi⟩:=List.getElem?_of_mem hy
 have :=le_absSum x i y hi
 simp only [Bool.and_eq_true,decide_eq_true_eq]
 omega
theorem firstNZ_zero {x:List Int} (h:firstNZ x=0):∀y∈x,y=0:=by
 induction x with
 |nil=>simp
 |cons a x ih=>
  simp only [firstNZ] at h
  split at h
  ·rename_i ha
   intro y hy
   rcases List.mem_cons.1 hy with rfl |hy
   ·exact ha
   ·exact ih h y hy
  ·omega
theorem canon_inj {x y:List Int} (hx:LastPos x) (hy:LastPos y) (h:canonL x=canonL y):x=y:=by
 unfold canonL at h
 split at h<;>split at h
 ·have :=congrArg (List.map fun c=>-c) h
  rwa [neg_neg_map,neg_neg_map] at this
 ·rw [<-h] at hy;exact absurd hy (lastPos_neg hx)
 ·rw [h] at hx;exact absurd hx (lastPos_neg hy)
 ·exact h
theorem firstNZ_neg (x:List Int):firstNZ (x.map fun c=>-c)=-firstNZ x:=by
 induction x with
 |nil=>rfl
 |cons a x ih=>
  simp only [List.map_cons,firstNZ,ih]
  by_cases h:a=0
  ·simp [h]
  ·rw [if_neg h,if_neg (by omega)]
theorem canon_first (x:List Int) (h:firstNZ x≠0):0<firstNZ (canonL x):=by
 unfold canonL
 split
 ·rw [firstNZ_neg];omega
 ·omega
theorem nodup_canon {m:List (List Int)} (hr:RedOK m) {bound:Int} (hb:0<=bound) (exact:Bool):((collL m bound exact).map canonL).Nodup:=by
 unfold List.Nodup
 rw [List.pairwise_map]
 refine List.Pairwise.imp_of_mem ?_ (nodup_coll hr hb exact)
 intro a b ha hb' hab e
 exact hab (canon_inj ((mem_coll hr hb exact a).1 ha).2.1 ((mem_coll hr hb exact b).1 hb').2.1 e)
theorem vec_coll {m:List (List Int)} (hr:RedOK m) {bound:Int} (hb:0<=bound) (hb1:bound<1073741824) (exact:Bool) (x:List Int) (hx:x∈collL m bound exact):VecOK m x:=by
 obtain ⟨h1,h2,h3,_⟩:=(mem_coll hr hb exact x).1 hx
 have h4:=inRange_of (coord_small hr hb hb1 x h1 h3)
 refine ⟨by simp [fitsB,h1,h4],?_,?_⟩
 ·have :=nrm_nonneg hr x h1
  simp only [dotB,decide_eq_true_eq]
  omega
 ·simp only [canonB,h4,Bool.true_and,Bool.not_eq_true',decide_eq_false_iff_not]
  intro e
  exact lastPos_ne h2 (firstNZ_zero e)
structure VecList (m:List (List Int)) (bound:Int) (exact:Bool) (L:List (List Int)):Prop where
 sorted:L.Pairwise (fun x y=>cmpK (nrm m x) (nrm m y) x y<0)
 mem:∀x,x∈L↔x.length=m.length/\0<firstNZ x/\nrm m x<=bound/\(exact=true->nrm m x=bound)
theorem vecList_of {m:List (List Int)} (hr:RedOK m) {bound:Int} (hb:0<=bound) {exact:Bool} {L:List (List Int)} (hp:L.Perm ((collL m bound exact).map canonL)) (hw:L.Pairwise (fun x y=>cmpK (nrm m x) (nrm m y) x y<0)):VecList m bound exact L:=by
 refine ⟨hw,fun x=>?_⟩
 rw [hp.mem_iff,List.mem_map]
 constructor
 ·rintro ⟨y,hy,rfl⟩
  obtain ⟨h1,h2,h3,h4⟩:=(mem_coll hr hb exact y).1 hy
  rw [nrm_canon,canonL_length]
  exact ⟨h1,canon_first y (fun e=>lastPos_ne h2 (firstNZ_zero e)),h3,h4⟩
 ·rintro ⟨h1,h2,h3,h4⟩
  have hne:¬∀y∈x,y=0:=fun hz=>by
   have :firstNZ x=0:=by
    clear h1 h2 h3 h4
    induction x with
    |nil=>rfl
    |cons a x ih=>
     have ha:=hz a (by simp)
     simp only [firstNZ,ha,if_true]
     exact ih (fun y hy=>hz y (by simp [hy]))
   omega
  rcases lastPos_or hne with h5 |h5
  ·refine ⟨x,(mem_coll hr hb exact x).2 ⟨h1,h5,h3,h4⟩,?_⟩
   unfold canonL
   rw [if_neg (by omega)]
  ·refine ⟨x.map fun c=>-c,(mem_coll hr hb exact _).2 ⟨by simpa using h1,h5,by rw [nrm_neg];exact h3,by rw [nrm_neg];exact h4⟩,?_⟩
   unfold canonL
   rw [firstNZ_neg,if_pos (by omega),neg_neg_map]
theorem cmpK_anti (m:List (List Int)) (x y:List Int) (h:cmpK (nrm m x) (nrm m y) x y<0):¬cmpK (nrm m y) (nrm m x) y x<0:=by
 rw [cmpK_lex] at h |-
 rw [lexI_anti]
 omega
theorem VecList.nodup {m:List (List Int)} {bound:Int} {exact:Bool} {L:List (List Int)} (h:VecList m bound exact L):L.Nodup:=by
 refine List.Pairwise.imp ?_ h.sorted
 intro a b hab e
 subst e
 exact cmpK_anti m a a hab hab
theorem VecList.unique {m:List (List Int)} {bound:Int} {exact:Bool} {L T:List (List Int)} (h:VecList m bound exact L) (h':VecList m bound exact T):L=T:=by
 have hp:L.Perm T:=(List.perm_ext_iff_of_nodup h.nodup h'.nodup).2 fun x=>(h.mem x).trans (h'.mem x).symm
 exact List.Perm.eq_of_pairwise (fun a b _ _ h1 h2=>absurd h2 (cmpK_anti m a b h1)) h.sorted h'.sorted hp
theorem StepsOK.last_le {m:List (List Int)} {bound:Int} {st:List Int} {total:Int} (h:StepsOK m bound st total) (h1:1<=m.length):lastOf st+(m.length-1:Nat)<=total:=by
 have hl:=h.len
 have hs:=h.sum
 obtain ⟨p,c,rfl,hp⟩:=snoc_split (p:=st) (k:=m.length-1) (by omega)
 have e:lastOf (p++[c])=c:=by simp [lastOf]
 rw [e]
 have h2:=sum_ge_len p (fun x hx=>h.one x (by simp [hx]))
 simp only [List.sum_append,List.sum_cons,List.sum_nil] at hs
 omega
theorem enum_ok {m:List (List Int)} (h:isRedB m=true) {b:Nat} (hb1:(b:Int)<1073741824) (exact:Bool) (hlen:(collL m b exact).length<=1073741824):EnumOK m b exact:=by
 have hr:=red_ok h
 refine ⟨hr.form,hr.s64,redM_of h,by omega,fun _=>hb1,fun h1=>?_,hlen,fun x hx=>vec_coll hr (by omega) hb1 exact x hx,nodup_canon hr (by omega) exact⟩
 have hd1:1<=ent m 0 0:=E_pos (m:=ent m) hr.pos (k:=0) (by omega)
 have q:((b:Int) / ent m 0 0).toNat<=b:=by
  have :=Int.ediv_le_self (a:=(b:Int)) (ent m 0 0) (by omega)
  omega
 obtain ⟨s1,_⟩:=isq_spec ((b:Int) / ent m 0 0).toNat
 rcases Nat.lt_or_ge (isq ((b:Int) / ent m 0 0).toNat) 1048577 with h2 |h2
 ·omega
 ·have :=Nat.mul_le_mul h2 h2
  omega
end Go.Proofs.YtjehjkipcaohpaaGreat
