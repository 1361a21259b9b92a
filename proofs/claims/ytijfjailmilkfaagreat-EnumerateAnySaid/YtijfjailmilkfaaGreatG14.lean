/- OwnZ Ref6 Ref7 Ref5 Ref8 Ref9 RefA -/
import Derived.Test.YtijfjailmilkfaaGreatProg
import Derived.Test.YtijfjailmilkfaaGreatG13
import Derived.Deep.LoopGhost
import Derived.Test.YtijfjailmilkfaaGreatShelf
import Derived.BigRegion
set_option maxHeartbeats 8000000
set_option linter.unusedVariables false
set_option linter.unusedSimpArgs false
set_option linter.constructorNameAsVariable false
namespace Go.Proofs.YtijfjailmilkfaaGreat
open Go.RowKit
def RetOwnI (w:World) (n:Nat) (a:List (List Int)) (e:Ending) (w':World):Prop:=∃g hs c,e= .returned (.slice (some ⟨g,0,none⟩) a.length c)/\OwnI w' w.heap.size g n hs a/\a.length<=c/\c<=9223372036854775807/\Step w w'
def RetOwnIB (w:World) (n:Nat) (a:List (List Int)) (e:Ending) (w':World):Prop:=∃g hs c,e= .returned (.tuple #[.slice (some ⟨g,0,none⟩) a.length c,.bool true])/\OwnI w' w.heap.size g n hs a/\a.length<=c/\c<=9223372036854775807/\Step w w'
theorem RetOwnI.mat {w w':World} {n:Nat} {a:List (List Int)} {e:Ending} (h:RetOwnI w n a e w'):RetMat w a e w':=by
 obtain ⟨g,hs,c,rfl,h1,h2,h3,h4⟩:=h
 exact ⟨_,c,rfl,h1.mat,h2,h3,h4⟩
theorem RetOwnIB.mat {w w':World} {n:Nat} {a:List (List Int)} {e:Ending} (h:RetOwnIB w n a e w'):RetMatB w a true e w':=by
 obtain ⟨g,hs,c,rfl,h1,h2,h3,h4⟩:=h
 exact ⟨_,c,rfl,h1.mat,h2,h3,h4⟩
theorem RowI.zeros (w:World) (n:Nat):RowI (w.alloc (.cells (mkCells #[.bool false,.slice none 0 0] (n*2)) 117)) w.heap.size (List.replicate n 0):=by
 refine ⟨_,VRow.new w _ _,by rw [mkCells_size];simp,fun i z hz=>?_⟩
 have hi:i<n:=by have :=(List.getElem?_eq_some_iff.1 hz).1;simpa using this
 have hz0:z=0:=List.eq_of_mem_replicate (List.mem_of_getElem? hz)
 subst hz0
 refine ⟨false,none,0,0,?_,?_,IntV.zero _ none 0 (by omega)⟩
 ·rw [mkCells_get _ _ _ (by omega) (by simp)];simp
 ·rw [mkCells_get _ _ _ (by omega) (by simp)];simp
structure PartI (w:World) (lo g n rows:Nat) (hs:List (Nat×Nat)) (a:List (List Int)):Prop where
 head:VRow w g 104 (hs.map (headV n)++List.replicate (rows-hs.length) (.slice none 0 0))
 glo:lo<=g
 le:hs.length<=rows
 len:hs.length=a.length
 dist:∀(i j:Nat) (p q:Nat×Nat),hs[i]? =some p->hs[j]? =some q->i≠j->p.1≠q.1
 new:∀h∈hs,lo<=h.1/\n<=h.2/\h.2<=9223372036854775807
 all:AllLen a n
 row:∀(i:Nat) (h:Nat×Nat) (r:List Int),hs[i]? =some h->a[i]? =some r->RowI w h.1 r
section
variable {w w':World} {lo g n rows:Nat} {hs:List (Nat×Nat)} {a:List (List Int)}
theorem PartI.start (w:World) (lo n rows:Nat) (h:lo<=w.heap.size):PartI (w.alloc (.cells (mkCells #[.slice none 0 0] (rows*1)) 104)) lo w.heap.size n rows [] []:=by
 refine ⟨?_,h,by simp,rfl,fun i j p q hp=>by simp at hp,fun p hp=>by simp at hp,fun r hr=>by simp at hr,fun i p r hp=>by simp at hp⟩
 have :=VRow.new w 104 (mkCells #[.slice none 0 0] (rows*1))
 rw [mkCells_one,Nat.mul_one] at this
 simpa [mkCells_one] using this
theorem PartI.done (h:PartI w lo g n rows hs a) (hl:hs.length=rows):OwnI w lo g n hs a:=by
 have h1:=h.head
 rw [hl,Nat.sub_self] at h1
 simp only [List.replicate_zero,List.append_nil] at h1
 exact ⟨h1,h.glo,h.len,h.dist,h.new,h.all,h.row⟩
theorem PartI.ext (h:PartI w lo g n rows hs a) (hx:Ext w w'):PartI w' lo g n rows hs a:=
 ⟨h.head.ext hx,h.glo,h.le,h.len,h.dist,h.new,h.all,fun i p r hp hr=>(h.row i p r hp hr).ext hx⟩
theorem PartI.cells (h:PartI w lo g n rows hs a) (hk:hs.length<rows):w.cell? ⟨g,hs.length,none⟩=some (.slice none 0 0)/\w.frozen? ⟨g,hs.length,none⟩=false/\g<w.heap.size:=by
 refine ⟨h.head.cell ?_,h.head.frozen _,h.head.lt⟩
 rw [List.getElem?_append_right (by simp),List.length_map,Nat.sub_self,List.getElem?_replicate,if_pos (by omega)]
theorem PartI.put (h:PartI w lo g n rows hs a) (hk:hs.length<rows) {b c:Nat} {r:List Int} (hr:RowI w b r) (hrl:r.length=n) (hb:lo<=b) (hc1:n<=c) (hc2:c<=9223372036854775807) (hd:∀p∈hs,p.1≠b):
  PartI (w.setCell ⟨g,hs.length,none⟩ (.slice (some ⟨b,0,none⟩) n c)) lo g n rows (hs++[(b,c)]) (a++[r]):=by
 have hoth:Oth 104 w (w.setCell ⟨g,hs.length,none⟩ (.slice (some ⟨b,0,none⟩) n c)):=Oth.set (p:=⟨g,hs.length,none⟩) h.head _
 refine ⟨?_,h.glo,by simp;omega,by simp [h.len],?_,?_,?_,?_⟩
 ·have h1:=h.head.set hs.length (.slice (some ⟨b,0,none⟩) n c)
  have e:(hs.map (headV n)++List.replicate (rows-hs.length) (Value.slice none 0 0)).set hs.length (.slice (some ⟨b,0,none⟩) n c)=(hs++[(b,c)]).map (headV n)++List.replicate (rows-(hs++[(b,c)]).length) (.slice none 0 0):=by
   obtain ⟨t,ht⟩:∃t,rows-hs.length=t+1:=⟨rows-hs.length-1,by omega⟩
   have ht2:rows-(hs++[(b,c)]).length=t:=by simp;omega
   rw [ht,ht2,List.set_append_right _ _ (by simp)]
   simp [List.replicate_succ,headV]
  rw [e] at h1
  exact h1
 ·intro i j p q hp hq hij
  rcases Nat.lt_or_ge i hs.length with hi |hi
  ·rw [List.getElem?_append_left hi] at hp
   rcases Nat.lt_or_ge j hs.length with hj |hj
   ·rw [List.getElem?_append_left hj] at hq
    exact h.dist i j p q hp hq hij
   ·rw [List.getElem?_append_right hj] at hq
    have :q=(b,c):=by
     have :=List.mem_of_getElem? hq
     simpa using this
    subst this
    exact hd p (List.mem_of_getElem? hp)
  ·rw [List.getElem?_append_right hi] at hp
   have hi':i=hs.length:=by have :=(List.getElem?_eq_some_iff.1 hp).1;simp at this;omega
   have :p=(b,c):=by
    have :=List.mem_of_getElem? hp
    simpa using this
   subst this
   rcases Nat.lt_or_ge j hs.length with hj |hj
   ·rw [List.getElem?_append_left hj] at hq
    exact fun e=>hd q (List.mem_of_getElem? hq) e.symm
   ·rw [List.getElem?_append_right hj] at hq
    have hj':j=hs.length:=by have :=(List.getElem?_eq_some_iff.1 hq).1;simp at this;omega
    omega
 ·intro p hp
  rcases List.mem_append.1 hp with hp |hp
  ·exact h.new p hp
  ·have :p=(b,c):=by simpa using hp
   subst this
   exact ⟨hb,hc1,hc2⟩
 ·intro x hx
  rcases List.mem_append.1 hx with hx |hx
  ·exact h.all x hx
  ·have :x=r:=by simpa using hx
   subst this
   exact hrl
 ·intro i p x hp hx
  have hl:=h.len
  rcases Nat.lt_or_ge i hs.length with hi |hi
  ·rw [List.getElem?_append_left hi] at hp
   rw [List.getElem?_append_left (by omega)] at hx
   exact (h.row i p x hp hx).oth hoth (by decide) (by decide)
  ·rw [List.getElem?_append_right hi] at hp
   rw [List.getElem?_append_right (by omega)] at hx
   have e1:p=(b,c):=by
    have :=List.mem_of_getElem? hp
    simpa using this
   have e2:x=r:=by
    have :=List.mem_of_getElem? hx
    simpa using this
   subst e1 e2
   exact hr.oth hoth (by decide) (by decide)
theorem PartI.old (h:PartI w lo g n rows hs a):∀p∈hs,p.1<w.heap.size:=fun p hp=>by
 obtain ⟨i,hi⟩:=List.getElem?_of_mem hp
 obtain ⟨r,hr⟩:∃r,a[i]? =some r:=⟨_,List.getElem?_eq_getElem (by have :=(List.getElem?_eq_some_iff.1 hi).1;rw [<-h.len];exact this)⟩
 exact (h.row i p r hi hr).lt
end
/-! ## Tables, filled entry by entry -/
def partF (F:Nat->Nat->Int) (k q:Nat):Nat->Nat->Int:=fun x y=>if x<k∨(x=k/\y<q) then F x y else 0
def partC (F:Nat->Nat->Int) (k q:Nat):Nat->Nat->Int:=fun x y=>if y<k∨(y=k/\x<q) then F x y else 0
theorem tab_eq_of {F G:Nat->Nat->Int} {r c:Nat} (h:∀i j,i<r->j<c->F i j=G i j):tab F r c=tab G r c:=by
 unfold tab
 refine List.map_congr_left fun i hi=>List.map_congr_left fun j hj=>h i j (by simpa using hi) (by simpa using hj)
theorem setE_tab {G:Nat->Nat->Int} {r c i j:Nat} {z:Int} (hi:i<r) (hj:j<c):setE (tab G r c) i j z=tab (fun x y=>if x=i/\y=j then z else G x y) r c:=by
 have hl:(setE (tab G r c) i j z).length=r:=by rw [setE_len,tab_length]
 have hrow:(tab G r c).getD i []=(List.range c).map fun y=>G i y:=by simp [List.getD,tab_get G r c i hi]
 apply List.ext_getElem?
 intro x
 rcases Nat.lt_or_ge x r with hx |hx
 ·rw [tab_get _ _ _ _ hx]
  unfold setE
  by_cases e:x=i
  ·subst e
   rw [List.getElem?_set_self (by rw [tab_length];exact hx),hrow]
   congr 1
   apply List.ext_getElem?
   intro y
   by_cases e2:y=j
   ·subst e2
    rw [List.getElem?_set_self (by simpa using hj)]
    simp [hj]
   ·rw [List.getElem?_set_ne (by omega)]
    rcases Nat.lt_or_ge y c with hy |hy
    ·simp [hy,e2]
    ·rw [List.getElem?_eq_none (by simpa using hy),List.getElem?_eq_none (by simpa using hy)]
  ·rw [List.getElem?_set_ne (by omega),tab_get _ _ _ _ hx]
   simp [e]
 ·rw [List.getElem?_eq_none (by omega),List.getElem?_eq_none (by rw [tab_length];exact hx)]
theorem partF_set {F:Nat->Nat->Int} {r c i j:Nat} (hi:i<r) (hj:j<c):setE (tab (partF F i j) r c) i j (F i j)=tab (partF F i (j+1)) r c:=by
 rw [setE_tab hi hj]
 refine tab_eq_of fun x y _ _=>?_
 unfold partF
 by_cases h:x=i/\y=j
 ·rw [if_pos h,if_pos (by omega)];obtain ⟨rfl,rfl⟩:=h;rfl
 ·rw [if_neg h]
  by_cases h2:x<i∨x=i/\y<j
  ·rw [if_pos h2,if_pos (by omega)]
  ·rw [if_neg h2,if_neg (by omega)]
theorem partF_next (F:Nat->Nat->Int) (r c i:Nat):tab (partF F i c) r c=tab (partF F (i+1) 0) r c:=
 tab_eq_of fun x y _ hy=>by
  unfold partF
  by_cases h:x<i∨x=i/\y<c
  ·rw [if_pos h,if_pos (by omega)]
  ·rw [if_neg h,if_neg (by omega)]
theorem partF_all (F:Nat->Nat->Int) (r c:Nat):tab (partF F r 0) r c=tab F r c:=
 tab_eq_of fun x y hx _=>by unfold partF;rw [if_pos (.inl hx)]
theorem partF_zero (F:Nat->Nat->Int) (r c:Nat):tab (partF F 0 0) r c=tab (fun _ _=>0) r c:=
 tab_eq_of fun x y _ _=>by unfold partF;rw [if_neg (by omega)]
theorem partC_set {F:Nat->Nat->Int} {r c i j:Nat} (hi:i<r) (hj:j<c):setE (tab (partC F j i) r c) i j (F i j)=tab (partC F j (i+1)) r c:=by
 rw [setE_tab hi hj]
 refine tab_eq_of fun x y _ _=>?_
 unfold partC
 by_cases h:x=i/\y=j
 ·rw [if_pos h,if_pos (by omega)];obtain ⟨rfl,rfl⟩:=h;rfl
 ·rw [if_neg h]
  by_cases h2:y<j∨y=j/\x<i
  ·rw [if_pos h2,if_pos (by omega)]
  ·rw [if_neg h2,if_neg (by omega)]
theorem partC_next (F:Nat->Nat->Int) (r c j:Nat):tab (partC F j r) r c=tab (partC F (j+1) 0) r c:=
 tab_eq_of fun x y hx _=>by
  unfold partC
  by_cases h:y<j∨y=j/\x<r
  ·rw [if_pos h,if_pos (by omega)]
  ·rw [if_neg h,if_neg (by omega)]
theorem partC_all (F:Nat->Nat->Int) (r c:Nat):tab (partC F c 0) r c=tab F r c:=
 tab_eq_of fun x y _ hy=>by unfold partC;rw [if_pos (.inl hy)]
theorem partC_zero (F:Nat->Nat->Int) (r c:Nat):tab (partC F 0 0) r c=tab (fun _ _=>0) r c:=
 tab_eq_of fun x y _ _=>by unfold partC;rw [if_neg (by omega)]
theorem tab_const (rows cols:Nat) (z:Int):tab (fun _ _=>z) rows cols=List.replicate rows (List.replicate cols z):=by
 unfold tab
 apply List.ext_getElem?
 intro i
 rcases Nat.lt_or_ge i rows with hi |hi
 ·simp only [List.getElem?_map,List.getElem?_range hi,Option.map_some,List.getElem?_replicate,if_pos hi]
  congr 1
  apply List.ext_getElem?
  intro j
  rcases Nat.lt_or_ge j cols with hj |hj
  ·simp [hj]
  ·rw [List.getElem?_eq_none (by simpa using hj),List.getElem?_eq_none (by simpa using hj)]
 ·rw [List.getElem?_eq_none (by simpa using hi),List.getElem?_eq_none (by simpa using hi)]
set_option maxRecDepth 10000 in
theorem rZero_any {w:World} (rows cols:Nat) (h1':rows<=1000000) (h2:cols<=1000000):
  Calls Tryz.prog 147 #[.int .i64 rows,.int .i64 cols] w (RetOwnI w cols (tab (fun _ _=>0) rows cols)):=by
 have hmk:=run_make_any (P:=Tryz.prog) Tryz.underlying73 infoSlInt (by omega) (rows:Int) (by omega) (by omega)
 have hmk2:=run_make_any (P:=Tryz.prog) Tryz.underlying104 infoInt (by omega) (cols:Int) (by omega) (by omega)
 go_enter Tryz.func147,Tryz.ntmps147
 go_wp2
 go_loopw [6,11] (fun _ i wr=>∃(k:Nat) (hs:List (Nat×Nat)),k<=rows/\i= .int .i64 k/\Hid (hs.length=k)/\Hid (PartI wr w.heap.size w.heap.size cols rows hs (List.replicate k (List.replicate cols 0)))/\Ext w wr) (fun _ i _=>rows-(intOf i).toNat)
 case atStart=>exact ⟨0,[],by omega,rfl,Lib.hid rfl,Lib.hid (by simpa [Value.cells] using PartI.start w w.heap.size cols rows (Nat.le_refl _)),inferInstance⟩
 case round=>
  obtain ⟨k,hs,hk,rfl,HL,HP,hxr⟩:=hrel
  by_cases hlt:k<rows
  ·have hc:=HP.out.cells (by rw [HL.out];exact hlt)
   rw [HL.out] at hc
   obtain ⟨c1,c2,c3⟩:=hc
   go_wp2
   refine ⟨⟨k+1,hs++[(wr.heap.size,cols)],by omega,by go_num,Lib.hid (by simp [HL.out]),Lib.hid ?_,?_⟩,by simp [intOf]<;>omega⟩
   ·have hold:=HP.out.old
    have h1:=(HP.out.ext (inferInstance:Ext wr (wr.alloc (.cells (mkCells #[.bool false,.slice none 0 0] (cols*2)) 117)))).put (by rw [HL.out];exact hlt) (RowI.zeros wr cols) (by simp) hxr.size (Nat.le_refl _) (by omega) (fun p hp=>Nat.ne_of_lt (hold p hp))
    rw [HL.out] at h1
    rw [List.replicate_succ' (n:=k)]
    rw [World.setCell_alloc_past _ _ _ _ c3] at h1
    simpa [Value.cells] using h1
   ·exact inferInstance
  ·obtain rfl:k=rows:=by omega
   go_wp2
   go_ret
   have h1:=HP.out.done HL.out
   rw [<-tab_const] at h1
   exact ⟨w.heap.size,hs,k,by rw [tab_length];rfl,h1,by rw [tab_length];omega,by omega,hxr.toStep⟩
theorem rShape_ok {w0 w:World} {A:Option Addr} {c:Nat} {m:List (List Int)} (h:MatV w0 A m) (n:Nat) (h1:1<=m.length) (h2:m.length<=16) (h3:1<=n) (h4:n<=16) (hn:AllLen m n) [hx:Ext w0 w]:
  Calls Tryz.prog 155 #[.slice A m.length c] w (RetVal w (.tuple #[.int .i64 m.length,.int .i64 n,.bool true])):=by
 have h0:=h.ext hx
 have hg:∀(i:Nat) (r:List Int),m[i]? =some r->r.length=n:=fun i r hr=>hn r (List.mem_of_getElem? hr)
 obtain ⟨b,o,B,c0,rfl,hc0,-,-,-,hb⟩:=h0.at_ (i:=0) (r:=m[0]) (by simp)
 rw [hg 0 m[0] (by simp)] at hc0
 simp only [Nat.add_zero] at hc0
 have HG:=Lib.hid hg
 clear hg hn
 have hd1:decide ((m.length:Int)<1)=false:=by simp;omega
 have hd2:decide ((16:Int)<(m.length:Int))=false:=by simp;omega
 have hd3:decide ((n:Int)<1)=false:=by simp;omega
 have hd4:decide ((16:Int)<(n:Int))=false:=by simp;omega
 go_enter Tryz.func155,Tryz.ntmps155
 go_wp2
 go_loop [6,17] (fun _ i=>∃k:Nat,k<=m.length/\i= .int .i64 k) (fun _ i=>m.length-(intOf i).toNat)
 case atStart=>exact ⟨0,by omega,rfl⟩
 case round=>
  obtain ⟨k,hk,rfl⟩:=hrel
  by_cases hlt:k<m.length
  ·obtain ⟨b',o',B',c',hh,hc,-,-,-,-⟩:=h0.at_ (i:=k) (r:=m[k]) (by simp [hlt])
   injection hh with hh
   injection hh with e1 e2
   subst e1 e2
   rw [HG.out k m[k] (by simp [hlt])] at hc
   go_wp2
   exact ⟨⟨k+1,by omega,by go_num⟩,by simp [intOf]<;>omega⟩
  ·go_wp2
   go_quiet (fail)
   go_wp2
   go_ret3
   exact ⟨rfl,Step.of _ _⟩
theorem rSquare_ok {w0 w:World} {A:Option Addr} {c:Nat} {m:List (List Int)} (h:MatV w0 A m) (h1:1<=m.length) (h2:m.length<=16) (hn:AllLen m m.length) [hx:Ext w0 w]:
  Calls Tryz.prog 141 #[.slice A m.length c] w (RetVal w (.tuple #[.int .i64 m.length,.bool true])):=by
 go_enter Tryz.func141,Tryz.ntmps141
 go_wp2_with (go_at_call 155;refine (rShape_ok h m.length h1 h2 h1 h2 hn).mono ?_;rintro e w1 ⟨rfl,hs1⟩)
 go_ret2
 exact ⟨rfl,Step.of _ _⟩
theorem OwnI.gne {w:World} {lo g n:Nat} {hs:List (Nat×Nat)} {a:List (List Int)} (h:OwnI w lo g n hs a) {i b c:Nat} (hp:hs[i]? =some (b,c)) (hi:i<a.length):g≠b:=fun e=>by
 obtain ⟨r,hr⟩:∃r,a[i]? =some r:=⟨_,List.getElem?_eq_getElem hi⟩
 obtain ⟨cs,hcs⟩:=(h.row i _ r hp hr).heap
 have h1:=h.head
 unfold VRow at h1
 rw [e,hcs] at h1
 injection h1 with h1
 injection h1 with _ h1
 exact absurd h1 (by decide)
theorem OwnI.hdrX {w:World} {lo g n:Nat} {hs:List (Nat×Nat)} {a:List (List Int)} (h:OwnI w lo g n hs a) {i b c:Nat} (hp:hs[i]? =some (b,c)) (hi:i<a.length) (W:World) (hx:Ext w W):
  W.cell? ⟨g,i,none⟩=some (.slice (some ⟨b,0,none⟩) n c)/\∀(x y:Nat) (u v:Value),((W.setCell ⟨b,x,none⟩ u).setCell ⟨b,y,none⟩ v).cell? ⟨g,i,none⟩=some (.slice (some ⟨b,0,none⟩) n c):=by
 have hv:(hs.map (headV n))[i]? =some (.slice (some ⟨b,0,none⟩) n c):=by simp [hp,headV]
 have hg:=h.gne hp hi
 refine ⟨(h.head.ext hx).cell hv,fun x y u v=>?_⟩
 exact (((h.head.ext hx).far (p:=⟨b,x,none⟩) hg u).far (p:=⟨b,y,none⟩) hg v).cell hv
theorem OwnI.lo_row {w:World} {lo g n:Nat} {hs:List (Nat×Nat)} {a:List (List Int)} (h:OwnI w lo g n hs a) {i b c:Nat} (hp:hs[i]? =some (b,c)):lo<=b:=(h.new _ (List.mem_of_getElem? hp)).1
theorem rFromInts_ok {w0 w:World} {A:Option Addr} {c:Nat} {m:List (List Int)} (h:MatA w0 A m) (n:Nat) (h1:1<=m.length) (h2:m.length<=16) (h3:1<=n) (h4:n<=16) (hn:AllLen m n) (h64:Fits64 m) [hx:Ext w0 w]:
  Calls Tryz.prog 89 #[.slice A m.length c] w (RetOwnIB w n m):=by
 have h0:=h.ext hx
 have hg:∀(i:Nat) (r:List Int),m[i]? =some r->r.length=n:=fun i r hr=>hn r (List.mem_of_getElem? hr)
 have hte:=tab_eq m n hn
 obtain ⟨b,o,B,c0,rfl,hc0,-,-,-,hb⟩:=h0.at_ (i:=0) (r:=m[0]) (by simp)
 rw [hg 0 m[0] (by simp)] at hc0
 simp only [Nat.add_zero] at hc0
 have HG:=Lib.hid hg
 have HT:=Lib.hid hte
 have H64:=Lib.hid h64
 clear hg hn hte h64
 obtain ⟨F,hF⟩:∃F:Nat->Nat->Int,F=fun i j=>(m.getD i []).getD j 0:=⟨_,rfl⟩
 rw [<-hF] at HT
 have HF:=Lib.hid hF
 clear hF
 have hd1:decide ((m.length:Int)<1)=false:=by simp;omega
 have hd2:decide ((16:Int)<(m.length:Int))=false:=by simp;omega
 have hd3:decide ((n:Int)<1)=false:=by simp;omega
 have hd4:decide ((16:Int)<(n:Int))=false:=by simp;omega
 go_enter Tryz.func89,Tryz.ntmps89
 go_wp2
 go_loop [5,19] (fun _ i=>∃k:Nat,k<=m.length/\i= .int .i64 k) (fun _ i=>m.length-(intOf i).toNat)
 case atStart=>exact ⟨0,by omega,rfl⟩
 case round=>
  obtain ⟨k,hk,rfl⟩:=hrel
  by_cases hlt:k<m.length
  ·obtain ⟨b',o',B',c',hh,hc,-,-,-,-⟩:=h0.at_ (i:=k) (r:=m[k]) (by simp [hlt])
   injection hh with hh
   injection hh with e1 e2
   subst e1 e2
   rw [HG.out k m[k] (by simp [hlt])] at hc
   go_wp2
   exact ⟨⟨k+1,by omega,by go_num⟩,by simp [intOf]<;>omega⟩
  ·go_wp2_with (go_at_call 147;refine (rZero_any m.length n (by omega) (by omega)).mono ?_;rintro e w2 ⟨g,hs,cz,rfl,hO,hcz1,hcz2,hs2⟩;rw [tab_length] at hcz1 |-)
   have HO:=Lib.hid hO
   clear hO
   go_loopw [7,8,50] (fun _ _ i wr=>∃k:Nat,k<=m.length/\i= .int .i64 k/\Hid (OwnI wr w.heap.size g n hs (tab (partF F k 0) m.length n))/\Ext w wr) (fun _ _ i _=>m.length-(intOf i).toNat)
   case atStart=>exact ⟨0,by omega,rfl,Lib.hid (by rw [partF_zero];exact HO.out),inferInstance⟩
   case round=>
    obtain ⟨k,hk,rfl,HO1,hxr⟩:=hrel
    obtain ⟨wo,rfl⟩:∃wo:World,wo=wr:=⟨_,rfl⟩
    by_cases hlt:k<m.length
    ·obtain ⟨b',o',B',c',hh,hc,hI,-,-,hb'⟩:=(h0.ext hxr).at_ (i:=k) (r:=m[k]) (by simp [hlt])
     injection hh with hh
     injection hh with e1 e2
     subst e1 e2
     have hrl:=HG.out k m[k] (by simp [hlt])
     rw [hrl] at hc
     have HI:=Lib.hid hI
     have HRL:=Lib.hid hrl
     have HC:=Lib.hid hc
     clear hI hrl
     go_wp2
     go_loopw [8,58] (fun _ j wr=>∃q:Nat,q<=n/\j= .int .i64 q/\Hid (OwnI wr w.heap.size g n hs (tab (partF F k q) m.length n))/\Ext w wr) (fun _ j _=>n-(intOf j).toNat)
     case atStart=>exact ⟨0,by omega,rfl,HO1,inferInstance⟩
     case round=>
      obtain ⟨q,hq,rfl,HO2,hxq⟩:=hrel
      by_cases hltq:q<n
      ·obtain ⟨b1,c1,hp1,d1,d2,d3,d4,d5,d6⟩:=HO2.out.hdr (i:=k) (by rw [tab_length];exact hlt)
       have HP1:=Lib.hid hp1
       have HX:=Lib.hid (fun W hh=>HO2.out.hdrX hp1 (by rw [tab_length];exact hlt) W hh)
       have hlo:=HO2.out.lo_row hp1
       have hnw:New b1 w:=⟨hlo⟩
       obtain ⟨b2,o2,B2,c2,hh,hc2,hI2,-,-,hb2⟩:=h0.at_ (i:=k) (r:=m[k]) (by simp [hlt])
       injection hh with hh
       injection hh with e1 e2
       subst e1 e2
       rw [HRL.out] at hc2
       obtain ⟨b3,o3,x3,rfl,hx3,hc3,hb3⟩:=hI2.at_ (i:=q) (by rw [HRL.out];exact hltq)
       have HLL:Hid (∀W,Ext w W->W.cell? ⟨b,o+k,none⟩=some (.slice (some ⟨b3,o3,none⟩) n c2)/\W.cell? ⟨b3,o3+q,none⟩=some (.int .i64 x3)):=Lib.hid (fun W hh=>⟨(hh.below.cell (p:=⟨b,o+k,none⟩) hb2).trans hc2,(hh.below.cell (p:=⟨b3,o3+q,none⟩) hb3).trans hc3⟩)
       clear hc2 hc3
       have hfit:=H64.out m[k] (List.getElem_mem hlt) x3 (List.mem_of_getElem? hx3)
       have HX3:Hid (x3=F k q):=Lib.hid (by rw [HF.out];simp [List.getD,hlt,hx3])
       have HE:Hid (∀W,Ext wr W->∃s B k' d,W.cell? ⟨b1,q*2,none⟩=some (.bool s)/\W.cell? ⟨b1,q*2+1,none⟩=some (.slice B k' d)/\W.frozen? ⟨b1,q*2,none⟩=false/\W.frozen? ⟨b1,q*2+1,none⟩=false/\b1<W.heap.size):=Lib.hid (fun W hh=>by
        obtain ⟨s,B,k',d,a1,a2,-,a4,a5⟩:=(HO2.out.ext hh).entry (i:=k) HP1.out (by rw [tab_length];exact hlt) hltq
        exact ⟨s,B,k',d,a1,a2,a4,a5,Nat.lt_of_lt_of_le d5 hh.size⟩)
       clear hp1 hx3 hI2
       obtain ⟨hf1,hf2⟩:=hfit
       go_wp2
       go_region_held3 (fun w'=>w'.cell? ⟨g,k,none⟩=some (.slice (some ⟨b1,0,none⟩) n c1)/\w'.cell? ⟨b,o+k,none⟩=some (.slice (some ⟨b3,o3,none⟩) n c2)/\w'.cell? ⟨b3,o3+q,none⟩=some (.int .i64 x3))
        (first |exact ⟨(HX.out _ inferInstance).1,HLL.out _ inferInstance⟩ |exact ⟨(HX.out _ inferInstance).2 _ _ _ _,HLL.out _ inferInstance⟩)
        (first
         |(go_at_call 113;refine (rSmall_any x3 hf1 hf2 _).mono ?_;rintro e w5 ⟨g5,B5,k5,n5,rfl,hz5,hs5⟩;obtain ⟨s6,B6,k6,n6,f1,f2,f3,f4,f5⟩:=HE.out w5 inferInstance))
       go_wp2
       refine ⟨⟨q+1,by omega,by go_num,Lib.hid ?_,?_⟩,by simp [intOf]<;>omega⟩
       ·have hO5:=(HO2.out.ext (inferInstance:Ext wr w5)).set HP1.out (by rw [tab_length];exact hlt) hltq hz5
        rw [HX3.out,partF_set hlt hltq] at hO5
        exact hO5
       ·exact ((inferInstance:Ext w w5).setCell (p:=⟨b1,q*2,none⟩) hlo _).setCell (p:=⟨b1,q*2+1,none⟩) hlo _
      ·obtain rfl:q=n:=by omega
       go_wp2
       exact ⟨⟨k+1,by omega,by go_num,Lib.hid (by rw [<-partF_next];exact HO2.out),hxq⟩,by simp [intOf]<;>omega⟩
    ·obtain rfl:k=m.length:=by omega
     go_wp2
     go_ret2
     refine ⟨g,hs,cz,rfl,?_,hcz1,hcz2,hxr.toStep⟩
     have :=HO1.out
     rw [partF_all,HT.out] at this
     exact this
theorem IntV.bd {w:World} {g:Bool} {B:Option Addr} {n c k:Nat} {z:Int} (h:IntV w g B n c z) (hb:Bd k z) (hk:k<=8000000000000):n<=274877906943:=by
 have h1:n<=k / 32+1:=by
  refine h.len ?_
  have h2:z.natAbs<2^(32*(k / 32+1)):=Nat.lt_of_lt_of_le hb (Nat.pow_le_pow_right (by omega) (by omega))
  rw [<-pow32] at h2
  have h3:=Int.ofNat_lt.2 h2
  rw [Int.natCast_pow] at h3
  exact h3
 omega
theorem MatV.entry {w:World} {A:Option Addr} {m:List (List Int)} {n:Nat} (h:MatV w A m) (hn:AllLen m n) {i j:Nat} (hi:i<m.length) (hj:j<n):
  ∃b o b' o' c g B k d,A=some ⟨b,o,none⟩/\w.cell? ⟨b,o+i,none⟩=some (.slice (some ⟨b',o',none⟩) n c)/\w.cell? ⟨b',o'+j*2,none⟩=some (.bool g)/\w.cell? ⟨b',o'+j*2+1,none⟩=some (.slice B k d)/\IntV w g B k d (ent m i j)/\b<w.heap.size/\b'<w.heap.size/\n<=c/\c<=9223372036854775807:=by
 obtain ⟨r,hr⟩:∃r,m[i]? =some r:=⟨_,List.getElem?_eq_getElem hi⟩
 have hl:=hn r (List.mem_of_getElem? hr)
 obtain ⟨b,o,B,c,rfl,hc,hI,h1,h2,hb⟩:=h.at_ hr
 obtain ⟨b',o',g,B',k,d,rfl,e1,e2,hz,hb'⟩:=hI.at_ (i:=j) (by omega)
 have he:=ent_get hr (j:=j) (by omega)
 rw [List.getElem?_eq_getElem (by omega)] at he
 injection he with he
 rw [hl] at hc h1
 rw [he] at hz
 exact ⟨b,o,b',o',c,g,B',k,d,rfl,hc,e1,e2,hz,hb,hb',h1,h2⟩
theorem MatV.hdr {w:World} {A:Option Addr} {m:List (List Int)} {n:Nat} (h:MatV w A m) (hn:AllLen m n) {i:Nat} (hi:i<m.length):
  ∃b o B c,A=some ⟨b,o,none⟩/\w.cell? ⟨b,o+i,none⟩=some (.slice B n c)/\IntsV w B (m.getD i [])/\b<w.heap.size/\n<=c/\c<=9223372036854775807:=by
 obtain ⟨r,hr⟩:∃r,m[i]? =some r:=⟨_,List.getElem?_eq_getElem hi⟩
 have hl:=hn r (List.mem_of_getElem? hr)
 obtain ⟨b,o,B,c,rfl,hc,hI,h1,h2,hb⟩:=h.at_ hr
 have e:m.getD i []=r:=by simp [List.getD,hr]
 rw [hl] at hc h1
 exact ⟨b,o,B,c,rfl,hc,by rw [e];exact hI,hb,h1,h2⟩
theorem rOf_ok {w0 w:World} {A:Option Addr} {c:Nat} {m:List (List Int)} (h:MatA w0 A m) (n:Nat) (h1:1<=m.length) (h2:m.length<=16) (h3:1<=n) (h4:n<=16) (hn:AllLen m n) (h64:Fits64 m) [hx:Ext w0 w]:
  Calls Tryz.prog 46 #[.slice A m.length c] w (RetOwnI w n m):=by
 go_enter Tryz.func46,Tryz.ntmps46
 go_wp2_with (go_at_call 89;refine (rFromInts_ok h n h1 h2 h3 h4 hn h64).mono ?_;rintro e w2 ⟨g,hs,cz,rfl,hO,hcz1,hcz2,hs2⟩)
 go_ret
 exact ⟨g,hs,cz,rfl,hO,hcz1,hcz2,Step.of _ _⟩
def idM (n:Nat):List (List Int):=tab (fun x y=>if x=y then 1 else 0) n n
def idTo (k:Nat):Nat->Nat->Int:=fun x y=>if x=y/\x<k then 1 else 0
theorem idTo_set {n k:Nat} (hk:k<n):setE (tab (idTo k) n n) k k 1=tab (idTo (k+1)) n n:=by
 rw [setE_tab hk hk]
 refine tab_eq_of fun x y _ _=>?_
 unfold idTo
 by_cases h:x=k/\y=k
 ·rw [if_pos h,if_pos (by omega)]
 ·rw [if_neg h]
  by_cases h2:x=y/\x<k
  ·rw [if_pos h2,if_pos (by omega)]
  ·rw [if_neg h2,if_neg (by omega)]
theorem idTo_all (n:Nat):tab (idTo n) n n=idM n:=tab_eq_of fun x y hx _=>by
 unfold idTo
 by_cases h:x=y
 ·rw [if_pos ⟨h,hx⟩,if_pos h]
 ·rw [if_neg (by omega),if_neg h]
theorem idTo_zero (n:Nat):tab (idTo 0) n n=tab (fun _ _=>0) n n:=tab_eq_of fun x y _ _=>by unfold idTo;rw [if_neg (by omega)]
theorem rIdentity_ok {w:World} (n:Nat) (h1:1<=n) (h2:n<=16):
  Calls Tryz.prog 84 #[.int .i64 n] w (RetOwnIB w n (idM n)):=by
 have hd1:decide ((n:Int)<1)=false:=by simp;omega
 have hd2:decide ((16:Int)<(n:Int))=false:=by simp;omega
 go_enter Tryz.func84,Tryz.ntmps84
 go_wp2_with (go_at_call 147;refine (rZero_any n n (by omega) (by omega)).mono ?_;rintro e w2 ⟨g,hs,cz,rfl,hO,hcz1,hcz2,hs2⟩;rw [tab_length] at hcz1 |-)
 have HO:=Lib.hid hO
 clear hO
 go_loopw [5,17] (fun _ i wr=>∃k:Nat,k<=n/\i= .int .i64 k/\Hid (OwnI wr w.heap.size g n hs (tab (idTo k) n n))/\Ext w wr) (fun _ i _=>n-(intOf i).toNat)
 case atStart=>exact ⟨0,by omega,rfl,Lib.hid (by rw [idTo_zero];exact HO.out),inferInstance⟩
 case round=>
  obtain ⟨k,hk,rfl,HO2,hxr⟩:=hrel
  by_cases hlt:k<n
  ·obtain ⟨b1,c1,hp1,d1,d2,d3,d4,d5,d6⟩:=HO2.out.hdr (i:=k) (by rw [tab_length];exact hlt)
   have HP1:=Lib.hid hp1
   have HX:=Lib.hid (fun W hh=>HO2.out.hdrX hp1 (by rw [tab_length];exact hlt) W hh)
   have hlo:=HO2.out.lo_row hp1
   have hnw:New b1 w:=⟨hlo⟩
   have HE:Hid (∀W,Ext wr W->∃s B k' d,W.cell? ⟨b1,k*2,none⟩=some (.bool s)/\W.cell? ⟨b1,k*2+1,none⟩=some (.slice B k' d)/\W.frozen? ⟨b1,k*2,none⟩=false/\W.frozen? ⟨b1,k*2+1,none⟩=false/\b1<W.heap.size):=Lib.hid (fun W hh=>by
    obtain ⟨s,B,k',d,a1,a2,-,a4,a5⟩:=(HO2.out.ext hh).entry (i:=k) HP1.out (by rw [tab_length];exact hlt) hlt
    exact ⟨s,B,k',d,a1,a2,a4,a5,Nat.lt_of_lt_of_le d5 hh.size⟩)
   clear hp1
   go_wp2
   go_region_held3 (fun w'=>w'.cell? ⟨g,k,none⟩=some (.slice (some ⟨b1,0,none⟩) n c1))
    (first |exact (HX.out _ inferInstance).1 |exact (HX.out _ inferInstance).2 _ _ _ _)
    (first
     |(go_at_call 113;refine (rSmall_any 1 (by omega) (by omega) _).mono ?_;rintro e w5 ⟨g5,B5,k5,n5,rfl,hz5,hs5⟩;obtain ⟨s6,B6,k6,n6,f1,f2,f3,f4,f5⟩:=HE.out w5 inferInstance))
   go_wp2
   refine ⟨⟨k+1,by omega,by go_num,Lib.hid ?_,?_⟩,by simp [intOf]<;>omega⟩
   ·have hO5:=(HO2.out.ext (inferInstance:Ext wr w5)).set HP1.out (by rw [tab_length];exact hlt) hlt hz5
    rw [idTo_set hlt] at hO5
    exact hO5
   ·exact ((inferInstance:Ext w w5).setCell (p:=⟨b1,k*2,none⟩) hlo _).setCell (p:=⟨b1,k*2+1,none⟩) hlo _
  ·obtain rfl:k=n:=by omega
   go_wp2
   go_ret2
   have hl:(idM k).length=k:=tab_length _ _ _
   refine ⟨g,hs,cz,by rw [hl];rfl,?_,by rw [hl];exact hcz1,hcz2,hxr.toStep⟩
   have :=HO2.out
   rw [idTo_all] at this
   exact this
theorem rTranspose_ok {w0 w:World} {A:Option Addr} {c:Nat} {m:List (List Int)} (h:MatV w0 A m) (n:Nat) (h1:m.length=n) (h3:1<=n) (h4:n<=16) (hn:AllLen m n) (hbd:∀i j,∃k,k<=8000000000000/\Bd k (ent m i j)) [hx:Ext w0 w]:
  Calls Tryz.prog 156 #[.slice A n c] w (RetOwnIB w n (transM n m)):=by
 have h0:=h.ext hx
 have hsh:=fun W (hh:Ext w W)=>rShape_ok (w:=W) (c:=c) h0 n (by omega) (by omega) h3 h4 hn
 rw [h1] at hsh
 have HSH:=Lib.hid hsh
 have HA:=Lib.hid hn
 have HB:=Lib.hid hbd
 have HL:=Lib.hid h1
 clear hsh hn hbd h1
 obtain ⟨F,hF⟩:∃F:Nat->Nat->Int,F=fun i j=>ent m j i:=⟨_,rfl⟩
 have HF:=Lib.hid hF
 clear hF
 go_enter Tryz.func156,Tryz.ntmps156
 go_wp2_with (first
  |(go_at_call 155;refine (HSH.out _ inferInstance).mono ?_;rintro e w1 ⟨rfl,hs1⟩)
  |(go_at_call 147;refine (rZero_any n n (by omega) (by omega)).mono ?_;rintro e w2 ⟨g,hs,cz,rfl,hO,hcz1,hcz2,hs2⟩;rw [tab_length] at hcz1 |-;have HO:=Lib.hid (show OwnI w2 w.heap.size g n hs _ from ⟨hO.head,Nat.le_trans (inferInstance:Ext w w1).size hO.glo,hO.len,hO.dist,fun x hx=>⟨Nat.le_trans (inferInstance:Ext w w1).size (hO.new x hx).1,(hO.new x hx).2⟩,hO.all,hO.row⟩);clear hO))
 go_loopw [8,9,23] (fun _ _ i wr=>∃k:Nat,k<=n/\i= .int .i64 k/\Hid (OwnI wr w.heap.size g n hs (tab (partC F k 0) n n))/\Ext w wr) (fun _ _ i _=>n-(intOf i).toNat)
 case atStart=>exact ⟨0,by omega,rfl,Lib.hid (by rw [partC_zero];exact HO.out),inferInstance⟩
 case round=>
  obtain ⟨k,hk,rfl,HO1,hxr⟩:=hrel
  obtain ⟨wo,rfl⟩:∃wo:World,wo=wr:=⟨_,rfl⟩
  by_cases hlt:k<n
  ·obtain ⟨b,o,B,c0,rfl,hc0,-,hb0,-,-⟩:=h0.hdr HA.out (i:=k) (by rw [HL.out];exact hlt)
   have hc:=(hxr.below.cell (p:=⟨b,o+k,none⟩) hb0).trans hc0
   clear hc0
   go_wp2
   go_loopw [9,31] (fun _ j wr=>∃q:Nat,q<=n/\j= .int .i64 q/\Hid (OwnI wr w.heap.size g n hs (tab (partC F k q) n n))/\Ext w wr) (fun _ j _=>n-(intOf j).toNat)
   case atStart=>exact ⟨0,by omega,rfl,HO1,inferInstance⟩
   case round=>
    obtain ⟨q,hq,rfl,HO2,hxq⟩:=hrel
    by_cases hltq:q<n
    ·obtain ⟨b1,c1,hp1,d1,d2,d3,d4,d5,d6⟩:=HO2.out.hdr (i:=q) (by rw [tab_length];exact hltq)
     have HP1:=Lib.hid hp1
     have HX:=Lib.hid (fun W hh=>HO2.out.hdrX hp1 (by rw [tab_length];exact hltq) W hh)
     have hlo:=HO2.out.lo_row hp1
     have hnw:New b1 w:=⟨hlo⟩
     obtain ⟨b2,o2,b3,o3,c2,g3,B3,n3,c3,hh,hc2,hc3,hc4,hz3,hb2,hb3,-,-⟩:=h0.entry HA.out (i:=k) (j:=q) (by rw [HL.out];exact hlt) hltq
     injection hh with hh
     injection hh with e1 e2
     subst e1 e2
     have HLL:Hid (∀W,Ext w W->W.cell? ⟨b,o+k,none⟩=some (.slice (some ⟨b3,o3,none⟩) n c2)/\W.cell? ⟨b3,o3+q*2,none⟩=some (.bool g3)/\W.cell? ⟨b3,o3+q*2+1,none⟩=some (.slice B3 n3 c3)):=Lib.hid (fun W hh=>⟨(hh.below.cell (p:=⟨b,o+k,none⟩) hb2).trans hc2,(hh.below.cell (p:=⟨b3,o3+q*2,none⟩) hb3).trans hc3,(hh.below.cell (p:=⟨b3,o3+q*2+1,none⟩) hb3).trans hc4⟩)
     have hFe:ent m k q=F q k:=by rw [HF.out]
     rw [hFe] at hz3
     have hlim:n3<=1099511627776:=by
      obtain ⟨kk,hk1,hk2⟩:=HB.out k q
      rw [hFe] at hk2
      have :=hz3.bd hk2 hk1
      omega
     have HN:=Lib.hid (fun W (hh:Ext w W)=>rNormalize_any (w:=W) hz3 hlim)
     have HE:Hid (∀W,Ext wr W->∃s B k' d,W.cell? ⟨b1,k*2,none⟩=some (.bool s)/\W.cell? ⟨b1,k*2+1,none⟩=some (.slice B k' d)/\W.frozen? ⟨b1,k*2,none⟩=false/\W.frozen? ⟨b1,k*2+1,none⟩=false/\b1<W.heap.size):=Lib.hid (fun W hh=>by
      obtain ⟨s,B,k',d,a1,a2,-,a4,a5⟩:=(HO2.out.ext hh).entry (i:=q) HP1.out (by rw [tab_length];exact hltq) hlt
      exact ⟨s,B,k',d,a1,a2,a4,a5,Nat.lt_of_lt_of_le d5 hh.size⟩)
     clear hp1 hc2 hc3 hc4 hz3 hFe hlim
     go_wp2
     go_region_held3 (fun w'=>w'.cell? ⟨g,q,none⟩=some (.slice (some ⟨b1,0,none⟩) n c1)/\w'.cell? ⟨b,o+k,none⟩=some (.slice (some ⟨b3,o3,none⟩) n c2)/\w'.cell? ⟨b3,o3+q*2,none⟩=some (.bool g3)/\w'.cell? ⟨b3,o3+q*2+1,none⟩=some (.slice B3 n3 c3))
      (first |exact ⟨(HX.out _ inferInstance).1,HLL.out _ inferInstance⟩ |exact ⟨(HX.out _ inferInstance).2 _ _ _ _,HLL.out _ inferInstance⟩)
      (first
       |(go_at_call 146;refine (HN.out _ inferInstance).mono ?_;rintro e w5 ⟨g5,B5,k5,n5,rfl,hz5,hs5⟩;obtain ⟨s6,B6,k6,n6,f1,f2,f3,f4,f5⟩:=HE.out w5 inferInstance))
     go_wp2
     refine ⟨⟨q+1,by omega,by go_num,Lib.hid ?_,?_⟩,by simp [intOf]<;>omega⟩
     ·have hO5:=(HO2.out.ext (inferInstance:Ext wr w5)).set HP1.out (by rw [tab_length];exact hltq) hlt hz5
      rw [partC_set hltq hlt] at hO5
      exact hO5
     ·exact ((inferInstance:Ext w w5).setCell (p:=⟨b1,k*2,none⟩) hlo _).setCell (p:=⟨b1,k*2+1,none⟩) hlo _
    ·obtain rfl:q=n:=by omega
     go_wp2
     exact ⟨⟨k+1,by omega,by go_num,Lib.hid (by rw [<-partC_next];exact HO2.out),hxq⟩,by simp [intOf]<;>omega⟩
  ·obtain rfl:k=n:=by omega
   go_wp2
   go_ret2
   have hl:(transM k m).length=k:=tab_length _ _ _
   refine ⟨g,hs,cz,by rw [hl];rfl,?_,by rw [hl];exact hcz1,hcz2,hxr.toStep⟩
   have :=HO1.out
   rw [partC_all,HF.out] at this
   exact this
def BdL (k:Nat) (l:List Int):Prop:=∀i,Bd k (l.getD i 0)
theorem dot_bd {k n:Nat} {F:Nat->Int} (h:∀i,i<n->Bd k (F i)) (q:Nat):q<=n->Bd (k+q) (sumR q F):=by
 induction q with
 |zero=>intro _;exact Bd.zero _
 |succ q ih=>
  intro hq
  rw [sumR_succ]
  exact ((ih (by omega)).add ((h q (by omega)).mono (by omega)))
theorem IntsV.atD {w:World} {A:Option Addr} {zs:List Int} (h:IntsV w A zs) {i:Nat} (hi:i<zs.length):
  ∃b o g B n c,A=some ⟨b,o,none⟩/\w.cell? ⟨b,o+i*2,none⟩=some (.bool g)/\w.cell? ⟨b,o+i*2+1,none⟩=some (.slice B n c)/\IntV w g B n c (zs.getD i 0)/\b<w.heap.size:=by
 obtain ⟨b,o,g,B,n,c,h1,h2,h3,h4,h5⟩:=h.at_ hi
 have e:zs.getD i 0=zs[i]:=by simp [List.getD,hi]
 exact ⟨b,o,g,B,n,c,h1,h2,h3,by rw [e];exact h4,h5⟩
theorem rDot_ok {w0 w1 w:World} {A B:Option Addr} {c d n k:Nat} {xs ys:List Int} (ha':IntsV w0 A xs) (hb':IntsV w1 B ys) (h1:xs.length=n) (h2:ys.length=n) (h3:n<=16) (hk:k<=1000000000000) (hX:BdL k xs) (hY:BdL k ys) [hx:Ext w0 w] [hy:Ext w1 w]:
  Calls Tryz.prog 124 #[.slice A n c,.slice B n d] w (RetInt w (sumR n fun i=>xs.getD i 0*ys.getD i 0)):=by
 have ha:=ha'.ext hx
 have hb:=hb'.ext hy
 obtain ⟨F,hF⟩:∃F:Nat->Int,F=fun i=>xs.getD i 0*ys.getD i 0:=⟨_,rfl⟩
 rw [<-hF]
 have HBD:Hid (∀q,q<=n->Bd (2*k+q) (sumR q F)):=Lib.hid (fun q hq=>by
  refine dot_bd (n:=n) (fun i _=>?_) q hq
  rw [hF]
  have :=(hX i).mul (hY i)
  rwa [show k+k=2*k by omega] at this)
 have HF:=Lib.hid hF
 have HX:=Lib.hid hX
 have HY:=Lib.hid hY
 have H1:=Lib.hid h1
 have H2:=Lib.hid h2
 clear hF hX hY ha' hb' h1 h2
 go_enter Tryz.func124,Tryz.ntmps124
 go_wp2
 go_loopw [6,10] (fun _ i wr=>∃q:Nat,q<=n/\i= .int .i64 q/\Hid (Box wr (w.heap.size+1) (sumR q F))/\Hid (wr.heap[w.heap.size]? =some (.cells #[.bool false,.slice none 0 0] 117 (0,0)))/\Ext w wr) (fun _ i _=>n-(intOf i).toNat)
 case atStart=>
  refine ⟨0,by omega,rfl,Lib.hid ⟨false,none,0,0,BlkAt.eq,IntV.zero _ none 0 (by omega)⟩,Lib.hid BlkAt.eq,inferInstance⟩
 case round=>
  obtain ⟨q,hq,rfl,HB,HR,hxr⟩:=hrel
  by_cases hlt:q<n
  ·obtain ⟨g0,B0,n0,c0,hbk,p1,p2,p3,p4,p5,hz0⟩:=HB.out.cells
   obtain ⟨b1,o1,g1,B1,n1,c1,rfl,x1,x2,hz1,hb1⟩:=(ha.ext hxr).atD (i:=q) (by rw [H1.out];exact hlt)
   obtain ⟨b2,o2,g2,B2,n2,c2,rfl,y1,y2,hz2,hb2⟩:=(hb.ext hxr).atD (i:=q) (by rw [H2.out];exact hlt)
   have l0:=hz0.bd (HBD.out q hq) (by omega)
   have l1:=hz1.bd (HX.out q) (by omega)
   have l2:=hz2.bd (HY.out q) (by omega)
   have o0:Old (w.heap.size+1) wr:=⟨p5⟩
   have HM:=Lib.hid (fun W (hh:Ext wr W)=>rMul_any (w:=W) hz1 hz2 (by omega) (by omega))
   have hFq:xs.getD q 0*ys.getD q 0=F q:=by rw [HF.out]
   rw [hFq] at HM
   have HAD:Hid (∀(W1 W:World) (g:Bool) B k' d',IntV W1 g B k' d' (F q)->Ext wr W->Ext W1 W->Calls Tryz.prog 180 #[.agg #[.bool g0,.slice B0 n0 c0],.agg #[.bool g,.slice B k' d']] W (RetInt W (sumR (q+1) F))):=Lib.hid (fun W1 W g B k' d' hz e1 e2=>by
    have hl:=hz.bd (k:=2*k) (by rw [<-hFq,show 2*k=k+k by omega];exact (HX.out q).mul (HY.out q)) (by omega)
    rw [sumR_succ]
    exact rAdd_any hz0 hz (by omega) (by omega))
   have HBK:=Lib.hid hbk
   have HCE:=Lib.hid (And.intro p1 p2)
   have HFZ:=Lib.hid (And.intro p3 p4)
   clear hbk hFq hz0 hz1 hz2 l0 l1 l2
   go_wp2
   go_region_with (first
    |(go_at_call 181;refine (HM.out _ inferInstance).mono ?_;rintro e w5 ⟨g5,B5,k5,d5,rfl,hz5,hs5⟩;have r1:w5.cell? ⟨w.heap.size+1,0,none⟩=some (.bool g0):=(cellE wr).trans HCE.out.1;have r2:w5.cell? ⟨w.heap.size+1,1,none⟩=some (.slice B0 n0 c0):=(cellE wr).trans HCE.out.2)
    |(go_at_call 180;refine (HAD.out _ _ _ _ _ _ hz5 inferInstance inferInstance).mono ?_;rintro e w6 ⟨g6,B6,k6,d6,rfl,hz6,hs6⟩;have s1:w6.cell? ⟨w.heap.size+1,0,none⟩=some (.bool g0):=(cellE wr).trans HCE.out.1;have s2:w6.cell? ⟨w.heap.size+1,1,none⟩=some (.slice B0 n0 c0):=(cellE wr).trans HCE.out.2;have fz0:w6.frozen? ⟨w.heap.size+1,0,none⟩=false:=(frozenE wr).trans HFZ.out.1;have fz1:w6.frozen? ⟨w.heap.size+1,1,none⟩=false:=(frozenE wr).trans HFZ.out.2))
   all_goals
    go_wp2
    refine ⟨⟨q+1,by omega,by go_num,Lib.hid ?_,Lib.hid ?_,?_⟩,by simp [intOf]<;>omega⟩
    ·exact Box.put (heap_of_ext (inferInstance:Ext wr w6) HBK.out) hz6
    ·exact heap_setCell_far (heap_setCell_far (heap_of_ext (inferInstance:Ext wr w6) HR.out) (p:=⟨w.heap.size+1,0,none⟩) (by simp) _) (p:=⟨w.heap.size+1,1,none⟩) (by simp) _
    ·exact inferInstance
  ·obtain rfl:q=n:=by omega
   obtain ⟨g0,B0,n0,c0,hbk,p1,p2,p3,p4,p5,hz0⟩:=HB.out.cells
   obtain ⟨q1,q2,q3,q4,q5⟩:=box_cells2 HR.out
   have tq:Typed w.heap.size 117 wr:=⟨_,_,HR.out⟩
   have HZ:=Lib.hid hz0
   clear hz0 hbk
   go_wp2
   exact bodyPost_ret (v:= .agg #[.bool g0,.slice B0 n0 c0]) (by simp [results,Tryz.results124,go_sem,q1,q2]) rfl ⟨_,_,_,_,rfl,HZ.out.keeps,Step.of _ _⟩
theorem ent_tab2 (F:Nat->Nat->Int) (r c i j:Nat) (hi:i<r) (hj:j<c):ent (tab F r c) i j=F i j:=by
 unfold ent
 have e:(tab F r c).getD i []=(List.range c).map fun y=>F i y:=by simp [List.getD,tab_get F r c i hi]
 rw [e]
 simp [List.getD,hj]
theorem row_len {m:List (List Int)} {n i:Nat} (hn:AllLen m n) (hi:i<m.length):(m.getD i []).length=n:=by
 have e:m.getD i []=m[i]:=by simp [List.getD,hi]
 rw [e];exact hn _ (List.getElem_mem hi)
theorem rMulM_ok {w0 w1 w:World} {A B:Option Addr} {c d n k:Nat} {a b:List (List Int)} (ha':MatV w0 A a) (hb':MatV w1 B b) (h1:a.length=n) (h2:b.length=n) (h3:1<=n) (h4:n<=16) (hla:AllLen a n) (hlb:AllLen b n) (hk:k<=1000000000000) (hA:∀i j,Bd k (ent a i j)) (hB:∀i j,Bd k (ent b i j)) [hx:Ext w0 w] [hy:Ext w1 w]:
  Calls Tryz.prog 157 #[.slice A n c,.slice B n d] w (RetOwnIB w n (mulM n a b)):=by
 have h0:=ha'.ext hx
 have hb0:=hb'.ext hy
 have hsh:=fun W (hh:Ext w W)=>rShape_ok (w:=W) (c:=c) h0 n (by omega) (by omega) h3 h4 hla
 rw [h1] at hsh
 have HSH:=Lib.hid hsh
 have HTR:=Lib.hid (fun W (hh:Ext w W)=>rTranspose_ok (w:=W) (c:=d) hb0 n h2 h3 h4 hlb (fun i j=>⟨k,by omega,hB i j⟩))
 obtain ⟨t,ht⟩:∃t,t=transM n b:=⟨_,rfl⟩
 rw [<-ht] at HTR
 have htl:t.length=n:=by rw [ht];exact tab_length _ _ _
 have hta:AllLen t n:=by rw [ht];exact tab_allLen _ _ _
 have hte:∀i j,i<n->j<n->ent t i j=ent b j i:=fun i j hi hj=>by rw [ht];exact ent_tab2 _ _ _ _ _ hi hj
 obtain ⟨F,hF⟩:∃F:Nat->Nat->Int,F=fun i j=>sumR n fun k=>ent a i k*ent b k j:=⟨_,rfl⟩
 have hfin:mulM n a b=tab F n n:=by rw [hF];rfl
 have HDT:Hid (∀(W0 W1 W:World) (A1 B1:Option Addr) (c1 d1:Nat) (i j:Nat),i<n->j<n->IntsV W0 A1 (a.getD i [])->IntsV W1 B1 (t.getD j [])->Ext W0 W->Ext W1 W->Calls Tryz.prog 124 #[.slice A1 n c1,.slice B1 n d1] W (RetInt W (F i j))):=Lib.hid (by
  intro W0 W1 W A1 B1 c1 d1 i j hi hj hI hJ e1 e2
  have :=rDot_ok (w:=W) (c:=c1) (d:=d1) (n:=n) (k:=k) hI hJ (row_len hla (by omega)) (row_len hta (by omega)) h4 hk (fun x=>hA i x) (fun x=>by
   show Bd k (ent t j x)
   by_cases hxn:x<n
   ·rw [hte j x hj hxn];exact hB x j
   ·have :ent t j x=0:=by
     unfold ent
     rw [List.getD_eq_getElem?_getD (l:=t.getD j []),List.getElem?_eq_none (by rw [row_len hta (by omega)];omega)];rfl
    rw [this];exact Bd.zero k)
  have e3:(sumR n fun x=>(a.getD i []).getD x 0*(t.getD j []).getD x 0)=F i j:=by
   rw [hF]
   refine sumR_congr fun x hxn=>?_
   show ent a i x*ent t j x=_
   rw [hte j x hj hxn]
  rw [e3] at this
  exact this)
 have HA:=Lib.hid hla
 have HTA:=Lib.hid hta
 have HL:=Lib.hid h1
 have HTL:=Lib.hid htl
 have HFI:=Lib.hid hfin
 clear hsh hla hlb h1 h2 ht hta htl hte hF hfin hA hB
 go_enter Tryz.func157,Tryz.ntmps157
 go_wp2_with (first
  |(go_at_call 155;refine (HSH.out _ inferInstance).mono ?_;rintro e w1' ⟨rfl,hs1⟩)
  |(go_at_call 156;refine (HTR.out _ inferInstance).mono ?_;rintro e w3 ⟨g3,hs3',c3,rfl,hO3,hc31,hc32,hs3⟩;rw [HTL.out] at hc31 |-;have HT3:=Lib.hid hO3.mat;clear hO3)
  |(go_at_call 147;refine (rZero_any n n (by omega) (by omega)).mono ?_;rintro e w2 ⟨g,hs,cz,rfl,hO,hcz1,hcz2,hs2⟩;rw [tab_length] at hcz1 |-;have HO:=Lib.hid hO;clear hO))
 have hx3:Ext w w3:=inferInstance
 go_loopw [12,13,44] (fun _ _ i wr=>∃k:Nat,k<=n/\i= .int .i64 k/\Hid (OwnI wr w3.heap.size g n hs (tab (partF F k 0) n n))/\Ext w3 wr) (fun _ _ i _=>n-(intOf i).toNat)
 case atStart=>exact ⟨0,by omega,rfl,Lib.hid (by rw [partF_zero];exact HO.out),inferInstance⟩
 case round=>
  obtain ⟨k,hk,rfl,HO1,hxr⟩:=hrel
  obtain ⟨wo,rfl⟩:∃wo:World,wo=wr:=⟨_,rfl⟩
  by_cases hlt:k<n
  ·go_wp2
   go_loopw [13,49] (fun _ j wr=>∃q:Nat,q<=n/\j= .int .i64 q/\Hid (OwnI wr w3.heap.size g n hs (tab (partF F k q) n n))/\Ext w3 wr) (fun _ j _=>n-(intOf j).toNat)
   case atStart=>exact ⟨0,by omega,rfl,HO1,inferInstance⟩
   case round=>
    obtain ⟨q,hq,rfl,HO2,hxq⟩:=hrel
    by_cases hltq:q<n
    ·obtain ⟨b1,c1,hp1,d1,d2,d3,d4,d5,d6⟩:=HO2.out.hdr (i:=k) (by rw [tab_length];exact hlt)
     have HP1:=Lib.hid hp1
     have HX:=Lib.hid (fun W hh=>HO2.out.hdrX hp1 (by rw [tab_length];exact hlt) W hh)
     have hlo:=HO2.out.lo_row hp1
     have hnw:New b1 w3:=⟨hlo⟩
     obtain ⟨b2,o2,B2,c2,rfl,hc2,hI2,hb2,-,-⟩:=(h0.ext hx3).hdr HA.out (i:=k) (by rw [HL.out];exact hlt)
     obtain ⟨b5,o5,B5,c5,hh,hc5,hI5,hb5,-,-⟩:=HT3.out.hdr HTA.out (i:=q) (by rw [HTL.out];exact hltq)
     injection hh with hh
     injection hh with e1 e2
     subst e1 e2
     simp only [Nat.zero_add] at hc5
     have HLL:Hid (∀W,Ext w3 W->W.cell? ⟨b2,o2+k,none⟩=some (.slice B2 n c2)/\W.cell? ⟨g3,q,none⟩=some (.slice B5 n c5)):=Lib.hid (fun W hh=>⟨(hh.below.cell (p:=⟨b2,o2+k,none⟩) hb2).trans hc2,(hh.below.cell (p:=⟨g3,q,none⟩) hb5).trans hc5⟩)
     have HN:=Lib.hid (fun W (hh:Ext w3 W)=>HDT.out w3 w3 W B2 B5 c2 c5 k q hlt hltq hI2 hI5 hh hh)
     have HE:Hid (∀W,Ext wr W->∃s B k' d,W.cell? ⟨b1,q*2,none⟩=some (.bool s)/\W.cell? ⟨b1,q*2+1,none⟩=some (.slice B k' d)/\W.frozen? ⟨b1,q*2,none⟩=false/\W.frozen? ⟨b1,q*2+1,none⟩=false/\b1<W.heap.size):=Lib.hid (fun W hh=>by
      obtain ⟨s,B,k',d,a1,a2,-,a4,a5⟩:=(HO2.out.ext hh).entry (i:=k) HP1.out (by rw [tab_length];exact hlt) hltq
      exact ⟨s,B,k',d,a1,a2,a4,a5,Nat.lt_of_lt_of_le d5 hh.size⟩)
     clear hp1 hc2 hc5 hI2 hI5
     go_wp2
     go_region_held3 (fun w'=>w'.cell? ⟨g,k,none⟩=some (.slice (some ⟨b1,0,none⟩) n c1)/\w'.cell? ⟨b2,o2+k,none⟩=some (.slice B2 n c2)/\w'.cell? ⟨g3,q,none⟩=some (.slice B5 n c5))
      (first |exact ⟨(HX.out _ inferInstance).1,HLL.out _ inferInstance⟩ |exact ⟨(HX.out _ inferInstance).2 _ _ _ _,HLL.out _ inferInstance⟩)
      (first
       |(go_at_call 124;refine (HN.out _ inferInstance).mono ?_;rintro e w5 ⟨g5,B5,k5,n5,rfl,hz5,hs5⟩;obtain ⟨s6,B6,k6,n6,f1,f2,f3,f4,f5⟩:=HE.out w5 inferInstance))
     go_wp2
     refine ⟨⟨q+1,by omega,by go_num,Lib.hid ?_,?_⟩,by simp [intOf]<;>omega⟩
     ·have hO5:=(HO2.out.ext (inferInstance:Ext wr w5)).set HP1.out (by rw [tab_length];exact hlt) hltq hz5
      rw [partF_set hlt hltq] at hO5
      exact hO5
     ·exact ((inferInstance:Ext w3 w5).setCell (p:=⟨b1,q*2,none⟩) hlo _).setCell (p:=⟨b1,q*2+1,none⟩) hlo _
    ·obtain rfl:q=n:=by omega
     go_wp2
     exact ⟨⟨k+1,by omega,by go_num,Lib.hid (by rw [<-partF_next];exact HO2.out),hxq⟩,by simp [intOf]<;>omega⟩
  ·obtain rfl:k=n:=by omega
   go_wp2
   go_ret2
   have h:=HO1.out
   rw [partF_all,<-HFI.out] at h
   have hl:(mulM k a b).length=k:=tab_length _ _ _
   have hss:=hx3.size
   refine ⟨g,hs,cz,by rw [hl];rfl,⟨h.head,Nat.le_trans hss h.glo,h.len,h.dist,fun x hx=>⟨Nat.le_trans hss (h.new x hx).1,(h.new x hx).2⟩,h.all,h.row⟩,by rw [hl];exact hcz1,hcz2,(hx3.trans hxr).toStep⟩
theorem rQuo_any {w0 w1 w:World} {na nb:Bool} {A B:Option Addr} {n k c d:Nat} {x y:Int} (ha:IntV w0 na A n c x) (hb:IntV w1 nb B k d y) (h1:n<=274877906943) (h2:k<=274877906943) (hy0:y≠0) [hx:Ext w0 w] [hy:Ext w1 w]:
  Calls Tryz.prog 184 #[.agg #[.bool na,.slice A n c],.agg #[.bool nb,.slice B k d]] w (RetInt w (x / y)):=by
 have hd:=fun W (e1:Ext w0 W) (e2:Ext w1 W)=>rDivMod_any (w:=W) ha hb h1 h2 hy0
 have HD:=Lib.hid hd
 clear hd
 go_enter Tryz.func184,Tryz.ntmps184
 go_wp2_with (go_at_call 232;refine (HD.out _ inferInstance inferInstance).mono ?_;rintro e w2 ⟨g,B1,k1,d1,g',B',k',d',rfl,hz,hz',hs2⟩;obtain ⟨q0,q1,q2,q3,q4,q5⟩:=box2_2 w w2 (.cells #[.bool na,.slice A n c] 117) (.cells #[.bool nb,.slice B k d] 117) (.bool false) (.slice none 0 0) 117;have Q0:=Lib.hid q0;clear q0;have tq:Typed (w.heap.size+1+1) 117 w2:=⟨_,_,Q0.out⟩)
 exact bodyPost_ret (v:= .agg #[.bool g,.slice B1 k1 d1]) (by simp [results,Tryz.results184,go_sem,q1,q2]) rfl ⟨_,_,_,_,rfl,hz.keeps,Step.of _ _⟩
theorem rRem_any {w0 w1 w:World} {na nb:Bool} {A B:Option Addr} {n k c d:Nat} {x y:Int} (ha:IntV w0 na A n c x) (hb:IntV w1 nb B k d y) (h1:n<=274877906943) (h2:k<=274877906943) (hy0:y≠0) [hx:Ext w0 w] [hy:Ext w1 w]:
  Calls Tryz.prog 299 #[.agg #[.bool na,.slice A n c],.agg #[.bool nb,.slice B k d]] w (RetInt w (x%y)):=by
 have hd:=fun W (e1:Ext w0 W) (e2:Ext w1 W)=>rDivMod_any (w:=W) ha hb h1 h2 hy0
 have HD:=Lib.hid hd
 clear hd
 go_enter Tryz.func299,Tryz.ntmps299
 go_wp2_with (go_at_call 232;refine (HD.out _ inferInstance inferInstance).mono ?_;rintro e w2 ⟨g,B1,k1,d1,g',B',k',d',rfl,hz,hz',hs2⟩;obtain ⟨q0,q1,q2,q3,q4,q5⟩:=box2_2 w w2 (.cells #[.bool na,.slice A n c] 117) (.cells #[.bool nb,.slice B k d] 117) (.bool false) (.slice none 0 0) 117;have Q0:=Lib.hid q0;clear q0;have tq:Typed (w.heap.size+1+1) 117 w2:=⟨_,_,Q0.out⟩)
 exact bodyPost_ret (v:= .agg #[.bool g',.slice B' k' d']) (by simp [results,Tryz.results299,go_sem,q1,q2]) rfl ⟨_,_,_,_,rfl,hz'.keeps,Step.of _ _⟩
theorem IntV.le_len {w w':World} {g g':Bool} {A A':Option Addr} {n n' c c':Nat} {z z':Int} (h:IntV w g A n c z) (h':IntV w' g' A' n' c' z') (hz:z'.natAbs<=z.natAbs):n'<=n:=h.nat.le_len h'.nat (by omega)
theorem rGcd_any {w0 w1 w:World} {na nb:Bool} {A B:Option Addr} {n k c d kk:Nat} {x y:Int} (ha:IntV w0 na A n c x) (hb:IntV w1 nb B k d y) (hkk:kk<=8000000000000) (hbx:Bd kk x) (hby:Bd kk y) [hx:Ext w0 w] [hy:Ext w1 w]:
  Calls Tryz.prog 285 #[.agg #[.bool na,.slice A n c],.agg #[.bool nb,.slice B k d]] w (RetInt w (Int.gcd x y)):=by
 have ln:=ha.bd hbx hkk
 have lk:=hb.bd hby hkk
 have HAA:=Lib.hid (fun W (hh:Ext w0 W)=>rAbs_any (w:=W) ha (by omega))
 have HAB:=Lib.hid (fun W (hh:Ext w1 W)=>rAbs_any (w:=W) hb (by omega))
 have hg0:=gcd_abs x y
 obtain ⟨G,hG⟩:∃G,Int.gcd x y=G:=⟨_,rfl⟩
 rw [hG] at hg0 |-
 have HG:=Lib.hid hg0
 have hbx':=hbx.abs
 have hby':=hby.abs
 have HBX:=Lib.hid hbx'
 have HBY:=Lib.hid hby'
 clear hG hg0 hbx hby ln lk hbx' hby'
 go_enter Tryz.func285,Tryz.ntmps285
 go_wp2
 go_cut [5,6] (fun s5 s6 wx=>∃(p p':Nat),s5= .pointer (some ⟨p,0,none⟩)/\s6= .pointer (some ⟨p',0,none⟩)/\Hid (Box wx p x.natAbs)/\Hid (Box wx p' y.natAbs)/\w.heap.size+2<p/\w.heap.size+2<p'/\p≠p'/\wx.heap[w.heap.size+1+1]? =some (.cells #[.bool false,.slice none 0 0] 117 (0,0))/\Ext w wx)
 case first=>
  go_region_held3 (fun w'=>w'.cell? ⟨w.heap.size,0,none⟩=some (.bool na)/\w'.cell? ⟨w.heap.size,1,none⟩=some (.slice A n c)/\w'.cell? ⟨w.heap.size+1,0,none⟩=some (.bool nb)/\w'.cell? ⟨w.heap.size+1,1,none⟩=some (.slice B k d)) (exact boxes2 w _ (.bool na) (.slice A n c) (.bool nb) (.slice B k d) 117 117)
   (first
    |(go_at_call_of 209 (Value.agg #[.bool na,.slice A n c]);refine (HAA.out _ inferInstance).mono ?_;rintro e w4 ⟨g4,B4,k4,d4,rfl,hz4,hs4⟩)
    |(go_at_call_of 209 (Value.agg #[.bool nb,.slice B k d]);refine (HAB.out _ inferInstance).mono ?_;rintro e w5 ⟨g5,B5,k5,d5,rfl,hz5,hs5⟩))
  all_goals (go_wp2_with fail;go_meet;have o4:w.heap.size+1+1<w4.heap.size:=(inferInstance:Old (w.heap.size+1+1) w4).lt;have o5:w.heap.size+1+1<w5.heap.size:=(inferInstance:Old (w.heap.size+1+1) w5).lt;refine ⟨_,_,rfl,rfl,Lib.hid ⟨g4,B4,k4,d4,?_,hz4.keeps⟩,Lib.hid ⟨g5,B5,k5,d5,?_,hz5.keeps⟩,by omega,by omega,by first |omega |exact Apart.ne |(simp;done),BlkAt.eq,inferInstance⟩)
  all_goals exact BlkAt.eq
 case rest=>
  obtain ⟨p,p',rfl,rfl,HB0,HB1,hp,hp',hpp,hres,hxc⟩:=hcut
  have HRES:=Lib.hid hres
  clear hres
  go_wp2_with fail
  go_loopg [] (y.natAbs+1) (fun gk wr=>∃(u v:Int),Hid (Box wr p u)/\Hid (Box wr p' v)/\0<=u/\0<=v/\Hid (Bd kk u)/\Hid (Bd kk v)/\Hid (Int.gcd u v=G)/\v<gk/\Hid (wr.heap[w.heap.size+1+1]? =some (.cells #[.bool false,.slice none 0 0] 117 (0,0)))/\Ext w wr)
  case atStart=>exact ⟨x.natAbs,y.natAbs,HB0,HB1,by omega,by omega,HBX,HBY,HG,by omega,HRES,hxc⟩
  case round=>
   obtain ⟨u,v,HU,HV,hu,hv,HBU,HBV,HGC,hgk,HR,hxr⟩:=hrel
   obtain ⟨g0,B0,n0,c0,hb0,p1,p2,p3,p4,p5,hz0⟩:=HU.out.cells
   obtain ⟨g1,B1,n1,c1,hb1,q1,q2,q3,q4,q5,hz1⟩:=HV.out.cells
   have l0:=hz0.bd HBU.out hkk
   have l1:=hz1.bd HBV.out hkk
   have HSG:=Lib.hid (fun W (hh:Ext wr W)=>rSign_any (w:=W) hz1 (by omega))
   have oP:Old p wr:=⟨p5⟩
   have oP':Old p' wr:=⟨q5⟩
   have HC0:=Lib.hid (And.intro p1 (And.intro p2 (And.intro p3 p4)))
   have HC1:=Lib.hid (And.intro q1 (And.intro q2 (And.intro q3 q4)))
   have HK0:=Lib.hid hb0
   have HK1:=Lib.hid hb1
   have HZ0:=Lib.hid hz0
   have HZ1:=Lib.hid hz1
   by_cases h0:v=0
   ·have hsg:cmpI v 0=0:=cmpI_eq h0
    rw [hsg] at HSG
    obtain ⟨t1,t2,t3,t4,t5⟩:=box_cells2 HR.out
    have oR:Old (w.heap.size+1+1) wr:=⟨t5⟩
    have HT:=Lib.hid (And.intro t1 (And.intro t2 (And.intro t3 t4)))
    have hfin:u=G:=by
     have :=HGC.out
     rw [h0,Int.gcd_zero_right] at this
     omega
    have HFI:=Lib.hid hfin
    clear hz0 hz1 hb0 hb1 hsg hfin h0
    go_wp2_with (go_at_call 175;refine (HSG.out _ inferInstance).mono ?_;rintro e w6 ⟨rfl,hs6⟩;have r1:w6.cell? ⟨p,0,none⟩=some (.bool g0):=(cellE wr).trans HC0.out.1;have r2:w6.cell? ⟨p,1,none⟩=some (.slice B0 n0 c0):=(cellE wr).trans HC0.out.2.1;have r3:w6.cell? ⟨w.heap.size+1+1,0,none⟩=some (.bool false):=(cellE wr).trans HT.out.1;have r4:w6.cell? ⟨w.heap.size+1+1,1,none⟩=some (.slice none 0 0):=(cellE wr).trans HT.out.2.1;have r5:w6.frozen? ⟨w.heap.size+1+1,0,none⟩=false:=(frozenE wr).trans HT.out.2.2.1;have r6:w6.frozen? ⟨w.heap.size+1+1,1,none⟩=false:=(frozenE wr).trans HT.out.2.2.2;have tq:Typed (w.heap.size+1+1) 117 w6:=⟨_,_,heap_of_ext (inferInstance:Ext wr w6) HR.out⟩)
    exact bodyPost_ret (v:= .agg #[.bool g0,.slice B0 n0 c0]) (by simp [results,Tryz.results285,go_sem,r3,r4]) rfl ⟨_,_,_,_,rfl,by rw [<-HFI.out];exact (HZ0.out.ext (inferInstance:Ext wr w6)).keeps,Step.of _ _⟩
   ·have hsg:cmpI v 0=1:=cmpI_gt (by omega)
    rw [hsg] at HSG
    have HRM:=Lib.hid (fun W (hh:Ext wr W)=>rRem_any (w:=W) hz0 hz1 l0 l1 h0)
    have hm0:=Int.emod_nonneg u h0
    have hm1:=Int.emod_lt_of_pos u (show 0<v by omega)
    have hgs:=gcd_step u v
    have HNX:Hid (Int.gcd v (u%v)=G/\Bd kk (u%v)/\0<=u%v/\u%v<v):=Lib.hid ⟨by have :=HGC.out;omega,HBV.out.le (by omega),hm0,hm1⟩
    generalize u%v=r at*
    clear hz0 hz1 hb0 hb1 hsg hgs hm0 hm1
    go_wp2_with (go_at_call 175;refine (HSG.out _ inferInstance).mono ?_;rintro e w6 ⟨rfl,hs6⟩;have r1:w6.cell? ⟨p,0,none⟩=some (.bool g0):=(cellE wr).trans HC0.out.1;have r2:w6.cell? ⟨p,1,none⟩=some (.slice B0 n0 c0):=(cellE wr).trans HC0.out.2.1;have r3:w6.cell? ⟨p',0,none⟩=some (.bool g1):=(cellE wr).trans HC1.out.1;have r4:w6.cell? ⟨p',1,none⟩=some (.slice B1 n1 c1):=(cellE wr).trans HC1.out.2.1)
    have ap:Apart p p':=⟨hpp⟩
    have ap':Apart p' p:=⟨fun e=>hpp e.symm⟩
    go_region_with ((go_at_call 299;refine (HRM.out _ inferInstance).mono ?_;rintro e w7 ⟨g7,B7,k7,d7,rfl,hz7,hs7⟩;have s1:w7.cell? ⟨p,0,none⟩=some (.bool g0):=(cellE wr).trans HC0.out.1;have s2:w7.cell? ⟨p,1,none⟩=some (.slice B0 n0 c0):=(cellE wr).trans HC0.out.2.1;have s3:w7.cell? ⟨p',0,none⟩=some (.bool g1):=(cellE wr).trans HC1.out.1;have s4:w7.cell? ⟨p',1,none⟩=some (.slice B1 n1 c1):=(cellE wr).trans HC1.out.2.1;have f1:w7.frozen? ⟨p,0,none⟩=false:=(frozenE wr).trans HC0.out.2.2.1;have f2:w7.frozen? ⟨p,1,none⟩=false:=(frozenE wr).trans HC0.out.2.2.2;have f3:w7.frozen? ⟨p',0,none⟩=false:=(frozenE wr).trans HC1.out.2.2.1;have f4:w7.frozen? ⟨p',1,none⟩=false:=(frozenE wr).trans HC1.out.2.2.2))
    all_goals
     go_wp2_with fail
     go_roundg v.toNat
     case measure=>omega
     case rel=>
      have k0:BlkAt p #[.bool g0,.slice B0 n0 c0] 117 w7:=⟨heap_of_ext (inferInstance:Ext wr w7) HK0.out⟩
      have k1:BlkAt p' #[.bool g1,.slice B1 n1 c1] 117 w7:=⟨heap_of_ext (inferInstance:Ext wr w7) HK1.out⟩
      have k2:BlkAt (w.heap.size+1+1) #[.bool false,.slice none 0 0] 117 w7:=⟨heap_of_ext (inferInstance:Ext wr w7) HR.out⟩
      have a1:Apart (w.heap.size+1+1) p:=⟨by omega⟩
      have a2:Apart (w.heap.size+1+1) p':=⟨by omega⟩
      have tp:Typed p 117 w7:=⟨_,_,k0.eq⟩
      have tp':Typed p' 117 w7:=⟨_,_,k1.eq⟩
      have nw:New p w:=⟨by omega⟩
      have nw':New p' w:=⟨by omega⟩
      exact ⟨v,r,Lib.hid ⟨g1,B1,n1,c1,BlkAt.eq,(HZ1.out.ext (inferInstance:Ext wr w7)).keeps⟩,Lib.hid ⟨g7,B7,k7,d7,BlkAt.eq,hz7.keeps⟩,hv,HNX.out.2.2.1,HBV,Lib.hid HNX.out.2.1,Lib.hid HNX.out.1,by have :=HNX.out.2.2.2;omega,Lib.hid BlkAt.eq,inferInstance⟩
theorem rProduct_ok {w0 w1 w:World} {A B:Option Addr} {c d n k:Nat} {a b:List (List Int)} (ha:MatV w0 A a) (hb:MatV w1 B b) (h1:a.length=n) (h2:b.length=n) (h3:1<=n) (h4:n<=16) (hla:AllLen a n) (hlb:AllLen b n) (hk:k<=1000000000000) (hA:∀i j,Bd k (ent a i j)) (hB:∀i j,Bd k (ent b i j)) [hx:Ext w0 w] [hy:Ext w1 w]:
  Calls Tryz.prog 88 #[.slice A n c,.slice B n d] w (RetOwnI w n (mulM n a b)):=by
 have HM:=Lib.hid (fun W (e1:Ext w W)=>have :Ext w0 W:=hx.trans e1;have :Ext w1 W:=hy.trans e1;rMulM_ok (w:=W) (c:=c) (d:=d) ha hb h1 h2 h3 h4 hla hlb hk hA hB)
 go_enter Tryz.func88,Tryz.ntmps88
 go_wp2_with (go_at_call 157;refine (HM.out _ inferInstance).mono ?_;rintro e w2 ⟨g,hs,cz,rfl,hO,hcz1,hcz2,hs2⟩)
 go_ret
 exact ⟨g,hs,cz,rfl,hO,hcz1,hcz2,Step.of _ _⟩
theorem ent_tab_out2 (F:Nat->Nat->Int) (r c i j:Nat) (h:¬(i<r/\j<c)):ent (tab F r c) i j=0:=by
 unfold ent
 by_cases hi:i<r
 ·have e:(tab F r c).getD i []=(List.range c).map fun y=>F i y:=by simp [List.getD,tab_get F r c i hi]
  rw [e,List.getD_eq_getElem?_getD,List.getElem?_eq_none (by simp;omega)];rfl
 ·have e:(tab F r c).getD i []=[]:=by
   rw [List.getD_eq_getElem?_getD,List.getElem?_eq_none (by rw [tab_length];omega)];rfl
  rw [e];rfl
theorem mulM_bd {n k:Nat} {a b:List (List Int)} (h4:n<=16) (hA:∀i j,Bd k (ent a i j)) (hB:∀i j,Bd k (ent b i j)) (i j:Nat):Bd (2*k+16) (ent (mulM n a b) i j):=by
 by_cases h:i<n/\j<n
 ·unfold mulM
  rw [ent_tab2 _ _ _ _ _ h.1 h.2]
  refine Bd.mono (dot_bd (k:=2*k) (n:=n) (fun x _=>?_) n (Nat.le_refl _)) (by omega)
  have :=(hA i x).mul (hB x j)
  rwa [show k+k=2*k by omega] at this
 ·have :ent (mulM n a b) i j=0:=ent_tab_out2 _ _ _ _ _ h
  rw [this];exact Bd.zero _
theorem transM_bd {n k:Nat} {a:List (List Int)} (hA:∀i j,Bd k (ent a i j)) (i j:Nat):Bd k (ent (transM n a) i j):=by
 by_cases h:i<n/\j<n
 ·unfold transM
  rw [ent_tab2 _ _ _ _ _ h.1 h.2];exact hA j i
 ·have :ent (transM n a) i j=0:=ent_tab_out2 _ _ _ _ _ h
  rw [this];exact Bd.zero _
theorem rCongruent_ok {w0 w1 w:World} {A B:Option Addr} {c d n k:Nat} {a t:List (List Int)} (ha:MatV w0 A a) (hb:MatV w1 B t) (h1:a.length=n) (h2:t.length=n) (h3:1<=n) (h4:n<=16) (hla:AllLen a n) (hlb:AllLen t n) (hk:k<=100000000000) (hA:∀i j,Bd k (ent a i j)) (hB:∀i j,Bd k (ent t i j)) [hx:Ext w0 w] [hy:Ext w1 w]:
  Calls Tryz.prog 87 #[.slice A n c,.slice B n d] w (RetOwnI w n (congM n a t)):=by
 have HT:=Lib.hid (fun W (e1:Ext w W)=>have :Ext w1 W:=hy.trans e1;rTranspose_ok (w:=W) (c:=d) hb n h2 h3 h4 hlb (fun i j=>⟨k,by omega,hB i j⟩))
 have HM1:Hid (∀(W1 W:World) (A1:Option Addr) (c1:Nat),MatV W1 A1 (transM n t)->Ext w W->Ext W1 W->Calls Tryz.prog 88 #[.slice A1 n c1,.slice A n c] W (RetOwnI W n (mulM n (transM n t) a))):=Lib.hid (fun W1 W A1 c1 hm e1 e2=>have :Ext w0 W:=hx.trans e1;rProduct_ok hm ha (tab_length _ _ _) h1 h3 h4 (tab_allLen _ _ _) hla (k:=k) (by omega) (transM_bd hB) hA)
 have HM2:Hid (∀(W1 W:World) (A1:Option Addr) (c1:Nat),MatV W1 A1 (mulM n (transM n t) a)->Ext w W->Ext W1 W->Calls Tryz.prog 88 #[.slice A1 n c1,.slice B n d] W (RetOwnI W n (congM n a t))):=Lib.hid (fun W1 W A1 c1 hm e1 e2=>have :Ext w1 W:=hy.trans e1;rProduct_ok hm hb (tab_length _ _ _) h2 h3 h4 (tab_allLen _ _ _) hlb (k:=2*k+16) (by omega) (mulM_bd h4 (transM_bd hB) hA) (fun i j=>(hB i j).mono (by omega)))
 have hl1:(transM n t).length=n:=tab_length _ _ _
 have hl2:(mulM n (transM n t) a).length=n:=tab_length _ _ _
 have HL:=Lib.hid (And.intro hl1 hl2)
 clear ha hb h1 h2 hla hlb hA hB hl1 hl2
 go_enter Tryz.func87,Tryz.ntmps87
 go_wp2_with (first
  |(go_at_call 156;refine (HT.out _ inferInstance).mono ?_;rintro e w2 ⟨g2,hs2',c2,rfl,hO2,-,-,hs2⟩;rw [HL.out.1];have hM2:=hO2.mat;clear hO2)
  |(go_at_call_of 88 (Value.slice A n c);refine (HM1.out _ _ _ _ hM2 inferInstance inferInstance).mono ?_;rintro e w3 ⟨g3,hs3',c3,rfl,hO3,-,-,hs3⟩;rw [HL.out.2];have hM3:=hO3.mat;clear hO3)
  |(go_at_call_of 88 (Value.slice B n d);refine (HM2.out _ _ _ _ hM3 inferInstance inferInstance).mono ?_;rintro e w4 ⟨g4,hs4',c4,rfl,hO4,q1,q2,hs4⟩))
 go_ret
 have hss:w.heap.size<=w3.heap.size:=(inferInstance:Ext w w3).size
 exact ⟨g4,hs4',c4,rfl,⟨hO4.head,Nat.le_trans hss hO4.glo,hO4.len,hO4.dist,fun x hx=>⟨Nat.le_trans hss (hO4.new x hx).1,(hO4.new x hx).2⟩,hO4.all,hO4.row⟩,q1,q2,Step.of _ _⟩
theorem PartI.putG {w w':World} {lo g n rows:Nat} {hs:List (Nat×Nat)} {a:List (List Int)} (h:PartI w lo g n rows hs a) (hk:hs.length<rows) {b c:Nat} {r:List Int} (hoth:Oth 104 w w')
  (hv:VRow w' g 104 ((hs.map (headV n)++List.replicate (rows-hs.length) (Value.slice none 0 0)).set hs.length (Value.slice (some ⟨b,0,none⟩) n c)))
  (hr:RowI w' b r) (hrl:r.length=n) (hb:lo<=b) (hc1:n<=c) (hc2:c<=9223372036854775807) (hd:∀p∈hs,p.1≠b):
  PartI w' lo g n rows (hs++[(b,c)]) (a++[r]):=by
 refine ⟨?_,h.glo,by simp;omega,by simp [h.len],?_,?_,?_,?_⟩
 ·have e:(hs.map (headV n)++List.replicate (rows-hs.length) (Value.slice none 0 0)).set hs.length (.slice (some ⟨b,0,none⟩) n c)=(hs++[(b,c)]).map (headV n)++List.replicate (rows-(hs++[(b,c)]).length) (.slice none 0 0):=by
   obtain ⟨t,ht⟩:∃t,rows-hs.length=t+1:=⟨rows-hs.length-1,by omega⟩
   have ht2:rows-(hs++[(b,c)]).length=t:=by simp;omega
   rw [ht,ht2,List.set_append_right _ _ (by simp)]
   simp [List.replicate_succ,headV]
  rw [e] at hv
  exact hv
 ·intro i j p q hp hq hij
  rcases Nat.lt_or_ge i hs.length with hi |hi
  ·rw [List.getElem?_append_left hi] at hp
   rcases Nat.lt_or_ge j hs.length with hj |hj
   ·rw [List.getElem?_append_left hj] at hq
    exact h.dist i j p q hp hq hij
   ·rw [List.getElem?_append_right hj] at hq
    have :q=(b,c):=by
     have :=List.mem_of_getElem? hq
     simpa using this
    subst this
    exact hd p (List.mem_of_getElem? hp)
  ·rw [List.getElem?_append_right hi] at hp
   have hi':i=hs.length:=by have :=(List.getElem?_eq_some_iff.1 hp).1;simp at this;omega
   have :p=(b,c):=by
    have :=List.mem_of_getElem? hp
    simpa using this
   subst this
   rcases Nat.lt_or_ge j hs.length with hj |hj
   ·rw [List.getElem?_append_left hj] at hq
    exact fun e=>hd q (List.mem_of_getElem? hq) e.symm
   ·rw [List.getElem?_append_right hj] at hq
    have hj':j=hs.length:=by have :=(List.getElem?_eq_some_iff.1 hq).1;simp at this;omega
    omega
 ·intro p hp
  rcases List.mem_append.1 hp with hp |hp
  ·exact h.new p hp
  ·have :p=(b,c):=by simpa using hp
   subst this
   exact ⟨hb,hc1,hc2⟩
 ·intro x hx
  rcases List.mem_append.1 hx with hx |hx
  ·exact h.all x hx
  ·have :x=r:=by simpa using hx
   subst this
   exact hrl
 ·intro i p x hp hx
  have hl:=h.len
  rcases Nat.lt_or_ge i hs.length with hi |hi
  ·rw [List.getElem?_append_left hi] at hp
   rw [List.getElem?_append_left (by omega)] at hx
   exact (h.row i p x hp hx).oth hoth (by decide) (by decide)
  ·rw [List.getElem?_append_right hi] at hp
   rw [List.getElem?_append_right (by omega)] at hx
   have e1:p=(b,c):=by
    have :=List.mem_of_getElem? hp
    simpa using this
   have e2:x=r:=by
    have :=List.mem_of_getElem? hx
    simpa using this
   subst e1 e2
   exact hr
theorem Oth.below {T:TypeId} {w0 w w':World} (h:Oth T w0 w) (hb:Below w0.heap.size w w'):Oth T w0 w':=fun b cs e fr hn hc=>
 (hb.block b (lt_of_heap hc)).trans (h b cs e fr hn hc)
theorem Own.rowI {w:World} {base n c:Nat} {A:Option Addr} {vs:List Value} {zs:List Int} (h:Own w base 117 2 A n c vs) (hv:VsOf w vs zs) (hl:zs.length=n) (h0:0<n):∃b,A=some ⟨b,0,none⟩/\base<=b/\RowI w b zs/\n<=c/\c<=9223372036854775807/\b<w.heap.size:=by
 have hcap:=h.cap
 have hlen:=h.len
 rcases h.2 with ⟨_,hn⟩ |⟨g,cap,cur,hv',h1,h2,h3,h4,h5,h6⟩
 ·omega
 ·injection hv' with hA
  refine ⟨g,hA,h1,⟨cur.toList,?_,?_,fun i z hz=>?_⟩,hcap.1,hcap.2,lt_of_heap h2⟩
  ·unfold VRow;rw [Array.toArray_toList];exact h2
  ·have :cur.toList.length=cap*2:=by rw [Array.length_toList];exact h5
   omega
  ·obtain ⟨g',B,k,d,a1,a2,a3⟩:=hv i z hz
   have hi:i<n:=by rw [<-hl];exact (List.getElem?_eq_some_iff.1 hz).1
   refine ⟨g',B,k,d,?_,?_,a3⟩
   ·rw [<-h6,List.getElem?_take] at a1
    split at a1
    ·exact a1
    ·cases a1
   ·rw [<-h6,List.getElem?_take] at a2
    split at a2
    ·exact a2
    ·cases a2
theorem VsOf.grow {w w':World} {base:Nat} {e:TypeId} {vs:List Value} {zs:List Int} (h:VsOf w vs zs) (hg:Grow base e w w') (h2:280≠e):VsOf w' vs zs:=h.map fun hz=>hz.grow hg h2
theorem take_snoc {l:List Int} {q:Nat} (hq:q<l.length):l.take (q+1)=l.take q++[l.getD q 0]:=by
 rw [List.take_succ_eq_append_getElem hq]
 simp [List.getD,hq]
set_option maxRecDepth 10000 in
theorem rCopy_ok {w0 w:World} {A:Option Addr} {c:Nat} {m:List (List Int)} (h:MatV w0 A m) (rows n:Nat) (h1:m.length=rows) (h2:rows<=16) (h3:1<=n) (h4:n<=16) (hn:AllLen m n) (hbd:∀i j,∃k,k<=8000000000000/\Bd k (ent m i j)) [hx:Ext w0 w]:
  Calls Tryz.prog 83 #[.slice A rows c] w (RetOwnI w n m):=by
 have h0:=h.ext hx
 have hmk:=run_make_any (P:=Tryz.prog) Tryz.underlying73 infoSlInt (by omega) (rows:Int) (by omega) (by omega)
 have HA:=Lib.hid hn
 have HB:=Lib.hid hbd
 have HL:=Lib.hid h1
 clear hn hbd h1
 go_enter Tryz.func83,Tryz.ntmps83
 go_wp2
 go_loopw [4,6,12] (fun _ _ i wr=>∃(k:Nat) (hs:List (Nat×Nat)),k<=rows/\i= .int .i64 k/\Hid (hs.length=k)/\Hid (PartI wr w.heap.size w.heap.size n rows hs (m.take k))/\Ext w wr) (fun _ _ i _=>rows-(intOf i).toNat)
 case atStart=>exact ⟨0,[],by omega,rfl,Lib.hid rfl,Lib.hid (by simpa [Value.cells] using PartI.start w w.heap.size n rows (Nat.le_refl _)),inferInstance⟩
 case round=>
  obtain ⟨k,hs,hk,rfl,HHL,HP,hxr⟩:=hrel
  obtain ⟨wo,rfl⟩:∃wo:World,wo=wr:=⟨_,rfl⟩
  by_cases hlt:k<rows
  ·obtain ⟨b,o,B,c0,rfl,hc0,hI0,hb0,-,-⟩:=h0.hdr HA.out (i:=k) (by rw [HL.out];exact hlt)
   have hc:=(hxr.below.cell (p:=⟨b,o+k,none⟩) hb0).trans hc0
   have HI:=Lib.hid hI0
   have hgo:w.heap.size<wo.heap.size:=HP.out.head.lt
   clear hc0 hI0
   obtain ⟨hd,hhd⟩:∃hd:List Value,hd=hs.map (headV n)++List.replicate (rows-hs.length) (.slice none 0 0):=⟨_,rfl⟩
   have hhl:hd.length=rows:=by rw [hhd];simp;have :=HP.out.le;omega
   have hv0:=HP.out.head
   rw [<-hhd] at hv0
   have HHD:=Lib.hid hhd
   have HHN:=Lib.hid hhl
   obtain ⟨row,hrow⟩:∃row,row=m.getD k []:=⟨_,rfl⟩
   rw [<-hrow] at HI
   have HRL:Hid (row.length=n):=Lib.hid (by rw [hrow];exact row_len HA.out (by rw [HL.out];exact hlt))
   have HRW:=Lib.hid hrow
   have hset0:hd.set k (.slice none 0 0)=hd:=by
    have e:hd[k]? =some (.slice none 0 0):=by
     rw [hhd,List.getElem?_append_right (by rw [List.length_map,HHL.out];exact Nat.le_refl _),List.length_map,HHL.out,Nat.sub_self,List.getElem?_replicate,if_pos (by omega)]
    obtain ⟨e1,e2⟩:=List.getElem?_eq_some_iff.1 e
    rw [<-e2];exact List.set_getElem_self e1
   have HS0:=Lib.hid hset0
   have HV0:=Lib.hid hv0
   clear hhd hhl hrow hset0 hv0
   go_wp2
   go_loopw [6,20] (fun _ j wr=>∃(q:Nat) (A1:Option Addr) (c1:Nat) (vs:List Value),q<=n/\j= .int .i64 q/\Hid (VRow wr w.heap.size 104 (hd.set k (.slice A1 q c1)))/\Hid (Own wr wo.heap.size 117 2 A1 q c1 vs)/\Hid (VsOf wr vs (row.take q))/\Hid (Oth 104 wo wr)/\wo.heap.size<=wr.heap.size/\Ext w wr) (fun _ j _=>n-(intOf j).toNat)
   case atStart=>exact ⟨0,none,0,[],by omega,rfl,Lib.hid (by rw [HS0.out];exact HV0.out),Lib.hid (Own.nil _ _ _ _),Lib.hid (fun i z hz=>by simp at hz),Lib.hid (Oth.refl _ _),Nat.le_refl _,inferInstance⟩
   case round=>
    obtain ⟨q,A1,c1,vs,hq,rfl,HV,HO,HVS,HOT,hsz,hxq⟩:=hrel
    by_cases hltq:q<n
    ·obtain ⟨b3,o3,g3,B3,n3,c3,rfl,hc3,hc4,hz3,hb3⟩:=(HI.out.ext hxq).atD (i:=q) (by rw [HRL.out];exact hltq)
     have hlim:n3<=1099511627776:=by
      obtain ⟨kk,hk1,hk2⟩:=HB.out k q
      have e:ent m k q=row.getD q 0:=by rw [HRW.out];rfl
      rw [e] at hk2
      have :=hz3.bd hk2 hk1
      omega
     have HN:=Lib.hid (fun W (hh:Ext wr W)=>rNormalize_any (w:=W) hz3 hlim)
     have hkd:k<hd.length:=by rw [HHN.out];exact hlt
     have HHC:Hid (∀W,Ext wr W->W.heap[w.heap.size]? =some (.cells (hd.set k (.slice A1 q c1)).toArray 104 (0,0))/\W.cell? ⟨w.heap.size,k,none⟩=some (.slice A1 q c1)/\W.frozen? ⟨w.heap.size,k,none⟩=false/\w.heap.size<W.heap.size):=Lib.hid (fun W hh=>⟨HV.out.ext hh,(HV.out.ext hh).cell (by rw [List.getElem?_set_self hkd]),(HV.out.ext hh).frozen _,(HV.out.ext hh).lt⟩)
     obtain ⟨-,v1,v2,v3⟩:=HHC.out wr inferInstance
     clear hz3 hlim
     go_wp2
     go_region_law (first
      |((refine step_app _ rfl (.tmp 29) (.tmp 32) 104 rfl wo.heap.size 117 (.agg #[.bool false,.slice none 0 0]) 2 32 Tryz.underlying104 infoInt rfl (by decide) (by decide) A1 q c1 vs (by simp [Act.eval]) (HO.out.ext inferInstance) (some ⟨W5.heap.size,0,none⟩) 1 1 [.bool g5,.slice B5 k5 d5] (by simp [Act.eval]) ((Arr.new W5 117 #[.bool g5,.slice B5 k5 d5]).ext inferInstance) rfl (by simp [Value.oneCell']) (by omega) (by have :=hs5.size;simp at this |-;omega) ?_);intro A6 d6 w6 hown6 hg6;have hb6:=(hg6.below.block w.heap.size hgo).trans (HHC.out _ (inferInstance:Ext wr (W5.alloc (Obj.cells #[Value.bool g5,Value.slice B5 k5 d5] 117)))).1;have hvr6:VRow w6 w.heap.size 104 (hd.set k (.slice A1 q c1)):=hb6;have r1:w6.cell? ⟨w.heap.size,k,none⟩=some (.slice A1 q c1):=hvr6.cell (by rw [List.getElem?_set_self hkd]);have r2:w6.frozen? ⟨w.heap.size,k,none⟩=false:=hvr6.frozen _;have r3:w.heap.size<w6.heap.size:=hvr6.lt;have HV6:=Lib.hid hvr6;have HO6:=Lib.hid hown6;have HG6:=Lib.hid hg6;clear hb6 hvr6 hown6 hg6)
      |(go_simp;go_at_call 146;refine (HN.out _ inferInstance).mono ?_;rintro e W5 ⟨g5,B5,k5,d5,rfl,hz5,hs5⟩;obtain ⟨-,t1,t2,t3⟩:=HHC.out W5 inferInstance))
     all_goals
      go_wp2
      have hx5:Ext wr (W5.alloc (Obj.cells #[Value.bool g5,Value.slice B5 k5 d5] 117)):=inferInstance
      refine ⟨⟨q+1,A6,d6,vs++[.bool g5,.slice B5 k5 d5],by omega,by go_num,Lib.hid ?_,Lib.hid ?_,Lib.hid ?_,Lib.hid ?_,?_,?_⟩,by simp [intOf]<;>omega⟩
      ·have :=HV6.out.set k (.slice A6 (q+1) d6)
       rwa [List.set_set] at this
      ·exact HO6.out.far (p:=⟨w.heap.size,k,none⟩) HV6.out (by decide) _
      ·have hv5:VsOf (W5.alloc (Obj.cells #[Value.bool g5,Value.slice B5 k5 d5] 117)) (vs++[.bool g5,.slice B5 k5 d5]) (row.take q++[row.getD q 0]):=VsOf.snoc (HVS.out.map fun hz=>hz.ext hx5) (by rw [HO.out.len,List.length_take,HRL.out,Nat.min_eq_left hq]) (hz5.ext inferInstance)
       rw [take_snoc (by rw [HRL.out];exact hltq)]
       exact (hv5.grow HG6.out (by decide)).map fun hz=>hz.setCell (p:=⟨w.heap.size,k,none⟩) HV6.out (by decide) _
      ·refine ((HOT.out.trans (Oth.of_ext hx5)).below HG6.out.below).trans (Oth.set (p:=⟨w.heap.size,k,none⟩) HV6.out _)
      ·have h1:=HG6.out.below.size
       have h2:=hx5.size
       rw [size_setCell]
       omega
      ·exact (HG6.out.ext (hxq.trans hx5) hxr.size).setCell (p:=⟨w.heap.size,k,none⟩) (Nat.le_refl _) _
    ·obtain rfl:q=n:=by omega
     go_wp2
     obtain ⟨b6,rfl,hb6,hR6,hc61,hc62,hb62⟩:=HO.out.rowI (zs:=row) (by have :=HVS.out;rwa [List.take_of_length_le (by rw [HRL.out];exact Nat.le_refl _)] at this) HRL.out (by omega)
     have hold:=HP.out.old
     refine ⟨⟨k+1,hs++[(b6,c1)],by omega,by go_num,Lib.hid (by simp [HHL.out]),Lib.hid ?_,hxq⟩,by simp [intOf]<;>omega⟩
     have :=HP.out.putG (r:=row) (c:=c1) (by rw [HHL.out];exact hlt) HOT.out (by rw [<-HHD.out,HHL.out];exact HV.out) hR6 HRL.out (by have :=hxr.size;omega) hc61 hc62 (fun p hp=>by have :=hold p hp;omega)
     have e:m.take (k+1)=m.take k++[row]:=by
      have hkm:k<m.length:=by rw [HL.out];exact hlt
      rw [List.take_succ_eq_append_getElem hkm,HRW.out]
      simp [List.getD,hkm]
     rw [e]
     exact this
  ·obtain rfl:k=rows:=by omega
   go_wp2
   go_ret
   have h1:=HP.out.done HHL.out
   rw [List.take_of_length_le (by rw [HL.out];exact Nat.le_refl _)] at h1
   exact ⟨w.heap.size,hs,k,by rw [HL.out];rfl,h1,by rw [HL.out];exact Nat.le_refl _,by omega,hxr.toStep⟩
theorem OwnI.far {w:World} {lo g n:Nat} {hs:List (Nat×Nat)} {a:List (List Int)} (h:OwnI w lo g n hs a) {p:Nat} {cs:Array Value} (hp:w.heap[p]? =some (.cells cs 117 (0,0))) (hne:∀q∈hs,q.1≠p) (i j:Nat) (u v:Value):
  OwnI ((w.setCell ⟨p,i,none⟩ u).setCell ⟨p,j,none⟩ v) lo g n hs a:=by
 have hg:g≠p:=fun e=>by
  have h1:=h.head
  unfold VRow at h1
  rw [e,hp] at h1
  injection h1 with h1
  injection h1 with _ h1
  exact absurd h1 (by decide)
 exact ⟨(h.head.far (p:=⟨p,i,none⟩) hg _).far (p:=⟨p,j,none⟩) hg _,h.glo,h.len,h.dist,h.new,h.all,fun x q r hq hr=>(h.row x q r hq hr).far2 hp (hne q (List.mem_of_getElem? hq)) _ _⟩
theorem OwnI.lower {w:World} {lo lo' g n:Nat} {hs:List (Nat×Nat)} {a:List (List Int)} (h:OwnI w lo g n hs a) (hl:lo'<=lo):OwnI w lo' g n hs a:=
 ⟨h.head,Nat.le_trans hl h.glo,h.len,h.dist,fun x hx=>⟨Nat.le_trans hl (h.new x hx).1,(h.new x hx).2⟩,h.all,h.row⟩
theorem OwnI.old {w:World} {lo g n:Nat} {hs:List (Nat×Nat)} {a:List (List Int)} (h:OwnI w lo g n hs a):∀p∈hs,p.1<w.heap.size:=fun p hp=>by
 obtain ⟨i,hi⟩:=List.getElem?_of_mem hp
 obtain ⟨r,hr⟩:∃r,a[i]? =some r:=⟨_,List.getElem?_eq_getElem (by have :=(List.getElem?_eq_some_iff.1 hi).1;rw [<-h.len];exact this)⟩
 exact (h.row i p r hi hr).lt
def elimP (k:Nat) (last:Int) (a:List (List Int)) (i j:Nat):Nat->Nat->Int:=fun x y=>if k<x/\k<y/\(x<i∨(x=i/\y<j)) then (ent a k k*ent a x y-ent a x k*ent a k y) / last else ent a x y
theorem elimP_start {n k:Nat} {last:Int} {a:List (List Int)} (hl:a.length=n) (ha:AllLen a n):tab (elimP k last a (k+1) (k+1)) n n=a:=by
 have h1:=tab_eq a n ha
 rw [hl] at h1
 conv=>rhs;rw [<-h1]
 refine tab_eq_of fun x y _ _=>?_
 unfold elimP
 rw [if_neg (by omega)];rfl
theorem elimP_set {n k i j:Nat} {last:Int} {a:List (List Int)} (hi:i<n) (hj:j<n) (hk:k<i) (hk2:k<j):setE (tab (elimP k last a i j) n n) i j ((ent a k k*ent a i j-ent a i k*ent a k j) / last)=tab (elimP k last a i (j+1)) n n:=by
 rw [setE_tab hi hj]
 refine tab_eq_of fun x y _ _=>?_
 unfold elimP
 by_cases h:x=i/\y=j
 ·rw [if_pos h,if_pos (by omega)];obtain ⟨rfl,rfl⟩:=h;rfl
 ·rw [if_neg h]
  by_cases h2:k<x/\k<y/\(x<i∨x=i/\y<j)
  ·rw [if_pos h2,if_pos (by omega)]
  ·rw [if_neg h2,if_neg (by omega)]
theorem elimP_next (n k i:Nat) (last:Int) (a:List (List Int)):tab (elimP k last a i n) n n=tab (elimP k last a (i+1) (k+1)) n n:=
 tab_eq_of fun x y _ hy=>by
  unfold elimP
  by_cases h2:k<x/\k<y/\(x<i∨x=i/\y<n)
  ·rw [if_pos h2,if_pos (by omega)]
  ·rw [if_neg h2,if_neg (by omega)]
theorem elimP_done (n k j:Nat) (last:Int) (a:List (List Int)):tab (elimP k last a n j) n n=elimStep n k last a:=
 tab_eq_of fun x y hx _=>by
  unfold elimP
  by_cases h2:k<x/\k<y
  ·rw [if_pos (by omega),if_pos h2]
  ·rw [if_neg (by omega),if_neg h2]
theorem ent_elimP {n k i j x y:Nat} {last:Int} {a:List (List Int)} (hx:x<n) (hy:y<n) (h:x=k∨y=k∨(x=i/\y=j)):ent (tab (elimP k last a i j) n n) x y=ent a x y:=by
 rw [ent_tab2 _ _ _ _ _ hx hy]
 unfold elimP
 rw [if_neg (by omega)]
structure DetI (n k b:Nat) (last:Int) (neg:Bool) (a:List (List Int)) (D:Int):Prop where
 eq:detGo n (n-k) k last neg a=D
 l0:last≠0
 bl:Bd (bitsAt b k) last
 ba:BdM (bitsAt b k) a
theorem bitsAt_mono {b s t:Nat} (h:s<=t):bitsAt b s<=bitsAt b t:=by
 unfold bitsAt
 have :2^s<=2^t:=Nat.pow_le_pow_right (by omega) h
 have :=Nat.mul_le_mul_right (b+1) this
 omega
structure DetP (n k b:Nat) (last:Int) (neg:Bool) (a:List (List Int)) (D:Int):Prop where
 eq:detGo n (n-(k+1)) (k+1) (ent a k k) neg (elimStep n k last a)=D
 l0:last≠0
 p0:ent a k k≠0
 bl:Bd (bitsAt b k) last
 ba:BdM (bitsAt b k) a
theorem pivFrom_step {a:List (List Int)} {k n p:Nat} (hp:p<n) (h0:ent a p k=0):pivFrom a k (n-p) p=pivFrom a k (n-(p+1)) (p+1):=by
 obtain ⟨t,ht⟩:∃t,n-p=t+1:=⟨n-p-1,by omega⟩
 rw [ht,show n-(p+1)=t by omega]
 simp [pivFrom,h0]
theorem pivFrom_stop {a:List (List Int)} {k n p:Nat} (hp:p<n) (h0:ent a p k≠0):pivFrom a k (n-p) p=p:=by
 obtain ⟨t,ht⟩:∃t,n-p=t+1:=⟨n-p-1,by omega⟩
 rw [ht]
 simp [pivFrom,h0]
theorem DetI.none {n k b:Nat} {last:Int} {neg:Bool} {a:List (List Int)} {D:Int} (h:DetI n k b last neg a D) (hk:k<n) (hp:pivFrom a k (n-k) k=n):D=0:=by
 have h1:=h.eq
 obtain ⟨t,ht⟩:∃t,n-k=t+1:=⟨n-k-1,by omega⟩
 rw [ht] at h1 hp
 simp only [detGo] at h1
 rw [show n-k=t+1 from ht,if_pos hp] at h1
 exact h1.symm
theorem DetI.same {n k b:Nat} {last:Int} {neg:Bool} {a:List (List Int)} {D:Int} (h:DetI n k b last neg a D) (hk:k<n) (hp:pivFrom a k (n-k) k=k) (h0:ent a k k≠0):DetP n k b last neg a D:=by
 have h1:=h.eq
 obtain ⟨t,ht⟩:∃t,n-k=t+1:=⟨n-k-1,by omega⟩
 rw [ht] at h1
 simp only [detGo] at h1
 rw [hp,if_neg (by omega),if_neg (by omega)] at h1
 refine ⟨?_,h.l0,h0,h.bl,h.ba⟩
 rw [show n-(k+1)=t by omega];exact h1
theorem DetI.swap {n k b p:Nat} {last:Int} {neg:Bool} {a:List (List Int)} {D:Int} (h:DetI n k b last neg a D) (hl:a.length=n) (hk:k<p) (hpn:p<n) (hp:pivFrom a k (n-k) k=p) (h0:ent a p k≠0):DetP n k b last (!neg) (swapRows a p k) D:=by
 have h1:=h.eq
 obtain ⟨t,ht⟩:∃t,n-k=t+1:=⟨n-k-1,by omega⟩
 rw [ht] at h1
 simp only [detGo] at h1
 rw [hp,if_neg (by omega),if_pos (by omega)] at h1
 refine ⟨?_,h.l0,?_,h.bl,h.ba.swap (by omega) (by omega)⟩
 ·rw [show n-(k+1)=t by omega];exact h1
 ·rw [ent_swap (by omega) (by omega),if_pos rfl];exact h0
theorem DetP.next {n k b:Nat} {last:Int} {neg:Bool} {a:List (List Int)} {D:Int} (h:DetP n k b last neg a D):DetI n (k+1) b (ent a k k) neg (elimStep n k last a) D:=
 ⟨h.eq,h.p0,(h.ba k k).mono (bitsAt_mono (by omega)),by rw [bitsAt_succ];exact h.ba.elim n k last⟩
theorem DetI.done {n b:Nat} {last:Int} {neg:Bool} {a:List (List Int)} {D:Int} (h:DetI n n b last neg a D):D=if neg then-last else last:=by
 have h1:=h.eq
 rw [Nat.sub_self] at h1
 exact h1.symm
end Go.Proofs.YtijfjailmilkfaaGreat
