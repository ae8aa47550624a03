/- Whoever walks down with the secret signs what whoever walks down without it verifies, and the text of either walks the same way (StrongboxKeyed). No condition. -/
import Derived.Test.YtnlkdheaohocnaaGreatDoorU1
import Derived.WalkKit
import Derived.Deep.Draws
import Derived.RangeFuncBox
import Derived.CallsIn
import Derived.Laws.CopyOwn
import Derived.Test.YtnlkdheaohocnaaGreatDoorU3
import Derived.Test.YtnlkdheaohocnaaGreatDoorRows
import Derived.WalkSpells
import Derived.WalkLawsBesides
import Derived.Lib.Hide
import Derived.BigQuiet
import Derived.Deep.QuietTactic
set_option maxRecDepth 1000000
set_option maxHeartbeats 16000000
set_option linter.unusedVariables false
set_option linter.unusedSimpArgs false
namespace Go.Proofs.YtnlkdheaohocnaaGreatDoor
open Go.RowKit
theorem j9 (b o k:Nat):(⟨b,o,none⟩:Addr).add k=⟨b,o+k,none⟩:=by unfold Addr.add;split<;>simp_all
def Sl (w:World) (B:Nat) (A:Option Addr) (xs:List Value):Prop:=
 0<xs.length→∃b o,A=some ⟨b,o,none⟩∧b<B∧∀j (h:j<xs.length),w.cell? ⟨b,o+j,none⟩=some xs[j]
def B8 (bs:List UInt8):List Value:=bs.map fun b=>.int .u8 (b.toNat:Int)
@[simp] theorem B8_length (bs:List UInt8):(B8 bs).length=bs.length:=by simp[B8]
theorem ed (bs:List UInt8) (j:Nat) (h:j<(B8 bs).length):(B8 bs)[j]=.int .u8 ((bs[j]'(by simpa using h)).toNat:Int):=by simp[B8]
theorem bp (a b:List UInt8):B8 (a++b)=B8 a++B8 b:=by simp[B8]
theorem Rz (b:UInt8):B8 [b]=[.int .u8 (b.toNat:Int)]:=rfl
theorem jg (a:List UInt8) (n:Nat):B8 (a.take n)=(B8 a).take n:=by simp[B8]
theorem kU (a:List UInt8) (n:Nat):B8 (a.drop n)=(B8 a).drop n:=by simp[B8]
theorem aR (a:List UInt8):∀u∈B8 a,u.oneCell'=true:=by
 intro u hu;simp only[B8,List.mem_map] at hu;obtain⟨b,_,rfl⟩:=hu;rfl
section
variable {w w':World} {B B':Nat} {A:Option Addr} {xs:List Value} {bs:List UInt8}
theorem Sl.nil:Sl w B A []:=fun h=>absurd h (by simp)
theorem Sl.keep (h:Sl w B A xs) (hk:∀p:Addr,p.block<B→w'.cell? p=w.cell? p):Sl w' B A xs:=fun hn=>by
 obtain⟨b,o,e,hb,hc⟩:=h hn;exact⟨b,o,e,hb,fun j hj=>(hk ⟨b,o+j,none⟩ hb).trans (hc j hj)⟩
theorem Sl.mono (h:Sl w B A xs) (hB:B≤B'):Sl w B' A xs:=fun hn=>by
 obtain⟨b,o,e,hb,hc⟩:=h hn;exact⟨b,o,e,by omega,hc⟩
theorem Sl.below (h:Sl w B A xs) (hb:Below B w w'):Sl w' B A xs:=h.keep fun _ hp=>hb.cell hp
theorem Sl.drew (h:Sl w B A xs):Sl w.drew B A xs:=h
theorem Sl.alloc (h:Sl w B A xs) (hB:B≤w.heap.size) (o:Obj):Sl (w.alloc o) B A xs:=h.keep fun p hp=>World.cell?_alloc_lt w o p (by omega)
theorem Sl.setCell (h:Sl w B A xs) {p:Addr} (hp:B≤p.block) (u:Value):Sl (w.setCell p u) B A xs:=
 h.keep fun q hq=>World.cell?_setCell_other w p q u (fun e=>by subst e;omega)
theorem Sl.grown (h:Sl w B A xs) {row:Option Nat} (hg:w.grownBy w' row) (hB:B≤w.heap.size) (hr:∀g,row=some g→B≤g):Sl w' B A xs:=
 h.keep fun p hp=>World.cell?_of_block (hg.block p.block (by omega) (fun e=>by have:=hr _ e.symm;omega))
theorem Sl.at_ (h:Sl w B A (B8 bs)) {k:Nat} (hk:k<bs.length):∃b o,A=some ⟨b,o,none⟩∧b<B∧∀j (h:j<bs.length),w.cell? ⟨b,o+j,none⟩=some (.int .u8 (bs[j].toNat:Int)):=by
 obtain⟨b,o,e,hb,hc⟩:=h (by simp;omega);exact⟨b,o,e,hb,fun j hj=>by rw[hc j (by simpa using hj),ed]⟩
theorem Sl.cut (h:Sl w B A xs) {k m cap:Nat} (hk:k+m≤xs.length) (hc:xs.length≤cap):
 Sl w B (if cap=k then A else A.map (·.add k)) ((xs.drop k).take m):=fun hn=>by
 have hm:0<m∧k<xs.length:=by simp at hn;omega
 obtain⟨b,o,rfl,hb,aS⟩:=h (by omega);rw[if_neg (by omega)];refine⟨b,o+k,by simp[j9],hb,fun j hj=>?_⟩;have:=aS (k+j) (by simp at hj;omega);rw[Nat.add_assoc,this];simp
theorem Sl.take (h:Sl w B A xs) (n:Nat):Sl w B A (xs.take n):=fun hn=>by
 obtain⟨b,o,rfl,hb,aS⟩:=h (by simp at hn;omega);exact⟨b,o,rfl,hb,fun j hj=>by rw[aS j (by simp at hj;omega)];simp⟩
end
def Ow (w:World) (base:Nat) (E:TypeId) (v:Value) (xs:List Value):Prop:=
 ∃A c,v=.slice A xs.length c∧xs.length≤c∧c≤maxLen∧
  (0<c→∃g cur,A=some ⟨g,0,none⟩∧base≤g∧w.heap[g]?=some (.cells cur E (0,0))∧c≤cur.size∧cur.toList.take xs.length=xs)
def aY:Value→Option Nat
 |.slice (some a) _ c=>if c=0 then none else some a.block
 |_=>none
section
variable {w w':World} {base E:Nat} {v:Value} {xs:List Value} {A:Option Addr} {n c:Nat}
theorem Ow.nil_ (w:World) (base:Nat) (E:TypeId) (A:Option Addr):Ow w base E (.slice A 0 0) []:=⟨A,0,rfl,by simp,by simp,fun h=>absurd h (by omega)⟩
theorem Ow.len (h:Ow w base E (.slice A n c) xs):n=xs.length∧n≤c∧c≤maxLen:=by
 obtain⟨A',c',e,h1,h2,_⟩:=h;injection e with e1 e2 e3;subst e1 e2 e3;exact⟨rfl,h1,h2⟩
theorem Ow.row (h:Ow w base E v xs):∀g,aY v=some g→base≤g∧g<w.heap.size:=by
 obtain⟨A,c,rfl,h1,h2,h3⟩:=h;intro g hg
 cases A with
 |none=>simp[aY] at hg
 |some a=>
  by_cases hc:c=0
  · simp[aY,hc] at hg
  obtain⟨g',cur,e,hb,hh,_⟩:=h3 (by omega);injection e with e;subst e;simp[aY,hc] at hg;subst hg;exact⟨hb,(adg.1 hh).1⟩
theorem Ow.kept {row:Option Nat} (h:Ow w base E v xs) (hg:w.grownBy w' row) (bN:∀g,aY v=some g→row≠some g):Ow w' base E v xs:=by
 obtain⟨A,c,rfl,h1,h2,h3⟩:=h;refine⟨A,c,rfl,h1,h2,fun hc=>?_⟩;obtain⟨g',cur,rfl,hb,hh,r⟩:=h3 hc;refine⟨g',cur,rfl,hb,?_,r⟩;rw[hg.block g' (adg.1 hh).1 (fun e=>bN g' (by simp[aY];omega) e.symm)];exact hh
theorem Ow.alloc (h:Ow w base E v xs) (o:Obj):Ow (w.alloc o) base E v xs:=h.kept (World.grownBy_alloc w o none) (by simp)
theorem Ow.drew (h:Ow w base E v xs):Ow w.drew base E v xs:=h
theorem Ow.mono {Qh:Nat} (h:Ow w base E v xs) (hb:Qh≤base):Ow w Qh E v xs:=by
 obtain⟨A,c,rfl,h1,h2,h3⟩:=h;exact⟨A,c,rfl,h1,h2,fun hc=>let ⟨g,cur,e,hg,r⟩:=h3 hc;⟨g,cur,e,by omega,r⟩⟩
theorem Ow.setCell (h:Ow w base E v xs) {p:Addr} (hp:∀g,aY v=some g→p.block≠g) (u:Value):Ow (w.setCell p u) base E v xs:=by
 obtain⟨A,c,rfl,h1,h2,h3⟩:=h;refine⟨A,c,rfl,h1,h2,fun hc=>?_⟩;obtain⟨g',cur,rfl,hb,hh,r⟩:=h3 hc;refine⟨g',cur,rfl,hb,?_,r⟩;rw[Below.heap_setCell w p u g' (fun e=>hp g' (by simp[aY];omega) e.symm)];exact hh
theorem Ow.below {B:Nat} (h:Ow w base E v xs) (hb:Below B w w') (hB:w.heap.size≤B):Ow w' base E v xs:=by
 obtain⟨A,c,rfl,h1,h2,h3⟩:=h;refine⟨A,c,rfl,h1,h2,fun hc=>?_⟩;obtain⟨g',cur,rfl,Vc,hh,r⟩:=h3 hc;refine⟨g',cur,rfl,Vc,?_,r⟩;rw[hb.block g' (by have:=(adg.1 hh).1;omega)];exact hh
theorem Ow.sl (h:Ow w base E (.slice A n c) xs):Sl w w.heap.size A xs:=fun hn=>by
 obtain⟨A',c',e,h1,h2,h3⟩:=h;injection e with e1 e2 e3;subst e1 e2 e3;obtain⟨g,cur,rfl,hb,hh,hs,ht⟩:=h3 (by omega);refine⟨g,0,rfl,(adg.1 hh).1,fun j hj=>?_⟩;rw[Nat.zero_add,adn w g j cur E (0,0) hh];have NG:j<cur.size:=by omega
 rw[Array.getElem?_eq_getElem NG];congr 1;have:xs[j]?=(cur.toList.take xs.length)[j]?:=by rw[ht]
 rw[List.getElem?_take,if_pos hj,adp hj] at this;rw[show cur.toList[j]?=cur[j]? by simp,Array.getElem?_eq_getElem NG] at this;injection this with this;exact this.symm
theorem Ow.of_row {cap:Nat} (cur:Array Value) (E base:Nat) (hb:base≤w.heap.size) (hs:cur.size=cap) (hm:cap≤maxLen) (n:Nat) (hn:n≤cap):
 Ow (w.alloc (.cells cur E)) base E (.slice (some ⟨w.heap.size,0,none⟩) n cap) (cur.toList.take n):=by
 have hl:(cur.toList.take n).length=n:=by simp;omega
 refine⟨_,cap,by rw[hl],by omega,hm,fun _=>⟨_,cur,rfl,hb,adk w _,by omega,by rw[hl]⟩⟩
end
section
variable {P:Program} (w:World)
theorem tE (base:Nat) (t ty E:TypeId) (i:TypeInfo) (z:Value) (bytes:Nat) (ht:P.underlying t=some (.slice E)) (hi:P.info? E=some i) (hz:i.zero=some z)
 (oN:i.size=1) (Wd:i.bytes=bytes) (hzs:z.cells.size=1)
 (v:Value) (xs:List Value) (xZ:Ow w base E v xs)
 (B:Nat) (A:Option Addr) (m c:Nat) (news:List Value) (hr:Sl w B A news) (hm:news.length=m) (h1:∀u∈news,u.oneCell'=true)
 (NH:xs.length+m≤maxLen) (kd:(xs.length+m)*bytes≤140737488355328) (dJ:base≤w.heap.size):
 ∃v' w',(Builtin.append_ #[t,t] ty #[v,.slice A m c]).run P w=.ok v' w'∧Ow w' base E v' (xs++news)∧w.grownBy w' (aY v)∧
  (aY v'=aY v∨aY v'=some w.heap.size):=by
 subst hm Wd;have Ka:xs.length+news.length≤9223372036854775807:=by simp only[maxLen] at NH;omega
 obtain⟨Av,cap,rfl,hxc,Kb,bG⟩:=xZ
 by_cases Vd:news=[]
 · subst Vd
   refine⟨.slice Av xs.length cap,w,?_,by simpa using⟨Av,cap,rfl,hxc,Kb,bG⟩,World.grownBy.refl w _,.inl rfl⟩
   cases A<;>cases Av<;>simp[Builtin.append_,run_underlying ht,sizeOf,typeInfo,hi,Builtin.lenOf,Builtin.firstCells,loadCells,loadCellsFrom,hxc,storeCells]
 have hnl:0<news.length:=List.length_pos_iff.2 Vd;obtain⟨b,o,rfl,_,aS⟩:=hr hnl
 have Fi:∀j u,news[j]?=some u→w.cell? ((⟨b,o,none⟩:Addr).add j)=some u:=by
  intro j u hu;obtain⟨hj,e⟩:=adE.1 hu;rw[j9,aS j hj,e]
 have grown:∀(kP:Nat),kP<xs.length+news.length→
  Ow (w.drew.alloc (.cells (xs.toArray++news.toArray++Builtin.zeroCells z.cells (grownCap w (xs.length+news.length) kP E-(xs.length+news.length))) E)) base E
   (.slice (some ⟨w.heap.size,0,none⟩) (xs.length+news.length) (grownCap w (xs.length+news.length) kP E)) (xs++news)∧
  (∀row,w.grownBy (w.drew.alloc (.cells (xs.toArray++news.toArray++Builtin.zeroCells z.cells (grownCap w (xs.length+news.length) kP E-(xs.length+news.length))) E)) row)∧
  aY (.slice (some ⟨w.heap.size,0,none⟩) (xs.length+news.length) (grownCap w (xs.length+news.length) kP E))=some w.heap.size:=by
  intro kP ho;have sH:=grownCap_ge w (xs.length+news.length) kP E;have Kb:=grownCap_le_maxLen w (xs.length+news.length) kP E NH;refine⟨?_,fun row=>⟨rfl,rfl,rfl,by simp,fun k hk _=>Below.heap_alloc w.drew _ k hk⟩,by simp only[aY];rw[if_neg (by omega)]⟩
  have:=Ow.of_row (w:=w.drew) (cap:=grownCap w (xs.length+news.length) kP E)
   (xs.toArray++news.toArray++Builtin.zeroCells z.cells (grownCap w (xs.length+news.length) kP E-(xs.length+news.length))) E base dJ
   (by simp[size_zeroCells,hzs];omega) Kb (xs.length+news.length) sH
  have e:(xs.toArray++news.toArray++Builtin.zeroCells z.cells (grownCap w (xs.length+news.length) kP E-(xs.length+news.length))).toList.take (xs.length+news.length)=xs++news:=by
   simp[List.take_append,ady]
  rw[e] at this;exact this
 by_cases lP:cap=0
 · subst lP
   have hx:xs=[]:=List.eq_nil_of_length_eq_zero (by omega);subst hx;have m9:Builtin.nextslicecap news.length 0*i.bytes≤281474976710656:=by rw[nextslicecap_zero hnl];simp at kd;omega
   have jI:=grown 0 (by simpa using hnl)
   cases Av with
   |none=>
    have hr:=run_append_nil (P:=P) w t ty E i z ht hi hz ⟨b,o,none⟩ news.length c news (by simp[oN]) Fi hnl (by simp at Ka;omega) (by simp at kd;omega);simp only[List.length_nil,Nat.zero_add,adj,Array.empty_append] at jI⊢;exact⟨_,_,hr,jI.1,jI.2.1 _,.inr jI.2.2⟩
   |some a=>
    have hr:=run_append_grow (P:=P) w t ty E i z ht hi hz a 0 0 [] (by simp) (by simp) ⟨b,o,none⟩ news.length c news (by simp[oN]) Fi (by omega) (by simp at Ka⊢;omega) (by simpa using m9);simp only[List.length_nil,Nat.zero_add,adj,Array.empty_append] at jI hr⊢;exact⟨_,_,hr,jI.1,jI.2.1 _,.inr jI.2.2⟩
 obtain⟨g,cur,rfl,Vc,hg,eA,Qi⟩:=bG (by omega);have hrw:aY (.slice (some ⟨g,0,none⟩) xs.length cap)=some g:=by simp[aY,lP]
 by_cases We:xs.length+news.length≤cap
 · have hr:=run_append_room (P:=P) w t ty E i ht hi g xs.length cap cur hg ⟨b,o,none⟩ news.length c news (by simp[oN]) Fi h1 We (by rw[oN];omega)
   refine⟨_,_,hr,⟨_,cap,by simp,by simp;omega,Kb,fun _=>⟨g,_,rfl,Vc,adt w g cur _ E _ hg,?_,?_⟩⟩,⟨rfl,rfl,rfl,by simp,fun k hk pJ=>setRow_other w g k _ (fun e=>pJ (by rw[hrw,e]))⟩,.inl (by simp[aY,lP])⟩
   · simp[oN];omega
   simp only[oN,Nat.mul_one,Qi];simp[List.take_append,ady]
 have holds:∀j u,xs[j]?=some u→w.cell? ((⟨g,0,none⟩:Addr).add j)=some u:=by
  intro j u hu;obtain⟨hj,e⟩:=adE.1 hu;have NG:j<cur.size:=by omega
  rw[j9,Nat.zero_add,adn w g j cur E (0,0) hg];rw[←Qi,List.getElem?_take,if_pos hj] at hu;simpa using hu
 have hr:=run_append_grow (P:=P) w t ty E i z ht hi hz ⟨g,0,none⟩ xs.length cap xs (by simp[oN]) holds ⟨b,o,none⟩ news.length c news (by simp[oN]) Fi (by omega) (by omega) (growslice_fits (by omega) kd);have jI:=grown cap (by omega);exact⟨_,_,hr,jI.1,jI.2.1 _,.inr jI.2.2⟩
end
section
variable {P:Program} (w:World)
theorem ke (src dst E:TypeId) (hs:P.underlying src=some (.slice E)) (he:P.underlying E=some (.int .u8)) (hd:P.underlying dst=some .string)
 (B:Nat) (A:Option Addr) (c:Nat) (bs:List UInt8) (h:Sl w B A (B8 bs)):
 (convert src dst (.slice A bs.length c)).run P w=.ok (.string ⟨bs.toArray⟩) w:=by
 by_cases hb:bs=[]
 · subst hb
   cases A with
   |none=>exact run_convert_bytes_nil w src E hs he _ c dst hd
   |some a=>exact run_convert_bytes_back w src dst E a c [] hs he hd (fun j hj=>absurd hj (by simp))
 obtain⟨b,o,rfl,_,hc⟩:=h.at_ (k:=0) (List.length_pos_iff.2 hb);exact run_convert_bytes_back w src dst E _ c bs hs he hd (fun j hj=>by rw[j9];exact hc j hj)
end
section
variable {P:Program}
theorem qV (t e:TypeId) (i:TypeInfo) (z:Value) (bytes:Nat) (ht:P.underlying t=some (.slice e)) (hi:P.info? e=some i) (hz:i.zero=some z) (oN:i.size=1) (Wd:i.bytes=bytes) (hzs:z.cells=#[z])
 (kl kc:IntKind) (l c:Int) (n cap:Nat) (hl:l=n) (hc:c=cap) (RA:n≤cap) (hb:bytes*cap≤281474976710656) (hm:cap≤maxLen) (W:World):
 (Instr.makeSlice t (.int kl l) (.int kc c)).run P W=.ok (.slice (some ⟨W.heap.size,0,none⟩) n cap) (W.alloc (.cells (Array.replicate cap z) e)):=by
 subst hl hc Wd;have hm':cap≤9223372036854775807:=by simp only[maxLen] at hm;omega
 have zA:(i.bytes:Int)*(cap:Int)≤281474976710656:=by
  have h:((i.bytes*cap:Nat):Int)≤281474976710656:=by omega
  rwa [Int.natCast_mul] at h
 have hr:=run_make (P:=P) W t e i z ht hi hz kl kc n cap (by omega) (by omega) zA (by omega);simp only[Int.toNat_natCast] at hr;rw[hr,oN,hzs]
 have:madeCells #[z] (cap*1)=Array.replicate cap z:=by
  apply Array.ext';rw[Nat.mul_one,toList_madeCells_one];simp
 rw[this]
end
def Fill (w:World) (g:Nat) (E:TypeId) (n:Nat) (xs:List Value) (k:Nat):Prop:=
 ∃cur,w.heap[g]?=some (.cells cur E (0,0))∧cur.size=n∧∀j,j<k→cur[j]?=xs[j]?
section
variable {w w':World} {g E n k j:Nat} {xs:List Value} {v:Value}
theorem Fill.new (w:World) (E:TypeId) (cur:Array Value) (xs:List Value):Fill (w.alloc (.cells cur E)) w.heap.size E cur.size xs 0:=⟨cur,adk w _,rfl,by omega⟩
theorem Fill.new' (w:World) (E:TypeId) (n:Nat) (z:Value) (xs:List Value):Fill (w.alloc (.cells (Array.replicate n z) E)) w.heap.size E n xs 0:=⟨_,adk w _,by simp,by omega⟩
theorem Fill.cell (h:Fill w g E n xs k) (hj:j<n):∃v,w.cell? ⟨g,j,none⟩=some v:=by
 obtain⟨cur,hh,hs,hc⟩:=h;exact⟨_,by rw[adn w g j cur _ _ hh,Array.getElem?_eq_getElem (show j<cur.size by omega)]⟩
theorem Fill.known (h:Fill w g E n xs k) (hj:j<k) (hx:xs[j]?=some v):w.cell? ⟨g,j,none⟩=some v:=by
 obtain⟨cur,hh,hs,hc⟩:=h;rw[adn w g j cur _ _ hh,hc j hj,hx]
theorem Fill.frozen (h:Fill w g E n xs k) (j:Nat):w.frozen? ⟨g,j,none⟩=false:=by
 obtain⟨cur,hh,hs,hc⟩:=h;exact frozen_of_row w g j cur _ hh
theorem Fill.set (h:Fill w g E n xs k) (hk:k<n) (hx:xs[k]?=some v):Fill (w.setCell ⟨g,k,none⟩ v) g E n xs (k+1):=by
 obtain⟨cur,hh,hs,hc⟩:=h;refine⟨_,heap_setCell_same w g k cur _ v hh,by simpa using hs,fun j hj=>?_⟩;rw[Array.getElem?_setIfInBounds]
 by_cases e:k=j
 · subst e;rw[if_pos rfl,if_pos (by omega),hx]
 rw[if_neg e,hc j (by omega)]
theorem Fill.put (h:Fill w g E n xs k) (hk:k≤j) (u:Value):Fill (w.setCell ⟨g,j,none⟩ u) g E n xs k:=by
 obtain⟨cur,hh,hs,hc⟩:=h;refine⟨_,heap_setCell_same w g j cur _ u hh,by simpa using hs,fun i hi=>?_⟩;rw[Array.getElem?_setIfInBounds,if_neg (by omega),hc i (by omega)]
theorem Fill.lt (h:Fill w g E n xs k):g<w.heap.size:=by
 obtain⟨cur,hh,hs,hc⟩:=h;exact(adg.1 hh).1
theorem Fill.alloc (h:Fill w g E n xs k) (o:Obj):Fill (w.alloc o) g E n xs k:=by
 have hl:=h.lt;obtain⟨cur,hh,hs,hc⟩:=h;exact⟨cur,(Below.heap_alloc w o g hl).trans hh,hs,hc⟩
theorem Fill.drew (h:Fill w g E n xs k):Fill w.drew g E n xs k:=h
theorem Fill.drewN (h:Fill w g E n xs k) (m:Nat):Fill (w.drewN m) g E n xs k:=h
theorem Fill.below {B:Nat} (h:Fill w g E n xs k) (hb:Below B w w') (hg:g<B):Fill w' g E n xs k:=by
 obtain⟨cur,hh,hs,hc⟩:=h;exact⟨cur,(hb.block g hg).trans hh,hs,hc⟩
theorem Fill.done (h:Fill w g E n xs n) (hx:xs.length=n):w.heap[g]?=some (.cells xs.toArray E (0,0)):=by
 obtain⟨cur,hh,hs,hc⟩:=h;rw[hh]
 have:cur=xs.toArray:=by
  apply Array.ext_getElem?;intro i
  by_cases hi:i<n
  · rw[hc i hi];simp
  rw[Array.getElem?_eq_none (by omega)];simp;omega
 rw[this]
end
theorem x5 {B:Nat} {a w:World} (h:Below B a w) (n:Nat):Below B a (w.drewN n):=⟨h.os,h.tape,h.output,h.size,h.block⟩
section
variable {w w':World} {base E n c:Nat} {v:Value} {A:Option Addr} {xs:List Value}
theorem Ow.at_ (h:Ow w base E (.slice A n c) xs) {j:Nat} (hj:j<xs.length):∃g,A=some ⟨g,0,none⟩∧base≤g∧aY (.slice A n c)=some g∧w.cell? ⟨g,j,none⟩=some xs[j]∧w.frozen? ⟨g,j,none⟩=false:=by
 have nh:=h.sl;obtain⟨A',c',e,h1,h2,h3⟩:=h;injection e with e1 e2 e3;subst e1 e2 e3;obtain⟨g,cur,rfl,hb,hh,hs,ht⟩:=h3 (by omega);obtain⟨b,o,e,_,hc⟩:=nh (by omega);simp at e;obtain⟨rfl,rfl⟩:=e;exact⟨g,rfl,hb,by simp[aY];omega,by have:=hc j hj;rwa [Nat.zero_add] at this,frozen_of_row w g j cur _ hh⟩
theorem Ow.store {g:Nat} (h:Ow w base E (.slice (some ⟨g,0,none⟩) n c) xs) (j:Nat) (hc:0<c) (u:Value):Ow (w.setCell ⟨g,j,none⟩ u) base E (.slice (some ⟨g,0,none⟩) n c) (xs.set j u):=by
 obtain⟨A',c',e,h1,h2,h3⟩:=h;injection e with e1 e2 e3;subst e1 e2 e3;obtain⟨g',cur,e,hb,hh,hs,ht⟩:=h3 hc;simp at e;subst e;refine⟨_,c,by rw[List.length_set],by simpa using h1,h2,fun _=>⟨g,_,rfl,hb,heap_setCell_same w g j cur _ u hh,by simpa using hs,?_⟩⟩;rw[List.length_set,Array.toList_setIfInBounds,List.take_set,ht]
theorem Ow.keepsOthers {row:Option Nat} (h:Ow w base E v xs) (hg:w.grownBy w' row) (hr:row=aY v):KeepsOthers w w':=
 KeepsOthers.of_grownBy hg fun j o e ho=>by
  obtain⟨A,c,rfl,h1,h2,h3⟩:=h
  cases A with
  |none=>rw[hr] at e;simp[aY] at e
  |some a=>
   by_cases hc:c=0
   · rw[hr] at e;simp[aY,hc] at e
   obtain⟨g,cur,ea,_,hh,_⟩:=h3 (by omega);injection ea with ea;subst ea;rw[hr] at e;simp[aY,hc] at e;subst e;rw[hh] at ho;injection ho with ho;subst ho;rfl
theorem Ow.others {row:Option Nat} (h:Ow w base E v xs) (hg:w.grownBy w' row) (hr:∀r,row=some r→∃o:Obj,w.heap[r]?=some o∧o.isCells=false):Ow w' base E v xs:=
 h.kept hg fun g jI e=>by
  obtain⟨o,ho,hc⟩:=hr g e;obtain⟨A,c,rfl,h1,h2,h3⟩:=h
  cases A with
  |none=>simp[aY] at jI
  |some a=>
   by_cases lP:c=0
   · simp[aY,lP] at jI
   obtain⟨g',cur,ea,_,hh,_⟩:=h3 (by omega);injection ea with ea;subst ea;simp[aY,lP] at jI;subst jI;rw[hh] at ho;injection ho with ho;subst ho;cases hc
theorem eK {b t:Nat} {row:Option Nat} (h:Boxed w b t v) (hg:w.grownBy w' row) (hr:∀r,row=some r→∃o:Obj,w.heap[r]?=some o∧o.isCells=false):Boxed w' b t v:=
 h.kept hg fun e=>by
  obtain⟨o,ho,hc⟩:=hr b e.symm;rw[show w.heap[b]?=_ from h] at ho;injection ho with ho;subst ho;cases hc
theorem ib {b t:Nat} (h:Boxed w b t v):Boxed w.drew b t v:=h
theorem qW {b t:Nat} (h:Boxed w b t v) {p:Addr} (hp:b≠p.block) (u:Value):Boxed (w.setCell p u) b t v:=(Below.heap_setCell w p u b hp).trans h
theorem Ow.row_ne_box {b t:Nat} {u:Value} (h:Ow w base E v xs) (hb:Boxed w b t u) (hte:t≠E):∀g,aY v=some g→g≠b:=by
 obtain⟨A,c,rfl,h1,h2,h3⟩:=h;intro g hg e;subst e
 cases A with
 |none=>simp[aY] at hg
 |some a=>
  by_cases lP:c=0
  · simp[aY,lP] at hg
  obtain⟨g',cur,ea,_,hh,_⟩:=h3 (by omega);injection ea with ea;subst ea;simp[aY,lP] at hg;subst hg;rw[show w.heap[g']?=_ from hb] at hh;injection hh with hh;injection hh with _ ht;exact hte ht
end
structure El (P:Program) (t E:TypeId) (z:Value) (bytes:Nat):Prop where
 und:P.underlying t=some (.slice E)
 info:(P.info? E).map (fun i=>(i.zero,i.size,i.bytes))=some (some z,1,bytes)
 zc:z.cells=#[z]
section
variable {P:Program} {w:World} {base t E:Nat} {z:Value} {bytes:Nat} {v:Value} {xs:List Value} {B:Nat} {A:Option Addr} {m c:Nat} {news:List Value}
theorem El.append (hE:El P t E z bytes) (ty:TypeId) (xZ:Ow w base E v xs) (hr:Sl w B A news) (hm:news.length=m) (h1:∀u∈news,u.oneCell'=true)
 (NH:xs.length+m≤maxLen) (kd:(xs.length+m)*bytes≤140737488355328) (dJ:base≤w.heap.size):
 ∃v' w',(Builtin.append_ #[t,t] ty #[v,.slice A m c]).run P w=.ok v' w'∧Ow w' base E v' (xs++news)∧w.grownBy w' (aY v)∧(aY v'=aY v∨aY v'=some w.heap.size):=by
 obtain⟨i0,hi,jh,kV,mo⟩:=info_parts hE.info;exact tE w base t ty E i0 z bytes hE.und hi jh kV mo (by rw[hE.zc];rfl) v xs xZ B A m c news hr hm h1 NH kd dJ
theorem b6 {o:Oper} {a:Act} {K:Act→World→Prop} {Q:Exit→Act→World→Prop} (hE:El P t E z bytes) (s x:Operand)
 (ho:o.op=.call { callee:=.builtin .append,args:=#[s,x],argTypes:=#[t,t] }) (hs:a.eval s=v) (xZ:Ow w base E v xs) (hx:a.eval x=.slice A m c) (hr:Sl w B A news) (hm:news.length=m) (h1:∀u∈news,u.oneCell'=true)
 (NH:xs.length+m≤maxLen) (kd:(xs.length+m)*bytes≤140737488355328) (dJ:base≤w.heap.size)
 (h:∀v' w',Ow w' base E v' (xs++news)→w.grownBy w' (aY v)→(aY v'=aY v∨aY v'=some w.heap.size)→K (a.put o.dst v') w'):o.wp P a w K Q:=by
 obtain⟨v',w',x8,h2,h3,h4⟩:=hE.append (c:=c) o.type xZ hr hm h1 NH kd dJ;unfold Oper.wp execOp;simp only[ho,resolve,invoke,builtin,Sem.run_bind,Sem.run_pure,Result.andThen_ok,List.map_toArray,List.map_cons,List.map_nil,hs,hx,x8];exact h v' w' h2 h3 h4
theorem kf {F:Fence} {n:Nat} (hF:∀k,F.fn k) {o:Oper} {a:Act} {K:Act→World→Prop} {Q:Exit→Act→World→Prop} (hE:El P t E z bytes) (s x:Operand)
 (ho:o.op=.call { callee:=.builtin .append,args:=#[s,x],argTypes:=#[t,t] }) (hs:a.eval s=v) (xZ:Ow w base E v xs) (hx:a.eval x=.slice A m c) (hr:Sl w B A news) (hm:news.length=m) (h1:∀u∈news,u.oneCell'=true)
 (NH:xs.length+m≤maxLen) (kd:(xs.length+m)*bytes≤140737488355328) (dJ:base≤w.heap.size)
 (h:∀v' w',Ow w' base E v' (xs++news)→w.grownBy w' (aY v)→(aY v'=aY v∨aY v'=some w.heap.size)→K (a.put o.dst v') w'):o.wpIn F n P a w K Q:=by
 obtain⟨v',w',x8,h2,h3,h4⟩:=hE.append (c:=c) o.type xZ hr hm h1 NH kd dJ;refine⟨fun f _=>hF f,?_⟩;rw[Oper.semAt_eq _ _ _ (by simp[ho])];unfold execOp;simp only[ho,resolve,invoke,builtin,Sem.run_bind,Sem.run_pure,Result.andThen_ok,List.map_toArray,List.map_cons,List.map_nil,hs,hx,x8];exact h v' w' h2 h3 h4
theorem aX {ops:Array Oper} {rest:List Oper} {o:Oper} {a:Act} {Q:Exit→Act→World→Prop} (hE:El P t E z bytes) (lQ:o.guard=none) (s x:Operand)
 (ho:o.op=.call { callee:=.builtin .append,args:=#[s,x],argTypes:=#[t,t] }) (hs:a.eval s=v) (xZ:Ow w base E v xs) (hx:a.eval x=.slice A m c) (hr:Sl w B A news) (hm:news.length=m) (h1:∀u∈news,u.oneCell'=true)
 (NH:xs.length+m≤maxLen) (kd:(xs.length+m)*bytes≤140737488355328) (dJ:base≤w.heap.size)
 (h:∀v' w',Ow w' base E v' (xs++news)→w.grownBy w' (aY v)→(aY v'=aY v∨aY v'=some w.heap.size)→wpList P ops Q rest (a.put o.dst v') w'):wpList P ops Q (o::rest) a w:=
 wpList_plain lQ fun _ hK=>b6 hE s x ho hs xZ hx hr hm h1 NH kd dJ fun v' w' h2 h3 h4=>hK _ _ (h v' w' h2 h3 h4)
theorem Sl.one (w:World) (u:Value) (E:TypeId):Sl (w.alloc (.cells #[u] E)) (w.heap.size+1) (some ⟨w.heap.size,0,none⟩) [u]:=fun _=>
 ⟨w.heap.size,0,rfl,by omega,fun j hj=>by
  have:j=0:=by simp at hj;omega
  subst this;simp⟩
end
section
variable {P:Program} {w:World} {dT sT E:Nat} {z:Value} {bytes g off dLen dCap sLen sCap B:Nat} {A:Option Addr} {cur:Array Value} {t:TypeId} {cs:List Value}
theorem Aa (hE:El P dT E z bytes) (ty:TypeId) (hg:w.heap[g]?=some (.cells cur t (0,0))) (hn:cs.length=Nat.min sLen dLen) (Kc:Sl w B A cs) (m9:off+cs.length≤cur.size) (h1:∀v∈cs,v.oneCell'=true):
 (Builtin.copy_ #[dT,sT] ty #[.slice (some ⟨g,off,none⟩) dLen dCap,.slice A sLen sCap]).run P w=.ok (.int .i64 (cs.length:Int)) (w.setRow g (cur.toList.take off++cs++cur.toList.drop (off+cs.length)).toArray):=by
 obtain⟨i0,hi,jh,kV,mo⟩:=info_parts hE.info;have eD:(P.info? E).map (·.size)=some 1:=by rw[hi];simp[kV]
 by_cases h0:cs.length=0
 · obtain rfl:cs=[]:=List.eq_nil_of_length_eq_zero h0
   rw[run_copy_none (P:=P) w dT sT ty E (some ⟨g,off,none⟩) A dLen dCap sLen sCap hE.und eD (by simpa using hn.symm)];simp only[List.append_nil,List.length_nil,Nat.add_zero,List.take_append_drop];rw[show cur.toList.toArray=cur from rfl,setRow_self w g cur t _ hg];rfl
 obtain⟨b,o,rfl,_,hc⟩:=Kc (by omega)
 have x8:=run_copy_row (P:=P) w dT sT ty E g off dLen dCap ⟨b,o,none⟩ sLen sCap cur t cs hE.und eD hg hn (fun j v hj=>by
  obtain⟨zB,e⟩:=adE.1 hj;rw[j9,hc j zB,e]) m9 h1
 rw[x8];rfl
theorem iY {o:Oper} {a:Act} {K:Act→World→Prop} {Q:Exit→Act→World→Prop} (hE:El P dT E z bytes) (d s:Operand)
 (ho:o.op=.call { callee:=.builtin .copy,args:=#[d,s],argTypes:=#[dT,sT] }) (hd:a.eval d=.slice (some ⟨g,off,none⟩) dLen dCap) (hs:a.eval s=.slice A sLen sCap)
 (hg:w.heap[g]?=some (.cells cur t (0,0))) (hn:cs.length=Nat.min sLen dLen) (Kc:Sl w B A cs) (m9:off+cs.length≤cur.size) (h1:∀v∈cs,v.oneCell'=true)
 (h:K (a.put o.dst (.int .i64 (cs.length:Int))) (w.setRow g (cur.toList.take off++cs++cur.toList.drop (off+cs.length)).toArray)):o.wp P a w K Q:=by
 have x8:=Aa (sT:=sT) (dCap:=dCap) (sCap:=sCap) hE o.type hg hn Kc m9 h1;unfold Oper.wp execOp;simp only[ho,resolve,invoke,builtin,Sem.run_bind,Sem.run_pure,Result.andThen_ok,List.map_toArray,List.map_cons,List.map_nil,hd,hs,x8];exact h
theorem tF {ops:Array Oper} {rest:List Oper} {o:Oper} {a:Act} {Q:Exit→Act→World→Prop} (hE:El P dT E z bytes) (lQ:o.guard=none) (d s:Operand)
 (ho:o.op=.call { callee:=.builtin .copy,args:=#[d,s],argTypes:=#[dT,sT] }) (hd:a.eval d=.slice (some ⟨g,off,none⟩) dLen dCap) (hs:a.eval s=.slice A sLen sCap)
 (hg:w.heap[g]?=some (.cells cur t (0,0))) (hn:cs.length=Nat.min sLen dLen) (Kc:Sl w B A cs) (m9:off+cs.length≤cur.size) (h1:∀v∈cs,v.oneCell'=true)
 (h:∀w',w'=w.setRow g (cur.toList.take off++cs++cur.toList.drop (off+cs.length)).toArray→wpList P ops Q rest (a.put o.dst (.int .i64 (cs.length:Int))) w'):wpList P ops Q (o::rest) a w:=
 wpList_plain lQ fun _ hK=>iY hE d s ho hd hs hg hn Kc m9 h1 (hK _ _ (h _ rfl))
end
theorem Fill.splice {w:World} {g E n k m:Nat} {xs:List Value} {cur:Array Value} (hg:w.heap[g]?=some (.cells cur E (0,0))) (hs:cur.size=n) (hc:∀j,j<k→cur[j]?=xs[j]?) (hm:k+m≤n) (hx:k+m≤xs.length) {cs:List Value} (e:cs=(xs.drop k).take m):
 Fill (w.setRow g (cur.toList.take k++cs++cur.toList.drop (k+cs.length)).toArray) g E n xs (k+m):=by
 have hl:cs.length=m:=by rw[e];simp;omega
 refine⟨_,adt w g cur _ E _ hg,by simp;omega,fun j hj=>?_⟩;simp only[List.getElem?_toArray]
 by_cases h1:j<k
 · rw[List.append_assoc,adG (by simp;omega),List.getElem?_take,if_pos h1,Array.getElem?_toList];exact hc j h1
 rw[List.append_assoc,adC (by simp;omega),adG (by simp;omega),e,List.getElem?_take,List.getElem?_drop];simp only[adq,Array.length_toList];rw[if_pos (by omega)];congr 1;omega
theorem au {B:Nat} {w0 w:World} {g:Nat} (hb:Below B w0 w) (hBg:B≤g) (cs:Array Value):Below B w0 (w.setRow g cs):=below_setRow hb hBg cs
end Go.Proofs.YtnlkdheaohocnaaGreatDoor
namespace Go.Proofs.YtnlkdheaohocnaaGreatDoor
open Go
def dY (xs:List (BitVec 64)):List Value:=xs.map fun x=>.int .u64 (x.toNat:Int)
@[simp] theorem W64_length (xs:List (BitVec 64)):(dY xs).length=xs.length:=by simp[dY]
theorem ni (xs:List (BitVec 64)) (k:Nat):(dY xs)[k]?=xs[k]?.map fun x=>.int .u64 (x.toNat:Int):=by simp[dY]
def Ve (x:BitVec 64):BitVec 64:=x.rotateRight 1 ^^^ x.rotateRight 8 ^^^ (x>>>7)
def Vf (x:BitVec 64):BitVec 64:=x.rotateRight 19 ^^^ x.rotateRight 61 ^^^ (x>>>6)
def Sg0 (x:BitVec 64):BitVec 64:=x.rotateRight 28 ^^^ x.rotateRight 34 ^^^ x.rotateRight 39
def Sg1 (x:BitVec 64):BitVec 64:=x.rotateRight 14 ^^^ x.rotateRight 18 ^^^ x.rotateRight 41
def iZ (b:List UInt8) (i:Nat):Nat→BitVec 64
 |0=>0
 |q+1=>iZ b i q<<<8 ||| (b.getD (8*i+q) 0).toBitVec.setWidth 64
def Qj (b:List UInt8) (i:Nat):BitVec 64:=iZ b i 8
def lK (b:List UInt8) (k:Nat):BitVec 64:=
 if k<16 then Qj b k else lK b (k-16)+lK b (k-7)+Ve (lK b (k-15))+Vf (lK b (k-2))
termination_by k
decreasing_by all_goals omega
theorem Kd (b:List UInt8) (k:Nat) (h:k<16):lK b k=Qj b k:=by rw[lK,if_pos h]
theorem Ke (b:List UInt8) (k:Nat) (h:¬k<16):lK b k=lK b (k-16)+lK b (k-7)+Ve (lK b (k-15))+Vf (lK b (k-2)):=by rw[lK,if_neg h]
def o7 (b:List UInt8):List (BitVec 64):=(List.range 80).map (lK b)
theorem eV (b:List UInt8) (k:Nat) (h:k<80):(dY (o7 b))[k]?=some (.int .u64 ((lK b k).toNat:Int)):=by rw[ni];simp[o7,h]
theorem eE (b:List UInt8):(o7 b).length=80:=by simp[o7]
def ch5 (e f g:BitVec 64):BitVec 64:=(e &&& f) ^^^ (~~~e &&& g)
def RB (a b c:BitVec 64):BitVec 64:=((a &&& b) ^^^ (a &&& c)) ^^^ (b &&& c)
def Kf (k x:BitVec 64):List (BitVec 64)→List (BitVec 64)
 |[a,b,c,d,e,f,g,h]=>[h+Sg1 e+ch5 e f g+k+x+(Sg0 a+RB a b c),a,b,c,d+(h+Sg1 e+ch5 e f g+k+x),e,f,g]
 |l=>l
def sa (ks:List (BitVec 64)) (bs:List UInt8) (st:List (BitVec 64)):Nat→List (BitVec 64)
 |0=>st
 |k+1=>Kf (ks.getD k 0) (lK bs k) (sa ks bs st k)
def jJ (ks:List (BitVec 64)) (bs:List UInt8) (st:List (BitVec 64)):List (BitVec 64):=List.zipWith (·+·) st (sa ks bs st 80)
theorem Kg (x y:BitVec 64):((x.toNat:Int)+(y.toNat:Int))%18446744073709551616=((x+y).toNat:Int):=by simp[BitVec.toNat_add]
theorem Kh (x y:BitVec 64):bits .xor .u64 (x.toNat:Int) (y.toNat:Int)=((x ^^^ y).toNat:Int):=by rw[u64_xor_nat _ _ x.isLt y.isLt,BitVec.toNat_xor]
theorem RC (x y:BitVec 64):bits .and .u64 (x.toNat:Int) (y.toNat:Int)=((x &&& y).toNat:Int):=by rw[u64_and_nat _ _ x.isLt y.isLt,BitVec.toNat_and]
theorem Qk (x y:BitVec 64):bits .or .u64 (x.toNat:Int) (y.toNat:Int)=((x ||| y).toNat:Int):=by rw[u64_or_nat _ _ x.isLt y.isLt,BitVec.toNat_or]
theorem Ki (x:BitVec 64) (n:Nat):(x.toNat:Int)/2^n=((x>>>n).toNat:Int):=by simp[BitVec.toNat_ushiftRight,Nat.shiftRight_eq_div_pow]
theorem Kj (x:BitVec 64) (n:Nat):(x.toNat:Int)*2^n%18446744073709551616=((x<<<n).toNat:Int):=by simp[BitVec.toNat_shiftLeft,Nat.shiftLeft_eq]
theorem N8 (x:UInt8):(x.toNat:Int)=((x.toBitVec.setWidth 64).toNat:Int):=by
 have h:=x.toNat_lt;rw[BitVec.toNat_setWidth,UInt8.toNat_toBitVec,adu (by omega)]
theorem RD (x:BitVec 64):bits .xor .u64 IntKind.u64.max (x.toNat:Int)=((~~~x).toNat:Int):=by
 have h:IntKind.u64.max=(((BitVec.allOnes 64).toNat:Nat):Int):=by decide
 rw[h,Kh,BitVec.allOnes_xor]
def dG (ss vs:List (BitVec 64)) (k:Nat):List (BitVec 64):=(List.zipWith (·+·) ss vs).take k++ss.drop k
theorem sb (ss vs:List (BitVec 64)):dG ss vs 0=ss:=by simp[dG]
theorem tG (ss vs:List (BitVec 64)) (h1:ss.length=8) (h2:vs.length=8):dG ss vs 8=List.zipWith (·+·) ss vs:=by
 rw[dG,ady (by simp[h1,h2]),List.drop_eq_nil_of_le (by omega),List.append_nil]
theorem oO (ss vs:List (BitVec 64)) (h1:ss.length=8) (h2:vs.length=8) (k:Nat) (hk:k≤8):(dG ss vs k).length=8:=by simp[dG,h1,h2];omega
theorem wR (ss vs:List (BitVec 64)) (h1:ss.length=8) (h2:vs.length=8) (rest:List Value) (k:Nat) (hk:k<8):
 (dY (dG ss vs k)++rest).toArray[k]?=some (.int .u64 ((ss.getD k 0).toNat:Int)):=by
 have hl:=oO ss vs h1 h2 k (by omega);rw[List.getElem?_toArray,adG (by simp[hl,hk]),ni,dG,adC (by simp;omega)];simp[h1,h2,show min k 8=k by omega,hk]
theorem tH (ss vs:List (BitVec 64)) (h1:ss.length=8) (h2:vs.length=8) (rest:List Value) (k:Nat) (hk:k<8):
 (dY (dG ss vs k)++rest).toArray.setIfInBounds k (.int .u64 ((ss.getD k 0+vs.getD k 0).toNat:Int))=(dY (dG ss vs (k+1))++rest).toArray:=by
 match ss,h1,vs,h2 with
 |[s0,s1,s2,s3,s4,s5,s6,s7],_,[a0,a1,a2,a3,a4,a5,a6,a7],_=>
 match k,hk with
 |0,_=>simp[dG,dY]
 |1,_=>simp[dG,dY]
 |2,_=>simp[dG,dY]
 |3,_=>simp[dG,dY]
 |4,_=>simp[dG,dY]
 |5,_=>simp[dG,dY]
 |6,_=>simp[dG,dY]
 |7,_=>simp[dG,dY]
theorem oP {P:Program} (t e:TypeId) (n:Nat) (cs:Array Value) (kk:IntKind) (k:Nat) (v:Value) (h:P.underlying t=some (.array n e)) (he:P.underlying e=some (.int .u64)) (hs:(P.info? e).map (·.size)=some 1) (hk:k<n) (hv:cs[k]?=some v) (w:World):
 (Instr.index t (.agg cs) (.int kk (k:Int))).run P w=.ok v w:=by
 have eD:(sizeOf e).run P w=.ok 1 w:=by
  cases hq:P.info? e with
  |none=>simp[hq] at hs
  |some i=>simp[hq] at hs;simp[sizeOf,typeInfo,hq,hs]
 have RE:(isAgg e).run P w=.ok false w:=by
  unfold isAgg;rw[Sem.run_bind,run_underlying he w];rfl
 simp[Instr.index,asIntOf,run_underlying h,eD,part,RE,hv,hk,go_sem]
def cg (xs:List (BitVec 32)):List Value:=xs.map fun x=>.int .u32 (x.toNat:Int)
@[simp] theorem W32_length (xs:List (BitVec 32)):(cg xs).length=xs.length:=by simp[cg]
theorem pK (xs:List (BitVec 32)) (k:Nat):(cg xs)[k]?=xs[k]?.map fun x=>.int .u32 (x.toNat:Int):=by simp[cg]
def N9 (x:BitVec 32):BitVec 32:=x.rotateRight 7 ^^^ x.rotateRight 18 ^^^ (x>>>3)
def Oa (x:BitVec 32):BitVec 32:=x.rotateRight 17 ^^^ x.rotateRight 19 ^^^ (x>>>10)
def RG (x:BitVec 32):BitVec 32:=x.rotateRight 2 ^^^ x.rotateRight 13 ^^^ x.rotateRight 22
def Ob (x:BitVec 32):BitVec 32:=x.rotateRight 6 ^^^ x.rotateRight 11 ^^^ x.rotateRight 25
def RH (b:List UInt8) (i:Nat):BitVec 32:=
 (b.getD (4*i) 0).toBitVec.setWidth 32<<<24 ||| (b.getD (4*i+1) 0).toBitVec.setWidth 32<<<16 ||| (b.getD (4*i+2) 0).toBitVec.setWidth 32<<<8 ||| (b.getD (4*i+3) 0).toBitVec.setWidth 32
def wd (b:List UInt8) (k:Nat):BitVec 32:=
 if k<16 then RH b k else wd b (k-16)+wd b (k-7)+N9 (wd b (k-15))+Oa (wd b (k-2))
termination_by k
decreasing_by all_goals omega
theorem Wf (b:List UInt8) (k:Nat) (h:k<16):wd b k=RH b k:=by rw[wd,if_pos h]
theorem Wg (b:List UInt8) (k:Nat) (h:¬k<16):wd b k=wd b (k-16)+wd b (k-7)+N9 (wd b (k-15))+Oa (wd b (k-2)):=by rw[wd,if_neg h]
def RI (b:List UInt8):List (BitVec 32):=(List.range 64).map (wd b)
theorem kg (b:List UInt8) (k:Nat) (h:k<64):(cg (RI b))[k]?=some (.int .u32 ((wd b k).toNat:Int)):=by rw[pK];simp[RI,h]
theorem tJ (b:List UInt8):(RI b).length=64:=by simp[RI]
def ch (e f g:BitVec 32):BitVec 32:=(e &&& f) ^^^ (~~~e &&& g)
def maj (a b c:BitVec 32):BitVec 32:=((a &&& b) ^^^ (a &&& c)) ^^^ (b &&& c)
def rnd (k x:BitVec 32):List (BitVec 32)→List (BitVec 32)
 |[a,b,c,d,e,f,g,h]=>[h+Ob e+ch e f g+k+x+(RG a+maj a b c),a,b,c,d+(h+Ob e+ch e f g+k+x),e,f,g]
 |l=>l
def Gx (ks:List (BitVec 32)) (bs:List UInt8) (st:List (BitVec 32)):Nat→List (BitVec 32)
 |0=>st
 |k+1=>rnd (ks.getD k 0) (wd bs k) (Gx ks bs st k)
def tK (ks:List (BitVec 32)) (bs:List UInt8) (st:List (BitVec 32)):List (BitVec 32):=List.zipWith (·+·) st (Gx ks bs st 64)
theorem qX (x y:BitVec 32):((x.toNat:Int)+(y.toNat:Int))%4294967296=((x+y).toNat:Int):=by simp[BitVec.toNat_add]
theorem kh (x y:BitVec 32):bits .xor .u32 (x.toNat:Int) (y.toNat:Int)=((x ^^^ y).toNat:Int):=by rw[u32_xor_nat _ _ x.isLt y.isLt,BitVec.toNat_xor]
theorem qY (x y:BitVec 32):bits .and .u32 (x.toNat:Int) (y.toNat:Int)=((x &&& y).toNat:Int):=by rw[u32_and_nat _ _ x.isLt y.isLt,BitVec.toNat_and]
theorem tL (x y:BitVec 32):bits .or .u32 (x.toNat:Int) (y.toNat:Int)=((x ||| y).toNat:Int):=by rw[u32_or_nat _ _ x.isLt y.isLt,BitVec.toNat_or]
theorem Kk (x:BitVec 32) (n:Nat):(x.toNat:Int)/2^n=((x>>>n).toNat:Int):=by simp[BitVec.toNat_ushiftRight,Nat.shiftRight_eq_div_pow]
theorem qZ (x:BitVec 32) (n:Nat):(x.toNat:Int)*2^n%4294967296=((x<<<n).toNat:Int):=by simp[BitVec.toNat_shiftLeft,Nat.shiftLeft_eq]
theorem Fj (x:UInt8):(x.toNat:Int)=((x.toBitVec.setWidth 32).toNat:Int):=by
 have h:=x.toNat_lt;rw[BitVec.toNat_setWidth,UInt8.toNat_toBitVec,adu (by omega)]
theorem Wh (x r1 r2:BitVec 32):bits .xor .u32 (bits .xor .u32 (r1.toNat:Int) (r2.toNat:Int)) ((x.toNat:Int)/8)=((r1 ^^^ r2 ^^^ (x>>>3)).toNat:Int):=by
 rw[kh,show (8:Int)=2^3 from rfl,Kk,kh]
theorem Wi (x r1 r2:BitVec 32):bits .xor .u32 (bits .xor .u32 (r1.toNat:Int) (r2.toNat:Int)) ((x.toNat:Int)/1024)=((r1 ^^^ r2 ^^^ (x>>>10)).toNat:Int):=by
 rw[kh,show (1024:Int)=2^10 from rfl,Kk,kh]
theorem Wj (r1 r2 r3:BitVec 32):bits .xor .u32 (bits .xor .u32 (r1.toNat:Int) (r2.toNat:Int)) (r3.toNat:Int)=((r1 ^^^ r2 ^^^ r3).toNat:Int):=by
 rw[kh,kh]
theorem x9 (a b c d:BitVec 32):((a.toNat:Int)+(b.toNat:Int)+(c.toNat:Int)+(d.toNat:Int))%4294967296=((a+b+c+d).toNat:Int):=by
 simp[BitVec.toNat_add]
theorem Oc (a b c d e:BitVec 32):((a.toNat:Int)+(b.toNat:Int)+(c.toNat:Int)+(d.toNat:Int)+(e.toNat:Int))%4294967296=((a+b+c+d+e).toNat:Int):=by
 simp[BitVec.toNat_add]
theorem Kl (x:BitVec 32):bits .xor .u32 IntKind.u32.max (x.toNat:Int)=((~~~x).toNat:Int):=by
 have h:IntKind.u32.max=(((BitVec.allOnes 32).toNat:Nat):Int):=by decide
 rw[h,kh,BitVec.allOnes_xor]
theorem aap (h e f g k x r1 r2 r3:BitVec 32):
 ((h.toNat:Int)+bits .xor .u32 (bits .xor .u32 (r1.toNat:Int) (r2.toNat:Int)) (r3.toNat:Int)+bits .xor .u32 (bits .and .u32 (e.toNat:Int) (f.toNat:Int)) (bits .and .u32 (bits .xor .u32 IntKind.u32.max (e.toNat:Int)) (g.toNat:Int))+(k.toNat:Int)+(x.toNat:Int))%4294967296
  =((h+(r1 ^^^ r2 ^^^ r3)+ch e f g+k+x).toNat:Int):=by
 rw[Wj,Kl,qY,qY,kh,Oc];rfl
theorem aaq (a b c r1 r2 r3:BitVec 32):
 (bits .xor .u32 (bits .xor .u32 (r1.toNat:Int) (r2.toNat:Int)) (r3.toNat:Int)+bits .xor .u32 (bits .xor .u32 (bits .and .u32 (a.toNat:Int) (b.toNat:Int)) (bits .and .u32 (a.toNat:Int) (c.toNat:Int))) (bits .and .u32 (b.toNat:Int) (c.toNat:Int)))%4294967296
  =(((r1 ^^^ r2 ^^^ r3)+maj a b c).toNat:Int):=by
 rw[Wj,qY,qY,qY,kh,kh,qX];rfl
def mixed (ss vs:List (BitVec 32)) (k:Nat):List (BitVec 32):=(List.zipWith (·+·) ss vs).take k++ss.drop k
theorem Dk (ss vs:List (BitVec 32)):mixed ss vs 0=ss:=by simp[mixed]
theorem Gy (ss vs:List (BitVec 32)) (h1:ss.length=8) (h2:vs.length=8):mixed ss vs 8=List.zipWith (·+·) ss vs:=by
 rw[mixed,ady (by simp[h1,h2]),List.drop_eq_nil_of_le (by omega),List.append_nil]
theorem ya (ss vs:List (BitVec 32)) (h1:ss.length=8) (h2:vs.length=8) (k:Nat) (hk:k≤8):(mixed ss vs k).length=8:=by simp[mixed,h1,h2];omega
theorem Km (ss vs:List (BitVec 32)) (h1:ss.length=8) (h2:vs.length=8) (rest:List Value) (k:Nat) (hk:k<8):
 (cg (mixed ss vs k)++rest).toArray[k]?=some (.int .u32 ((ss.getD k 0).toNat:Int)):=by
 have hl:=ya ss vs h1 h2 k (by omega);rw[List.getElem?_toArray,adG (by simp[hl,hk]),pK,mixed,adC (by simp;omega)];simp[h1,h2,show min k 8=k by omega,hk]
theorem Gz (ss vs:List (BitVec 32)) (h1:ss.length=8) (h2:vs.length=8) (rest:List Value) (k:Nat) (hk:k<8):
 (cg (mixed ss vs k)++rest).toArray.setIfInBounds k (.int .u32 ((ss.getD k 0+vs.getD k 0).toNat:Int))=(cg (mixed ss vs (k+1))++rest).toArray:=by
 match ss,h1,vs,h2 with
 |[s0,s1,s2,s3,s4,s5,s6,s7],_,[a0,a1,a2,a3,a4,a5,a6,a7],_=>
 match k,hk with
 |0,_=>simp[mixed,cg]
 |1,_=>simp[mixed,cg]
 |2,_=>simp[mixed,cg]
 |3,_=>simp[mixed,cg]
 |4,_=>simp[mixed,cg]
 |5,_=>simp[mixed,cg]
 |6,_=>simp[mixed,cg]
 |7,_=>simp[mixed,cg]
theorem elW:El Tryz.prog 23 27 (.int .u32 0) 4:=⟨by kernel_rfl,by kernel_rfl,rfl⟩
theorem ji {P:Program} (t e:TypeId) (n:Nat) (cs:Array Value) (kk:IntKind) (k:Nat) (v:Value) (h:P.underlying t=some (.array n e)) (he:P.underlying e=some (.int .u32)) (hs:(P.info? e).map (·.size)=some 1) (hk:k<n) (hv:cs[k]?=some v) (w:World):
 (Instr.index t (.agg cs) (.int kk (k:Int))).run P w=.ok v w:=by
 have eD:(sizeOf e).run P w=.ok 1 w:=by
  cases hq:P.info? e with
  |none=>simp[hq] at hs
  |some i=>simp[hq] at hs;simp[sizeOf,typeInfo,hq,hs]
 have RE:(isAgg e).run P w=.ok false w:=by
  unfold isAgg;rw[Sem.run_bind,run_underlying he w];rfl
 simp[Instr.index,asIntOf,run_underlying h,eD,part,RE,hv,hk,go_sem]
end Go.Proofs.YtnlkdheaohocnaaGreatDoor
namespace Go.Proofs.YtnlkdheaohocnaaGreatDoor
open Go.RowKit
def q7 (l:List UInt8) (c:UInt8):Int:=if c∈l then (l.idxOf c:Int) else-1
theorem tf:(Tryz.prog.info? 5).map (fun i=>(i.zero,i.size,i.bytes))=some (some (.int .u8 0),1,1):=by kernel_rfl
theorem lC:El Tryz.prog 22 5 (.int .u8 0) 1:=⟨Tryz.underlying22,by kernel_rfl,rfl⟩
theorem bw {w:World} {base E:Nat} {v:Value} {T:List UInt8} (h:Ow w base E v (B8 T)):∃A1 c1,v=.slice A1 T.length c1∧T.length≤c1∧c1≤maxLen:=by
 obtain⟨A1,c1,e,h1,h2,_⟩:=h;exact⟨A1,c1,by simpa using e,by simpa using h1,h2⟩
theorem ig {w wr w3:World} {B E n c:Nat} {A:Option Addr} {xs:List Value} {o:Obj} (hb:Below B w wr) (hB:B≤w.heap.size) (ho:Ow wr B E (.slice A n c) xs) (hg:(wr.alloc o).grownBy w3 (aY (.slice A n c))):Below B w w3:=by
 have h1:B≤wr.heap.size:=Nat.le_trans hB hb.size;exact(hb.alloc h1 o).grown hg (by rw[adD];omega) (fun r hr=>(ho.row r hr).1)
theorem jU (xs:List UInt8) (x:Value) (b:UInt8) (h:x=.int .u8 (b.toNat:Int)):B8 xs++[x]=B8 (xs++[b]):=by rw[h,bp];rfl
theorem GW (x y:BitVec 32):bits .andNot .u32 (x.toNat:Int) (y.toNat:Int)=((x &&& ~~~y).toNat:Int):=by
 rw[u32_andNot_nat _ _ x.isLt y.isLt,BitVec.toNat_and,BitVec.toNat_not]
theorem mA (x:BitVec 32) (m:Nat) (h2:0<m) (h3:m<32) (w:World):
 Calls Tryz.prog 129 #[.int .u32 (x.toNat:Int),.int .i64 m] w fun e w'=>e=.returned (.int .u32 ((x.rotateLeft m).toNat:Int))∧w'=w:=by
 have hb:bits .and .u64 (m:Int) 31=(m:Int):=by
  have:∀n:Fin 32,bits .and .u64 (n.val:Int) 31=(n.val:Int):=by decide
  exact this ⟨m,h3⟩
 go_enter Tryz.func129,Tryz.ntmps129;go_wp2;go_ret;exact⟨by rw[←tI x m h2 h3];rfl,rfl⟩
theorem Fz (n:Nat) (hn:n≤4) (b c d:BitVec 32) (w:World):
 Calls Tryz.prog 130 #[.int .i64 n,.int .u32 (b.toNat:Int),.int .u32 (c.toNat:Int),.int .u32 (d.toNat:Int)] w fun e w'=>(∃x:BitVec 32,e=.returned (.int .u32 (x.toNat:Int)))∧w'=w:=by
 have h:n=0∨n=1∨n=2∨n=3∨n=4:=by omega
 rcases h with rfl|rfl|rfl|rfl|rfl
 all_goals
  go_enter Tryz.func130,Tryz.ntmps130;go_wp2;go_ret;refine⟨?_,rfl⟩
  (try simp only[Kl,qY,tL,kh,GW])
  exact⟨_,rfl⟩
end Go.Proofs.YtnlkdheaohocnaaGreatDoor
namespace Go.Proofs.YtnlkdheaohocnaaGreatDoor
open Go Go.RowKit
def dB (ns:List Nat):List Value:=ns.map fun (n:Nat)=>.int .u32 (n:Int)
end Go.Proofs.YtnlkdheaohocnaaGreatDoor
