/- Of any text: the program's descriptors and the reference's are read and written alike (DescParses). No condition. -/
import Derived.Test.YtcjioogololnoaaGreatDoorU1
import Derived.WalkKit
import Derived.Deep.Draws
import Derived.RangeFuncBox
import Derived.CallsIn
import Derived.Laws.CopyOwn
import Derived.Test.YtcjioogololnoaaGreatDoorRows
import Derived.WalkSpells
import Derived.WalkLawsBesides
import Derived.Lib.Hide
import Derived.BigQuiet
import Derived.Deep.QuietTactic
import Derived.RangeFuncNested
import Derived.RangeFuncCalls
import Derived.RangeFuncLeaves
import Derived.Shelf.Abstract
import Derived.OwnWalkIn
import Derived.TacticsInMore
import Derived.LoopNIn
import Derived.LoopIn
import Derived.Lib.LaidTab
import Derived.Lib.ItoaMem
import Derived.Test.YtcjioogololnoaaGreatDoorShelf
import Derived.Recover
import Derived.Defers
set_option maxRecDepth 1000000
set_option maxHeartbeats 16000000
set_option linter.unusedVariables false
set_option linter.unusedSimpArgs false
namespace Go.Proofs.YtcjioogololnoaaGreatDoor
open Go.RowKit
theorem fM (b o k:Nat):(⟨b,o,none⟩:Addr).add k=⟨b,o+k,none⟩:=by unfold Addr.add;split<;>simp_all
def Sl (w:World) (B:Nat) (A:Option Addr) (xs:List Value):Prop:=
 0<xs.length→∃b o,A=some ⟨b,o,none⟩∧b<B∧∀j (h:j<xs.length),w.cell? ⟨b,o+j,none⟩=some xs[j]
def B8 (bs:List UInt8):List Value:=bs.map fun b=>.int .u8 (b.toNat:Int)
@[simp] theorem B8_length (bs:List UInt8):(B8 bs).length=bs.length:=by simp[B8]
theorem dd (bs:List UInt8) (j:Nat) (h:j<(B8 bs).length):(B8 bs)[j]=.int .u8 ((bs[j]'(by simpa using h)).toNat:Int):=by simp[B8]
theorem bu (a b:List UInt8):B8 (a++b)=B8 a++B8 b:=by simp[B8]
theorem MZ (b:UInt8):B8 [b]=[.int .u8 (b.toNat:Int)]:=rfl
theorem oQ (a:List UInt8) (n:Nat):B8 (a.take n)=(B8 a).take n:=by simp[B8]
theorem oR (a:List UInt8) (n:Nat):B8 (a.drop n)=(B8 a).drop n:=by simp[B8]
theorem aG (a:List UInt8):∀u∈B8 a,u.oneCell'=true:=by
 intro u hu;simp only[B8,List.mem_map] at hu;obtain⟨b,_,rfl⟩:=hu;rfl
section
variable {w w':World} {B B':Nat} {A:Option Addr} {xs:List Value} {bs:List UInt8}
theorem Sl.nil:Sl w B A []:=fun h=>absurd h (by simp)
theorem Sl.keep (h:Sl w B A xs) (hk:∀p:Addr,p.block<B→w'.cell? p=w.cell? p):Sl w' B A xs:=fun hn=>by
 obtain⟨b,o,e,hb,hc⟩:=h hn;exact⟨b,o,e,hb,fun j hj=>(hk ⟨b,o+j,none⟩ hb).trans (hc j hj)⟩
theorem Sl.mono (h:Sl w B A xs) (hB:B≤B'):Sl w B' A xs:=fun hn=>by
 obtain⟨b,o,e,hb,hc⟩:=h hn;exact⟨b,o,e,by omega,hc⟩
theorem Sl.below (h:Sl w B A xs) (hb:Below B w w'):Sl w' B A xs:=h.keep fun _ hp=>hb.cell hp
theorem Sl.drew (h:Sl w B A xs):Sl w.drew B A xs:=h
theorem Sl.alloc (h:Sl w B A xs) (hB:B≤w.heap.size) (o:Obj):Sl (w.alloc o) B A xs:=h.keep fun p hp=>World.cell?_alloc_lt w o p (by omega)
theorem Sl.setCell (h:Sl w B A xs) {p:Addr} (hp:B≤p.block) (u:Value):Sl (w.setCell p u) B A xs:=
 h.keep fun q hq=>World.cell?_setCell_other w p q u (fun e=>by subst e;omega)
theorem Sl.grown (h:Sl w B A xs) {row:Option Nat} (hg:w.grownBy w' row) (hB:B≤w.heap.size) (hr:∀g,row=some g→B≤g):Sl w' B A xs:=
 h.keep fun p hp=>World.cell?_of_block (hg.block p.block (by omega) (fun e=>by have:=hr _ e.symm;omega))
theorem Sl.at_ (h:Sl w B A (B8 bs)) {k:Nat} (hk:k<bs.length):∃b o,A=some ⟨b,o,none⟩∧b<B∧∀j (h:j<bs.length),w.cell? ⟨b,o+j,none⟩=some (.int .u8 (bs[j].toNat:Int)):=by
 obtain⟨b,o,e,hb,hc⟩:=h (by simp;omega);exact⟨b,o,e,hb,fun j hj=>by rw[hc j (by simpa using hj),dd]⟩
theorem Sl.cut (h:Sl w B A xs) {k m cap:Nat} (hk:k+m≤xs.length) (hc:xs.length≤cap):
 Sl w B (if cap=k then A else A.map (·.add k)) ((xs.drop k).take m):=fun hn=>by
 have hm:0<m∧k<xs.length:=by simp at hn;omega
 obtain⟨b,o,rfl,hb,aD⟩:=h (by omega);rw[if_neg (by omega)];refine⟨b,o+k,by simp[fM],hb,fun j hj=>?_⟩;have:=aD (k+j) (by simp at hj;omega);rw[Nat.add_assoc,this];simp
theorem Sl.take (h:Sl w B A xs) (n:Nat):Sl w B A (xs.take n):=fun hn=>by
 obtain⟨b,o,rfl,hb,aD⟩:=h (by simp at hn;omega);exact⟨b,o,rfl,hb,fun j hj=>by rw[aD j (by simp at hj;omega)];simp⟩
end
def Ow (w:World) (base:Nat) (E:TypeId) (v:Value) (xs:List Value):Prop:=
 ∃A c,v=.slice A xs.length c∧xs.length≤c∧c≤maxLen∧
  (0<c→∃g cur,A=some ⟨g,0,none⟩∧base≤g∧w.heap[g]?=some (.cells cur E (0,0))∧c≤cur.size∧cur.toList.take xs.length=xs)
def az:Value→Option Nat
 |.slice (some a) _ c=>if c=0 then none else some a.block
 |_=>none
section
variable {w w':World} {base E:Nat} {v:Value} {xs:List Value} {A:Option Addr} {n c:Nat}
theorem Ow.nil_ (w:World) (base:Nat) (E:TypeId) (A:Option Addr):Ow w base E (.slice A 0 0) []:=⟨A,0,rfl,by simp,by simp,fun h=>absurd h (by omega)⟩
theorem Ow.len (h:Ow w base E (.slice A n c) xs):n=xs.length∧n≤c∧c≤maxLen:=by
 obtain⟨A',c',e,h1,h2,_⟩:=h;injection e with e1 e2 e3;subst e1 e2 e3;exact⟨rfl,h1,h2⟩
theorem Ow.row (h:Ow w base E v xs):∀g,az v=some g→base≤g∧g<w.heap.size:=by
 obtain⟨A,c,rfl,h1,h2,h3⟩:=h;intro g hg
 cases A with
 |none=>simp[az] at hg
 |some a=>
  by_cases hc:c=0
  · simp[az,hc] at hg
  obtain⟨g',cur,e,hb,hh,_⟩:=h3 (by omega);injection e with e;subst e;simp[az,hc] at hg;subst hg;exact⟨hb,(af3.1 hh).1⟩
theorem Ow.kept {row:Option Nat} (h:Ow w base E v xs) (hg:w.grownBy w' row) (dt:∀g,az v=some g→row≠some g):Ow w' base E v xs:=by
 obtain⟨A,c,rfl,h1,h2,h3⟩:=h;refine⟨A,c,rfl,h1,h2,fun hc=>?_⟩;obtain⟨g',cur,rfl,hb,hh,r⟩:=h3 hc;refine⟨g',cur,rfl,hb,?_,r⟩;rw[hg.block g' (af3.1 hh).1 (fun e=>dt g' (by simp[az];omega) e.symm)];exact hh
theorem Ow.alloc (h:Ow w base E v xs) (o:Obj):Ow (w.alloc o) base E v xs:=h.kept (World.grownBy_alloc w o none) (by simp)
theorem Ow.drew (h:Ow w base E v xs):Ow w.drew base E v xs:=h
theorem Ow.mono {nJ:Nat} (h:Ow w base E v xs) (hb:nJ≤base):Ow w nJ E v xs:=by
 obtain⟨A,c,rfl,h1,h2,h3⟩:=h;exact⟨A,c,rfl,h1,h2,fun hc=>let ⟨g,cur,e,hg,r⟩:=h3 hc;⟨g,cur,e,by omega,r⟩⟩
theorem Ow.setCell (h:Ow w base E v xs) {p:Addr} (hp:∀g,az v=some g→p.block≠g) (u:Value):Ow (w.setCell p u) base E v xs:=by
 obtain⟨A,c,rfl,h1,h2,h3⟩:=h;refine⟨A,c,rfl,h1,h2,fun hc=>?_⟩;obtain⟨g',cur,rfl,hb,hh,r⟩:=h3 hc;refine⟨g',cur,rfl,hb,?_,r⟩;rw[ago w p u g' (fun e=>hp g' (by simp[az];omega) e.symm)];exact hh
theorem Ow.below {B:Nat} (h:Ow w base E v xs) (hb:Below B w w') (hB:w.heap.size≤B):Ow w' base E v xs:=by
 obtain⟨A,c,rfl,h1,h2,h3⟩:=h;refine⟨A,c,rfl,h1,h2,fun hc=>?_⟩;obtain⟨g',cur,rfl,hbg,hh,r⟩:=h3 hc;refine⟨g',cur,rfl,hbg,?_,r⟩;rw[hb.block g' (by have:=(af3.1 hh).1;omega)];exact hh
theorem Ow.sl (h:Ow w base E (.slice A n c) xs):Sl w w.heap.size A xs:=fun hn=>by
 obtain⟨A',c',e,h1,h2,h3⟩:=h;injection e with e1 e2 e3;subst e1 e2 e3;obtain⟨g,cur,rfl,hb,hh,hs,ht⟩:=h3 (by omega);refine⟨g,0,rfl,(af3.1 hh).1,fun j hj=>?_⟩;rw[Nat.zero_add,agb w g j cur E (0,0) hh];have hjc:j<cur.size:=by omega
 rw[Array.getElem?_eq_getElem hjc];congr 1;have:xs[j]?=(cur.toList.take xs.length)[j]?:=by rw[ht]
 rw[List.getElem?_take,if_pos hj,age hj] at this;rw[show cur.toList[j]?=cur[j]? by simp,Array.getElem?_eq_getElem hjc] at this;injection this with this;exact this.symm
theorem Ow.of_row {cap:Nat} (cur:Array Value) (E base:Nat) (hb:base≤w.heap.size) (hs:cur.size=cap) (hm:cap≤maxLen) (n:Nat) (hn:n≤cap):
 Ow (w.alloc (.cells cur E)) base E (.slice (some ⟨w.heap.size,0,none⟩) n cap) (cur.toList.take n):=by
 have hl:(cur.toList.take n).length=n:=by simp;omega
 refine⟨_,cap,by rw[hl],by omega,hm,fun _=>⟨_,cur,rfl,hb,af4 w _,by omega,by rw[hl]⟩⟩
end
section
variable {P:Program} (w:World)
theorem vi (base:Nat) (t ty E:TypeId) (i:TypeInfo) (z:Value) (bytes:Nat) (ht:P.underlying t=some (.slice E)) (hi:P.info? E=some i) (hz:i.zero=some z)
 (kW:i.size=1) (EH:i.bytes=bytes) (Ih:z.cells.size=1)
 (v:Value) (xs:List Value) (lq:Ow w base E v xs)
 (B:Nat) (A:Option Addr) (m c:Nat) (news:List Value) (hr:Sl w B A news) (hm:news.length=m) (h1:∀u∈news,u.oneCell'=true)
 (B0:xs.length+m≤maxLen) (gG:(xs.length+m)*bytes≤140737488355328) (eJ:base≤w.heap.size):
 ∃v' w',(Builtin.append_ #[t,t] ty #[v,.slice A m c]).run P w=.ok v' w'∧Ow w' base E v' (xs++news)∧w.grownBy w' (az v)∧
  (az v'=az v∨az v'=some w.heap.size):=by
 subst hm EH;have vj:xs.length+news.length≤9223372036854775807:=by simp only[maxLen] at B0;omega
 obtain⟨Av,cap,rfl,hxc,Ev,aF⟩:=lq
 by_cases zL:news=[]
 · subst zL
   refine⟨.slice Av xs.length cap,w,?_,by simpa using⟨Av,cap,rfl,hxc,Ev,aF⟩,World.grownBy.refl w _,.inl rfl⟩
   cases A<;>cases Av<;>simp[Builtin.append_,run_underlying ht,sizeOf,typeInfo,hi,Builtin.lenOf,Builtin.firstCells,loadCells,loadCellsFrom,hxc,storeCells]
 have EI:0<news.length:=List.length_pos_iff.2 zL;obtain⟨b,o,rfl,_,aD⟩:=hr EI
 have Ii:∀j u,news[j]?=some u→w.cell? ((⟨b,o,none⟩:Addr).add j)=some u:=by
  intro j u hu;obtain⟨hj,e⟩:=agI.1 hu;rw[fM,aD j hj,e]
 have grown:∀(yD:Nat),yD<xs.length+news.length→
  Ow (w.drew.alloc (.cells (xs.toArray++news.toArray++Builtin.zeroCells z.cells (grownCap w (xs.length+news.length) yD E-(xs.length+news.length))) E)) base E
   (.slice (some ⟨w.heap.size,0,none⟩) (xs.length+news.length) (grownCap w (xs.length+news.length) yD E)) (xs++news)∧
  (∀row,w.grownBy (w.drew.alloc (.cells (xs.toArray++news.toArray++Builtin.zeroCells z.cells (grownCap w (xs.length+news.length) yD E-(xs.length+news.length))) E)) row)∧
  az (.slice (some ⟨w.heap.size,0,none⟩) (xs.length+news.length) (grownCap w (xs.length+news.length) yD E))=some w.heap.size:=by
  intro yD ho;have yE:=grownCap_ge w (xs.length+news.length) yD E;have Ev:=grownCap_le_maxLen w (xs.length+news.length) yD E B0;refine⟨?_,fun row=>⟨rfl,rfl,rfl,by simp,fun k hk _=>Below.heap_alloc w.drew _ k hk⟩,by simp only[az];rw[if_neg (by omega)]⟩
  have:=Ow.of_row (w:=w.drew) (cap:=grownCap w (xs.length+news.length) yD E)
   (xs.toArray++news.toArray++Builtin.zeroCells z.cells (grownCap w (xs.length+news.length) yD E-(xs.length+news.length))) E base eJ
   (by simp[size_zeroCells,Ih];omega) Ev (xs.length+news.length) yE
  have e:(xs.toArray++news.toArray++Builtin.zeroCells z.cells (grownCap w (xs.length+news.length) yD E-(xs.length+news.length))).toList.take (xs.length+news.length)=xs++news:=by
   simp[List.take_append,af7]
  rw[e] at this;exact this
 by_cases iu:cap=0
 · subst iu
   have hx:xs=[]:=List.eq_nil_of_length_eq_zero (by omega);subst hx;have gH:Builtin.nextslicecap news.length 0*i.bytes≤281474976710656:=by rw[nextslicecap_zero EI];simp at gG;omega
   have fL:=grown 0 (by simpa using EI)
   cases Av with
   |none=>
    have hr:=run_append_nil (P:=P) w t ty E i z ht hi hz ⟨b,o,none⟩ news.length c news (by simp[kW]) Ii EI (by simp at vj;omega) (by simp at gG;omega);simp only[List.length_nil,Nat.zero_add,agJ,Array.empty_append] at fL⊢;exact⟨_,_,hr,fL.1,fL.2.1 _,.inr fL.2.2⟩
   |some a=>
    have hr:=run_append_grow (P:=P) w t ty E i z ht hi hz a 0 0 [] (by simp) (by simp) ⟨b,o,none⟩ news.length c news (by simp[kW]) Ii (by omega) (by simp at vj⊢;omega) (by simpa using gH);simp only[List.length_nil,Nat.zero_add,agJ,Array.empty_append] at fL hr⊢;exact⟨_,_,hr,fL.1,fL.2.1 _,.inr fL.2.2⟩
 obtain⟨g,cur,rfl,hbg,hg,bB,Ca⟩:=aF (by omega);have hrw:az (.slice (some ⟨g,0,none⟩) xs.length cap)=some g:=by simp[az,iu]
 by_cases Ij:xs.length+news.length≤cap
 · have hr:=run_append_room (P:=P) w t ty E i ht hi g xs.length cap cur hg ⟨b,o,none⟩ news.length c news (by simp[kW]) Ii h1 Ij (by rw[kW];omega)
   refine⟨_,_,hr,⟨_,cap,by simp,by simp;omega,Ev,fun _=>⟨g,_,rfl,hbg,agd w g cur _ E _ hg,?_,?_⟩⟩,⟨rfl,rfl,rfl,by simp,fun k hk Ri=>setRow_other w g k _ (fun e=>Ri (by rw[hrw,e]))⟩,.inl (by simp[az,iu])⟩
   · simp[kW];omega
   simp only[kW,Nat.mul_one,Ca];simp[List.take_append,af7]
 have holds:∀j u,xs[j]?=some u→w.cell? ((⟨g,0,none⟩:Addr).add j)=some u:=by
  intro j u hu;obtain⟨hj,e⟩:=agI.1 hu;have hjc:j<cur.size:=by omega
  rw[fM,Nat.zero_add,agb w g j cur E (0,0) hg];rw[←Ca,List.getElem?_take,if_pos hj] at hu;simpa using hu
 have hr:=run_append_grow (P:=P) w t ty E i z ht hi hz ⟨g,0,none⟩ xs.length cap xs (by simp[kW]) holds ⟨b,o,none⟩ news.length c news (by simp[kW]) Ii (by omega) (by omega) (growslice_fits (by omega) gG);have fL:=grown cap (by omega);exact⟨_,_,hr,fL.1,fL.2.1 _,.inr fL.2.2⟩
end
section
variable {P:Program} (w:World)
theorem du (src dst E:TypeId) (hs:P.underlying src=some (.slice E)) (he:P.underlying E=some (.int .u8)) (hd:P.underlying dst=some .string)
 (B:Nat) (A:Option Addr) (c:Nat) (bs:List UInt8) (h:Sl w B A (B8 bs)):
 (convert src dst (.slice A bs.length c)).run P w=.ok (.string ⟨bs.toArray⟩) w:=by
 by_cases hb:bs=[]
 · subst hb
   cases A with
   |none=>exact run_convert_bytes_nil w src E hs he _ c dst hd
   |some a=>exact run_convert_bytes_back w src dst E a c [] hs he hd (fun j hj=>absurd hj (by simp))
 obtain⟨b,o,rfl,_,hc⟩:=h.at_ (k:=0) (List.length_pos_iff.2 hb);exact run_convert_bytes_back w src dst E _ c bs hs he hd (fun j hj=>by rw[fM];exact hc j hj)
end
section
variable {P:Program}
theorem yF (t e:TypeId) (i:TypeInfo) (z:Value) (bytes:Nat) (ht:P.underlying t=some (.slice e)) (hi:P.info? e=some i) (hz:i.zero=some z) (kW:i.size=1) (EH:i.bytes=bytes) (Ih:z.cells=#[z])
 (kl kc:IntKind) (l c:Int) (n cap:Nat) (hl:l=n) (hc:c=cap) (hnc:n≤cap) (hb:bytes*cap≤281474976710656) (hm:cap≤maxLen) (W:World):
 (Instr.makeSlice t (.int kl l) (.int kc c)).run P W=.ok (.slice (some ⟨W.heap.size,0,none⟩) n cap) (W.alloc (.cells (Array.replicate cap z) e)):=by
 subst hl hc EH;have hm':cap≤9223372036854775807:=by simp only[maxLen] at hm;omega
 have Cb:(i.bytes:Int)*(cap:Int)≤281474976710656:=by
  have h:((i.bytes*cap:Nat):Int)≤281474976710656:=by omega
  rwa [Int.natCast_mul] at h
 have hr:=run_make (P:=P) W t e i z ht hi hz kl kc n cap (by omega) (by omega) Cb (by omega);simp only[Int.toNat_natCast] at hr;rw[hr,kW,Ih]
 have:madeCells #[z] (cap*1)=Array.replicate cap z:=by
  apply Array.ext';rw[Nat.mul_one,toList_madeCells_one];simp
 rw[this]
end
def Fill (w:World) (g:Nat) (E:TypeId) (n:Nat) (xs:List Value) (k:Nat):Prop:=
 ∃cur,w.heap[g]?=some (.cells cur E (0,0))∧cur.size=n∧∀j,j<k→cur[j]?=xs[j]?
section
variable {w w':World} {g E n k j:Nat} {xs:List Value} {v:Value}
theorem Fill.new (w:World) (E:TypeId) (cur:Array Value) (xs:List Value):Fill (w.alloc (.cells cur E)) w.heap.size E cur.size xs 0:=⟨cur,af4 w _,rfl,by omega⟩
theorem Fill.new' (w:World) (E:TypeId) (n:Nat) (z:Value) (xs:List Value):Fill (w.alloc (.cells (Array.replicate n z) E)) w.heap.size E n xs 0:=⟨_,af4 w _,by simp,by omega⟩
theorem Fill.cell (h:Fill w g E n xs k) (hj:j<n):∃v,w.cell? ⟨g,j,none⟩=some v:=by
 obtain⟨cur,hh,hs,hc⟩:=h;exact⟨_,by rw[agb w g j cur _ _ hh,Array.getElem?_eq_getElem (show j<cur.size by omega)]⟩
theorem Fill.known (h:Fill w g E n xs k) (hj:j<k) (hx:xs[j]?=some v):w.cell? ⟨g,j,none⟩=some v:=by
 obtain⟨cur,hh,hs,hc⟩:=h;rw[agb w g j cur _ _ hh,hc j hj,hx]
theorem Fill.frozen (h:Fill w g E n xs k) (j:Nat):w.frozen? ⟨g,j,none⟩=false:=by
 obtain⟨cur,hh,hs,hc⟩:=h;exact agF w g j cur _ hh
theorem Fill.set (h:Fill w g E n xs k) (hk:k<n) (hx:xs[k]?=some v):Fill (w.setCell ⟨g,k,none⟩ v) g E n xs (k+1):=by
 obtain⟨cur,hh,hs,hc⟩:=h;refine⟨_,heap_setCell_same w g k cur _ v hh,by simpa using hs,fun j hj=>?_⟩;rw[Array.getElem?_setIfInBounds]
 by_cases e:k=j
 · subst e;rw[if_pos rfl,if_pos (by omega),hx]
 rw[if_neg e,hc j (by omega)]
theorem Fill.put (h:Fill w g E n xs k) (hk:k≤j) (u:Value):Fill (w.setCell ⟨g,j,none⟩ u) g E n xs k:=by
 obtain⟨cur,hh,hs,hc⟩:=h;refine⟨_,heap_setCell_same w g j cur _ u hh,by simpa using hs,fun i hi=>?_⟩;rw[Array.getElem?_setIfInBounds,if_neg (by omega),hc i (by omega)]
theorem Fill.far (h:Fill w g E n xs k) {p:Addr} (hp:g≠p.block) (u:Value):Fill (w.setCell p u) g E n xs k:=by
 obtain⟨cur,hh,hs,hc⟩:=h;exact⟨cur,(ago w p u g hp).trans hh,hs,hc⟩
theorem Fill.lt (h:Fill w g E n xs k):g<w.heap.size:=by
 obtain⟨cur,hh,hs,hc⟩:=h;exact(af3.1 hh).1
theorem Fill.alloc (h:Fill w g E n xs k) (o:Obj):Fill (w.alloc o) g E n xs k:=by
 have hl:=h.lt;obtain⟨cur,hh,hs,hc⟩:=h;exact⟨cur,(Below.heap_alloc w o g hl).trans hh,hs,hc⟩
theorem Fill.drew (h:Fill w g E n xs k):Fill w.drew g E n xs k:=h
theorem Fill.drewN (h:Fill w g E n xs k) (m:Nat):Fill (w.drewN m) g E n xs k:=h
theorem Fill.below {B:Nat} (h:Fill w g E n xs k) (hb:Below B w w') (hg:g<B):Fill w' g E n xs k:=by
 obtain⟨cur,hh,hs,hc⟩:=h;exact⟨cur,(hb.block g hg).trans hh,hs,hc⟩
theorem Fill.done (h:Fill w g E n xs n) (hx:xs.length=n):w.heap[g]?=some (.cells xs.toArray E (0,0)):=by
 obtain⟨cur,hh,hs,hc⟩:=h;rw[hh]
 have:cur=xs.toArray:=by
  apply Array.ext_getElem?;intro i
  by_cases hi:i<n
  · rw[hc i hi];simp
  rw[Array.getElem?_eq_none (by omega)];simp;omega
 rw[this]
end
theorem zM {B:Nat} {a w:World} (h:Below B a w) (n:Nat):Below B a (w.drewN n):=⟨h.os,h.tape,h.output,h.size,h.block⟩
section
variable {w w':World} {base E n c:Nat} {v:Value} {A:Option Addr} {xs:List Value}
theorem Ow.at_ (h:Ow w base E (.slice A n c) xs) {j:Nat} (hj:j<xs.length):∃g,A=some ⟨g,0,none⟩∧base≤g∧az (.slice A n c)=some g∧w.cell? ⟨g,j,none⟩=some xs[j]∧w.frozen? ⟨g,j,none⟩=false:=by
 have pP:=h.sl;obtain⟨A',c',e,h1,h2,h3⟩:=h;injection e with e1 e2 e3;subst e1 e2 e3;obtain⟨g,cur,rfl,hb,hh,hs,ht⟩:=h3 (by omega);obtain⟨b,o,e,_,hc⟩:=pP (by omega);simp at e;obtain⟨rfl,rfl⟩:=e;exact⟨g,rfl,hb,by simp[az];omega,by have:=hc j hj;rwa [Nat.zero_add] at this,agF w g j cur _ hh⟩
theorem Ow.store {g:Nat} (h:Ow w base E (.slice (some ⟨g,0,none⟩) n c) xs) (j:Nat) (hc:0<c) (u:Value):Ow (w.setCell ⟨g,j,none⟩ u) base E (.slice (some ⟨g,0,none⟩) n c) (xs.set j u):=by
 obtain⟨A',c',e,h1,h2,h3⟩:=h;injection e with e1 e2 e3;subst e1 e2 e3;obtain⟨g',cur,e,hb,hh,hs,ht⟩:=h3 hc;simp at e;subst e;refine⟨_,c,by rw[List.length_set],by simpa using h1,h2,fun _=>⟨g,_,rfl,hb,heap_setCell_same w g j cur _ u hh,by simpa using hs,?_⟩⟩;rw[List.length_set,Array.toList_setIfInBounds,List.take_set,ht]
theorem Ow.keepsOthers {row:Option Nat} (h:Ow w base E v xs) (hg:w.grownBy w' row) (hr:row=az v):KeepsOthers w w':=
 KeepsOthers.of_grownBy hg fun j o e ho=>by
  obtain⟨A,c,rfl,h1,h2,h3⟩:=h
  cases A with
  |none=>rw[hr] at e;simp[az] at e
  |some a=>
   by_cases hc:c=0
   · rw[hr] at e;simp[az,hc] at e
   obtain⟨g,cur,ea,_,hh,_⟩:=h3 (by omega);injection ea with ea;subst ea;rw[hr] at e;simp[az,hc] at e;subst e;rw[hh] at ho;injection ho with ho;subst ho;rfl
theorem Ow.others {row:Option Nat} (h:Ow w base E v xs) (hg:w.grownBy w' row) (hr:∀r,row=some r→∃o:Obj,w.heap[r]?=some o∧o.isCells=false):Ow w' base E v xs:=
 h.kept hg fun g fL e=>by
  obtain⟨o,ho,hc⟩:=hr g e;obtain⟨A,c,rfl,h1,h2,h3⟩:=h
  cases A with
  |none=>simp[az] at fL
  |some a=>
   by_cases iu:c=0
   · simp[az,iu] at fL
   obtain⟨g',cur,ea,_,hh,_⟩:=h3 (by omega);injection ea with ea;subst ea;simp[az,iu] at fL;subst fL;rw[hh] at ho;injection ho with ho;subst ho;cases hc
theorem dU {b t:Nat} {row:Option Nat} (h:Boxed w b t v) (hg:w.grownBy w' row) (hr:∀r,row=some r→∃o:Obj,w.heap[r]?=some o∧o.isCells=false):Boxed w' b t v:=
 h.kept hg fun e=>by
  obtain⟨o,ho,hc⟩:=hr b e.symm;rw[show w.heap[b]?=_ from h] at ho;injection ho with ho;subst ho;cases hc
theorem iw {b t:Nat} (h:Boxed w b t v):Boxed w.drew b t v:=h
theorem sD {b t:Nat} (h:Boxed w b t v) {p:Addr} (hp:b≠p.block) (u:Value):Boxed (w.setCell p u) b t v:=(ago w p u b hp).trans h
theorem Ow.row_ne_box {b t:Nat} {u:Value} (h:Ow w base E v xs) (hb:Boxed w b t u) (Sh:t≠E):∀g,az v=some g→g≠b:=by
 obtain⟨A,c,rfl,h1,h2,h3⟩:=h;intro g hg e;subst e
 cases A with
 |none=>simp[az] at hg
 |some a=>
  by_cases iu:c=0
  · simp[az,iu] at hg
  obtain⟨g',cur,ea,_,hh,_⟩:=h3 (by omega);injection ea with ea;subst ea;simp[az,iu] at hg;subst hg;rw[show w.heap[g']?=_ from hb] at hh;injection hh with hh;injection hh with _ ht;exact Sh ht
end
structure El (P:Program) (t E:TypeId) (z:Value) (bytes:Nat):Prop where
 und:P.underlying t=some (.slice E)
 info:(P.info? E).map (fun i=>(i.zero,i.size,i.bytes))=some (some z,1,bytes)
 zc:z.cells=#[z]
section
variable {P:Program} {w:World} {base t E:Nat} {z:Value} {bytes:Nat} {v:Value} {xs:List Value} {B:Nat} {A:Option Addr} {m c:Nat} {news:List Value}
theorem El.append (hE:El P t E z bytes) (ty:TypeId) (lq:Ow w base E v xs) (hr:Sl w B A news) (hm:news.length=m) (h1:∀u∈news,u.oneCell'=true)
 (B0:xs.length+m≤maxLen) (gG:(xs.length+m)*bytes≤140737488355328) (eJ:base≤w.heap.size):
 ∃v' w',(Builtin.append_ #[t,t] ty #[v,.slice A m c]).run P w=.ok v' w'∧Ow w' base E v' (xs++news)∧w.grownBy w' (az v)∧(az v'=az v∨az v'=some w.heap.size):=by
 obtain⟨i0,hi,iC,gq,mI⟩:=info_parts hE.info;exact vi w base t ty E i0 z bytes hE.und hi iC gq mI (by rw[hE.zc];rfl) v xs lq B A m c news hr hm h1 B0 gG eJ
theorem bn {o:Oper} {a:Act} {K:Act→World→Prop} {Q:Exit→Act→World→Prop} (hE:El P t E z bytes) (s x:Operand)
 (ho:o.op=.call { callee:=.builtin .append,args:=#[s,x],argTypes:=#[t,t] }) (hs:a.eval s=v) (lq:Ow w base E v xs) (hx:a.eval x=.slice A m c) (hr:Sl w B A news) (hm:news.length=m) (h1:∀u∈news,u.oneCell'=true)
 (B0:xs.length+m≤maxLen) (gG:(xs.length+m)*bytes≤140737488355328) (eJ:base≤w.heap.size)
 (h:∀v' w',Ow w' base E v' (xs++news)→w.grownBy w' (az v)→(az v'=az v∨az v'=some w.heap.size)→K (a.put o.dst v') w'):o.wp P a w K Q:=by
 obtain⟨v',w',lr,h2,h3,h4⟩:=hE.append (c:=c) o.type lq hr hm h1 B0 gG eJ;unfold Oper.wp execOp;simp only[ho,resolve,invoke,builtin,Sem.run_bind,Sem.run_pure,Result.andThen_ok,List.map_toArray,List.map_cons,List.map_nil,hs,hx,lr];exact h v' w' h2 h3 h4
theorem ke {F:Fence} {n:Nat} (hF:∀k,F.fn k) {o:Oper} {a:Act} {K:Act→World→Prop} {Q:Exit→Act→World→Prop} (hE:El P t E z bytes) (s x:Operand)
 (ho:o.op=.call { callee:=.builtin .append,args:=#[s,x],argTypes:=#[t,t] }) (hs:a.eval s=v) (lq:Ow w base E v xs) (hx:a.eval x=.slice A m c) (hr:Sl w B A news) (hm:news.length=m) (h1:∀u∈news,u.oneCell'=true)
 (B0:xs.length+m≤maxLen) (gG:(xs.length+m)*bytes≤140737488355328) (eJ:base≤w.heap.size)
 (h:∀v' w',Ow w' base E v' (xs++news)→w.grownBy w' (az v)→(az v'=az v∨az v'=some w.heap.size)→K (a.put o.dst v') w'):o.wpIn F n P a w K Q:=by
 obtain⟨v',w',lr,h2,h3,h4⟩:=hE.append (c:=c) o.type lq hr hm h1 B0 gG eJ;refine⟨fun f _=>hF f,?_⟩;rw[Oper.semAt_eq _ _ _ (by simp[ho])];unfold execOp;simp only[ho,resolve,invoke,builtin,Sem.run_bind,Sem.run_pure,Result.andThen_ok,List.map_toArray,List.map_cons,List.map_nil,hs,hx,lr];exact h v' w' h2 h3 h4
theorem aq {ops:Array Oper} {rest:List Oper} {o:Oper} {a:Act} {Q:Exit→Act→World→Prop} (hE:El P t E z bytes) (tF:o.guard=none) (s x:Operand)
 (ho:o.op=.call { callee:=.builtin .append,args:=#[s,x],argTypes:=#[t,t] }) (hs:a.eval s=v) (lq:Ow w base E v xs) (hx:a.eval x=.slice A m c) (hr:Sl w B A news) (hm:news.length=m) (h1:∀u∈news,u.oneCell'=true)
 (B0:xs.length+m≤maxLen) (gG:(xs.length+m)*bytes≤140737488355328) (eJ:base≤w.heap.size)
 (h:∀v' w',Ow w' base E v' (xs++news)→w.grownBy w' (az v)→(az v'=az v∨az v'=some w.heap.size)→wpList P ops Q rest (a.put o.dst v') w'):wpList P ops Q (o::rest) a w:=
 wpList_plain tF fun _ hK=>bn hE s x ho hs lq hx hr hm h1 B0 gG eJ fun v' w' h2 h3 h4=>hK _ _ (h v' w' h2 h3 h4)
theorem Sl.one (w:World) (u:Value) (E:TypeId):Sl (w.alloc (.cells #[u] E)) (w.heap.size+1) (some ⟨w.heap.size,0,none⟩) [u]:=fun _=>
 ⟨w.heap.size,0,rfl,by omega,fun j hj=>by
  have:j=0:=by simp at hj;omega
  subst this;simp⟩
end
section
variable {P:Program} {w:World} {dT sT E:Nat} {z:Value} {bytes g off dLen dCap sLen sCap B:Nat} {A:Option Addr} {cur:Array Value} {t:TypeId} {cs:List Value}
theorem Cc (hE:El P dT E z bytes) (ty:TypeId) (hg:w.heap[g]?=some (.cells cur t (0,0))) (hn:cs.length=Nat.min sLen dLen) (M0:Sl w B A cs) (gH:off+cs.length≤cur.size) (h1:∀v∈cs,v.oneCell'=true):
 (Builtin.copy_ #[dT,sT] ty #[.slice (some ⟨g,off,none⟩) dLen dCap,.slice A sLen sCap]).run P w=.ok (.int .i64 (cs.length:Int)) (w.setRow g (cur.toList.take off++cs++cur.toList.drop (off+cs.length)).toArray):=by
 obtain⟨i0,hi,iC,gq,mI⟩:=info_parts hE.info;have hsz:(P.info? E).map (·.size)=some 1:=by rw[hi];simp[gq]
 by_cases h0:cs.length=0
 · obtain rfl:cs=[]:=List.eq_nil_of_length_eq_zero h0
   rw[run_copy_none (P:=P) w dT sT ty E (some ⟨g,off,none⟩) A dLen dCap sLen sCap hE.und hsz (by simpa using hn.symm)];simp only[List.append_nil,List.length_nil,Nat.add_zero,agH];rw[show cur.toList.toArray=cur from rfl,setRow_self w g cur t _ hg];rfl
 obtain⟨b,o,rfl,_,hc⟩:=M0 (by omega)
 have lr:=run_copy_row (P:=P) w dT sT ty E g off dLen dCap ⟨b,o,none⟩ sLen sCap cur t cs hE.und hsz hg hn (fun j v hj=>by
  obtain⟨yG,e⟩:=agI.1 hj;rw[fM,hc j yG,e]) gH h1
 rw[lr];rfl
theorem qh {o:Oper} {a:Act} {K:Act→World→Prop} {Q:Exit→Act→World→Prop} (hE:El P dT E z bytes) (d s:Operand)
 (ho:o.op=.call { callee:=.builtin .copy,args:=#[d,s],argTypes:=#[dT,sT] }) (hd:a.eval d=.slice (some ⟨g,off,none⟩) dLen dCap) (hs:a.eval s=.slice A sLen sCap)
 (hg:w.heap[g]?=some (.cells cur t (0,0))) (hn:cs.length=Nat.min sLen dLen) (M0:Sl w B A cs) (gH:off+cs.length≤cur.size) (h1:∀v∈cs,v.oneCell'=true)
 (h:K (a.put o.dst (.int .i64 (cs.length:Int))) (w.setRow g (cur.toList.take off++cs++cur.toList.drop (off+cs.length)).toArray)):o.wp P a w K Q:=by
 have lr:=Cc (sT:=sT) (dCap:=dCap) (sCap:=sCap) hE o.type hg hn M0 gH h1;unfold Oper.wp execOp;simp only[ho,resolve,invoke,builtin,Sem.run_bind,Sem.run_pure,Result.andThen_ok,List.map_toArray,List.map_cons,List.map_nil,hd,hs,lr];exact h
theorem vk {ops:Array Oper} {rest:List Oper} {o:Oper} {a:Act} {Q:Exit→Act→World→Prop} (hE:El P dT E z bytes) (tF:o.guard=none) (d s:Operand)
 (ho:o.op=.call { callee:=.builtin .copy,args:=#[d,s],argTypes:=#[dT,sT] }) (hd:a.eval d=.slice (some ⟨g,off,none⟩) dLen dCap) (hs:a.eval s=.slice A sLen sCap)
 (hg:w.heap[g]?=some (.cells cur t (0,0))) (hn:cs.length=Nat.min sLen dLen) (M0:Sl w B A cs) (gH:off+cs.length≤cur.size) (h1:∀v∈cs,v.oneCell'=true)
 (h:∀w',w'=w.setRow g (cur.toList.take off++cs++cur.toList.drop (off+cs.length)).toArray→wpList P ops Q rest (a.put o.dst (.int .i64 (cs.length:Int))) w'):wpList P ops Q (o::rest) a w:=
 wpList_plain tF fun _ hK=>qh hE d s ho hd hs hg hn M0 gH h1 (hK _ _ (h _ rfl))
end
theorem Fill.splice {w:World} {g E n k m:Nat} {xs:List Value} {cur:Array Value} (hg:w.heap[g]?=some (.cells cur E (0,0))) (hs:cur.size=n) (hc:∀j,j<k→cur[j]?=xs[j]?) (hm:k+m≤n) (hx:k+m≤xs.length) {cs:List Value} (e:cs=(xs.drop k).take m):
 Fill (w.setRow g (cur.toList.take k++cs++cur.toList.drop (k+cs.length)).toArray) g E n xs (k+m):=by
 have hl:cs.length=m:=by rw[e];simp;omega
 refine⟨_,agd w g cur _ E _ hg,by simp;omega,fun j hj=>?_⟩;simp only[agr]
 by_cases h1:j<k
 · rw[agL,agK (by simp;omega),List.getElem?_take,if_pos h1,Array.getElem?_toList];exact hc j h1
 rw[agL,agv (by simp;omega),agK (by simp;omega),e,List.getElem?_take,List.getElem?_drop];simp only[agj,Array.length_toList];rw[if_pos (by omega)];congr 1;omega
theorem ah {B:Nat} {w0 w:World} {g:Nat} (hb:Below B w0 w) (hBg:B≤g) (cs:Array Value):Below B w0 (w.setRow g cs):=below_setRow hb hBg cs
end Go.Proofs.YtcjioogololnoaaGreatDoor
namespace Go.Proofs.YtcjioogololnoaaGreatDoor
open Go.RowKit
def cC (l:List UInt8) (c:UInt8):Int:=if c∈l then (l.idxOf c:Int) else-1
theorem zO (l:List UInt8) (c:UInt8) (k:Nat) (h:k<l.length) (hn:c∉l.take k) (he:l[k]=c):cC l c=(k:Int):=by
 have hm:c∈l:=he▸agl h;unfold cC;rw[if_pos hm];have:l=l.take k++c::l.drop (k+1):=by rw[←he,List.getElem_cons_drop,agH]
 rw[this,List.idxOf_append,if_neg hn];simp;omega
theorem tG (l:List UInt8) (c:UInt8) (hn:c∉l):cC l c=-1:=by unfold cC;rw[if_neg hn]
theorem qU (l:List UInt8) (c:UInt8) (k:Nat) (h:k<l.length) (hn:c∉l.take k) (he:l[k]≠c):c∉l.take (k+1):=by
 rw[agh h];simp only[List.mem_append,agE,not_or];exact⟨hn,fun e=>he e.symm⟩
theorem yH (s:ByteArray) (c:Nat) (hc:c<256) (w:World) (hs:s.size≤maxLen):
 Calls Tryz.prog 42 #[.string s,.int .u8 c] w fun e w'=>e=.returned (.int .i64 (cC s.data.toList (UInt8.ofNat c)))∧w=w':=by
 unfold maxLen at hs;go_enter Tryz.func42,Tryz.ntmps42;go_wp2
 go_loop [5] (fun i=>∃k:Nat,k≤s.size∧i=.int .i64 k∧UInt8.ofNat c∉s.data.toList.take k) (fun i=>s.size-(intOf i).toNat)
 case atStart=>exact⟨0,agu _,rfl,by simp⟩
 case round=>
  obtain⟨k,hk,rfl,hn⟩:=hrel
  by_cases aL:k<s.size
  · have hl:k<s.data.toList.length:=by simpa using aL
    go_wp2
    · go_ret
      rename_i h _
      exact⟨by rw[zO s.data.toList _ k hl hn (by
       have h1:(s[k].toNat:Int)=c:=by simpa using h
       have h2:s[k].toNat=c:=by omega
       rw[←h2];simp;rfl)];rfl,rfl⟩
    rename_i h;refine⟨⟨k+1,by omega,by go_num,qU _ _ k hl hn (fun e=>?_)⟩,by simp[intOf];omega⟩;have h2:s[k]=UInt8.ofNat c:=e;rw[h2] at h;simp at h;omega
  go_wp2;go_ret;exact⟨by rw[tG s.data.toList _ (by rw[af7 (by simp;omega)] at hn;exact hn)];rfl,rfl⟩
theorem zP:(Tryz.prog.info? 5).map (fun i=>(i.zero,i.size,i.bytes))=some (some (.int .u8 0),1,1):=by kernel_rfl
theorem jf:El Tryz.prog 37 5 (.int .u8 0) 1:=⟨Tryz.underlying37,by kernel_rfl,rfl⟩
end Go.Proofs.YtcjioogololnoaaGreatDoor
namespace Go.Proofs.YtcjioogololnoaaGreatDoor
open Go.RowKit Go.Shelf
attribute [local go_sem] Oper.semAt_some
def Ex (bs:List UInt8) (k:Nat):List (Nat×UInt8):=(List.range k).map fun j=>(bs.length-1-j,bs[bs.length-1-j]?.getD 0)
theorem Cf (bs:List UInt8) (k:Nat):Ex bs (k+1)=Ex bs k++[(bs.length-1-k,bs[bs.length-1-k]?.getD 0)]:=by simp[Ex,List.range_succ]
theorem EM (bs:List UInt8) (k:Nat):(Ex bs k).length=k:=by simp[Ex]
theorem sG (bs:List UInt8):(Ex bs bs.length).map (·.2)=bs.reverse:=by
 apply List.ext_getElem
 · simp[Ex]
 intro i h1 h2;have:bs.length-1-i<bs.length:=by simp[Ex] at h1;omega
 simp[Ex,this]
def Keep (n₀ Bs:Nat) (W W':World):Prop:=Below n₀ W W'∧W'.heap[Bs]?=W.heap[Bs]?
theorem j2 {n₀ Bs:Nat} {A B C:World} (h:Keep n₀ Bs A B) (k:Keep n₀ Bs B C):Keep n₀ Bs A C:=⟨h.1.trans k.1,k.2.trans h.2⟩
theorem uR {n₀ Bs:Nat} {w:World} (hn:n₀≤w.heap.size) (hb:Bs<w.heap.size) (W:World) (l:Nat) (o o':Obj) (hl:w.heap.size≤l) (h:W.heap[l]?=some o) (hc:o.isCells=false) (hw:o.isWalk=false):Keep n₀ Bs W (W.putObj l o'):=
 ⟨belowK_b hn W l o o' hl h hc hw,World.putObj_heap_other (by omega)⟩
theorem Keep.refl (n₀ Bs:Nat) (W:World):Keep n₀ Bs W W:=⟨af5 _ _,rfl⟩
theorem Keep.cell {n₀ Bs:Nat} {W W':World} (h:Keep n₀ Bs W W') {v:Value} (hc:W.cell? ⟨Bs,0,none⟩=some v):W'.cell? ⟨Bs,0,none⟩=some v:=(World.cell?_of_block (a:=⟨Bs,0,none⟩) h.2).trans hc
def Keep3 (n₀ Bs gA:Nat) (W W':World):Prop:=Keep n₀ Bs W W'∧W'.heap[gA]?=W.heap[gA]?
theorem Keep3.refl (n₀ Bs gA:Nat) (W:World):Keep3 n₀ Bs gA W W:=⟨Keep.refl _ _ _,rfl⟩
theorem Keep3.trans {n₀ Bs gA:Nat} {a b c:World} (h:Keep3 n₀ Bs gA a b) (k:Keep3 n₀ Bs gA b c):Keep3 n₀ Bs gA a c:=⟨j2 h.1 k.1,k.2.trans h.2⟩
theorem Keep3.b {n₀ Bs gA:Nat} {w:World} (hn:n₀≤w.heap.size) (hb:Bs<w.heap.size) (hA:gA<w.heap.size) (W:World) (l:Nat) (o o':Obj) (hl:w.heap.size≤l) (h:W.heap[l]?=some o) (hc:o.isCells=false) (hw:o.isWalk=false):Keep3 n₀ Bs gA W (W.putObj l o'):=
 ⟨uR hn hb W l o o' hl h hc hw,World.putObj_heap_other (by omega)⟩
theorem Sl.keep3 {n₀ Bs gA N:Nat} {A:Option Addr} {W W':World} {xs:List Value} (h:Sl W N A xs) (hA:0<xs.length→∀a,A=some a→a.block=gA) (k:Keep3 n₀ Bs gA W W'):Sl W' N A xs:=fun hn=>by
 obtain⟨b,o,e,hb,hc⟩:=h hn;have hk:=k.2;rw[←hA hn _ e] at hk;exact⟨b,o,e,hb,fun j hj=>(World.cell?_of_block (a:=⟨b,o+j,none⟩) hk).trans (hc j hj)⟩
theorem Ow.rowAt {w:World} {base E n c:Nat} {A:Option Addr} {xs:List Value} (h:Ow w base E (.slice A n c) xs) (aL:base<w.heap.size+1):∃gA,base≤gA∧gA≤w.heap.size∧(0<xs.length→∀a,A=some a→a.block=gA):=by
 obtain⟨A',c',e,h1,h2,h3⟩:=h;injection e with e1 e2 e3;subst e1 e2 e3
 by_cases hc:0<c
 · obtain⟨g,cur,rfl,hb,hh,_⟩:=h3 hc
   exact⟨g,hb,by have:=(af3.1 hh).1;omega,fun _ a ha=>by cases ha;rfl⟩
 exact⟨w.heap.size,by omega,by omega,fun hn=>by omega⟩
theorem M6 (F:Fence) (hF:∀k,F.fn k) (oS:F.round=none) (n:Nat) (hn:1≤n) (l Bs N:Nat) (K:World→World→Prop) (WQ:∀W,K W W) (Si:∀{A B C:World},K A B→K B C→K A C) (JH:∀{W W':World},K W W'→W'.heap[Bs]?=W.heap[Bs]?) (A:Option Addr) (cap:Nat) (bs:List UInt8) (qj:bs.length≤140737488351232) {α:Type} (enc:α→Nat×UInt8) (M7:∀j (h:j<bs.length),∃x,enc x=(j,bs[j])) (J Jx:List α→World→Prop)
 (hY:∀pre x W,J pre W→pre.length<bs.length→YieldAt F (n-1) Tryz.prog l #[Value.int .i64 ((enc x).1:Int),.int .u8 ((enc x).2.toNat:Int)] W fun e W'=>
  (e=.returned (.bool true)∧J (pre++[x]) W'∧K W W')∨(e=.returned (.bool false)∧Jx (pre++[x]) W'))
 (W:World) (pn:W.cell? ⟨Bs,0,none⟩=some (.slice A bs.length cap)) (hs:∀W',K W W'→Sl W' N A (B8 bs)) (h0:J [] W):
 CallsIn F n Tryz.prog 195 #[.func (.yield l) #[] #[],.pointer (some ⟨Bs,0,none⟩)] W fun e W'=>(∃v,e=.returned v)∧
  ((∃ys,ys.map enc=Ex bs bs.length∧J ys W')∨(∃pre,(∃k,k≤bs.length∧pre.map enc=Ex bs k)∧Jx pre W')):=by
 refine callsIn_of_wp Tryz.func195 rfl (hF _) ?_ oS;simp only[Tryz.ntmps195,List.size_toArray,agm,List.length_nil,Nat.reduceAdd,Nat.reduceSub,Array.replicate_succ,Array.replicate_zero,List.push_toArray,List.append_toArray,agJ,agw]
 gi_wp2
 gi_loopw [3] (fun i wr=>∃k:Nat,k≤bs.length∧i=.int .i64 ((bs.length:Int)-1-(k:Int))∧(∃pre,pre.map enc=Ex bs k∧J pre wr)∧K W wr)
  (fun i _=>(intOf i+1).toNat)
 case atStart=>exact⟨0,agu _,by go_num,⟨[],rfl,h0⟩,WQ _⟩
 case round=>
  obtain⟨k,hk,rfl,⟨pre,po,hJs⟩,lu⟩:=hrel;have sH:=aa po;have tH:pre.length=k:=by have:=congrArg List.length po;simpa [EM] using this
  clear po
  by_cases aL:k<bs.length
  · obtain⟨m,hm⟩:∃m,m=bs.length-1-k:=⟨_,rfl⟩
    have vm:m<bs.length:=by omega
    have U1:(bs.length:Int)-1-(k:Int)=(m:Int):=by omega
    obtain⟨b,o,rfl,hb,hc⟩:=(hs wr lu).at_ (k:=m) vm;have Ev:=hc m vm;have WR:=(World.cell?_of_block (a:=⟨Bs,0,none⟩) (JH lu)).trans pn;obtain⟨x,hx⟩:=M7 m vm;obtain⟨fn,tmps,assign,body,hy,hR⟩:=hY _ x wr hJs (by rw[tH];exact aL);simp only[hx] at hy hR;have Hx:=aa hx;clear hx tH;rw[U1];have WT:=lu;have Hm:=aa hm;clear U1 hc hs pn lu hm
    gi_wp2
    refine hR.mono ?_;rintro e W3 (⟨rfl,hJ3,hk3⟩|⟨rfl,WU⟩)
    · gi_wp2
      go_roundw
      case rel=>
       have hm:=Hm.out;exact⟨k+1,by omega,by go_num,⟨_,by rw[List.map_append,sH.out,Cf,←hm,age vm,List.map_cons,List.map_nil,Hx.out];rfl,hJ3⟩,Si WT hk3⟩
      case measure=>simp[intOf]
    gi_wp2
    refine agf (results_none rfl _ _ _) rfl ?_;have hm:=Hm.out;exact⟨⟨_,rfl⟩,.inr ⟨_,⟨k+1,by omega,by rw[List.map_append,sH.out,Cf,←hm,age vm,List.map_cons,List.map_nil,Hx.out];rfl⟩,WU⟩⟩
  obtain rfl:k=bs.length:=by omega
  have e1:(bs.length:Int)-1-(bs.length:Int)=-1:=by omega
  rw[e1]
  gi_wp2
  go_end0;exact⟨⟨_,rfl⟩,.inl ⟨_,sH.out,hJs⟩⟩
theorem zV (F:Fence) (hF:∀k,F.fn k) (oS:F.round=none) (n:Nat) (a:Option Addr) (len cap:Nat) (w:World):
 CallsIn F n Tryz.prog 164 #[.slice a len cap] w fun e w'=>e=.returned (.func (.func 195) #[] #[.pointer (some ⟨w.heap.size,0,none⟩)])∧w'=w.alloc (.cells #[.slice a len cap] 37):=by
 refine callsIn_of_wp Tryz.func164 rfl (hF _) ?_ oS;simp only[Tryz.ntmps164,List.size_toArray,agm,List.length_nil,Nat.reduceAdd,Nat.reduceSub,Array.replicate_succ,Array.replicate_zero,List.push_toArray,List.append_toArray,agJ,agw]
 gi_wp2
 go_ret;exact⟨rfl,rfl⟩
theorem nK (F:Fence) (hF:∀k,F.fn k) (oS:F.round=none) (n:Nat) (hn:1≤n) (Bs N:Nat) (K:World→World→Prop) (WQ:∀W,K W W) (Si:∀{A B C:World},K A B→K B C→K A C) (JH:∀{W W':World},K W W'→W'.heap[Bs]?=W.heap[Bs]?)
 (A:Option Addr) (cap:Nat) (bs:List UInt8) (qj:bs.length≤140737488351232) {α:Type} (enc:α→Nat×UInt8) (M7:∀j (h:j<bs.length),∃x,enc x=(j,bs[j])) (w:World)
 (hwK:∀W,Below w.heap.size w W→K w W) (hc:w.cell? ⟨Bs,0,none⟩=some (.slice A bs.length cap)) (hs:∀W',K w W'→Sl W' N A (B8 bs)):
 SeqStopsK F n Tryz.prog 195 #[.pointer (some ⟨Bs,0,none⟩)] (fun x:α=>#[Value.int .i64 ((enc x).1:Int),Value.int .u8 ((enc x).2.toNat:Int)]) K (fun ys=>ys.map enc=Ex bs bs.length)
  (fun pre=>∃k,k≤bs.length∧pre.map enc=Ex bs k) bs.length w:=fun l J Jx W hW _ _ hY h0=>
 M6 F hF oS n hn l Bs N K WQ Si JH A cap bs qj enc M7 J Jx hY W ((World.cell?_of_block (a:=⟨Bs,0,none⟩) (JH (hwK W hW))).trans hc) (fun W' h=>hs W' (Si (hwK W hW) h)) h0
theorem EN (F:Fence) (hF:∀k,F.fn k) (oS:F.round=none) (n:Nat) (hn:1≤n) (Bs n₀:Nat) (A:Option Addr) (cap:Nat) (bs:List UInt8) (qj:bs.length≤140737488351232) (w:World) (pn:Bs<w.heap.size) (hn₀:n₀≤w.heap.size)
 (hc:w.cell? ⟨Bs,0,none⟩=some (.slice A bs.length cap)) (hs:Sl w n₀ A (B8 bs)):
 SeqStopsK F n Tryz.prog 195 #[.pointer (some ⟨Bs,0,none⟩)] (fun x:Nat×UInt8=>#[Value.int .i64 (x.1:Int),Value.int .u8 (x.2.toNat:Int)]) (Keep n₀ Bs) (fun ys=>ys=Ex bs bs.length)
  (fun pre=>∃k,k≤bs.length∧pre=Ex bs k) bs.length w:=
 fun l J Jx W hW n U0 hY h0=>by
  have h:=nK F hF oS _ hn Bs n₀ (Keep n₀ Bs) (Keep.refl _ _) j2 (fun h=>h.2) A cap bs qj id (fun j h=>⟨_,rfl⟩) w (fun W hW=>⟨hW.mono hn₀,hW.block Bs pn⟩) hc (fun _ h=>hs.below h.1);simpa only[List.map_id] using h l J Jx W hW n U0 hY h0
end Go.Proofs.YtcjioogololnoaaGreatDoor
namespace Go.Proofs.YtcjioogololnoaaGreatDoor
open Go.RowKit
theorem aH {w:World} {base E:Nat} {v:Value} {T:List UInt8} (h:Ow w base E v (B8 T)):∃A1 c1,v=.slice A1 T.length c1∧T.length≤c1∧c1≤maxLen:=by
 obtain⟨A1,c1,e,h1,h2,_⟩:=h;exact⟨A1,c1,by simpa using e,by simpa using h1,h2⟩
theorem bE {w wr w3:World} {B E n c:Nat} {A:Option Addr} {xs:List Value} {o:Obj} (hb:Below B w wr) (hB:B≤w.heap.size) (ho:Ow wr B E (.slice A n c) xs) (hg:(wr.alloc o).grownBy w3 (az (.slice A n c))):Below B w w3:=by
 have h1:B≤wr.heap.size:=agx hB hb.size;exact(hb.alloc h1 o).grown hg (by rw[agn];omega) (fun r hr=>(ho.row r hr).1)
theorem dD (xs:List UInt8) (x:Value) (b:UInt8) (h:x=.int .u8 (b.toNat:Int)):B8 xs++[x]=B8 (xs++[b]):=by rw[h,bu];rfl
theorem sV {P:Program} {w w':World} {n:String} {v:Array Value} (h:w.var? P n=some v) (hb:Below w.heap.size w w'):w'.var? P n=some v:=by
 unfold World.var? at h⊢
 cases hg:P.globalNamed n with
 |none=>rw[hg] at h;simp at h
 |some g=>
  rw[hg] at h;simp only[Option.bind_some] at h⊢
  cases ho:w.heap[g]? with
  |none=>rw[ho] at h;simp at h
  |some o=>
   rw[hb.block g (af3.1 ho).1];exact h
theorem S4 {w:World} {g o:Nat} {v:Value} (h:w.cell? ⟨g,o,none⟩=some v):g<w.heap.size:=by
 rcases Nat.lt_or_ge g w.heap.size with h'|h'
 · exact h'
 have hn:w.heap[g]?=none:=Array.getElem?_eq_none h';simp[World.cell?,hn] at h
theorem et {w w':World} {g o:Nat} {v:Value} (h:w.cell? ⟨g,o,none⟩=some v) (hb:Below w.heap.size w w'):w'.cell? ⟨g,o,none⟩=some v:=
 (hb.cell (p:=⟨g,o,none⟩) (S4 h)).trans h
structure Env (w:World):Prop where
 max:∃m,w.cell? ⟨0,0,none⟩=some (.int .i64 m)
 pow:Lib.TabIs Tryz.prog w "internal/strconv.uint64pow10" .u64 Lib.pow10Tab
 syn:∃t p,w.var? Tryz.prog "strconv.ErrSyntax"=some #[.iface t p]
 ran:∃t p,w.var? Tryz.prog "strconv.ErrRange"=some #[.iface t p]
theorem Env.below {w w':World} (h:Env w) (hb:Below w.heap.size w w'):Env w':=
 ⟨let ⟨m,hm⟩:=h.max;⟨m,et hm hb⟩,sV h.pow hb,let ⟨t,p,hp⟩:=h.syn;⟨t,p,sV hp hb⟩,let ⟨t,p,hp⟩:=h.ran;⟨t,p,sV hp hb⟩⟩
def IN:List PanicEntry:=[{ v:=.iface 44 (.agg #[]),recovered:=false }]
theorem bg (w:World):
 Calls Tryz.prog 38 #[.bool true] w fun e w'=>e=.returned (.tuple #[])∧w=w':=by
 go_enter Tryz.func38,Tryz.ntmps38;go_wp2;go_end0;exact⟨rfl,rfl⟩
theorem bR (w:World):
 Calls Tryz.prog 38 #[.bool false] w fun e w'=>e=.panicked IN∧w=w':=by
 go_enter Tryz.func38,Tryz.ntmps38;go_wp2;exact⟨rfl,rfl,rfl⟩
end Go.Proofs.YtcjioogololnoaaGreatDoor
namespace Go.Proofs.YtcjioogololnoaaGreatDoor
open Go.RowKit Go.Shelf
def au (s eT:List UInt8):Option (List UInt8):=
 if Lib.hasPrefix s (eT++[40]) then (if Lib.hasSuffix (s.drop (eT.length+1)) [41] then some ((s.drop (eT.length+1)).take ((s.drop (eT.length+1)).length-1)) else none) else none
theorem KH (a:ByteArray) (x:UInt8):(a++⟨#[x]⟩).data.toList=a.data.toList++[x]:=by simp
theorem qz (s eT:ByteArray) (hs:s.size≤4096) (hw:eT.size≤100) (w:World):
 Calls Tryz.prog 36 #[.string s,.string eT] w fun e w'=>(∃u,e=.returned (.tuple #[.string u,.bool (au s.data.toList eT.data.toList).isSome])∧∀t,au s.data.toList eT.data.toList=some t→u=⟨t.toArray⟩)∧w=w':=by
 have hp:=Tryz.strings_CutPrefix s (eT++⟨#[40]⟩)
 rw[KH] at hp;obtain⟨S,hS⟩:=ab s.data.toList;have sU:S.length=s.size:=by rw[hS];simp
 obtain⟨Wd,hW⟩:∃W,W=eT.data.toList:=⟨_,rfl⟩;rw[←hS,←hW] at hp⊢;obtain⟨R,hR⟩:=ab (au S Wd);rw[←hR];obtain⟨b,hb⟩:=ab (Lib.hasPrefix S (Wd++[40]));obtain⟨t,ht⟩:=ab (Lib.trimPrefix S (Wd++[40]));rw[←hb,←ht] at hp
 cases b with
 |false=>
  have x4:R=none:=by rw[hR,au,←hb];rfl
  subst x4;have Hp:=aa hp;clear hp hb ht hR hS hW sU;go_enter Tryz.func36,Tryz.ntmps36;go_wp2_with (go_at_call 63;refine(Hp.out _).mono ?_;rintro e w' ⟨rfl,bD⟩;rw[bD];clear bD);go_ret2;exact⟨⟨_,rfl,fun t h=>by cases h⟩,rfl⟩
 |true=>
  have htd:t=S.drop (Wd.length+1):=by rw[ht,Lib.trimPrefix,←hb,if_pos rfl];simp
  have yb:t.length≤4096:=by rw[htd,agD];omega
  have hq:=Tryz.strings_CutSuffix ⟨t.toArray⟩ ⟨#[41]⟩
  simp only[] at hq;have hq':=fun w=>hq w (by show t.toArray.size≤_;simp;omega)
  obtain⟨b2,bt⟩:∃b,b=Lib.hasSuffix t [41]:=⟨_,rfl⟩;obtain⟨u,hu⟩:∃u,u=Lib.trimSuffix t [41]:=⟨_,rfl⟩;rw[←bt,←hu] at hq'
  have x4:R=if b2 then some u else none:=by
   rw[hR,au,←hb,if_pos rfl,←htd,←bt]
   cases b2 with
   |false=>rfl
   |true=>rw[hu,Lib.trimSuffix,←bt];rfl
  have Hp:=aa hp;have Hq:=aa hq';have HR:=aa x4;clear hp hb ht hR hS hW sU hq hq' bt hu x4 htd yb;go_enter Tryz.func36,Tryz.ntmps36;go_wp2_with (first|(go_at_call 63;refine(Hp.out _).mono ?_;rintro e w' ⟨rfl,bD⟩;rw[bD];clear bD)|(go_at_call 64;refine(Hq.out _).mono ?_;rintro e w' ⟨rfl,bD⟩;rw[bD];clear bD));go_ret2;rw[HR.out]
  cases b2 with
  |false=>exact⟨⟨_,rfl,fun t h=>by cases h⟩,rfl⟩
  |true=>exact⟨⟨_,rfl,fun t h=>by injection h with h;rw[h]⟩,rfl⟩
theorem tV (s eT:ByteArray) (t:List UInt8) (hs:s.size≤4096) (hw:eT.size≤100) (h:au s.data.toList eT.data.toList=some t) (w:World):
 Calls Tryz.prog 36 #[.string s,.string eT] w fun e w'=>e=.returned (.tuple #[.string ⟨t.toArray⟩,.bool true])∧w=w':=
 (qz s eT hs hw w).mono fun e w' ⟨⟨u,he,hu⟩,bD⟩=>⟨by rw[he,h,hu t h];rfl,bD⟩
theorem tW (s eT:ByteArray) (hs:s.size≤4096) (hw:eT.size≤100) (h:au s.data.toList eT.data.toList=none) (w:World):
 Calls Tryz.prog 36 #[.string s,.string eT] w fun e w'=>∃u,e=.returned (.tuple #[.string u,.bool false])∧w=w':=
 (qz s eT hs hw w).mono fun e w' ⟨⟨u,he,hu⟩,bD⟩=>⟨u,by rw[he,h];rfl,bD⟩
end Go.Proofs.YtcjioogololnoaaGreatDoor
namespace Go.Proofs.YtcjioogololnoaaGreatDoor
open Go Go.RowKit
def YO (r:Bool):PanicEntry:={ v:=.iface 44 (.agg #[]),recovered:=r }
theorem ua (p q:Nat) (hpq:p≠q) (x y:Value) (w:World) (hp:w.cell? ⟨p,0,none⟩=some x) (hfp:w.frozen? ⟨p,0,none⟩=false) (hq:w.cell? ⟨q,0,none⟩=some y) (hfq:w.frozen? ⟨q,0,none⟩=false):
 CallsD Tryz.prog 17 #[.pointer (some ⟨p,0,none⟩),.pointer (some ⟨q,0,none⟩)] (.panicking [YO false]) w fun e u' w'=>
  e=.returned (.tuple #[])∧u'=.panicking [YO true]∧w'=((w.setCell ⟨p,0,none⟩ (.pointer none)).setCell ⟨q,0,none⟩ (.int .i64 3)).alloc (.cells #[] 44):=by
 refine callsD_of_wpS Tryz.func17 rfl fun c₀ cs hu=>?_
 simp only[Tryz.ntmps17,List.size_toArray,agm,List.length_nil,Nat.reduceAdd,Nat.reduceSub,Array.replicate_succ,Array.replicate_zero,List.push_toArray,List.append_toArray,agJ,agw];apply wpS_seq;apply wpS_region;rw[YO] at hu;simp[wpOpsS,go_sem,recoverD,hu,Exit.thenS];have hlp:=World.block_lt_of_cell? w _ hp;have hlq:=World.block_lt_of_cell? w _ hq;have yf:∀o,(w.alloc o).cell? ⟨p,0,none⟩=some x:=fun o=>by rw[World.cell?_alloc_past o p 0 hlp];exact hp
 have hta:∀W:World,(Instr.typeAssert (.iface 44 (.agg #[])) 20 44 true).run Tryz.prog W=.ok (.tuple #[.agg #[],.bool true]) W:=fun W=>by kernel_rfl
 refine wpS_of_wp ?_;go_wp2;refine⟨rfl,_,rfl,_,results_none rfl _ _ _,rfl,rfl,rfl⟩
theorem wV (p q:Nat) (w:World):
 CallsD Tryz.prog 17 #[.pointer (some ⟨p,0,none⟩),.pointer (some ⟨q,0,none⟩)] .returning w fun e u' w'=>e=.returned (.tuple #[])∧u'=.returning∧w'=w:=by
 refine callsD_of_wpS Tryz.func17 rfl fun c₀ cs hu=>?_
 simp only[Tryz.ntmps17,List.size_toArray,agm,List.length_nil,Nat.reduceAdd,Nat.reduceSub,Array.replicate_succ,Array.replicate_zero,List.push_toArray,List.append_toArray,agJ,agw];apply wpS_seq;apply wpS_region;simp[wpOpsS,go_sem,recoverD,hu,Exit.thenS];refine wpS_of_wp ?_;go_wp2
 cases c₀
 simp_all[bodyPostS,results,Tryz.results17]
end Go.Proofs.YtcjioogololnoaaGreatDoor
