/- Of any text: the program's descriptors and the reference's are read and written alike (DescParses). No condition. -/
import Derived.Test.YtcjioogololnoaaGreatDoorU1
import Derived.Test.YtcjioogololnoaaGreatDoorU3
import Derived.Test.YtcjioogololnoaaGreatDoorU4
import Derived.Test.YtcjioogololnoaaGreatDoorShelf
import Derived.Shelf.Strings.Builder1
import Derived.Lib.Builder
import Derived.Test.YtcjioogololnoaaGreatDoorU8
import Derived.Test.YtcjioogololnoaaGreatDoorU9
import Derived.Test.YtcjioogololnoaaGreatDoorU15
import Derived.Test.YtcjioogololnoaaGreatDoorU14
import Derived.Lib.AtoiAll
import Derived.Lib.ItoaNum
import Derived.Lib.ItoaMem
import Derived.Lib.AppendStr
set_option maxRecDepth 1000000
set_option maxHeartbeats 16000000
set_option linter.unusedVariables false
set_option linter.unusedSimpArgs false
namespace Go.Proofs.YtcjioogololnoaaGreatDoor
open Go.RowKit Go.Shelf
theorem wo (b:Nat) (w:World) (h0:w.cell? ⟨b,0,none⟩=some (.pointer (some ⟨b,0,none⟩))):
 Calls Tryz.prog 83 #[.pointer (some ⟨b,0,none⟩)] w fun e w'=>e=.returned (.tuple #[])∧w'=w:=by
 obtain⟨j,hj,_⟩:=Option.map_eq_some_iff.1 (show (Tryz.prog.info? 102).map (·.size)=some 2 by kernel_rfl);go_enter Tryz.func83,Tryz.ntmps83;go_wp2;rw[Lib.run_neq_ptr_same w _ Tryz.underlying100 hj];go_wp2;go_end0;exact⟨rfl,rfl⟩
theorem uG (b:Nat) (w:World) (h0:w.cell? ⟨b,0,none⟩=some (.pointer none)) (AS:w.shape? b=some (102,2)) (lR:w.frozen? ⟨b,0,none⟩=false):
 Calls Tryz.prog 83 #[.pointer (some ⟨b,0,none⟩)] w fun e w'=>e=.returned (.tuple #[])∧w'=w.setCell ⟨b,0,none⟩ (.pointer (some ⟨b,0,none⟩)):=by
 obtain⟨j,hj,XD⟩:=Option.map_eq_some_iff.1 (show (Tryz.prog.info? 102).map (·.size)=some 2 by kernel_rfl);go_enter Tryz.func83,Tryz.ntmps83;go_wp2;rw[Lib.run_to_unsafe w ⟨b,0,none⟩ Tryz.underlying100 Tryz.underlying170 hj (by rw[XD];decide) AS (Nat.zero_lt_succ 1)];simp only[Result.andThen];rw[Oper.upon_value];go_wp2;rw[run_callFunc_extern Tryz.func126 (by kernel_rfl) (by kernel_rfl) (by kernel_rfl) (e:=Extern.AbiNoEscape.same) (by kernel_rfl)];rw[Lib.run_noEscape];simp only[Result.andThen];rw[Oper.upon_value];go_wp2;rw[Lib.run_from_unsafe w ⟨b,0,none⟩ Tryz.underlying170 Tryz.underlying100 hj AS (by kernel_rfl)];simp only[Result.andThen];rw[Oper.upon_value];go_wp2;go_end0;exact⟨rfl,rfl⟩
theorem pZ (B b:Nat) (bs:List Value) (w:World) (h:Lib.IsBuilder 102 5 B b bs w):
 Calls Tryz.prog 83 #[.pointer (some ⟨b,0,none⟩)] w fun e w'=>e=.returned (.tuple #[])∧(Lib.BuilderAt 102 5 B b (.pointer (some ⟨b,0,none⟩)) bs w'∧Below B w w'):=by
 rcases h with h|h
 · refine(uG b w h.cell0 h.shape h.frozen0).mono ?_
   rintro e w' ⟨rfl,rfl⟩;exact⟨rfl,h.used _,(af5 B w).setCell (p:=⟨b,0,none⟩) h.1 _⟩
 refine(wo b w h.cell0).mono ?_;rintro e w' ⟨rfl,rfl⟩;exact⟨rfl,h,af5 B _⟩
theorem jA (B b:Nat) (bs:List Value) (c:Int) (w:World) (h:Lib.IsBuilder 102 5 B b bs w) (hlen:bs.length+1≤140737488355328) (hBw:B≤w.heap.size):
 Calls Tryz.prog 77 #[.pointer (some ⟨b,0,none⟩),.int .u8 c] w fun e w'=>e=.returned .nilIface∧(Lib.BuilderAt 102 5 B b (.pointer (some ⟨b,0,none⟩)) (bs++[.int .u8 c]) w'∧Below B w w'):=by
 obtain⟨i0,hi,iC,gq,mI⟩:=info_parts (show (Tryz.prog.info? 5).map (fun i=>(i.zero,i.size,i.bytes))=some (some (.int .u8 0),1,1) by kernel_rfl);go_enter Tryz.func77,Tryz.ntmps77;go_wp2_with (go_at_call 83;refine(pZ B b bs _ h).mono ?_);rintro e w1 ⟨rfl,h1,aZ⟩;obtain⟨hB,v,hbk,lq,dt⟩:=h1;have c1:w1.cell? ⟨b,1,none⟩=some v:=by rw[Lib.cell_of_heap hbk];rfl
 go_wp2_with (at_builtin;refine wpList_append_own _ rfl _ _ 37 rfl B 5 i0 (.int .u8 0) 1 1 Tryz.underlying37 hi iC gq mI rfl (by decide) _ _ _ rfl (lq.alloc _) ⟨w1.heap.size,0,none⟩ 1 1 [.int .u8 c] rfl rfl ?c1 ?c2 ?c3 ?c4 ?c5 ?_)
 case c1=>
  intro j u hj
  match j,hj with
  |0,hj=>simp at hj;subst hj;simp[Addr.add]
 case c2=>intro u hu;simp at hu;subst hu;rfl
 case c3=>unfold maxLen;omega
 case c4=>omega
 case c5=>have:=aZ.size;simp;omega
 intro v' w2 Dm Dn _
 have aL:b<w1.heap.size:=by
  rcases Nat.lt_or_ge b w1.heap.size with h'|h'
  · exact h'
  simp[Array.getElem?_eq_none h'] at hbk
 have bt:w2.heap[b]?=some (.cells #[.pointer (some ⟨b,0,none⟩),v] 102 (0,0)):=by
  rw[Dn.block b (by simp;omega) (fun e=>dt e.symm),Lib.alloc_old w1 _ b aL];exact hbk
 have d1:w2.cell? ⟨b,1,none⟩=some v:=by rw[Lib.cell_of_heap bt];rfl
 have f1:w2.frozen? ⟨b,1,none⟩=false:=Lib.frozen_of_heap bt 1
 obtain⟨g,cap,rfl⟩:∃g cap,v'=.slice (some ⟨g,0,none⟩) (bs.length+1) cap:=by
  rcases Dm.2 with ⟨_,h0⟩|⟨g,cap,cur,hv,_⟩
  · omega
  exact⟨g,cap,hv⟩
 go_wp2;go_ret;refine⟨rfl,?_,?_⟩
 · exact Lib.BuilderAt.put (T:=102) (e:=5) hB bt (bs':=bs++[.int .u8 c]) (by simpa using Dm) (by decide)
 exact((aZ.alloc (by have:=aZ.size;omega) _).grown Dn (by have:=aZ.size;simp;omega) (fun k hk=>(lq.lt k hk).1)).setCell (p:=⟨b,1,none⟩) hB _
def bq:List UInt8:=[48,49,50,51,52,53,54,55,56,57,97,98,99,100,101,102]
def fG (d:Nat):UInt8:=bq.getD d 0
def eF:List UInt8→List UInt8
 |[]=>[]
 |b::bs=>fG (b.toNat/16)::fG (b.toNat%16)::eF bs
theorem td:∀(bs:List UInt8) (b:UInt8),eF (bs++[b])=eF bs++[fG (b.toNat/16)]++[fG (b.toNat%16)]
 |[],_=>rfl
 |a::bs,b=>by show fG _::fG _::eF (bs++[b])=_;rw[td bs b];rfl
theorem jL:∀bs:List UInt8,(eF bs).length=2*bs.length
 |[]=>rfl
 |a::bs=>by show (eF bs).length+1+1=2*(bs.length+1);rw[jL bs];omega
theorem IP (d:Nat) (h:d<(⟨bq.toArray⟩:ByteArray).size):(⟨bq.toArray⟩:ByteArray)[d]=fG d:=by
 have h':d<bq.length:=h;show bq.toArray[d]'(by simpa using h')=_
 simp[fG,h']
theorem abc (y:UInt8):bits .and .u8 (y.toNat:Int) 15=((y.toNat%16:Nat):Int):=by
 have:∀p:Fin 256,bits .and .u8 (p.val:Int) 15=((p.val%16:Nat):Int):=by decide
 exact this ⟨y.toNat,y.toNat_lt⟩
theorem IQ (A:Option Addr) (c:Nat) (bs:List UInt8) (w:World) (hs:Sl w w.heap.size A (B8 bs)) (hl:bs.length≤1048576):
 Calls Tryz.prog 47 #[.slice A bs.length c] w fun e W'=>e=.returned (.string ⟨(eF bs).toArray⟩)∧Below w.heap.size w W':=by
 go_enter Tryz.func47,Tryz.ntmps47;go_wp2_with fail;go_loopw [8] (fun i wr=>∃k:Nat,k≤bs.length∧i=.int .i64 k∧Lib.IsBuilder 102 5 w.heap.size w.heap.size (Lib.byteCells (eF (bs.take k))) wr∧Below w.heap.size w wr) (fun i _=>bs.length-(intOf i).toNat)
 case atStart=>exact⟨0,agu _,rfl,Lib.fresh_isBuilder _ _ _,(af5 _ _).alloc (af2 _) _⟩
 case round=>
  obtain⟨k,hk,rfl,hB,hb⟩:=hrel;have hz:=hb.size
  by_cases aL:k<bs.length
  · obtain⟨y,hy⟩:∃y,y=bs[k]:=⟨_,rfl⟩
    obtain⟨b9,o9,rfl,kC,rP⟩:=hs.at_ aL;have aD:wr.cell? ⟨b9,o9+k,none⟩=some (.int .u8 (y.toNat:Int)):=by rw[hb.cell (p:=⟨b9,o9+k,none⟩) kC,rP k aL,hy]
    obtain⟨d1,vN⟩:∃d1,d1=y.toNat/16:=⟨_,rfl⟩;obtain⟨d2,pQ⟩:∃d2,d2=y.toNat%16:=⟨_,rfl⟩;have CW:=y.toNat_lt;have e1:(y.toNat:Int)/16=(d1:Int):=by omega
    have e2:bits .and .u8 (y.toNat:Int) 15=(d2:Int):=by rw[pQ];exact abc y
    have OH:d1<16:=by omega
    have Tc:d2<16:=by omega
    have qT:∀h,(⟨bq.toArray⟩:ByteArray)[d1]'h=fG d1:=fun h=>IP d1 h
    have mF:∀h,(⟨bq.toArray⟩:ByteArray)[d2]'h=fG d2:=fun h=>IP d2 h
    obtain⟨l1,j7⟩:=ab (fG d1);obtain⟨l2,yN⟩:=ab (fG d2);rw[←j7] at qT;rw[←yN] at mF;simp only[bq] at qT mF
    have jg:eF (bs.take (k+1))=eF (bs.take k)++[l1]++[l2]:=by
     rw[agh aL,td,j7,yN,vN,pQ,hy]
    have hlen:(eF (bs.take k)).length≤2097152:=by rw[jL,agj];omega
    have ny:=aa jg;clear jg j7 yN vN pQ hy rP;go_wp2_with (first|(go_at_call 77;refine(jA w.heap.size w.heap.size (Lib.byteCells (eF (bs.take k))++[.int .u8 (l1.toNat:Int)]) (l2.toNat:Int) w1 (Or.inr fj) (by simp[Lib.byteCells];omega) (by have:=aZ.size;omega)).mono ?_;rintro e w2 ⟨rfl,jZ,bt⟩)|(go_at_call 77;refine(jA w.heap.size w.heap.size (Lib.byteCells (eF (bs.take k))) (l1.toNat:Int) wr hB (by simp[Lib.byteCells];omega) hz).mono ?_;rintro e w1 ⟨rfl,fj,aZ⟩));refine⟨⟨k+1,by omega,rfl,?_,hb.trans (aZ.trans bt)⟩,by simp[intOf];omega⟩;rw[ny.out];have hc:Lib.byteCells (eF (bs.take k)++[l1]++[l2])=Lib.byteCells (eF (bs.take k))++[Value.int .u8 (l1.toNat:Int)]++[Value.int .u8 (l2.toNat:Int)]:=by simp[Lib.byteCells]
    rw[hc];exact Or.inr jZ
  obtain⟨wS,VC⟩:=ab wr;have ht:bs.take k=bs:=af7 (by omega);rw[ht] at hB;clear ht;go_wp2_with (go_at_call 53;refine(Tryz.Builder_String_any w.heap.size w.heap.size (eF bs) wr hB hz).mono ?_;rintro e w1 ⟨rfl,aZ⟩);go_ret;exact⟨rfl,hb.trans aZ⟩
end Go.Proofs.YtcjioogololnoaaGreatDoor
namespace Go.Proofs.YtcjioogololnoaaGreatDoor
open Go.RowKit
theorem lH (z:Value) (n:Nat):Builtin.zeroCells #[z] n=Array.replicate n z:=by
 apply Array.ext';apply List.ext_getElem (by simp[Builtin.zeroCells]);intro i h1 h2;simp[Builtin.zeroCells,Nat.mod_one]
section
variable {P:Program} (w:World)
theorem te (base:Nat) (t ti ty E:TypeId) (i:TypeInfo) (z:Value) (bytes:Nat) (ht:P.underlying t=some (.slice E)) (hti:P.underlying ti=some (.int .i64)) (hi:P.info? E=some i) (hz:i.zero=some z)
 (kW:i.size=1) (EH:i.bytes=bytes) (Ih:z.cells=#[z]) (gq:z.oneCell'=true)
 (v:Value) (xs:List Value) (lq:Ow w base E v xs) (n:Nat) (hn:0<n)
 (B0:xs.length+n≤maxLen) (gG:(xs.length+n)*bytes≤140737488355328) (eJ:base≤w.heap.size):
 ∃v' w',(Builtin.append_ #[t,ti] ty #[v,.int .i64 n]).run P w=.ok v' w'∧Ow w' base E v' (xs++List.replicate n z)∧w.grownBy w' (az v)∧
  (az v'=az v∨az v'=some w.heap.size):=by
 subst EH;have hm:xs.length+n≤9223372036854775807:=by simp only[maxLen] at B0;omega
 obtain⟨Av,cap,rfl,hxc,Ev,aF⟩:=lq
 by_cases iu:cap=0
 · subst iu
   obtain rfl:xs=[]:=List.eq_nil_of_length_eq_zero (by omega);simp only[List.length_nil,Nat.zero_add,agJ] at B0 gG hm⊢;have IS:IntKind.i64.wrap (n:Int)=(n:Int):=by simp (disch:=omega) only[IntWalk.i64_in]
   have wC:¬((n:Int)<0):=by omega
   have zL:¬n=0:=by omega
   have j8:¬((281474976710656:Int)<(n:Int)*(i.bytes:Int)):=by
    omega
   have Yq:¬(9223372036854775807<(n:Int)):=by omega
   have gH:Builtin.nextslicecap n 0*i.bytes≤281474976710656:=by rw[nextslicecap_zero hn];omega
   have Yr:¬(281474976710656<Builtin.nextslicecap n 0*i.bytes):=by omega
   have yE:=grownCap_ge w n 0 E;have Td:=grownCap_le_maxLen w n 0 E B0;have Mr:=Ow.of_row (w:=w.drew) (cap:=grownCap w n 0 E) (Array.replicate n z++Array.replicate (grownCap w n 0 E-n) z) E base eJ (by simp;omega) Td n yE;have e:(Array.replicate n z++Array.replicate (grownCap w n 0 E-n) z).toList.take n=List.replicate n z:=by simp[List.take_append,af7]
   rw[e] at Mr;refine⟨_,_,?_,Mr,⟨rfl,rfl,rfl,by simp,fun k hk _=>Below.heap_alloc w.drew _ k hk⟩,.inr (by simp only[az];rw[if_neg (by omega)];rfl)⟩
   cases Av<;>simp[Builtin.append_,run_underlying ht,run_underlying hti,sizeOf,typeInfo,hi,zeroValue,hz,kW,asInt,asIntOf,IS,wC,j8,zL,Yq,Yr,Ih,lH,Question.forced,Builtin.firstCells,loadCells,loadCellsFrom,newRow,grownCap]
 obtain⟨g,cur,rfl,hbg,hg,bB,Ca⟩:=aF (by omega);have hrw:az (.slice (some ⟨g,0,none⟩) xs.length cap)=some g:=by simp[az,iu]
 have IS:IntKind.i64.wrap (n:Int)=(n:Int):=by simp (disch:=omega) only[IntWalk.i64_in]
 have wC:¬((n:Int)<0):=by omega
 have zL:¬n=0:=by omega
 have j8:¬((281474976710656:Int)<(n:Int)*(i.bytes:Int)):=by
  have h1:n*i.bytes≤(xs.length+n)*i.bytes:=Nat.mul_le_mul_right _ (by omega);omega
 by_cases Ij:xs.length+n≤cap
 · have cW:=run_storeCells_at P g xs.length E (List.replicate n z) 0 cur w hg (by simp;omega) (by intro u hu;rw[List.eq_of_mem_replicate hu];exact gq)
   simp only[Nat.add_zero] at cW;refine⟨.slice (some ⟨g,0,none⟩) (xs.length+n) cap,_,?_,⟨_,cap,by simp,by simp;omega,Ev,fun _=>⟨g,_,rfl,hbg,agd w g cur (cur.toList.take xs.length++List.replicate n z++cur.toList.drop (xs.length+n)).toArray E _ hg,?_,?_⟩⟩,⟨rfl,rfl,rfl,by simp,fun k hk Ri=>setRow_other w g k _ (fun e=>Ri (by rw[hrw,e]))⟩,.inl (by simp[az,iu])⟩
   · simp[Builtin.append_,run_underlying ht,run_underlying hti,sizeOf,typeInfo,hi,zeroValue,hz,kW,asInt,asIntOf,IS,wC,j8,zL,Ij,Ih,lH,Addr.add_lit,cW]
   · simp;omega
   rw[Ca];simp[List.take_append,af7]
 have hnr:¬(xs.length+n≤cap):=Ij;have Yq:¬(9223372036854775807<((xs.length:Int)+(n:Int))):=by omega
 have gH:Builtin.nextslicecap (xs.length+n) cap*i.bytes≤281474976710656:=growslice_fits (by omega) gG;have Yr:¬(281474976710656<Builtin.nextslicecap (xs.length+n) cap*i.bytes):=by omega
 have holds:∀j u,xs[j]?=some u→w.cell? ((⟨g,0,none⟩:Addr).add j)=some u:=by
  intro j u hu;obtain⟨hj,e⟩:=agI.1 hu;rw[fM,Nat.zero_add,agb w g j cur E (0,0) hg];rw[←Ca,List.getElem?_take,if_pos hj] at hu;simpa using hu
 have hfo:=run_firstCells_some (P:=P) w.drew 1 xs.length ⟨g,0,none⟩ xs.length cap xs (by simp) (by simpa using holds);have yE:=grownCap_ge w (xs.length+n) cap E;have Td:=grownCap_le_maxLen w (xs.length+n) cap E B0;have Mr:=Ow.of_row (w:=w.drew) (cap:=grownCap w (xs.length+n) cap E) (xs.toArray++Array.replicate n z++Array.replicate (grownCap w (xs.length+n) cap E-(xs.length+n)) z) E base eJ (by simp;omega) Td (xs.length+n) yE
 have e:(xs.toArray++Array.replicate n z++Array.replicate (grownCap w (xs.length+n) cap E-(xs.length+n)) z).toList.take (xs.length+n)=xs++List.replicate n z:=by
  simp[List.take_append,af7]
 rw[e] at Mr;refine⟨_,_,?_,Mr,⟨rfl,rfl,rfl,by simp,fun k hk _=>Below.heap_alloc w.drew _ k hk⟩,.inr (by simp only[az];rw[if_neg (by omega)];rfl)⟩;simp[Builtin.append_,run_underlying ht,run_underlying hti,sizeOf,typeInfo,hi,zeroValue,hz,kW,asInt,asIntOf,IS,wC,j8,zL,hnr,Yq,Yr,Ih,lH,Question.forced,hfo,newRow,grownCap]
theorem pK {w:World} {ops:Array Oper} {rest:List Oper} {o:Oper} {a:Act} {Q:Exit→Act→World→Prop} {base t ti E:TypeId} {z:Value} {bytes:Nat} {v:Value} {xs:List Value} (hE:El P t E z bytes) (hti:P.underlying ti=some (.int .i64)) (gq:z.oneCell'=true) (tF:o.guard=none) (s x:Operand)
 (ho:o.op=.call { callee:=.builtin .append,args:=#[s,x],argTypes:=#[t,ti] }) (hs:a.eval s=v) (lq:Ow w base E v xs) (n:Nat) (hx:a.eval x=.int .i64 n) (hn:0<n)
 (B0:xs.length+n≤maxLen) (gG:(xs.length+n)*bytes≤140737488355328) (eJ:base≤w.heap.size)
 (h:∀v' w',Ow w' base E v' (xs++List.replicate n z)→w.grownBy w' (az v)→(az v'=az v∨az v'=some w.heap.size)→wpList P ops Q rest (a.put o.dst v') w'):wpList P ops Q (o::rest) a w:=
 wpList_plain tF fun _ hK=>by
  obtain⟨i0,hi,iC,adm,mI⟩:=info_parts hE.info;obtain⟨v',w',lr,h2,h3,h4⟩:=te (P:=P) w base t ti o.type E i0 z bytes hE.und hti hi iC adm mI hE.zc gq v xs lq n hn B0 gG eJ;unfold Oper.wp execOp;simp only[ho,resolve,invoke,builtin,Sem.run_bind,Sem.run_pure,Result.andThen_ok,List.map_toArray,List.map_cons,List.map_nil,hs,hx,lr];exact hK _ _ (h v' w' h2 h3 h4)
end
end Go.Proofs.YtcjioogololnoaaGreatDoor
namespace Go.Proofs.YtcjioogololnoaaGreatDoor
open Go.RowKit Go.Shelf
def OI:List (BitVec 64):=[0xf5dee51989,0xa9fdca3312,0x1bab10e32d,0x3706b1677a,0x644d626ffd]
def eA (b c:BitVec 64):Nat→BitVec 64
 |0=>c
 |i+1=>if (b>>>i) &&& 1=1 then eA b c i ^^^ OI.getD i 0 else eA b c i
def bF (c:BitVec 64) (v:UInt8):BitVec 64:=eA (c>>>35) (((c &&& 0x7ffffffff)<<<5) ^^^ v.toBitVec.setWidth 64) 5
def gL (l:List UInt8):BitVec 64:=l.foldl bF 1
def tX:Array Value:=#[.int .i64 35,.int .u64 1056006543753,.int .u64 730107360018,.int .u64 118834127661,.int .u64 236335490938,.int .u64 430795026429]
theorem yl {P:Program} (t e:TypeId) (n:Nat) (cs:Array Value) (kk:IntKind) (k:Nat) (v:Value) (h:P.underlying t=some (.array n e)) (he:P.underlying e=some (.int .u64)) (hs:(P.info? e).map (·.size)=some 1) (hk:k<n) (hv:cs[k]?=some v) (w:World):
 (Instr.index t (.agg cs) (.int kk (k:Int))).run P w=.ok v w:=by
 have hsz:(sizeOf e).run P w=.ok 1 w:=by
  cases hq:P.info? e with
  |none=>simp[hq] at hs
  |some i=>simp[hq] at hs;simp[sizeOf,typeInfo,hq,hs]
 have Xd:(isAgg e).run P w=.ok false w:=by
  unfold isAgg;rw[Sem.run_bind,run_underlying he w];rfl
 simp[Instr.index,asIntOf,run_underlying h,hsz,part,Xd,hv,hk,go_sem]
theorem abd (x:BitVec 64) (y:UInt8):bits .xor .u64 (IntKind.u64.wrap (bits .and .u64 (x.toNat:Int) 34359738367*32)) (y.toNat:Int)=((((x &&& 0x7ffffffff)<<<5) ^^^ y.toBitVec.setWidth 64).toNat:Int):=by
 have hy:=y.toNat_lt;have hx:=x.isLt
 have h1:bits .and .u64 (x.toNat:Int) 34359738367=((x &&& 0x7ffffffff).toNat:Int):=by
  have:=u64_and_nat x.toNat 34359738367 hx (by omega);rw[BitVec.toNat_and];exact this
 rw[h1,IntKind.wrap_u64]
 have h2:(((x &&& 0x7ffffffff).toNat:Int)*(32:Int)%(18446744073709551616:Int))=((((x &&& 0x7ffffffff)<<<5)).toNat:Int):=by
  rw[BitVec.toNat_shiftLeft,Nat.shiftLeft_eq];simp
 have h3:(y.toNat:Int)=((y.toBitVec.setWidth 64).toNat:Int):=by rw[BitVec.toNat_setWidth,UInt8.toNat_toBitVec,agA (by omega)]
 rw[h2,h3,u64_xor_nat _ _ (BitVec.isLt _) (BitVec.isLt _),BitVec.toNat_xor]
theorem abe (x:BitVec 64):(x.toNat:Int)/(34359738368:Int)=((x>>>35).toNat:Int):=by rw[BitVec.toNat_ushiftRight,Nat.shiftRight_eq_div_pow];simp
theorem Ys (b:BitVec 64) (q:Nat):bits .and .u64 ((b.toNat:Int)/2^q) 1=(((b>>>q) &&& 1).toNat:Int):=by
 have h1:(b.toNat:Int)/2^q=((b>>>q).toNat:Int):=by rw[BitVec.toNat_ushiftRight,Nat.shiftRight_eq_div_pow,Int.natCast_ediv,Int.natCast_pow];rfl
 rw[h1,BitVec.toNat_and];exact u64_and_nat _ 1 (BitVec.isLt _) (by omega)
theorem IT (b:BitVec 64) (q:Nat):(b>>>q) &&& 1=1↔bits .and .u64 ((b.toNat:Int)/2^q) 1=1:=by
 rw[Ys];constructor
 · intro h;rw[h];rfl
 intro h;apply BitVec.eq_of_toNat_eq;show _=1;omega
theorem Dp (x y:BitVec 64):bits .xor .u64 (x.toNat:Int) (y.toNat:Int)=((x ^^^ y).toNat:Int):=by rw[u64_xor_nat _ _ x.isLt y.isLt,BitVec.toNat_xor]
theorem tf (w:World):Calls Tryz.prog 34 #[] w fun e w'=>e=.returned (.agg tX)∧Below w.heap.size w w':=by
 go_enter Tryz.func34,Tryz.ntmps34;go_wp2_with fail;refine agf (v:=.agg tX) ?_ rfl ⟨rfl,(af5 _ w).alloc (af2 _) _⟩;exact ags rfl _ _ w.heap.size 81 tX (0,0) _ rfl (af4 w _) Tryz.underlying81 rfl (by kernel_rfl)
theorem AT (A:Option Addr) (c:Nat) (bs:List UInt8) (w:World) (hs:Sl w w.heap.size A (B8 bs)) (hl:bs.length≤17000):
 Calls Tryz.prog 35 #[.agg tX,.slice A bs.length c,.int .i64 8] w fun e W'=>e=.returned (.int .u64 ((gL (bs++List.replicate 8 0)).toNat:Int))∧Below w.heap.size w W':=by
 unfold tX;go_enter Tryz.func35,Tryz.ntmps35;go_wp2_with fail;obtain⟨wa,pS⟩:=ab (w.alloc (.cells tX 81));have BO:Below w.heap.size w wa:=by rw[pS];exact(af5 _ _).alloc (af2 _) _
 have hga:wa.heap[w.heap.size]?=some (.cells tX 81 (0,0)):=by rw[pS];exact af4 w _
 have CO:wa.heap.size=w.heap.size+1:=by rw[pS];exact agn _ _
 obtain⟨gk,jR⟩:=ab w.heap.size;rw[←jR] at hga;have adn:gk<wa.heap.size:=by omega
 refine(show wa=_ from pS)▸?_;refine(lU A c bs wa ((hs.below BO).mono (by omega)) (by omega)).mono ?_;rintro e w1 ⟨v,rfl,ho,aZ⟩;obtain⟨A1,c1,rfl,dW,Ae⟩:=aH ho;have gq:=aZ.size;have ado:w.heap.size≤wa.heap.size:=by omega
 have jd:=(aZ.block gk adn).trans hga;have adp:=BO.trans (aZ.mono ado);rw[←jR];have vx:=aa jd;clear pS CO hga jd jR;obtain⟨M,hM⟩:∃M,M=bs++List.replicate 8 0:=⟨_,rfl⟩;have hMB:B8 bs++List.replicate 8 (Value.int IntKind.u8 0)=B8 M:=by rw[hM];simp[B8]
 obtain⟨N,hN⟩:=ab M.length;have Vg:N≤18000:=by rw[hN,hM];simp;omega
 have IC:0<N:=by rw[hN,hM];simp
 have HM:=aa hM;have HMB:=aa hMB;have HN:=aa hN;clear hM hMB hN;go_wp2_with (at_builtin;go_loud (refine pK (base:=wa.heap.size) (ti:=3) (xs:=B8 bs) (v:=.slice A1 bs.length c1) jf (by kernel_rfl) rfl rfl (.tmp 14) (.tmp 15) rfl rfl ho 8 rfl (by omega) (by rw[B8_length];simp[maxLen];omega) (by rw[B8_length];omega) gq ?_);intro v2 w2 nB lv sM;rw[HMB.out] at nB;obtain⟨A2,c2,rfl,ez,CE⟩:=aH nB;rw[←HN.out] at nB ez⊢)
 have gV:w2.heap[gk]?=some (.cells tX 81 (0,0)):=by
  rw[lv.block gk (by omega) (fun e=>by have:=(ho.row gk e.symm).1;omega)];exact vx.out
 have Yt:Below w.heap.size w w2:=adp.grown lv (by omega) (fun r hr=>by have:=(ho.row r hr).1;omega);have k0:w2.cell? ⟨gk,0,none⟩=some (.int .i64 35):=by rw[agb w2 gk 0 _ _ (0,0) gV];rfl
 have k1:w2.cell? ⟨gk,1,none⟩=some (.int .u64 1056006543753):=by rw[agb w2 gk 1 _ _ (0,0) gV];rfl
 have k2:w2.cell? ⟨gk,2,none⟩=some (.int .u64 730107360018):=by rw[agb w2 gk 2 _ _ (0,0) gV];rfl
 have k3:w2.cell? ⟨gk,3,none⟩=some (.int .u64 118834127661):=by rw[agb w2 gk 3 _ _ (0,0) gV];rfl
 have k4:w2.cell? ⟨gk,4,none⟩=some (.int .u64 236335490938):=by rw[agb w2 gk 4 _ _ (0,0) gV];rfl
 have k5:w2.cell? ⟨gk,5,none⟩=some (.int .u64 430795026429):=by rw[agb w2 gk 5 _ _ (0,0) gV];rfl
 obtain⟨b2,o2,rfl,_,db⟩:=nB.sl (by rw[B8_length,←HN.out];exact IC);have j9:=aa db;clear db gV lv sM ho nB;go_loopw [7,18] (fun cv i wr=>∃j:Nat,wr=w2∧j≤N∧i=.int .i64 j∧cv=.int .u64 ((gL (M.take j)).toNat:Int)) (fun _ i _=>N-(intOf i).toNat)
 case atStart=>exact⟨0,rfl,agu _,rfl,rfl⟩
 case round=>
  obtain⟨j,rfl,hj,rfl,rfl⟩:=hrel;obtain⟨x,hx⟩:=ab (gL (M.take j));rw[←hx]
  by_cases aL:j<N
  · have hjM:j<M.length:=by rw[←HN.out];exact aL
    obtain⟨y,hy⟩:∃y,y=M[j]:=⟨_,rfl⟩;have aD:wr.cell? ⟨b2,o2+j,none⟩=some (.int .u8 (y.toNat:Int)):=by rw[j9.out j (by simpa using hjM),dd,hy]
    have CW:=y.toNat_lt;have Hx:=aa hx;have Hy:=aa hy;clear hx hy;go_wp2_with fail;rw[abd x y,abe x];obtain⟨c0,iu⟩:∃c0,c0=((x &&& 0x7ffffffff)<<<5) ^^^ y.toBitVec.setWidth 64:=⟨_,rfl⟩;obtain⟨b0,bL⟩:∃b0,b0=x>>>35:=⟨_,rfl⟩;rw[←iu,←bL];have Hc0:=aa iu;have dh:=aa bL;obtain⟨wS,VC⟩:=ab wr;subst VC;clear iu bL;go_loopw [7,38] (fun cv i wr=>∃q:Nat,wr=wS∧q≤5∧i=.int .i64 q∧cv=.int .u64 ((eA b0 c0 q).toNat:Int)) (fun _ i _=>5-(intOf i).toNat)
    case atStart=>exact⟨0,rfl,agu _,rfl,rfl⟩
    case round=>
     obtain⟨q,rfl,hq,rfl,rfl⟩:=hrel;obtain⟨z,hz⟩:=ab (eA b0 c0 q);rw[←hz];have Hz:=aa hz;clear hz
     by_cases Te:q<5
     · obtain⟨av,Tf⟩:=ab (OI.getD q 0)
       have mM:=yl (P:=Tryz.prog) 79 78 5 #[.int .u64 1056006543753,.int .u64 730107360018,.int .u64 118834127661,.int .u64 236335490938,.int .u64 430795026429] .i64 q (.int .u64 (av.toNat:Int)) (by kernel_rfl) (by kernel_rfl) (by kernel_rfl) Te (by
        rw[Tf];have hq5:q=0∨q=1∨q=2∨q=3∨q=4:=by omega
        rcases hq5 with rfl|rfl|rfl|rfl|rfl<;>rfl)
       have Hav:=aa Tf;clear Tf;go_wp2_with fail
       · rename_i h
         have hb:(b0>>>q) &&& 1=1:=(IT b0 q).2 (by simpa using h);refine⟨⟨q+1,trivial,by omega,rfl,?_⟩,by simp[intOf];omega⟩;rw[eA,if_pos hb,←Hz.out,←Hav.out,Dp]
       rename_i h
       have hb:¬((b0>>>q) &&& 1=1):=fun e=>by
        have:=(IT b0 q).1 e;rw[this] at h;simp at h
       refine⟨⟨q+1,trivial,by omega,rfl,?_⟩,by simp[intOf];omega⟩;rw[eA,if_neg hb,←Hz.out]
     obtain rfl:q=5:=by omega
     go_wp2_with fail;refine⟨⟨j+1,trivial,by omega,rfl,?_⟩,by simp[intOf];omega⟩;rw[agh hjM,gL,List.foldl_append];show _=Value.int .u64 ((bF (gL (M.take j)) M[j]).toNat:Int);rw[bF,←Hx.out,←Hy.out,←Hc0.out,←dh.out,Hz.out]
  obtain rfl:j=N:=by omega
  go_wp2_with fail;go_ret;refine⟨?_,Yt⟩;rw[←HM.out,←show M.take j=M from af7 (by rw[←HN.out];exact af2 _),←hx];rfl
def bG (c:BitVec 64) (k:Nat):List UInt8:=(List.range k).map fun i=>UInt8.ofNat (c.toNat/2^(5*(7-i))%32)
theorem b7 (c:BitVec 64) (k:Nat):(bG c k).length=k:=by simp[bG]
theorem jC (c:BitVec 64) (k:Nat):bG c (k+1)=bG c k++[UInt8.ofNat (c.toNat/2^(5*(7-k))%32)]:=by simp[bG,List.range_succ]
theorem abf (c:BitVec 64) (q:Nat):bits .and .u64 ((c.toNat:Int)/2^q) 31=((c.toNat/2^q%32:Nat):Int):=by
 have h1:(c.toNat:Int)/2^q=((c.toNat/2^q:Nat):Int):=by rw[Int.natCast_ediv,Int.natCast_pow];rfl
 have hc:=c.isLt;have h2:c.toNat/2^q≤c.toNat:=Nat.div_le_self _ _;have h3:=u64_and_nat (c.toNat/2^q) 31 (by omega) (by omega);rw[h1];refine h3.trans ?_;rw[show (31:Nat)=2^5-1 from rfl,Nat.and_two_pow_sub_one_eq_mod]
theorem oq (c:BitVec 64) (w:World):
 Calls Tryz.prog 33 #[.int .u64 (c.toNat:Int),.int .i64 8] w fun e W'=>∃v,e=.returned v∧Ow W' w.heap.size 5 v (B8 (bG c 8))∧Below w.heap.size w W':=by
 go_enter Tryz.func33,Tryz.ntmps33;go_wp2_with fail;go_loopw [5,8] (fun v i wr=>∃k:Nat,k≤8∧i=.int .i64 k∧Ow wr w.heap.size 5 v (B8 (bG c k))∧Below w.heap.size w wr) (fun _ i _=>8-(intOf i).toNat)
 case atStart=>exact⟨0,agu _,rfl,Ow.nil_ _ _ _ _,af5 _ _⟩
 case round=>
  obtain⟨k,hk,rfl,ho,hb⟩:=hrel;obtain⟨L,hL⟩:=ab (bG c k);have uT:L.length=k:=by rw[hL,b7]
  rw[←hL] at ho;obtain⟨Al,cl,rfl,db,NM⟩:=aH ho;rw[uT] at ho db⊢
  by_cases aL:k<8
  · obtain⟨sh,AS⟩:∃sh,sh=5*(7-k):=⟨_,rfl⟩
    have esh:(5:Int)*(7-(k:Int))=(sh:Int):=by omega
    have aeL:sh≤35:=by omega
    obtain⟨d,hd⟩:∃d,d=c.toNat/2^sh%32:=⟨_,rfl⟩;have wG:d<32:=by omega
    have FF:=abf c sh;rw[←hd] at FF;have HL:=aa hL;have Vi:=aa uT;have Hd:=aa hd;have Hsh:=aa AS;clear hL uT hd AS;go_wp2_with (at_builtin;go_loud (refine aq (m:=1) (c:=1) (base:=w.heap.size) (xs:=B8 L) (v:=.slice Al k cl) (A:=some ⟨wr.heap.size,0,none⟩) (B:=wr.heap.size+1) (news:=[.int .u8 (d:Int)]) jf rfl (.tmp 11) (.tmp 21) rfl rfl (ho.alloc _) rfl (Sl.one wr _ _) rfl (by simp;rfl) (by rw[B8_length,Vi.out];simp[maxLen];omega) (by rw[B8_length,Vi.out];omega) (by have:=hb.size;simp;omega) ?_);intro v3 w3 cZ fl j0);rw[dD L _ (UInt8.ofNat d) (by simp;omega),HL.out,Hd.out,Hsh.out,←jC] at cZ;exact⟨⟨k+1,by omega,rfl,cZ,bE hb (af2 _) ho fl⟩,by simp[intOf];omega⟩
  obtain rfl:k=8:=by omega
  go_wp2_with fail;go_ret;rw[hL] at ho;exact⟨_,rfl,ho,hb⟩
def kU:List UInt8:=[48,49,50,51,52,53,54,55,56,57,40,41,91,93,44,39,47,42,97,98,99,100,101,102,103,104,64,58,36,37,123,125,73,74,75,76,77,78,79,80,81,82,83,84,85,86,87,88,89,90,38,43,45,46,59,60,61,62,63,33,94,95,124,126,105,106,107,108,109,110,111,112,113,114,115,116,117,118,119,120,121,122,65,66,67,68,69,70,71,72,96,35,34,92,32]
def bP:List UInt8:=[113,112,122,114,121,57,120,56,103,102,50,116,118,100,119,48,115,51,106,110,53,52,107,104,99,101,54,109,117,97,55,108]
def jW (c:UInt8):Nat:=kU.idxOf c
def iY (st:List UInt8×List UInt8) (c:UInt8):List UInt8×List UInt8:=
 match st.2 with
 |[g0,g1]=>(st.1++[UInt8.ofNat (jW c%32)]++[UInt8.ofNat (9*g0.toNat+3*g1.toNat+jW c/32)],[])
 |g=>(st.1++[UInt8.ofNat (jW c%32)],g++[UInt8.ofNat (jW c/32)])
def wH:List UInt8×List UInt8→List UInt8
 |(v,[g])=>v++[g]
 |(v,[g,h])=>v++[UInt8.ofNat (3*g.toNat+h.toNat)]
 |(v,_)=>v
def eG (s:List UInt8):List UInt8×List UInt8:=s.foldl iY ([],[])
def dJ (d:UInt8):UInt8:=bP.getD d.toNat 0
def aE (s:List UInt8):List UInt8:=(bG (gL (wH (eG s)++List.replicate 8 0) ^^^ 1) 8).map dJ
end Go.Proofs.YtcjioogololnoaaGreatDoor
namespace Go.Proofs.YtcjioogololnoaaGreatDoor
open Go
structure DKey where
 plain:List UInt8
 top:HKey
 steps:List Nat
 ranged:Bool
 hard:Bool
deriving DecidableEq
structure DDesc where
 wraps:List (List UInt8)
 m:Nat
 sorted:Bool
 keys:List DKey
deriving DecidableEq
def AU (c:UInt8):UInt8:=if 65≤c.toNat∧c.toNat≤70 then UInt8.ofNat (c.toNat+32) else c
def ig (c:UInt8):Bool:=decide (AU c∈bq)
def rQ (c:UInt8):Nat:=bq.idxOf (AU c)
def cJ:List UInt8→Option (List UInt8)
 |[]=>some []
 |[_]=>none
 |a::b::r=>if ig a&&ig b then (cJ r).map (UInt8.ofNat (rQ a*16+rQ b)::·) else none
theorem iZ:∀(xs ys:List UInt8) (u:List UInt8),cJ xs=some u→cJ (xs++ys)=(cJ ys).map (u++·)
 |[],ys,u,h=>by
  obtain rfl:[]=u:=by simpa [cJ] using h
  cases hy:cJ ys<;>simp[hy]
 |[_],_,_,h=>by simp[cJ] at h
 |a::b::r,ys,u,h=>by
  rw[cJ] at h;split at h
  · next wI=>
    cases hr:cJ r with
    |none=>rw[hr] at h;simp at h
    |some v=>
     rw[hr] at h;simp only[Option.map_some,Option.some.injEq] at h;subst h;rw[agw,agw,cJ,if_pos wI,iZ r ys v hr]
     cases cJ ys<;>simp
  simp at h
theorem iH:∀(xs u:List UInt8),cJ xs=some u→xs.length=2*u.length
 |[],u,h=>by
  obtain rfl:[]=u:=by simpa [cJ] using h
  rfl
 |[_],_,h=>by simp[cJ] at h
 |a::b::r,u,h=>by
  rw[cJ] at h;split at h
  · cases hr:cJ r with
    |none=>rw[hr] at h;simp at h
    |some v=>
     rw[hr] at h;simp only[Option.map_some,Option.some.injEq] at h;subst h;have:=iH r v hr;simp;omega
  simp at h
def eH (last:List UInt8):Option (Bool×Bool):=
 if last.head?=some 42 then (if last=[42] then some (true,false) else if last.length=2∧cc (last.getLastD 0)=true then some (true,true) else none) else some (false,false)
def bS (priv:Bool) (parts:List (List UInt8)):Option (List Nat×Bool×Bool):=
 match eH (parts.getLastD []) with
 |none=>none
 |some (ranged,hard)=>
  let ps:=if ranged then parts.dropLast else parts
  if 20<ps.length then none
  else match bf ps with
   |none=>none
   |some ns=>if (hard||ns.any (fun n=>decide (2147483648≤n)))&&!priv then none else some (ns,ranged,hard)
def ij (s:List UInt8):Option DKey:=
 let c:=Lib.cut s [47]
 if (cM c.1).1=0 then
  (if c.2.2 then (bS (cM c.1).2.priv (aK 47 c.2.1)).map fun t=>⟨[],(cM c.1).2,t.1,t.2.1,t.2.2⟩ else some ⟨[],(cM c.1).2,[],false,false⟩)
 else none
def aR (s:List UInt8):Option DKey:=
 if s.length=66 then
  match cJ s with
  |some b=>if iE b&&decide (eF b=s) then some ⟨b,aP,[],false,false⟩ else none
  |none=>ij s
 else ij s
def bJ:List (List UInt8)→Option (List DKey)
 |[]=>some []
 |p::ps=>match aR p with
  |none=>none
  |some k=>(bJ ps).map (k::·)
def ik:List UInt8:=[115,104]
def cf:List UInt8:=[119,115,104]
def eD:List UInt8:=[112,107,104]
def ca:List UInt8:=[119,112,107,104]
def fW:List UInt8:=[109,117,108,116,105]
def ec:List UInt8:=[115,111,114,116,101,100,109,117,108,116,105]
def zi (t:List UInt8):Option Nat:=
 match Lib.atoiAll t with
 |.ok n=>if Lib.itoa n=t∧1≤n then some n.toNat else none
 |_=>none
def iI (wraps:List (List UInt8)) (sorted:Bool) (t:List UInt8):Option DDesc:=
 match aK 44 t with
 |[]=>none
 |p::ps=>if 1≤ps.length∧ps.length≤16 then
  match zi p with
  |none=>none
  |some n=>if n≤ps.length then (bJ ps).map fun ks=>⟨wraps,n,sorted,ks⟩ else none
  else none
def b5 (wraps:List (List UInt8)) (wsh:Bool) (s:List UInt8):Option DDesc:=
 match au s eD with
 |some t=>if !wsh&&wraps.isEmpty then (aR t).map fun k=>⟨wraps++[eD],0,false,[k]⟩ else none
 |none=>match au s ca with
  |some t=>if !wsh then (aR t).map fun k=>⟨wraps++[ca],0,false,[k]⟩ else none
  |none=>match au s ec with
   |some t=>iI wraps true t
   |none=>match au s fW with
    |some t=>iI wraps false t
    |none=>none
def aQ (s:List UInt8):Option DDesc:=
 match au s ik with
 |some t=>(match au t cf with
  |some u=>b5 [ik,cf] true u
  |none=>b5 [ik] false t)
 |none=>(match au s cf with
  |some u=>b5 [cf] true u
  |none=>b5 [] false s)
def bU (s:List UInt8):Nat×Option DDesc:=
 if 4000<s.length then (2,none)
 else
  let c:=Lib.cut s [35]
  if c.1.all (fun x=>decide (x∈kU)) then
   (if c.2.2=true∧c.2.1≠aE c.1 then (5,none)
    else match aQ c.1 with
     |none=>(3,none)
     |some d=>(0,some d))
  else (3,none)
def di (k:DKey):List UInt8:=
 if k.plain≠[] then eF k.plain else eO k.top++(cQ k.steps++(if k.hard then [47,42,39] else if k.ranged then [47,42] else []))
def jn (sorted:Bool):List UInt8:=if sorted then ec else fW
def dQ (d:DDesc):List UInt8:=
 let s:=Lib.join (d.keys.map di) [44]
 if 0<d.m then jn d.sorted++40::(Lib.itoa d.m++44::(s++[41])) else s
def mg:List (List UInt8)→List UInt8→List UInt8
 |[],s=>s
 |w::ws,s=>w++40::(mg ws s++[41])
def fh (d:DDesc):List UInt8:=mg d.wraps (dQ d)
def iJ (d:DDesc):List UInt8:=fh d++35::aE (fh d)
end Go.Proofs.YtcjioogololnoaaGreatDoor
namespace Go.Proofs.YtcjioogololnoaaGreatDoor
open Go.RowKit Go.Shelf
def mi (c:UInt8):Int:=cC bq (AU c)
theorem pc {c:UInt8} (h:ig c=true):mi c=(rQ c:Int)∧rQ c<16:=by
 have h':AU c∈bq:=by simpa [ig] using h
 exact⟨by rw[mi,cC,if_pos h'];rfl,List.idxOf_lt_length_of_mem h'⟩
theorem mj {c:UInt8} (h:ig c=false):mi c=-1:=by
 have h':¬AU c∈bq:=by simpa [ig] using h
 rw[mi,cC,if_neg h']
theorem wP (y:UInt8) (w:World):
 Calls Tryz.prog 96 #[.int .u8 (y.toNat:Int)] w fun e w'=>e=.returned (.int .i64 (mi y))∧w'=w:=by
 obtain⟨z,hz⟩:=ab (mi y);rw[←hz];have CW:=y.toNat_lt;obtain⟨m,hm⟩:∃m:Nat,m=(AU y).toNat:=⟨_,rfl⟩;have mM:=Tryz.strings_IndexByte ⟨bq.toArray⟩ (m:Int);rw[show (⟨bq.toArray⟩:ByteArray).data.toList=bq from rfl,fc,show ((m:Int)).toNat.toUInt8=AU y from by rw[hm];simp,show cC bq (AU y)=z from hz.symm] at mM;have uW:=aa mM
 have hm':m=if 65≤y.toNat∧y.toNat≤70 then y.toNat+32 else y.toNat:=by
  rw[hm,AU];split
  · rw[agp,agA (by omega)]
  rfl
 have Hm:=aa hm';clear mM hz hm hm'
 by_cases h65:65≤y.toNat
 · by_cases h70:y.toNat≤70
   · have e:m=y.toNat+32:=by rw[Hm.out,if_pos ⟨h65,h70⟩]
     have e2:((y.toNat:Int)+32)=(m:Int):=by omega
     clear e;go_enter Tryz.func96,Tryz.ntmps96;go_wp2_with (go_at_call 32;refine(uW.out _).mono ?_;rintro e w' ⟨rfl,bD⟩;rw[bD];clear bD);go_ret;exact⟨rfl,rfl⟩
   have afd:70<y.toNat:=by omega
   have e:m=y.toNat:=by rw[Hm.out,if_neg (by omega)]
   subst e;clear h70;go_enter Tryz.func96,Tryz.ntmps96;go_wp2_with (go_at_call 32;refine(uW.out _).mono ?_;rintro e w' ⟨rfl,bD⟩;rw[bD];clear bD);go_ret;exact⟨rfl,rfl⟩
 have adq:y.toNat<65:=by omega
 have e:m=y.toNat:=by rw[Hm.out,if_neg (by omega)]
 subst e;clear h65;go_enter Tryz.func96,Tryz.ntmps96;go_wp2_with (go_at_call 32;refine(uW.out _).mono ?_;rintro e w' ⟨rfl,bD⟩;rw[bD];clear bD);go_ret;exact⟨rfl,rfl⟩
theorem zl (s:List UInt8) (h:s.length%2=1):cJ s=none:=by
 cases hu:cJ s with
 |none=>rfl
 |some u=>have:=iH s u hu;omega
def unE (o:Option (List UInt8)):Nat:=if o.isSome then 0 else 3
theorem Ti (a b:Nat) (ha:a<16) (hb:b<16):bits .or .i64 ((a:Int)*16) (b:Int)=((a*16+b:Nat):Int):=by
 have:∀(a b:Fin 16),bits .or .i64 ((a.val:Int)*16) (b.val:Int)=((a.val*16+b.val:Nat):Int):=by decide
 exact this ⟨a,ha⟩ ⟨b,hb⟩
theorem AX (s:ByteArray) (w:World) (hl:s.size≤8192):
 Calls Tryz.prog 66 #[.string s] w fun e W'=>∃v,e=.returned (.tuple #[v,.int .i64 (unE (cJ s.data.toList):Int)])∧Ow W' w.heap.size 5 v (B8 ((cJ s.data.toList).getD []))∧Below w.heap.size w W':=by
 have bW:Tryz.prog.follows .mixedOrders=true:=by kernel_rfl
 obtain⟨S,hS⟩:=ab s.data.toList;have sU:S.length=s.size:=by rw[hS];simp
 obtain⟨U,hU⟩:=ab (cJ S);rw[←hS,←hU];have HS:=aa hS;have tg:=aa sU;have HU:=aa hU
 by_cases uD:s.size%2=1
 · have Yx:U=none:=by rw[hU];exact zl S (by omega)
   subst Yx;have J9:(s.size:Int)%2=1:=by omega
   clear hS sU hU uD;go_enter Tryz.func66,Tryz.ntmps66;go_wp2_with fail;go_ret2;exact⟨_,rfl,Ow.nil_ _ _ _ _,af5 _ _⟩
 have J9:(s.size:Int)%2=0:=by omega
 obtain⟨n,hn⟩:∃n,n=s.size/2:=⟨_,rfl⟩;have zQ:s.size≤2*n:=by omega
 have hS2:2*n≤s.size:=by omega
 clear hS sU hU uD hn;go_enter Tryz.func66,Tryz.ntmps66;go_wp2_with fail;clear J9;go_loopw [4,5] (fun v i wr=>∃k:Nat,k≤n∧i=.int .i64 ((2*k:Nat):Int)∧(∃L,Hid (cJ (S.take (2*k))=some L)∧Ow wr w.heap.size 5 v (B8 L))∧Below w.heap.size w wr) (fun _ i _=>2*n-(intOf i).toNat)
 case atStart=>exact⟨0,agu _,rfl,⟨[],aa rfl,Ow.nil_ _ _ _ _⟩,af5 _ _⟩
 case round=>
  obtain⟨k,hk,rfl,⟨L,HL,ho⟩,hb⟩:=hrel;obtain⟨m,hm⟩:∃m,m=2*k:=⟨_,rfl⟩
  have uT:L.length=k:=by
   have h1:=iH _ _ HL.out;rw[agj] at h1;have:=tg.out;omega
  rw[←hm] at HL⊢;obtain⟨Al,cl,rfl,db,NM⟩:=aH ho;rw[uT] at ho db⊢;have Vi:=aa uT;have vm:m≤2*k:=by omega
  have xW:2*k≤m:=by omega
  by_cases aL:k<n
  · have hms:m<s.size:=by omega
    have afe:m+1<s.size:=by omega
    obtain⟨a1,BS⟩:∃a1,a1=s[m]:=⟨_,rfl⟩;obtain⟨a2,C7⟩:∃a2,a2=s[m+1]:=⟨_,rfl⟩
    have wQ:S=S.take m++a1::a2::S.drop (m+2):=by
     have Cm:m<S.length:=by have:=tg.out;omega
     have Yy:m+1<S.length:=by have:=tg.out;omega
     have e1:S[m]=a1:=by rw[BS];simp only[HS.out];rfl
     have e2:S[m+1]=a2:=by rw[C7];simp only[HS.out];rfl
     conv=>lhs;rw[←agH m S,List.drop_eq_getElem_cons Cm,List.drop_eq_getElem_cons Yy]
     rw[e1,e2]
    have uE:=aa wQ;have jY:∀h,s[m]'h=a1:=fun h=>BS.symm
    have px:∀h,s[m+1]'h=a2:=fun h=>C7.symm
    have MF:=aa (wP a1);have MG:=aa (wP a2);have Hm:=aa hm;clear wQ BS C7 hm uT
    by_cases wI:(ig a1&&ig a2)=true
    · have hA:=pc (c:=a1) (by simp at wI;exact wI.1)
      have hB:=pc (c:=a2) (by simp at wI;exact wI.2);obtain⟨d1,vN⟩:=ab (rQ a1);obtain⟨d2,pQ⟩:=ab (rQ a2);rw[←vN] at hA;rw[←pQ] at hB;rw[hA.1] at MF;rw[hB.1] at MG;have OH:=hA.2;have Tc:=hB.2;have Mx:=Ti d1 d2 OH Tc;obtain⟨z,hz⟩:∃z,z=d1*16+d2:=⟨_,rfl⟩;rw[←hz] at Mx;have abk:z<256:=by omega
      have jg:cJ (S.take (2*(k+1)))=some (L++[UInt8.ofNat z]):=by
       have e:S.take (2*(k+1))=S.take m++[a1,a2]:=by
        have Cm:(S.take m).length=m:=by rw[agj];have:=tg.out;omega
        have h2:=uE.out;generalize S.take m=X at h2 Cm⊢;generalize S.drop (m+2)=Y at h2;rw[h2,show 2*(k+1)=X.length+2 by omega,List.take_length_add_append];rfl
       rw[e,iZ _ _ _ HL.out,cJ,if_pos wI];simp[cJ,hz,vN,pQ]
      have ny:=aa jg;clear jg hz vN pQ hA hB wI;go_wp2_with fail;refine an [(0,0),(1,0),(2,0),(4,0),(5,0),(6,0),(7,0),(3,2),(8,2),(9,0),(10,0)] 11 bW (by kernel_rfl) (by intro c a d v w h;cases d<;>exact h) ?_
      repeat ((first|refine ag rfl fun K hK=>?_|refine af rfl fun K hK=>?_);go_simp;(first|refine hK _ ?_|(simp only[IntWalk.iteOmega];go_simp;refine hK _ ?_)|(go_bits;go_simp;refine hK _ ?_));clear hK K;try go_bits)
      refine ae rfl rfl (fun K hK=>?_);go_wp2_with fail;refine(MF.out _).mono ?_;rintro e w' ⟨rfl,rfl⟩;go_wp2_with fail;refine⟨.inr (Ext.refl _),?_⟩;refine ae rfl rfl (fun K hK=>?_);go_wp2_with fail;refine(MG.out _).mono ?_;rintro e w' ⟨rfl,rfl⟩;go_wp2_with fail;refine⟨.inr (Ext.refl _),?_⟩
      repeat ((first|refine ag rfl fun K hK=>?_|refine af rfl fun K hK=>?_);go_simp;(first|refine hK _ ?_|(simp only[IntWalk.iteOmega];go_simp;refine hK _ ?_)|(go_bits;go_simp;refine hK _ ?_));clear hK K;try go_bits)
      refine ak ?_;go_wp2_with (at_builtin;go_loud (refine aq (m:=1) (c:=1) (base:=w.heap.size) (xs:=B8 L) (v:=.slice Al k cl) (A:=some ⟨wr.heap.size,0,none⟩) (B:=wr.heap.size+1) (news:=[.int .u8 (z:Int)]) jf rfl (.tmp 33) (.tmp 39) rfl rfl (ho.drew.alloc _) rfl (Sl.one wr.drew _ _) rfl (by simp;rfl) (by rw[B8_length,Vi.out];simp[maxLen];omega) (by rw[B8_length,Vi.out];omega) (by have:=hb.size;simp;omega) ?_);intro v3 w3 cZ fl j0);rw[dD L _ (UInt8.ofNat z) (by simp;omega)] at cZ;refine⟨⟨k+1,by omega,?_,⟨_,ny,cZ⟩,bE hb.drew (af2 _) ho.drew fl⟩,by simp[intOf];omega⟩;have e:((m:Int)+2)=((2*(k+1):Nat):Int):=by omega
      rw[e]
    have Yx:U=none:=by
     rw[HU.out,uE.out,iZ _ _ _ HL.out,cJ,if_neg wI];rfl
    have p7:ig a1=false∨ig a2=false:=by
     cases h1:ig a1<;>cases h2:ig a2<;>simp_all
    subst Yx;obtain⟨z1,gq⟩:=ab (mi a1);obtain⟨z2,mI⟩:=ab (mi a2);rw[←gq] at MF;rw[←mI] at MG
    have wC:z1<0∨(0≤z1∧z2<0):=by
     by_cases h0:z1<0
     · exact .inl h0
     refine .inr ⟨by omega,?_⟩;rcases p7 with h|h
     · rw[mj h] at gq;omega
     rw[mj h] at mI;omega
    clear p7 gq mI wI uE HL Vi HU;rcases wC with zW|⟨zL,zW⟩
    all_goals
     go_wp2_with fail;refine an [(0,0),(1,0),(2,0),(4,0),(5,0),(6,0),(7,0),(3,2),(8,2),(9,0),(10,0)] 11 bW (by kernel_rfl) (by intro c a d v w h;cases d<;>exact h) ?_
     repeat ((first|refine ag rfl fun K hK=>?_|refine af rfl fun K hK=>?_);go_simp;(first|refine hK _ ?_|(simp only[IntWalk.iteOmega];go_simp;refine hK _ ?_)|(go_bits;go_simp;refine hK _ ?_));clear hK K;try go_bits)
     refine ae rfl rfl (fun K hK=>?_);go_wp2_with fail;refine(MF.out _).mono ?_;rintro e w' ⟨rfl,rfl⟩;go_wp2_with fail;refine⟨.inr (Ext.refl _),?_⟩;refine ae rfl rfl (fun K hK=>?_);go_wp2_with fail;refine(MG.out _).mono ?_;rintro e w' ⟨rfl,rfl⟩;go_wp2_with fail;refine⟨.inr (Ext.refl _),?_⟩
     repeat ((first|refine ag rfl fun K hK=>?_|refine af rfl fun K hK=>?_);go_simp;(first|refine hK _ ?_|(simp only[IntWalk.iteOmega];go_simp;refine hK _ ?_)|(go_bits;go_simp;refine hK _ ?_));clear hK K;try go_bits)
     refine ak ?_;go_wp2_with fail;go_ret2;exact⟨_,rfl,Ow.nil_ _ _ _ _,hb.drew⟩
  have zf:k=n:=by omega
  have hUv:U=some L:=by
   rw[HU.out,←HL.out,af7];have:=tg.out;omega
  subst hUv;clear zf HL HU hm uT;go_wp2_with fail;go_ret2;exact⟨_,rfl,ho,hb⟩
end Go.Proofs.YtcjioogololnoaaGreatDoor
namespace Go.Proofs.YtcjioogololnoaaGreatDoor
open Go.RowKit Go.Shelf Go.Sort
theorem uI (B b:Nat) (bs:List Value) (s:ByteArray) (w:World) (h:Lib.IsBuilder 102 5 B b bs w) (hlen:bs.length+s.size≤140737488355328) (hBw:B≤w.heap.size):
 Calls Tryz.prog 52 #[.pointer (some ⟨b,0,none⟩),.string s] w fun e w'=>e=.returned (.tuple #[.int .i64 s.size,.nilIface])∧(Lib.BuilderAt 102 5 B b (.pointer (some ⟨b,0,none⟩)) (bs++Lib.strCells s) w'∧Below B w w'):=by
 obtain⟨i0,hi,iC,gq,mI⟩:=info_parts (show (Tryz.prog.info? 5).map (fun i=>(i.zero,i.size,i.bytes))=some (some (.int .u8 0),1,1) by kernel_rfl);go_enter Tryz.func52,Tryz.ntmps52;go_wp2_with (go_at_call 83;refine(pZ B b bs _ h).mono ?_);rintro e w1 ⟨rfl,h1,aZ⟩;obtain⟨hB,v,hbk,lq,dt⟩:=h1;have c1:w1.cell? ⟨b,1,none⟩=some v:=by rw[Lib.cell_of_heap hbk];rfl
 go_wp2_with (at_builtin;refine Lib.wpList_append_own_string _ rfl _ _ 37 9 rfl B 5 i0 Tryz.underlying37 Tryz.underlying9 hi iC gq mI _ _ _ rfl lq s rfl ?c3 ?c4 ?c5 ?_)
 case c3=>unfold maxLen;omega
 case c4=>omega
 case c5=>have:=aZ.size;omega
 intro v' w2 Dm Dn _
 have aL:b<w1.heap.size:=by
  rcases Nat.lt_or_ge b w1.heap.size with h'|h'
  · exact h'
  simp[Array.getElem?_eq_none h'] at hbk
 have bt:w2.heap[b]?=some (.cells #[.pointer (some ⟨b,0,none⟩),v] 102 (0,0)):=by
  rw[Dn.block b aL (fun e=>dt e.symm)];exact hbk
 have d1:w2.cell? ⟨b,1,none⟩=some v:=by rw[Lib.cell_of_heap bt];rfl
 have f1:w2.frozen? ⟨b,1,none⟩=false:=Lib.frozen_of_heap bt 1
 obtain⟨ao,n',cap,rfl⟩:∃ao n' cap,v'=.slice ao n' cap:=by
  rcases Dm.2 with ⟨hv,_⟩|⟨g,cap,cur,hv,_⟩
  · exact⟨_,_,_,hv⟩
  exact⟨_,_,_,hv⟩
 go_wp2;go_ret2;refine⟨rfl,?_,?_⟩
 · exact Lib.BuilderAt.put (T:=102) (e:=5) hB bt (bs':=bs++Lib.strCells s) (by simpa [Lib.strCells_length] using Dm) (by decide)
 exact(aZ.grown Dn (by have:=aZ.size;omega) (fun k hk=>(lq.lt k hk).1)).setCell (p:=⟨b,1,none⟩) hB _
theorem p9 {T e:TypeId} {B b:Nat} {p:Value} {bs:List Value} {w w':World} (h:Lib.BuilderAt T e B b p bs w) (hb:Below w.heap.size w w'):Lib.BuilderAt T e B b p bs w':=by
 have aL:=h.lt;obtain⟨hB,v,hbk,lq,dt⟩:=h;exact⟨hB,v,(hb.block b aL).trans hbk,lq.kept (row:=none) ⟨hb.os,hb.tape,hb.output,hb.size,fun k hk _=>hb.block k hk⟩ (by cases v.ownBlock<;>simp),dt⟩
theorem uJ {T e:TypeId} {B b:Nat} {bs:List Value} {w w':World} (h:Lib.IsBuilder T e B b bs w) (hb:Below w.heap.size w w'):Lib.IsBuilder T e B b bs w':=h.imp (p9 · hb) (p9 · hb)
theorem DB (w:World) (T:TypeId) (nd:Nat) (hs:nd≤24):Holds (fun (b:UInt8)=>Value.int .u8 (b.toNat:Int)) (w.alloc (.cells Lib.zeros24 T)) w.heap.size 0 (Array.replicate nd (0:UInt8)):=fun j hj=>by
 have yG:j<nd:=by simpa using hj
 refine⟨?_,World.frozen?_alloc_new _ _ _ _⟩;rw[World.cell?_alloc_new,Lib.zeros24_at _ (by omega),getElem!_pos _ j hj];simp
theorem Pn (w:World) (o:Obj) (dk:Array UInt8) (k:Nat):∃os,(putRow (fun (b:UInt8)=>Value.int .u8 (b.toNat:Int)) (w.alloc o) w.heap.size 0 dk).drewN k=grow (w.drewN k) os:=by
 rw[alloc_eq_grow];obtain⟨os',_,e⟩:=putRow_grow_new (fun (b:UInt8)=>Value.int .u8 (b.toNat:Int)) w #[o] w.heap.size 0 dk (af2 _)
 exact⟨os',by rw[e];rfl⟩
theorem uK (u:Nat) (hu:u<4294967296) (w:World) (hE:Env w):
 Calls Tryz.prog 125 #[.int .u64 u,.int .i64 10] w fun e w'=>e=.returned (.string ⟨(Lib.decDigits u).toArray⟩)∧Below w.heap.size w w':=by
 have htab:=hE.pow
 by_cases hs:u<100
 · have Hs:=aa (Tryz.internal_strconv_small u hs)
   go_enter Tryz.func125,Tryz.ntmps125;go_wp2_with (go_at_call 128;refine(Hs.out _).mono ?_;rintro e w' ⟨rfl,bD⟩;rw[bD];clear bD);go_ret;exact⟨rfl,af5 _ _⟩
 have hu1:1≤u:=by omega
 have hu64:u<18446744073709551616:=by omega
 have abt:Lib.nDigits u≤20:=by have:=Lib.numDigits_eq u hu1 hu64;split at this<;>omega
 have hal:Tryz.prog.arrayLen 173=24:=by simp[Program.arrayLen,Tryz.underlying173]
 obtain⟨nd,M2⟩:=ab (Lib.nDigits u)
 have KY:∀W,(Instr.sliceAt 173 (.pointer (some ⟨w.heap.size,0,none⟩)) none (some (.int .i64 (nd:Int))) none).run Tryz.prog W=.ok (.slice (some ⟨w.heap.size,0,none⟩) nd 24) W:=fun W=>by
  rw[run_sliceAt_array_h W 173 ⟨w.heap.size,0,none⟩ (by simp[Program.arrayLen,Program.elem,Tryz.underlying173]) .i64 (nd:Int) (by omega) (by rw[hal];omega)];go_simp
 have hH0:=DB w 173 (Lib.nDigits u) (by omega);have YQ:=Tryz.internal_strconv_formatBase10 w.heap.size 0 24 u (Array.replicate (Lib.nDigits u) 0) (w.alloc (.cells Lib.zeros24 173)) hH0 (by rw[Array.size_replicate];exact Lib.lt_pow_nDigits u) hu64 (by rw[Array.size_replicate];omega);rw[Array.size_replicate,←M2] at YQ;have YR:=fun W hW=>Tryz.internal_strconv_numDigits u hu1 hu64 W hW
 rw[←M2] at YR;have HH0:=aa hH0;have adB:=aa YQ;have adC:=aa YR;have Hnd:=aa M2;have adD:=aa htab;clear hH0 hal YQ YR M2 abt;go_enter Tryz.func125,Tryz.ntmps125
 go_wp2_with (first
  |(go_at_call 129;refine(adC.out _ (Lib.tabIs_alloc adD.out _)).mono ?_;rintro e w' ⟨rfl,bD⟩;rw[bD];clear bD))
 refine adB.out.mono ?_;rintro e w' ⟨rfl,k,v',dk,rfl,hF⟩
 have J1:(convert 37 9 (.slice (some ⟨w.heap.size,0,none⟩) nd 24)).run Tryz.prog ((putRow (fun (b:UInt8)=>Value.int .u8 (b.toNat:Int)) (w.alloc (.cells Lib.zeros24 173)) w.heap.size 0 dk).drewN k)=.ok (.string ⟨(Lib.decDigits u).toArray⟩) ((putRow (fun (b:UInt8)=>Value.int .u8 (b.toNat:Int)) (w.alloc (.cells Lib.zeros24 173)) w.heap.size 0 dk).drewN k):=by
  rw[Hnd.out] at hF⊢
  have h:=run_convert_bytes_back (P:=Tryz.prog) ((putRow (fun (b:UInt8)=>Value.int .u8 (b.toNat:Int)) (w.alloc (.cells Lib.zeros24 173)) w.heap.size 0 dk).drewN k) 37 9 5 ⟨w.heap.size,0,none⟩ 24 (Lib.decDigits u) Tryz.underlying37 Tryz.underlying5 Tryz.underlying9 (fun j hj=>by
   rw[Lib.row_is_numeral hF j hj,Lib.add_plain,World.cell?_drewN];exact cell?_putRow (fun (b:UInt8)=>Value.int .u8 (b.toNat:Int)) _ w.heap.size 0 _ dk HH0.out (by rw[hF.size,Array.size_replicate]) j (by rw[hF.size];rw[Lib.decDigits_length] at hj;exact hj))
  rw[Lib.decDigits_length] at h;exact h
 have iQ:Below w.heap.size w ((putRow (fun (b:UInt8)=>Value.int .u8 (b.toNat:Int)) (w.alloc (.cells Lib.zeros24 173)) w.heap.size 0 dk).drewN k):=by
  obtain⟨os,eo⟩:=Pn w (.cells Lib.zeros24 173) dk k;rw[eo];exact tS _ _ _
 clear hF;go_wp2_with fail;go_ret;exact⟨rfl,iQ⟩
theorem wY (u:Nat) (hu:u<4294967296) (w:World) (hE:Env w):
 Calls Tryz.prog 82 #[.int .u64 u,.int .i64 10] w fun e w'=>e=.returned (.string ⟨(Lib.decDigits u).toArray⟩)∧Below w.heap.size w w':=by
 have H:=aa (uK u hu w hE);go_enter Tryz.func82,Tryz.ntmps82;go_wp2_with fail;refine H.out.mono ?_;rintro e w1 ⟨rfl,hb⟩;go_wp2_with fail;go_ret;exact⟨rfl,hb⟩
end Go.Proofs.YtcjioogololnoaaGreatDoor
