/- Of any text: the program's descriptors and the reference's are read and written alike (DescParses). No condition. -/
import Derived.Test.YtcjioogololnoaaGreatDoorU1
import Derived.Test.YtcjioogololnoaaGreatDoorU7
import Derived.Test.YtcjioogololnoaaGreatDoorU4
import Derived.Test.YtcjioogololnoaaGreatDoorU3
import Derived.Shelf.Spec.BitsCarry
import Derived.Lib.Hide
import Derived.Test.YtcjioogololnoaaGreatDoorRows
import Derived.Test.YtcjioogololnoaaGreatDoorU8
import Derived.Deep.WholeRow
set_option maxRecDepth 1000000
set_option maxHeartbeats 16000000
set_option linter.unusedVariables false
set_option linter.unusedSimpArgs false
namespace Go.Proofs.YtcjioogololnoaaGreatDoor
open Go.RowKit Go.Shelf
def im (xs:List Nat):List Value:=xs.map fun x:Nat=>.int .u64 (x:Int)
@[simp] theorem U64_length (xs:List Nat):(im xs).length=xs.length:=by simp[im]
def ar (n:Nat):Array Value:=#[.int .u64 (dw n 0:Nat),.int .u64 (dw n 1:Nat),.int .u64 (dw n 2:Nat),.int .u64 (dw n 3:Nat)]
theorem SJ (n:Nat):ar n=(im (bC n)).toArray:=rfl
theorem SK (T:List Nat) (k v:Nat):(im T).toArray.setIfInBounds k (.int .u64 (v:Int))=(im (T.set k v)).toArray:=by
 apply Array.ext';simp[im,List.map_set]
theorem fH {w:World} {g t k:Nat} {T:List Nat} (h:w.heap[g]?=some (.cells (im T).toArray t (0,0))) (hk:k<T.length):w.cell? ⟨g,k,none⟩=some (.int .u64 (T[k]:Int)):=by
 rw[agb _ _ _ _ _ (0,0) h];simp[im,hk]
theorem bV {w:World} {g t:Nat} {cs:Array Value} (h:w.heap[g]?=some (.cells cs t (0,0))) (k:Nat):w.frozen? ⟨g,k,none⟩=false:=by
 unfold World.frozen?;simp[h]
theorem yd {w:World} {g t k v:Nat} {T:List Nat} (h:w.heap[g]?=some (.cells (im T).toArray t (0,0))):(w.setCell ⟨g,k,none⟩ (.int .u64 (v:Int))).heap[g]?=some (.cells (im (T.set k v)).toArray t (0,0)):=by
 rw[heap_setCell_same w g k _ _ _ h,SK]
theorem gI {w:World} {g h k:Nat} {o:Obj} {v:Value} (hr:w.heap[h]?=some o) (dt:h≠g):(w.setCell ⟨g,k,none⟩ v).heap[h]?=some o:=by
 rw[heap_setCell_other _ _ _ _ (by simpa using dt)];exact hr
theorem eV {w:World} {o o':Obj} {k:Nat} (h:w.heap[k]?=some o):(w.alloc o').heap[k]?=some o:=
 (Below.heap_alloc w o' k (af3.1 h).1).trans h
theorem jH (w:World) (o1 o2 o3 o4:Obj):((((w.alloc o1).alloc o2).alloc o3).alloc o4).heap[w.heap.size]?=some o1∧((((w.alloc o1).alloc o2).alloc o3).alloc o4).heap[w.heap.size+1]?=some o2∧
 ((((w.alloc o1).alloc o2).alloc o3).alloc o4).heap[w.heap.size+1+1]?=some o3∧((((w.alloc o1).alloc o2).alloc o3).alloc o4).heap[w.heap.size+1+1+1]?=some o4:=by
 have h1:=af4 w o1;have h2:=af4 (w.alloc o1) o2;have h3:=af4 ((w.alloc o1).alloc o2) o3;have h4:=af4 (((w.alloc o1).alloc o2).alloc o3) o4;simp only[agn] at h2 h3 h4;exact⟨eV (eV (eV h1)),eV (eV h2),eV h3,h4⟩
theorem ai {P:Program} {fn:Func} {p q:Tmp} {ty:TypeId} (h:fn.results=#[.cell p ty,.tmp q]) (tmps:Array Value) (w:World) (g:Nat) (t:TypeId) (cs:Array Value) (fr:Nat×Nat) (d:TypeDesc)
 (hp:tmps.getD p undef=.pointer (some ⟨g,0,none⟩)) (hg:w.heap[g]?=some (.cells cs t fr)) (v:Value) (hq:tmps.getD q undef=v)
 (hu:P.underlying ty=some d) (hd:(match d with|.struct _|.array _ _=>true|_=>false)=true) (hi:(P.info? ty).map (·.size)=some cs.size):
 (results fn tmps).run P w=.ok (.tuple #[.agg cs,v]) w:=by
 have hp':tmps[p]?.getD undef=.pointer (some ⟨g,0,none⟩):=by simpa using hp
 have hq':tmps[q]?.getD undef=v:=by simpa using hq
 simp[results,h,hp',hq',asAddr,run_loadVar_row w g t ty cs fr d hg hu hd hi]
theorem vG (T:List Nat) (h:T.length=4):∃a b c d,T=[a,b,c,d]:=by
 match T,h with
 |[a,b,c,d],_=>exact⟨a,b,c,d,rfl⟩
theorem rp (T:List Nat):(im T).toArray.all (·.oneCell')=true:=by simp[im];intro x _;rfl
theorem Ke (x y b:Nat) (hb:b≤1) (w:World):(callFunc 201 #[.int .u64 x,.int .u64 y,.int .u64 b]).run Tryz.prog w=
 .ok (.value (.tuple #[.int .u64 (((x+18446744073709551616-y-b)%18446744073709551616:Nat):Int),.int .u64 ((if x<y+b then 1 else 0:Nat):Int)])) w:=by
 rw[run_callFunc_extern Tryz.func201 (by kernel_rfl) (by kernel_rfl) (by kernel_rfl) (e:=sub64Entry) (by kernel_rfl),run_sub64 x y b hb];rfl
theorem yU (x y c:Nat) (hc:c≤1) (w:World):(callFunc 204 #[.int .u64 x,.int .u64 y,.int .u64 c]).run Tryz.prog w=
 .ok (.value (.tuple #[.int .u64 (((x+y+c)%18446744073709551616:Nat):Int),.int .u64 (((x+y+c)/18446744073709551616:Nat):Int)])) w:=by
 rw[run_callFunc_extern Tryz.func204 (by kernel_rfl) (by kernel_rfl) (by kernel_rfl) (e:=add64Entry) (by kernel_rfl),run_add64 x y c (by omega) (by omega) (by omega) (by omega)];simp only[Result.andThen];congr 5<;>omega
theorem NT (x y b:Nat) (hx:x<18446744073709551616) (hy:y<18446744073709551616) (hb:b≤1):(x+18446744073709551616-y-b)%18446744073709551616+y+b=x+(if x<y+b then 1 else 0)*18446744073709551616:=by
 split<;>omega
theorem SL (T X Y:List Nat) (k d b b':Nat) (hT:k<T.length) (hX:k<X.length) (hY:k<Y.length) (hd:d+Y[k]+b=X[k]+b'*18446744073709551616)
 (h:wv (T.take k)+wv (Y.take k)=wv (X.take k)+b*2^(64*k)):wv ((T.set k d).take (k+1))+wv (Y.take (k+1))=wv (X.take (k+1))+b'*2^(64*(k+1)):=by
 have h1:wv ((T.set k d).take (k+1))=wv (T.take k)+d*2^(64*k):=by
  rw[j3 _ k (by simpa using hT),List.take_set_of_le (by omega),List.getElem_set_self]
 rw[h1,j3 Y k hY,j3 X k hX,p64];have h2:(d+Y[k]+b)*2^(64*k)=(X[k]+b'*18446744073709551616)*2^(64*k):=by rw[hd]
 rw[Nat.add_mul,Nat.add_mul,Nat.add_mul] at h2;rw[←Nat.mul_assoc];omega
theorem SM (T X Y:List Nat) (k d b b':Nat) (hT:k<T.length) (hX:k<X.length) (hY:k<Y.length) (hd:d+b'*18446744073709551616=X[k]+Y[k]+b)
 (h:wv (T.take k)+b*2^(64*k)=wv (X.take k)+wv (Y.take k)):wv ((T.set k d).take (k+1))+b'*2^(64*(k+1))=wv (X.take (k+1))+wv (Y.take (k+1)):=by
 have h1:wv ((T.set k d).take (k+1))=wv (T.take k)+d*2^(64*k):=by
  rw[j3 _ k (by simpa using hT),List.take_set_of_le (by omega),List.getElem_set_self]
 rw[h1,j3 Y k hY,j3 X k hX,p64];have h2:(d+b'*18446744073709551616)*2^(64*k)=(X[k]+Y[k]+b)*2^(64*k):=by rw[hd]
 rw[Nat.add_mul,Nat.add_mul,Nat.add_mul] at h2;rw[←Nat.mul_assoc];omega
theorem rq (x y:Nat) (hx:x<2^256) (hy:y<2^256) (w:World):
 Calls Tryz.prog 173 #[.agg (ar x),.agg (ar y)] w fun e W'=>e=.returned (.tuple #[.agg (ar ((x+2^256-y)%2^256)),.bool (decide (x<y))])∧Below w.heap.size w W':=by
 have bW:Tryz.prog.follows .mixedOrders=true:=by kernel_rfl
 simp only[ar];go_enter Tryz.func173,Tryz.ntmps173;go_wp2_with fail;have h4:=jH w (.cells (im (bC x)).toArray 140) (.cells (im (bC y)).toArray 140) (.cells (im [0,0,0,0]).toArray 140) (.cells (im [0,0,0,0]).toArray 140);obtain⟨W0,aM⟩:∃W0,W0=((((w.alloc (.cells (im (bC x)).toArray 140)).alloc (.cells (im (bC y)).toArray 140)).alloc (.cells (im [0,0,0,0]).toArray 140)).alloc (.cells (im [0,0,0,0]).toArray 140)):=⟨_,rfl⟩;have bL:Below w.heap.size w W0:=by rw[aM];exact((((af5 _ w).alloc (af2 _) _).alloc (by simp) _).alloc (by simp;omega) _).alloc (by simp;omega) _
 refine(show W0=_ from aM)▸?_;rw[←aM] at h4;obtain⟨gX,gY,gO,gT⟩:=h4;obtain⟨B,hB⟩:=ab w.heap.size;have ac0:w.heap.size≤B:=by omega
 rw[←hB] at gX gY gO gT⊢;clear aM hB
 go_loopw [7,9] (fun b i wr=>∃(k bo:Nat) (T:List Nat),k≤4∧i=.int .i64 k∧b=.int .u64 bo∧bo≤1∧Hid (T.length=4∧(∀t∈T,t<18446744073709551616)∧wv (T.take k)+wv ((bC y).take k)=wv ((bC x).take k)+bo*2^(64*k))∧
  wr.heap[B]?=some (.cells (im (bC x)).toArray 140 (0,0))∧wr.heap[B+1]?=some (.cells (im (bC y)).toArray 140 (0,0))∧wr.heap[B+1+1]?=some (.cells (im [0,0,0,0]).toArray 140 (0,0))∧
  wr.heap[B+1+1+1]?=some (.cells (im T).toArray 140 (0,0))∧Below w.heap.size w wr) (fun _ i _=>4-(intOf i).toNat)
 case atStart=>exact⟨0,0,[0,0,0,0],by omega,rfl,rfl,by omega,aa ⟨rfl,by simp,by simp[wv]⟩,gX,gY,gO,gT,bL⟩
 case round=>
  clear gX gY gO gT bL;obtain⟨k,bo,T,hk,rfl,rfl,hbo,HT,gX,gY,gO,gT,hb⟩:=hrel;have AB:=HT.out.1
  by_cases aL:k<4
  · obtain⟨xk,q8⟩:∃xk,xk=(bC x)[k]'aL:=⟨_,rfl⟩
    obtain⟨yk,ye⟩:∃yk,yk=(bC y)[k]'aL:=⟨_,rfl⟩
    have Kf:xk<18446744073709551616:=by rw[q8];exact oW x _ (agl _)
    have aaG:yk<18446744073709551616:=by rw[ye];exact oW y _ (agl _)
    have cX:=fH gX (k:=k) aL;have cY:=fH gY (k:=k) aL;have cT:=fH gT (k:=k) (by omega);have zT:=bV gT k;rw[←q8] at cX;rw[←ye] at cY;obtain⟨tk,jO⟩:∃tk:Nat,tk=T[k]'(by omega):=⟨_,rfl⟩
    rw[←jO] at cT;have GX:=aa gX;have GY:=aa gY;have GO:=aa gO;have GT:=aa gT;have Vd:=aa q8;have Hyk:=aa ye;have hS:=fun ww=>Ke xk yk bo hbo ww
    obtain⟨d,hd⟩:∃d,d=(xk+18446744073709551616-yk-bo)%18446744073709551616:=⟨_,rfl⟩;obtain⟨b',Cb⟩:∃b',b'=(if xk<yk+bo then 1 else 0:Nat):=⟨_,rfl⟩;have hw:=NT xk yk bo Kf aaG hbo;have aZ:b'≤1:=by rw[Cb];split<;>omega
    have XL:d<18446744073709551616:=by rw[hd];exact Nat.mod_lt _ (by decide)
    rw[←hd,←Cb] at hw;simp only[←hd,←Cb] at hS;have Hw:=aa hw;clear gX gY gO gT q8 ye hd Cb hw jO AB;go_wp2_with fail;refine an [(0,0),(1,0),(2,0),(3,1),(4,0),(5,0),(6,1),(7,0),(8,2),(9,0),(10,0),(11,0),(12,0),(13,2),(14,2)] 13 bW (by kernel_rfl) (by intro c a d v w h;cases d<;>exact h) ?_
    repeat ((first|refine ag rfl fun K hK=>?_|refine af rfl fun K hK=>?_);go_simp;(first|refine hK _ ?_|(simp only[IntWalk.iteOmega];go_simp;refine hK _ ?_)|(go_bits;go_simp;refine hK _ ?_));clear hK K;try go_bits)
    refine ae rfl rfl (fun K hK=>?_);go_wp2_with fail;refine⟨.inr (Ext.refl _),?_⟩
    repeat ((first|refine ag rfl fun K hK=>?_|refine af rfl fun K hK=>?_);go_simp;(first|refine hK _ ?_|(simp only[IntWalk.iteOmega];go_simp;refine hK _ ?_)|(go_bits;go_simp;refine hK _ ?_));clear hK K;try go_bits)
    refine ae rfl rfl (fun K hK=>?_);go_wp2_with fail;refine⟨.inl (by decide),?_⟩;refine ae rfl rfl (fun K hK=>?_);go_wp2_with fail;refine⟨.inl (by decide),?_⟩;refine ak ?_;go_wp2_with fail;refine⟨⟨k+1,b',T.set k d,by omega,by go_num,rfl,aZ,aa ⟨by simpa using HT.out.1,fun t ht=>?_,?_⟩,gI GX.out (by omega),gI GY.out (by omega),gI GO.out (by omega),yd GT.out,(hb.setCell (p:=⟨B+1+1+1,k,none⟩) (by show w.heap.size≤B+1+1+1;omega) _).drew⟩,by simp[intOf];omega⟩
    · rcases List.mem_or_eq_of_mem_set ht with h|h
      · exact HT.out.2.1 t h
      exact h▸XL
    refine SL T (bC x) (bC y) k d bo b' (by rw[HT.out.1];exact aL) aL aL ?_ HT.out.2.2;rw[←Vd.out,←Hyk.out];exact Hw.out
  obtain rfl:k=4:=by omega
  obtain⟨t0,t1,t2,t3,rfl⟩:=vG T AB
  have iQ:bC ((x+2^256-y)%2^256)=[t0,t1,t2,t3]∧bo=(if x<y then 1 else 0):=by
   obtain⟨_,h2,h3⟩:=HT.out;have h4:=yT [t0,t1,t2,t3] h2;have hn:=rn [t0,t1,t2,t3] rfl h2;rw[show [t0,t1,t2,t3].take 4=[t0,t1,t2,t3] from rfl,show (bC y).take 4=bC y from rfl,show (bC x).take 4=bC x from rfl,iU x hx,iU y hy] at h3;simp only[agm,List.length_nil] at h4;rw[←hn];generalize wv [t0,t1,t2,t3]=v at h3 h4;refine⟨?_,by split<;>omega⟩;congr 1;rcases (show bo=0∨bo=1 by omega) with rfl|rfl<;>omega
  obtain⟨cs,bB⟩:∃cs,cs=(im [t0,t1,t2,t3]).toArray:=⟨_,rfl⟩;have dX:cs.size=4:=by rw[bB];rfl
  have fQ:Hid (cs.all (·.oneCell')=true):=aa (by rw[bB];exact rp _);have lW:Hid ((Tryz.prog.info? 140).map (·.size)=some cs.size):=aa (by rw[dX];kernel_rfl);have kL:Hid ((im [0,0,0,0]).toArray.size=cs.size):=aa dX.symm;rw[←bB] at gT;have oX:=aa bB;have kP:=aa iQ;have GT:=aa gT;have GO:=aa gO;clear bB dX gX gY gT gO AB iQ;go_wp2_with (first|(refine aga rfl 140 (.tmp 6) rfl (B+1+1+1) rfl 140 cs (0,0) _ GT.out Tryz.underlying140 rfl lW.out ?_)|(refine af6 rfl 140 (.tmp 4) (.tmp 26) rfl (B+1+1) cs rfl rfl 140 _ GO.out lW.out kL.out fQ.out ?_));refine agf (v:=.tuple #[.agg cs,.bool (decide (x<y))]) ?_ rfl ⟨?_,ah hb (by omega) _⟩
  · refine ai rfl _ _ (B+1+1) 140 cs (0,0) _ rfl (agd _ _ _ _ _ _ GO.out) _ ?_ Tryz.underlying140 rfl lW.out
    show Value.bool ((bo:Int)==1)=_;rw[kP.out.2]
    by_cases h:x<y<;>simp[h]
  rw[oX.out,←kP.out.1];rfl
theorem yV (x y:Nat) (hx:x<2^256) (hy:y<2^256) (w:World):
 Calls Tryz.prog 176 #[.agg (ar x),.agg (ar y)] w fun e W'=>e=.returned (.tuple #[.agg (ar ((x+y)%2^256)),.int .u64 (((x+y)/2^256:Nat):Int)])∧Below w.heap.size w W':=by
 have bW:Tryz.prog.follows .mixedOrders=true:=by kernel_rfl
 simp only[ar];go_enter Tryz.func176,Tryz.ntmps176;go_wp2_with fail;have h4:=jH w (.cells (im (bC x)).toArray 140) (.cells (im (bC y)).toArray 140) (.cells (im [0,0,0,0]).toArray 140) (.cells (im [0,0,0,0]).toArray 140);obtain⟨W0,aM⟩:∃W0,W0=((((w.alloc (.cells (im (bC x)).toArray 140)).alloc (.cells (im (bC y)).toArray 140)).alloc (.cells (im [0,0,0,0]).toArray 140)).alloc (.cells (im [0,0,0,0]).toArray 140)):=⟨_,rfl⟩;have bL:Below w.heap.size w W0:=by rw[aM];exact((((af5 _ w).alloc (af2 _) _).alloc (by simp) _).alloc (by simp;omega) _).alloc (by simp;omega) _
 refine(show W0=_ from aM)▸?_;rw[←aM] at h4;obtain⟨gX,gY,gO,gT⟩:=h4;obtain⟨B,hB⟩:=ab w.heap.size;have ac0:w.heap.size≤B:=by omega
 rw[←hB] at gX gY gO gT⊢;clear aM hB
 go_loopw [7,9] (fun b i wr=>∃(k bo:Nat) (T:List Nat),k≤4∧i=.int .i64 k∧b=.int .u64 bo∧bo≤1∧Hid (T.length=4∧(∀t∈T,t<18446744073709551616)∧wv (T.take k)+bo*2^(64*k)=wv ((bC x).take k)+wv ((bC y).take k))∧
  wr.heap[B]?=some (.cells (im (bC x)).toArray 140 (0,0))∧wr.heap[B+1]?=some (.cells (im (bC y)).toArray 140 (0,0))∧wr.heap[B+1+1]?=some (.cells (im [0,0,0,0]).toArray 140 (0,0))∧
  wr.heap[B+1+1+1]?=some (.cells (im T).toArray 140 (0,0))∧Below w.heap.size w wr) (fun _ i _=>4-(intOf i).toNat)
 case atStart=>exact⟨0,0,[0,0,0,0],by omega,rfl,rfl,by omega,aa ⟨rfl,by simp,by simp[wv]⟩,gX,gY,gO,gT,bL⟩
 case round=>
  clear gX gY gO gT bL;obtain⟨k,bo,T,hk,rfl,rfl,hbo,HT,gX,gY,gO,gT,hb⟩:=hrel;have AB:=HT.out.1
  by_cases aL:k<4
  · obtain⟨xk,q8⟩:∃xk,xk=(bC x)[k]'aL:=⟨_,rfl⟩
    obtain⟨yk,ye⟩:∃yk,yk=(bC y)[k]'aL:=⟨_,rfl⟩
    have Kf:xk<18446744073709551616:=by rw[q8];exact oW x _ (agl _)
    have aaG:yk<18446744073709551616:=by rw[ye];exact oW y _ (agl _)
    have cX:=fH gX (k:=k) aL;have cY:=fH gY (k:=k) aL;have cT:=fH gT (k:=k) (by omega);have zT:=bV gT k;rw[←q8] at cX;rw[←ye] at cY;obtain⟨tk,jO⟩:∃tk:Nat,tk=T[k]'(by omega):=⟨_,rfl⟩
    rw[←jO] at cT;have GX:=aa gX;have GY:=aa gY;have GO:=aa gO;have GT:=aa gT;have Vd:=aa q8;have Hyk:=aa ye;have hS:=fun ww=>yU xk yk bo hbo ww
    obtain⟨d,hd⟩:∃d,d=(xk+yk+bo)%18446744073709551616:=⟨_,rfl⟩;obtain⟨b',Cb⟩:∃b',b'=(xk+yk+bo)/18446744073709551616:=⟨_,rfl⟩;have hw:d+b'*18446744073709551616=xk+yk+bo:=by omega
    have aZ:b'≤1:=by omega
    have XL:d<18446744073709551616:=by rw[hd];exact Nat.mod_lt _ (by decide)
    simp only[←hd,←Cb] at hS;have Hw:=aa hw;clear gX gY gO gT q8 ye hd Cb hw jO AB;go_wp2_with fail;refine an [(0,0),(1,0),(2,0),(3,1),(4,0),(5,0),(6,1),(7,0),(8,2),(9,0),(10,0),(11,0),(12,0),(13,2),(14,2)] 13 bW (by kernel_rfl) (by intro c a d v w h;cases d<;>exact h) ?_
    repeat ((first|refine ag rfl fun K hK=>?_|refine af rfl fun K hK=>?_);go_simp;(first|refine hK _ ?_|(simp only[IntWalk.iteOmega];go_simp;refine hK _ ?_)|(go_bits;go_simp;refine hK _ ?_));clear hK K;try go_bits)
    refine ae rfl rfl (fun K hK=>?_);go_wp2_with fail;refine⟨.inr (Ext.refl _),?_⟩
    repeat ((first|refine ag rfl fun K hK=>?_|refine af rfl fun K hK=>?_);go_simp;(first|refine hK _ ?_|(simp only[IntWalk.iteOmega];go_simp;refine hK _ ?_)|(go_bits;go_simp;refine hK _ ?_));clear hK K;try go_bits)
    refine ae rfl rfl (fun K hK=>?_);go_wp2_with fail;refine⟨.inl (by decide),?_⟩;refine ae rfl rfl (fun K hK=>?_);go_wp2_with fail;refine⟨.inl (by decide),?_⟩;refine ak ?_;go_wp2_with fail;refine⟨⟨k+1,b',T.set k d,by omega,by go_num,rfl,aZ,aa ⟨by simpa using HT.out.1,fun t ht=>?_,?_⟩,gI GX.out (by omega),gI GY.out (by omega),gI GO.out (by omega),yd GT.out,(hb.setCell (p:=⟨B+1+1+1,k,none⟩) (by show w.heap.size≤B+1+1+1;omega) _).drew⟩,by simp[intOf];omega⟩
    · rcases List.mem_or_eq_of_mem_set ht with h|h
      · exact HT.out.2.1 t h
      exact h▸XL
    refine SM T (bC x) (bC y) k d bo b' (by rw[HT.out.1];exact aL) aL aL ?_ HT.out.2.2;rw[←Vd.out,←Hyk.out];exact Hw.out
  obtain rfl:k=4:=by omega
  obtain⟨t0,t1,t2,t3,rfl⟩:=vG T AB
  have iQ:bC ((x+y)%2^256)=[t0,t1,t2,t3]∧bo=(x+y)/2^256:=by
   obtain⟨_,h2,h3⟩:=HT.out;have h4:=yT [t0,t1,t2,t3] h2;have hn:=rn [t0,t1,t2,t3] rfl h2;rw[show [t0,t1,t2,t3].take 4=[t0,t1,t2,t3] from rfl,show (bC y).take 4=bC y from rfl,show (bC x).take 4=bC x from rfl,iU x hx,iU y hy] at h3;simp only[agm,List.length_nil] at h4;rw[←hn];generalize wv [t0,t1,t2,t3]=v at h3 h4;refine⟨?_,by omega⟩;congr 1;omega
  obtain⟨cs,bB⟩:∃cs,cs=(im [t0,t1,t2,t3]).toArray:=⟨_,rfl⟩;have dX:cs.size=4:=by rw[bB];rfl
  have fQ:Hid (cs.all (·.oneCell')=true):=aa (by rw[bB];exact rp _);have lW:Hid ((Tryz.prog.info? 140).map (·.size)=some cs.size):=aa (by rw[dX];kernel_rfl);have kL:Hid ((im [0,0,0,0]).toArray.size=cs.size):=aa dX.symm;rw[←bB] at gT;have oX:=aa bB;have kP:=aa iQ;have GT:=aa gT;have GO:=aa gO;clear bB dX gX gY gT gO AB iQ;go_wp2_with (first|(refine aga rfl 140 (.tmp 6) rfl (B+1+1+1) rfl 140 cs (0,0) _ GT.out Tryz.underlying140 rfl lW.out ?_)|(refine af6 rfl 140 (.tmp 4) (.tmp 26) rfl (B+1+1) cs rfl rfl 140 _ GO.out lW.out kL.out fQ.out ?_));refine agf (v:=.tuple #[.agg cs,.int .u64 (bo:Int)]) ?_ rfl ⟨?_,ah hb (by omega) _⟩
  · exact ai rfl _ _ (B+1+1) 140 cs (0,0) _ rfl (agd _ _ _ _ _ _ GO.out) _ rfl Tryz.underlying140 rfl lW.out
  rw[oX.out,←kP.out.1,kP.out.2];rfl
theorem NU (a b c d a' b' c' d':Int) (w:World):(Op.equalIn 10000 140 (.agg #[.int .u64 a,.int .u64 b,.int .u64 c,.int .u64 d]) (.agg #[.int .u64 a',.int .u64 b',.int .u64 c',.int .u64 d'])).run Tryz.prog w=.ok (decide (a=a'∧b=b'∧c=c'∧d=d')) w:=by
 have u3:=Tryz.underlying78;have a3:=Tryz.isAgg78;have z3:=Tryz.sizeOf78;rw[show (10000:Nat)=9999+1 from rfl,Op.equalIn];simp only[Sem.run_bind,run_underlying Tryz.underlying140,Result.andThen_ok];simp only[Std.Legacy.Range.forIn_eq_forIn_range',Std.Legacy.Range.size,Nat.sub_zero,Nat.add_sub_cancel,Nat.div_one,List.range'_succ,List.range'_zero,List.forIn_cons,List.forIn_nil];go_simp
 by_cases h1:a=a'<;>by_cases h2:b=b'<;>by_cases h3:c=c'<;>by_cases h4:d=d'<;>simp[h1,h2,h3,h4]
theorem NV (x y:Nat) (hx:x<2^256) (hy:y<2^256):(((dw x 0:Nat):Int)=(dw y 0:Nat)∧((dw x 1:Nat):Int)=(dw y 1:Nat)∧((dw x 2:Nat):Int)=(dw y 2:Nat)∧((dw x 3:Nat):Int)=(dw y 3:Nat))↔x=y:=by
 constructor
 · rintro⟨h1,h2,h3,h4⟩
   rw[←iU x hx,←iU y hy];simp only[bC];rw[show dw x 0=dw y 0 by omega,show dw x 1=dw y 1 by omega,show dw x 2=dw y 2 by omega,show dw x 3=dw y 3 by omega]
 rintro rfl;exact⟨rfl,rfl,rfl,rfl⟩
theorem NW (x y:Nat) (hx:x<2^256) (hy:y<2^256) (w:World):(Op.equalIn 10000 140 (.agg (ar x)) (.agg (ar y))).run Tryz.prog w=.ok (decide (x=y)) w:=by
 have h:=NV x y hx hy;unfold ar;rw[NU]
 by_cases Mo:x=y
 · rw[af9 (h.2 Mo),af9 Mo]
 rw[af8 (fun hh=>Mo (h.1 hh)),af8 Mo]
theorem yW (x:Nat) (hx:x<2^256) (w:World):
 Calls Tryz.prog 206 #[.agg (ar x)] w fun e W'=>e=.returned (.bool (decide (x=0)))∧Below w.heap.size w W':=by
 have h0:=NW x 0 hx (by decide);rw[show ar 0=#[.int .u64 0,.int .u64 0,.int .u64 0,.int .u64 0] by rfl] at h0
 simp only[ar] at h0⊢;go_enter Tryz.func206,Tryz.ntmps206;go_wp2_with fail;go_ret;exact⟨rfl,(af5 _ _).alloc (af2 _) _⟩
def FieldAt (w:World) (g o m:Nat) (d:List Nat):Prop:=
 g<w.heap.size∧(∀j,j<4→w.cell? ⟨g,o+j,none⟩=some (.int .u64 (dw m j:Nat)))∧∀j (h:j<d.length),w.cell? ⟨g,o+4+j,none⟩=some (.int .u64 (d[j]:Nat))
def uZ (m:Nat) (d:List Nat):Prop:=d.length=3∧(∀x∈d,x<18446744073709551616)∧m+wv d=2^256∧wv d<m∧wv d<2^130
theorem FieldAt.below {w w':World} {B g o m:Nat} {d:List Nat} (h:FieldAt w g o m d) (hb:Below B w w') (hg:g<B):FieldAt w' g o m d:=
 ⟨by have:=hb.size;have:=h.1;omega,fun j hj=>(hb.cell (p:=⟨g,o+j,none⟩) hg).trans (h.2.1 j hj),fun j hj=>(hb.cell (p:=⟨g,o+4+j,none⟩) hg).trans (h.2.2 j hj)⟩
theorem FieldAt.m {w:World} {g o m:Nat} {d:List Nat} (h:FieldAt w g o m d):w.cell? ⟨g,o,none⟩=some (.int .u64 (dw m 0:Nat))∧w.cell? ⟨g,o+1,none⟩=some (.int .u64 (dw m 1:Nat))∧w.cell? ⟨g,o+2,none⟩=some (.int .u64 (dw m 2:Nat))∧w.cell? ⟨g,o+3,none⟩=some (.int .u64 (dw m 3:Nat)):=
 ⟨h.2.1 0 (by omega),h.2.1 1 (by omega),h.2.1 2 (by omega),h.2.1 3 (by omega)⟩
theorem aN (n:Nat):(ar n).all (·.oneCell')=true:=by rw[SJ];exact rp _
theorem iV (w:World) (o1 o2:Obj):((w.alloc o1).alloc o2).heap[w.heap.size]?=some o1∧((w.alloc o1).alloc o2).heap[w.heap.size+1]?=some o2:=by
 have h1:=af4 w o1;have h2:=af4 (w.alloc o1) o2;simp only[agn] at h2;exact⟨eV h1,h2⟩
theorem jq {w:World} {g t n:Nat} {fr:Nat×Nat} (h:w.heap[g]?=some (.cells (ar n) t fr)):w.cell? ⟨g,0,none⟩=some (.int .u64 (dw n 0:Nat))∧w.cell? ⟨g,1,none⟩=some (.int .u64 (dw n 1:Nat))∧w.cell? ⟨g,2,none⟩=some (.int .u64 (dw n 2:Nat))∧w.cell? ⟨g,3,none⟩=some (.int .u64 (dw n 3:Nat)):=
 ⟨agb _ _ 0 _ _ _ h,agb _ _ 1 _ _ _ h,agb _ _ 2 _ _ _ h,agb _ _ 3 _ _ _ h⟩
theorem Ix (g o m:Nat) (d:List Nat) (x:Nat) (hx:x<2^256) (hm:m<2^256) (w:World) (hF:FieldAt w g o m d):
 Calls Tryz.prog 202 #[.pointer (some ⟨g,o,none⟩),.agg (ar x)] w fun e W'=>e=.returned (.agg (ar (if x<m then x else x-m)))∧Below w.heap.size w W':=by
 have bW:Tryz.prog.follows .mixedOrders=true:=by kernel_rfl
 have pq:=hF.1;simp only[ar];go_enter Tryz.func202,Tryz.ntmps202;go_wp2_with fail;have h2:=iV w (.cells (ar x) 140) (.cells (ar 0) 140);obtain⟨W0,aM⟩:∃W0,W0=(w.alloc (.cells (ar x) 140)).alloc (.cells (ar 0) 140):=⟨_,rfl⟩;have bL:Below w.heap.size w W0:=by rw[aM];exact((af5 _ w).alloc (af2 _) _).alloc (by simp) _
 refine(show W0=_ from aM)▸?_;rw[←aM] at h2;obtain⟨gX,gO⟩:=h2;have iC:W0.heap.size=w.heap.size+2:=by rw[aM];simp
 obtain⟨f0,f1,f2,f3⟩:=(hF.below bL pq).m;obtain⟨B,hB⟩:=ab w.heap.size;rw[←hB] at gX gO iC⊢;obtain⟨x0,x1,x2,x3⟩:=jq gX;have HB:=aa hB;have kM:=aa iC;have GX:=aa gX;have GO:=aa gO;clear aM hB gX gO iC;have hS:=fun ww=>rq x m hx hm ww
 obtain⟨V,hV⟩:∃V,V=(x+2^256-m)%2^256:=⟨_,rfl⟩;simp only[←hV] at hS;have HS:=aa hS;have HV:=aa hV;clear hS hV;refine iS [(0,1),(1,0),(2,0),(3,0),(4,1)] 6 [(5,[(6,0),(7,0),(8,0),(9,2),(10,2),(11,2)]),(9,[(5,2),(6,0),(7,0),(8,0),(10,2),(11,2)])] 10 bW (by kernel_rfl) (by intro c a d v w h;cases d<;>exact h) ?_
 repeat ((first|refine ag rfl fun K hK=>?_|refine af rfl fun K hK=>?_);go_simp;(first|refine hK _ ?_|(simp only[IntWalk.iteOmega];go_simp;refine hK _ ?_)|(go_bits;go_simp;refine hK _ ?_));clear hK K;try go_bits)
 refine k8 rfl rfl rfl rfl (fun K hK=>?_) (fun K hK=>?_)
 · go_wp2_with fail
   refine(HS.out _).mono ?_;rintro e w2 ⟨rfl,hb⟩;go_wp2_with fail;refine⟨aj hb,?_⟩
   repeat ((first|refine ag rfl fun K hK=>?_|refine af rfl fun K hK=>?_);go_simp;(first|refine hK _ ?_|(simp only[IntWalk.iteOmega];go_simp;refine hK _ ?_)|(go_bits;go_simp;refine hK _ ?_));clear hK K;try go_bits)
   refine ae rfl rfl (fun K hK=>?_);go_wp2_with fail;refine⟨.inr (aW _ _),?_⟩;refine ae rfl rfl (fun K hK=>?_);refine agC 140 (.tmp 5) (.tmp 14) rfl w2.heap.size (ar V) rfl rfl 140 _ (af4 w2 _) (by kernel_rfl) rfl (aN _) ?_;rw[agi];refine hK _ _ ⟨.inl (by decide),?_⟩;clear hK K;refine ae rfl rfl (fun K hK=>?_);go_wp2_with fail;refine⟨.inl (by decide),?_⟩;refine ak ?_;obtain⟨wN,dL⟩:=ab (w2.alloc (.cells (ar V) 140));obtain⟨gY,u5⟩:=ab w2.heap.size;rw[←dL,←u5];have gN:wN.heap[gY]?=some (.cells (ar V) 140 (0,0)):=by rw[dL,u5];exact af4 w2 _
   have kN:Below W0.heap.size W0 wN:=by rw[dL];exact(show Below W0.heap.size W0 w2 from⟨hb.os,hb.tape,hb.output,hb.size,hb.block⟩).alloc hb.size _
   clear dL u5 hb;have gXN:=(kN.block B (by have:=kM.out;omega)).trans GX.out;have NX:=(kN.block (B+1) (by have:=kM.out;omega)).trans GO.out;have BQ:=bL.trans (kN.mono (by have:=HB.out;have:=kM.out;omega));have NY:(Tryz.prog.info? 140).map (·.size)=some (ar V).size:=by kernel_rfl
   have Kg:(Tryz.prog.info? 140).map (·.size)=some (ar x).size:=by kernel_rfl
   have GXN:=aa gXN;have Ff:=aa NX;have GN:=aa gN;have Fg:=aa NY;have N0:=aa Kg;clear gXN NX gN NY Kg x0 x1 x2 x3 f0 f1 f2 f3
   by_cases aL:x<m
   · go_wp2_with (first|(refine aga rfl 140 (.tmp 3) rfl B rfl 140 (ar x) (0,0) _ GXN.out Tryz.underlying140 rfl N0.out ?_)|(refine af6 rfl 140 (.tmp 4) (.tmp 19) rfl (B+1) (ar x) rfl rfl 140 _ Ff.out N0.out rfl (aN _) ?_))
     refine agf (v:=.agg (ar x)) ?_ rfl ⟨rfl,ah BQ (by have:=HB.out;omega) _⟩;exact ags rfl _ _ (B+1) 140 (ar x) (0,0) _ rfl (agd _ _ _ _ _ _ Ff.out) Tryz.underlying140 rfl N0.out
   go_wp2_with (first|(refine aga rfl 140 (.tmp 5) rfl gY rfl 140 (ar V) (0,0) _ GN.out Tryz.underlying140 rfl Fg.out ?_)|(refine af6 rfl 140 (.tmp 4) (.tmp 18) rfl (B+1) (ar V) rfl rfl 140 _ Ff.out Fg.out rfl (aN _) ?_));refine agf (v:=.agg (ar V)) ?_ rfl ⟨by rw[HV.out,show (x+2^256-m)%2^256=x-m by omega];rfl,ah BQ (by have:=HB.out;omega) _⟩;exact ags rfl _ _ (B+1) 140 (ar V) (0,0) _ rfl (agd _ _ _ _ _ _ Ff.out) Tryz.underlying140 rfl Fg.out
 go_wp2_with fail;refine⟨aW _ _,?_⟩;obtain⟨w1,gu⟩:∃w1,w1=(W0.alloc (.cells #[.int .u64 0,.int .u64 0,.int .u64 0,.int .u64 0] 140)).drew:=⟨_,rfl⟩
 rw[←gu];have aZ:Below W0.heap.size W0 w1:=by rw[gu];exact((af5 _ W0).alloc (af2 _) _).drew
 have g1:w1.heap[W0.heap.size]?=some (.cells (ar 0) 140 (0,0)):=by rw[gu];exact af4 W0 _
 have gq:w1.heap.size=W0.heap.size+1:=by rw[gu];exact agn _ _
 have vH:=aa gq;clear gu gq;refine ae rfl rfl (fun K hK=>?_);go_wp2_with fail;refine(HS.out _).mono ?_;rintro e w2 ⟨rfl,hb⟩;go_wp2_with fail;refine⟨.inr (aj hb),?_⟩
 repeat ((first|refine ag rfl fun K hK=>?_|refine af rfl fun K hK=>?_);go_simp;(first|refine hK _ ?_|(simp only[IntWalk.iteOmega];go_simp;refine hK _ ?_)|(go_bits;go_simp;refine hK _ ?_));clear hK K;try go_bits)
 refine ae rfl rfl (fun K hK=>?_);have g2:=(hb.block W0.heap.size (by have:=vH.out;omega)).trans g1;refine agC 140 (.tmp 5) (.tmp 14) rfl W0.heap.size (ar V) rfl rfl 140 _ g2 (by kernel_rfl) rfl (aN _) ?_;refine hK _ _ ⟨.inl (by decide),?_⟩;clear hK K;refine ae rfl rfl (fun K hK=>?_);go_wp2_with fail;refine⟨.inl (by decide),?_⟩;refine ak ?_;obtain⟨wN,dL⟩:=ab (w2.setRow W0.heap.size (ar V));obtain⟨gY,u5⟩:=ab W0.heap.size;rw[←dL,←u5];have gN:wN.heap[gY]?=some (.cells (ar V) 140 (0,0)):=by rw[dL,u5];exact agd _ _ _ _ _ _ g2
 have kN:Below W0.heap.size W0 wN:=by rw[dL];exact ah (aZ.trans (hb.mono (by have:=vH.out;omega))) (af2 _) _
 clear dL u5 hb aZ g1 g2;have gXN:=(kN.block B (by have:=kM.out;omega)).trans GX.out;have NX:=(kN.block (B+1) (by have:=kM.out;omega)).trans GO.out;have BQ:=bL.trans (kN.mono (by have:=HB.out;have:=kM.out;omega));have NY:(Tryz.prog.info? 140).map (·.size)=some (ar V).size:=by kernel_rfl
 have Kg:(Tryz.prog.info? 140).map (·.size)=some (ar x).size:=by kernel_rfl
 have GXN:=aa gXN;have Ff:=aa NX;have GN:=aa gN;have Fg:=aa NY;have N0:=aa Kg;clear gXN NX gN NY Kg x0 x1 x2 x3 f0 f1 f2 f3
 by_cases aL:x<m
 · go_wp2_with (first|(refine aga rfl 140 (.tmp 3) rfl B rfl 140 (ar x) (0,0) _ GXN.out Tryz.underlying140 rfl N0.out ?_)|(refine af6 rfl 140 (.tmp 4) (.tmp 19) rfl (B+1) (ar x) rfl rfl 140 _ Ff.out N0.out rfl (aN _) ?_))
   refine agf (v:=.agg (ar x)) ?_ rfl ⟨rfl,ah BQ (by have:=HB.out;omega) _⟩;exact ags rfl _ _ (B+1) 140 (ar x) (0,0) _ rfl (agd _ _ _ _ _ _ Ff.out) Tryz.underlying140 rfl N0.out
 go_wp2_with (first|(refine aga rfl 140 (.tmp 5) rfl gY rfl 140 (ar V) (0,0) _ GN.out Tryz.underlying140 rfl Fg.out ?_)|(refine af6 rfl 140 (.tmp 4) (.tmp 18) rfl (B+1) (ar V) rfl rfl 140 _ Ff.out Fg.out rfl (aN _) ?_));refine agf (v:=.agg (ar V)) ?_ rfl ⟨by rw[HV.out,show (x+2^256-m)%2^256=x-m by omega];rfl,ah BQ (by have:=HB.out;omega) _⟩;exact ags rfl _ _ (B+1) 140 (ar V) (0,0) _ rfl (agd _ _ _ _ _ _ Ff.out) Tryz.underlying140 rfl Fg.out
theorem vI (g o m:Nat) (d:List Nat) (x:Nat) (hx:x<2^256) (hm:m<2^256) (w:World) (hF:FieldAt w g o m d):
 Calls Tryz.prog 139 #[.pointer (some ⟨g,o,none⟩),.agg (ar x)] w fun e W'=>e=.returned (.bool (decide (x<m)))∧Below w.heap.size w W':=by
 have bW:Tryz.prog.follows .mixedOrders=true:=by kernel_rfl
 have pq:=hF.1;simp only[ar];go_enter Tryz.func139,Tryz.ntmps139;go_wp2_with fail;obtain⟨W0,aM⟩:=ab (w.alloc (.cells (ar x) 140));have bL:Below w.heap.size w W0:=by rw[aM];exact(af5 _ w).alloc (af2 _) _
 refine(show W0=_ from aM)▸?_;have gX:W0.heap[w.heap.size]?=some (.cells (ar x) 140 (0,0)):=by rw[aM];exact af4 w _
 have iC:W0.heap.size=w.heap.size+1:=by rw[aM];simp
 obtain⟨f0,f1,f2,f3⟩:=(hF.below bL pq).m;obtain⟨B,hB⟩:=ab w.heap.size;rw[←hB] at gX iC⊢;obtain⟨x0,x1,x2,x3⟩:=jq gX;have HB:=aa hB;have kM:=aa iC;clear aM hB gX iC;have hS:=fun ww=>rq x m hx hm ww
 obtain⟨V,hV⟩:∃V,V=(x+2^256-m)%2^256:=⟨_,rfl⟩;simp only[←hV] at hS;have HS:=aa hS;clear hS hV;refine iS [(0,1),(1,0),(2,0),(3,0),(4,1)] 6 [(5,[(6,0),(7,0),(8,0),(9,2),(10,2),(11,2)]),(9,[(5,2),(6,0),(7,0),(8,0),(10,2),(11,2)])] 10 bW (by kernel_rfl) (by intro c a d v w h;cases d<;>exact h) ?_
 repeat ((first|refine ag rfl fun K hK=>?_|refine af rfl fun K hK=>?_);go_simp;(first|refine hK _ ?_|(simp only[IntWalk.iteOmega];go_simp;refine hK _ ?_)|(go_bits;go_simp;refine hK _ ?_));clear hK K;try go_bits)
 refine k8 rfl rfl rfl rfl (fun K hK=>?_) (fun K hK=>?_)
 · go_wp2_with fail
   refine(HS.out _).mono ?_;rintro e w2 ⟨rfl,hb⟩;go_wp2_with fail;refine⟨aj hb,?_⟩
   repeat ((first|refine ag rfl fun K hK=>?_|refine af rfl fun K hK=>?_);go_simp;(first|refine hK _ ?_|(simp only[IntWalk.iteOmega];go_simp;refine hK _ ?_)|(go_bits;go_simp;refine hK _ ?_));clear hK K;try go_bits)
   refine ae rfl rfl (fun K hK=>?_);go_wp2_with fail;refine⟨.inr (aW _ _),?_⟩;refine ae rfl rfl (fun K hK=>?_);refine agC 140 (.tmp 5) (.tmp 14) rfl w2.heap.size (ar V) rfl rfl 140 _ (af4 w2 _) (by kernel_rfl) rfl (aN _) ?_;rw[agi];refine hK _ _ ⟨.inl (by decide),?_⟩;clear hK K;refine ae rfl rfl (fun K hK=>?_);go_wp2_with fail;refine⟨.inl (by decide),?_⟩;refine ak ?_;obtain⟨wN,dL⟩:=ab (w2.alloc (.cells (ar V) 140));obtain⟨gY,u5⟩:=ab w2.heap.size;rw[←dL,←u5];have gN:wN.heap[gY]?=some (.cells (ar V) 140 (0,0)):=by rw[dL,u5];exact af4 w2 _
   have kN:Below W0.heap.size W0 wN:=by rw[dL];exact(show Below W0.heap.size W0 w2 from⟨hb.os,hb.tape,hb.output,hb.size,hb.block⟩).alloc hb.size _
   clear dL u5 hb;have BQ:=bL.trans (kN.mono (by have:=HB.out;have:=kM.out;omega));clear gN x0 x1 x2 x3 f0 f1 f2 f3;go_wp2_with fail;go_ret;exact⟨rfl,BQ⟩
 go_wp2_with fail;refine⟨aW _ _,?_⟩;obtain⟨w1,gu⟩:∃w1,w1=(W0.alloc (.cells #[.int .u64 0,.int .u64 0,.int .u64 0,.int .u64 0] 140)).drew:=⟨_,rfl⟩
 rw[←gu];have aZ:Below W0.heap.size W0 w1:=by rw[gu];exact((af5 _ W0).alloc (af2 _) _).drew
 have g1:w1.heap[W0.heap.size]?=some (.cells (ar 0) 140 (0,0)):=by rw[gu];exact af4 W0 _
 have gq:w1.heap.size=W0.heap.size+1:=by rw[gu];exact agn _ _
 have vH:=aa gq;clear gu gq;refine ae rfl rfl (fun K hK=>?_);go_wp2_with fail;refine(HS.out _).mono ?_;rintro e w2 ⟨rfl,hb⟩;go_wp2_with fail;refine⟨.inr (aj hb),?_⟩
 repeat ((first|refine ag rfl fun K hK=>?_|refine af rfl fun K hK=>?_);go_simp;(first|refine hK _ ?_|(simp only[IntWalk.iteOmega];go_simp;refine hK _ ?_)|(go_bits;go_simp;refine hK _ ?_));clear hK K;try go_bits)
 refine ae rfl rfl (fun K hK=>?_);have g2:=(hb.block W0.heap.size (by have:=vH.out;omega)).trans g1;refine agC 140 (.tmp 5) (.tmp 14) rfl W0.heap.size (ar V) rfl rfl 140 _ g2 (by kernel_rfl) rfl (aN _) ?_;refine hK _ _ ⟨.inl (by decide),?_⟩;clear hK K;refine ae rfl rfl (fun K hK=>?_);go_wp2_with fail;refine⟨.inl (by decide),?_⟩;refine ak ?_;obtain⟨wN,dL⟩:=ab (w2.setRow W0.heap.size (ar V));obtain⟨gY,u5⟩:=ab W0.heap.size;rw[←dL,←u5];have gN:wN.heap[gY]?=some (.cells (ar V) 140 (0,0)):=by rw[dL,u5];exact agd _ _ _ _ _ _ g2
 have kN:Below W0.heap.size W0 wN:=by rw[dL];exact ah (aZ.trans (hb.mono (by have:=vH.out;omega))) (af2 _) _
 clear dL u5 hb aZ g1 g2;have BQ:=bL.trans (kN.mono (by have:=HB.out;have:=kM.out;omega));clear gN x0 x1 x2 x3 f0 f1 f2 f3;go_wp2_with fail;go_ret;exact⟨rfl,BQ⟩
theorem N1 (g o m:Nat) (d:List Nat) (x:Nat) (hx:x<m) (hm:m<2^256) (w:World) (hF:FieldAt w g o m d):
 Calls Tryz.prog 179 #[.pointer (some ⟨g,o,none⟩),.agg (ar x)] w fun e W'=>e=.returned (.agg (ar ((m-x)%m)))∧Below w.heap.size w W':=by
 have bW:Tryz.prog.follows .mixedOrders=true:=by kernel_rfl
 have pq:=hF.1;have tN:x<2^256:=by omega
 obtain⟨V,hV⟩:∃V,V=(m-x)%m:=⟨_,rfl⟩;rw[←hV];have HV:=aa hV;have Hlt:=aa hx;clear hV hx;unfold ar;go_enter Tryz.func179,Tryz.ntmps179;go_wp2_with fail;have h2:=iV w (.cells (ar x) 140) (.cells (ar 0) 140);obtain⟨Wa,N2⟩:∃Wa,Wa=(w.alloc (.cells (ar x) 140)).alloc (.cells (ar 0) 140):=⟨_,rfl⟩;have hba:Below w.heap.size w Wa:=by rw[N2];exact((af5 _ w).alloc (af2 _) _).alloc (by simp) _
 refine(show Wa=_ from N2)▸?_;rw[←N2] at h2;obtain⟨gXa,gOa⟩:=h2;have CO:Wa.heap.size=w.heap.size+2:=by rw[N2];simp
 refine(yW x tN _).mono ?_;rintro e W0 ⟨rfl,Vl⟩;have bL:=hba.trans (Vl.mono (by omega));have gX:=(Vl.block w.heap.size (by omega)).trans gXa;have gO:=(Vl.block (w.heap.size+1) (by omega)).trans gOa;have iC:w.heap.size+2≤W0.heap.size:=by have:=Vl.size;omega
 obtain⟨f0,f1,f2,f3⟩:=(hF.below bL pq).m;obtain⟨B,hB⟩:=ab w.heap.size;rw[←hB] at gX gO iC⊢;obtain⟨x0,x1,x2,x3⟩:=jq gX;have HB:=aa hB;have kM:=aa iC;have GX:=aa gX;have GO:=aa gO;clear N2 hB gX gO iC hba gXa gOa CO Vl
 by_cases tJ:x=0
 · subst tJ
   clear x0 x1 x2 x3 f0 f1 f2 f3;have N0:=aa (show (Tryz.prog.info? 140).map (·.size)=some (ar 0).size by kernel_rfl);go_wp2_with (first|(refine aga rfl 140 (.tmp 3) rfl B rfl 140 (ar 0) (0,0) _ GX.out Tryz.underlying140 rfl N0.out ?_)|(refine af6 rfl 140 (.tmp 4) (.tmp 9) rfl (B+1) (ar 0) rfl rfl 140 _ GO.out N0.out rfl (aN _) ?_));refine agf (v:=.agg (ar 0)) ?_ rfl ⟨by rw[HV.out,Nat.sub_zero,Nat.mod_self];rfl,ah bL (by have:=HB.out;omega) _⟩;exact ags rfl _ _ (B+1) 140 (ar 0) (0,0) _ rfl (agd _ _ _ _ _ _ GO.out) Tryz.underlying140 rfl N0.out
 go_wp2_with fail;have hS:=fun ww=>rq m x hm tN ww
 simp only[show (m+2^256-x)%2^256=V by rw[HV.out,agA (show m-x<m by have:=Hlt.out;omega)];have:=Hlt.out;omega] at hS;have HS:=aa hS;clear hS;refine iS [(0,0),(1,0),(2,0),(3,1),(4,1)] 6 [(5,[(6,0),(7,0),(8,0),(9,2),(10,2),(11,2)]),(9,[(5,2),(6,0),(7,0),(8,0),(10,2),(11,2)])] 10 bW (by kernel_rfl) (by intro c a d v w h;cases d<;>exact h) ?_
 repeat ((first|refine ag rfl fun K hK=>?_|refine af rfl fun K hK=>?_);go_simp;(first|refine hK _ ?_|(simp only[IntWalk.iteOmega];go_simp;refine hK _ ?_)|(go_bits;go_simp;refine hK _ ?_));clear hK K;try go_bits)
 refine k8 rfl rfl rfl rfl (fun K hK=>?_) (fun K hK=>?_)
 · go_wp2_with fail
   refine(HS.out _).mono ?_;rintro e w2 ⟨rfl,hb⟩;go_wp2_with fail;refine⟨aj hb,?_⟩
   repeat ((first|refine ag rfl fun K hK=>?_|refine af rfl fun K hK=>?_);go_simp;(first|refine hK _ ?_|(simp only[IntWalk.iteOmega];go_simp;refine hK _ ?_)|(go_bits;go_simp;refine hK _ ?_));clear hK K;try go_bits)
   refine ae rfl rfl (fun K hK=>?_);go_wp2_with fail;refine⟨.inr (aW _ _),?_⟩;refine ae rfl rfl (fun K hK=>?_);refine agC 140 (.tmp 5) (.tmp 17) rfl w2.heap.size (ar V) rfl rfl 140 _ (af4 w2 _) (by kernel_rfl) rfl (aN _) ?_;rw[agi];refine hK _ _ ⟨.inl (by decide),?_⟩;clear hK K;refine ae rfl rfl (fun K hK=>?_);go_wp2_with fail;refine⟨.inl (by decide),?_⟩;refine ak ?_;obtain⟨wN,dL⟩:=ab (w2.alloc (.cells (ar V) 140));obtain⟨gY,u5⟩:=ab w2.heap.size;rw[←dL,←u5];have gN:wN.heap[gY]?=some (.cells (ar V) 140 (0,0)):=by rw[dL,u5];exact af4 w2 _
   have kN:Below W0.heap.size W0 wN:=by rw[dL];exact(show Below W0.heap.size W0 w2 from⟨hb.os,hb.tape,hb.output,hb.size,hb.block⟩).alloc hb.size _
   clear dL u5 hb;have NX:=(kN.block (B+1) (by have:=kM.out;omega)).trans GO.out;have BQ:=bL.trans (kN.mono (by have:=HB.out;have:=kM.out;omega));have NY:(Tryz.prog.info? 140).map (·.size)=some (ar V).size:=by kernel_rfl
   have Ff:=aa NX;have GN:=aa gN;have Fg:=aa NY;clear NX gN NY x0 x1 x2 x3 f0 f1 f2 f3;go_wp2_with (first|(refine aga rfl 140 (.tmp 5) rfl gY rfl 140 (ar V) (0,0) _ GN.out Tryz.underlying140 rfl Fg.out ?_)|(refine af6 rfl 140 (.tmp 4) (.tmp 19) rfl (B+1) (ar V) rfl rfl 140 _ Ff.out Fg.out rfl (aN _) ?_));refine agf (v:=.agg (ar V)) ?_ rfl ⟨rfl,ah BQ (by have:=HB.out;omega) _⟩;exact ags rfl _ _ (B+1) 140 (ar V) (0,0) _ rfl (agd _ _ _ _ _ _ Ff.out) Tryz.underlying140 rfl Fg.out
 go_wp2_with fail;refine⟨aW _ _,?_⟩;obtain⟨w1,gu⟩:∃w1,w1=(W0.alloc (.cells #[.int .u64 0,.int .u64 0,.int .u64 0,.int .u64 0] 140)).drew:=⟨_,rfl⟩
 rw[←gu];have aZ:Below W0.heap.size W0 w1:=by rw[gu];exact((af5 _ W0).alloc (af2 _) _).drew
 have g1:w1.heap[W0.heap.size]?=some (.cells (ar 0) 140 (0,0)):=by rw[gu];exact af4 W0 _
 have gq:w1.heap.size=W0.heap.size+1:=by rw[gu];exact agn _ _
 have vH:=aa gq;clear gu gq;refine ae rfl rfl (fun K hK=>?_);go_wp2_with fail;refine(HS.out _).mono ?_;rintro e w2 ⟨rfl,hb⟩;go_wp2_with fail;refine⟨.inr (aj hb),?_⟩
 repeat ((first|refine ag rfl fun K hK=>?_|refine af rfl fun K hK=>?_);go_simp;(first|refine hK _ ?_|(simp only[IntWalk.iteOmega];go_simp;refine hK _ ?_)|(go_bits;go_simp;refine hK _ ?_));clear hK K;try go_bits)
 refine ae rfl rfl (fun K hK=>?_);have g2:=(hb.block W0.heap.size (by have:=vH.out;omega)).trans g1;refine agC 140 (.tmp 5) (.tmp 17) rfl W0.heap.size (ar V) rfl rfl 140 _ g2 (by kernel_rfl) rfl (aN _) ?_;refine hK _ _ ⟨.inl (by decide),?_⟩;clear hK K;refine ae rfl rfl (fun K hK=>?_);go_wp2_with fail;refine⟨.inl (by decide),?_⟩;refine ak ?_;obtain⟨wN,dL⟩:=ab (w2.setRow W0.heap.size (ar V));obtain⟨gY,u5⟩:=ab W0.heap.size;rw[←dL,←u5];have gN:wN.heap[gY]?=some (.cells (ar V) 140 (0,0)):=by rw[dL,u5];exact agd _ _ _ _ _ _ g2
 have kN:Below W0.heap.size W0 wN:=by rw[dL];exact ah (aZ.trans (hb.mono (by have:=vH.out;omega))) (af2 _) _
 clear dL u5 hb aZ g1 g2;have NX:=(kN.block (B+1) (by have:=kM.out;omega)).trans GO.out;have BQ:=bL.trans (kN.mono (by have:=HB.out;have:=kM.out;omega));have NY:(Tryz.prog.info? 140).map (·.size)=some (ar V).size:=by kernel_rfl
 have Ff:=aa NX;have GN:=aa gN;have Fg:=aa NY;clear NX gN NY x0 x1 x2 x3 f0 f1 f2 f3;go_wp2_with (first|(refine aga rfl 140 (.tmp 5) rfl gY rfl 140 (ar V) (0,0) _ GN.out Tryz.underlying140 rfl Fg.out ?_)|(refine af6 rfl 140 (.tmp 4) (.tmp 19) rfl (B+1) (ar V) rfl rfl 140 _ Ff.out Fg.out rfl (aN _) ?_));refine agf (v:=.agg (ar V)) ?_ rfl ⟨rfl,ah BQ (by have:=HB.out;omega) _⟩;exact ags rfl _ _ (B+1) 140 (ar V) (0,0) _ rfl (agd _ _ _ _ _ _ Ff.out) Tryz.underlying140 rfl Fg.out
theorem yX (w:World) (o1 o2 o3:Obj):(((w.alloc o1).alloc o2).alloc o3).heap[w.heap.size]?=some o1∧(((w.alloc o1).alloc o2).alloc o3).heap[w.heap.size+1]?=some o2∧(((w.alloc o1).alloc o2).alloc o3).heap[w.heap.size+2]?=some o3:=by
 have h1:=af4 w o1;have h2:=af4 (w.alloc o1) o2;have h3:=af4 ((w.alloc o1).alloc o2) o3;simp only[agn] at h2 h3;exact⟨eV (eV h1),eV h2,h3⟩
theorem N3 (g o m:Nat) (d:List Nat) (x y:Nat) (hx:x<m) (hy:y<m) (hm:m<2^256) (xW:2^255<m) (w:World) (hF:FieldAt w g o m d):
 Calls Tryz.prog 174 #[.pointer (some ⟨g,o,none⟩),.agg (ar x),.agg (ar y)] w fun e W'=>e=.returned (.agg (ar ((x+y)%m)))∧Below w.heap.size w W':=by
 have bW:Tryz.prog.follows .mixedOrders=true:=by kernel_rfl
 have pq:=hF.1;have tN:x<2^256:=by omega
 have Iy:y<2^256:=by omega
 obtain⟨R,hR⟩:∃R,R=(x+y)%m:=⟨_,rfl⟩;rw[←hR];have HR:=aa hR;clear hR;unfold ar;go_enter Tryz.func174,Tryz.ntmps174;go_wp2_with fail;have h2:=yX w (.cells (ar x) 140) (.cells (ar y) 140) (.cells (ar 0) 140);obtain⟨Wa,N2⟩:∃Wa,Wa=((w.alloc (.cells (ar x) 140)).alloc (.cells (ar y) 140)).alloc (.cells (ar 0) 140):=⟨_,rfl⟩;have hba:Below w.heap.size w Wa:=by rw[N2];exact(((af5 _ w).alloc (af2 _) _).alloc (by simp) _).alloc (by simp;omega) _
 refine(show Wa=_ from N2)▸?_;rw[←N2] at h2;obtain⟨_,_,gOa⟩:=h2;have CO:Wa.heap.size=w.heap.size+3:=by rw[N2];simp
 have tH:=yV x y tN Iy Wa;obtain⟨Z,hZ⟩:∃Z,Z=(x+y)%2^256:=⟨_,rfl⟩;obtain⟨C,hC⟩:∃C,C=(x+y)/2^256:=⟨_,rfl⟩;rw[←hZ,←hC] at tH;have HZ:=aa hZ;have HC:=aa hC;clear hZ hC;refine tH.mono ?_;clear tH;rintro e W1 ⟨rfl,aZ⟩;have bL:=hba.trans (aZ.mono (by omega));have gO:=(aZ.block (w.heap.size+2) (by omega)).trans gOa;have gq:w.heap.size+3≤W1.heap.size:=by have:=aZ.size;omega
 obtain⟨B,hB⟩:=ab w.heap.size;rw[←hB] at gO gq⊢;have HB:=aa hB;have vH:=aa gq;have GO:=aa gO;clear N2 hB gO gq hba gOa CO aZ;have Vm:Z<2^256:=by rw[HZ.out];omega
 have BR:C=0∨C=1:=by have:=HC.out;omega
 have lP:∀n,(Tryz.prog.info? 140).map (·.size)=some (ar n).size:=fun n=>by kernel_rfl
 have pV:=aa lP;clear lP;rcases BR with rfl|rfl
 · go_wp2_with (first|(refine af6 rfl 140 (.tmp 7) (.tmp 13) rfl W1.heap.size (ar Z) rfl rfl 140 _ (af4 W1 _) (by kernel_rfl) rfl (aN _) ?_;rw[agi];obtain⟨W2,il⟩:=ab (W1.alloc (.cells (ar Z) 140));obtain⟨gz,Fh⟩:=ab W1.heap.size;rw[←il,←Fh];have gZ:W2.heap[gz]?=some (.cells (ar Z) 140 (0,0)):=(by rw[il,Fh];exact af4 W1 _);have bt:Below w.heap.size w W2:=(by rw[il];exact bL.alloc bL.size _);have CU:Below W1.heap.size W1 W2:=(by rw[il];exact(af5 _ _).alloc (af2 _) _);have vJ:=aa ((CU.block (B+2) (by have:=vH.out;omega)).trans GO.out);have Hgz:Hid (B+3≤gz∧gz<W2.heap.size):=aa ⟨(by rw[Fh];exact vH.out),(af3.1 gZ).1⟩;obtain⟨z0,z1,z2,z3⟩:=jq gZ;obtain⟨f0,f1,f2,f3⟩:=(hF.below bt pq).m;have xZ:=aa (hF.below bt pq);have GZ:=aa gZ;clear il Fh gZ CU GO bL))
   have N4:=Ix g o m d Z Vm hm W2 xZ.out
   have hVR:(if Z<m then Z else Z-m)=R:=by
    have h1:=HZ.out;have h2:=HC.out;rw[HR.out]
    by_cases h:Z<m
    · rw[if_pos h,agA (by omega)];omega
    rw[if_neg h,Nat.mod_eq_sub_mod (by omega),agA (by omega)];omega
   rw[hVR] at N4;have Hin:=aa N4;clear N4 hVR f0 f1 f2 f3;go_wp2_with fail;refine Hin.out.mono ?_;rintro e W3 ⟨rfl,bd⟩;have AD:=(bd.block (B+2) (by have:=Hgz.out;omega)).trans vJ.out;have kN:=bt.trans (bd.mono bt.size);have GO3:=aa AD;clear AD bd z0 z1 z2 z3;go_wp2_with (first|(refine af6 rfl 140 (.tmp 6) (.tmp 29) rfl (B+2) (ar R) rfl rfl 140 _ GO3.out (pV.out _) rfl (aN _) ?_));refine agf (v:=.agg (ar R)) ?_ rfl ⟨rfl,ah kN (by have:=HB.out;omega) _⟩;exact ags rfl _ _ (B+2) 140 (ar R) (0,0) _ rfl (agd _ _ _ _ _ _ GO3.out) Tryz.underlying140 rfl (pV.out _)
 go_wp2_with (first|(refine af6 rfl 140 (.tmp 7) (.tmp 13) rfl W1.heap.size (ar Z) rfl rfl 140 _ (af4 W1 _) (by kernel_rfl) rfl (aN _) ?_;rw[agi];obtain⟨W2,il⟩:=ab (W1.alloc (.cells (ar Z) 140));obtain⟨gz,Fh⟩:=ab W1.heap.size;rw[←il,←Fh];have gZ:W2.heap[gz]?=some (.cells (ar Z) 140 (0,0)):=(by rw[il,Fh];exact af4 W1 _);have bt:Below w.heap.size w W2:=(by rw[il];exact bL.alloc bL.size _);have CU:Below W1.heap.size W1 W2:=(by rw[il];exact(af5 _ _).alloc (af2 _) _);have vJ:=aa ((CU.block (B+2) (by have:=vH.out;omega)).trans GO.out);have Hgz:Hid (B+3≤gz∧gz<W2.heap.size):=aa ⟨(by rw[Fh];exact vH.out),(af3.1 gZ).1⟩;obtain⟨z0,z1,z2,z3⟩:=jq gZ;obtain⟨f0,f1,f2,f3⟩:=(hF.below bt pq).m;have xZ:=aa (hF.below bt pq);have GZ:=aa gZ;clear il Fh gZ CU GO bL));have hS:=fun ww=>rq Z m Vm hm ww
 have hVR:(Z+2^256-m)%2^256=R:=by
  have h1:=HZ.out;have h2:=HC.out;have h3:(x+y)%m=x+y-m:=by rw[Nat.mod_eq_sub_mod (by omega),agA (by omega)]
  rw[HR.out,h3];omega
 simp only[hVR] at hS;clear hVR;have HS:=aa hS;clear hS;refine an [(0,1),(1,0),(2,0),(3,0),(4,1),(5,2),(6,0),(7,0),(8,0),(9,2)] 9 bW (by kernel_rfl) (by intro c a d v w h;cases d<;>exact h) ?_
 repeat ((first|refine ag rfl fun K hK=>?_|refine af rfl fun K hK=>?_);go_simp;(first|refine hK _ ?_|(simp only[IntWalk.iteOmega];go_simp;refine hK _ ?_)|(go_bits;go_simp;refine hK _ ?_));clear hK K;try go_bits)
 refine ae rfl rfl (fun K hK=>?_);go_wp2_with fail;refine(HS.out _).mono ?_;rintro e W3 ⟨rfl,bd⟩;go_wp2_with fail;refine⟨.inr (aj bd),?_⟩
 repeat ((first|refine ag rfl fun K hK=>?_|refine af rfl fun K hK=>?_);go_simp;(first|refine hK _ ?_|(simp only[IntWalk.iteOmega];go_simp;refine hK _ ?_)|(go_bits;go_simp;refine hK _ ?_));clear hK K;try go_bits)
 refine ae rfl rfl (fun K hK=>?_);have Kh:Below W2.heap.size W2 W3:=⟨bd.os,bd.tape,bd.output,bd.size,bd.block⟩;have gZ3:=(Kh.block gz Hgz.out.2).trans GZ.out;refine agC 140 (.tmp 7) (.tmp 24) rfl gz (ar R) rfl rfl 140 _ gZ3 (by kernel_rfl) rfl (aN _) ?_;refine hK _ _ ⟨.inl (by decide),?_⟩;clear hK K;refine ak ?_;have gR:=agd W3 gz _ (ar R) _ _ gZ3;have AD:=(setRow_other W3 gz (B+2) (ar R) (by have:=Hgz.out;omega)).trans ((Kh.block (B+2) (by have:=Hgz.out;omega)).trans vJ.out);have kN:=ah (bt.trans (Kh.mono bt.size)) (show w.heap.size≤gz by have:=Hgz.out;have:=HB.out;omega) (ar R);have GR:=aa gR;have GO3:=aa AD;clear gR AD gZ3 Kh bd z0 z1 z2 z3 f0 f1 f2 f3;obtain⟨W4,sP⟩:=ab (W3.setRow gz (ar R));rw[←sP] at GR GO3 kN⊢;clear sP;go_wp2_with (first|(refine aga rfl 140 (.tmp 7) rfl gz rfl 140 (ar R) (0,0) _ GR.out Tryz.underlying140 rfl (pV.out _) ?_)|(refine af6 rfl 140 (.tmp 6) (.tmp 26) rfl (B+2) (ar R) rfl rfl 140 _ GO3.out (pV.out _) rfl (aN _) ?_));refine agf (v:=.agg (ar R)) ?_ rfl ⟨rfl,ah kN (by have:=HB.out;omega) _⟩;exact ags rfl _ _ (B+2) 140 (ar R) (0,0) _ rfl (agd _ _ _ _ _ _ GO3.out) Tryz.underlying140 rfl (pV.out _)
end Go.Proofs.YtcjioogololnoaaGreatDoor
