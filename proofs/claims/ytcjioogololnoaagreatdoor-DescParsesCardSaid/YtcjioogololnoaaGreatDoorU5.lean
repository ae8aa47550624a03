/- Of any text: the program's descriptors and the reference's are read and written alike (DescParses). No condition. -/
import Derived.Test.YtcjioogololnoaaGreatDoorU1
import Derived.Test.YtcjioogololnoaaGreatDoorU3
import Derived.Test.YtcjioogololnoaaGreatDoorU4
import Derived.BigQuiet
import Derived.Shelf.RegionOpen
import Derived.Sort.QuietIn
import Derived.Stop.RegionWithIn
import Derived.Deep.QuietTactic
import Derived.StillTailTactics
import Derived.Deep.RegionHeld3
import Derived.Deep.RegionWith
set_option maxRecDepth 1000000
set_option maxHeartbeats 16000000
set_option linter.unusedVariables false
set_option linter.unusedSimpArgs false
namespace Go.Proofs.YtcjioogololnoaaGreatDoor
def aU (t:Nat):Nat→Nat→List UInt8
 |0,_=>[]
 |fuel+1,c=>if c=0 then [] else UInt8.ofNat (c%t)::aU t fuel (c/t)
def nA (f t:Nat):List UInt8→Nat→List UInt8×Nat
 |[],c=>([],c)
 |x::xs,c=>(UInt8.ofNat ((c+x.toNat*f)%t)::(nA f t xs ((c+x.toNat*f)/t)).1,(nA f t xs ((c+x.toNat*f)/t)).2)
def dj (f t:Nat) (xs:List UInt8) (c:Nat):List UInt8:=(nA f t xs c).1++aU t (nA f t xs c).2 (nA f t xs c).2
def dc (f t:Nat) (l:List UInt8):List UInt8:=l.foldl (fun out d=>dj f t out d.toNat) []
theorem kh (f t:Nat) (l:List UInt8) (d:UInt8):dc f t (l++[d])=dj f t (dc f t l) d.toNat:=by simp[dc]
theorem Cg (t:Nat) (ht:2≤t):∀(m n c:Nat),c≤m→c≤n→aU t m c=aU t n c:=by
 intro m
 induction m with
 |zero=>intro n c h1 h2;cases n with
  |zero=>rfl
  |succ n=>simp[aU,show c=0 by omega]
 |succ m ih=>
  intro n c h1 h2
  by_cases hc:c=0
  · subst hc;cases n<;>simp[aU]
  cases n with
  |zero=>omega
  |succ n=>
   simp only[aU,hc,if_false];have:c/t<c:=Nat.div_lt_self (by omega) (by omega);rw[ih n (c/t) (by omega) (by omega)]
theorem dx (t c:Nat) (ht:2≤t) (hc:0<c):aU t c c=UInt8.ofNat (c%t)::aU t (c/t) (c/t):=by
 obtain⟨m,rfl⟩:∃m,c=m+1:=⟨c-1,by omega⟩;simp only[aU,Nat.add_eq_zero_iff,Nat.one_ne_zero,and_false,if_false];have:(m+1)/t<m+1:=Nat.div_lt_self (by omega) (by omega);rw[Cg t ht m ((m+1)/t) _ (by omega) (af2 _)]
theorem Ch (t:Nat):aU t 0 0=[]:=rfl
theorem EO (t:Nat) (ht:2≤t):∀(k c:Nat),c<2^k→(aU t c c).length≤k:=by
 intro k
 induction k with
 |zero=>intro c hc;simp at hc;subst hc;simp[aU]
 |succ k ih=>
  intro c hc
  by_cases h0:c=0
  · subst h0;simp[aU]
  rw[dx t c ht (by omega)];have h1:c/t≤c/2:=Nat.div_le_div_left ht (by omega);have h2:c/2<2^k:=by rw[Nat.pow_succ] at hc;omega
  have:=ih (c/t) (by omega);simp;omega
theorem nL (f t:Nat):∀(xs:List UInt8) (y:UInt8) (c:Nat),
 nA f t (xs++[y]) c=((nA f t xs c).1++[UInt8.ofNat (((nA f t xs c).2+y.toNat*f)%t)],((nA f t xs c).2+y.toNat*f)/t)
 |[],y,c=>by simp[nA]
 |x::xs,y,c=>by simp only[agw,nA,nL f t xs y]
theorem kY (f t:Nat):∀(xs:List UInt8) (c:Nat),(nA f t xs c).1.length=xs.length
 |[],c=>rfl
 |x::xs,c=>by simp[nA,kY f t xs]
theorem M8 (f t:Nat) (hf:f≤256) (ht:2≤t):∀(xs:List UInt8) (c:Nat),c≤65536→(nA f t xs c).2≤65536
 |[],c,h=>h
 |x::xs,c,h=>by
  simp only[nA];refine M8 f t hf ht xs _ ?_;have hx:=x.toNat_lt;have h1:x.toNat*f≤255*256:=Nat.mul_le_mul (by omega) hf;have h2:(c+x.toNat*f)/t≤(c+x.toNat*f)/2:=Nat.div_le_div_left ht (by omega);omega
theorem qZ (f t:Nat) (hf:f≤256) (ht:2≤t) (xs:List UInt8) (c:Nat) (hc:c≤65536):(dj f t xs c).length≤xs.length+17:=by
 unfold dj;have h1:=M8 f t hf ht xs c hc;have h2:=EO t ht 17 (nA f t xs c).2 (by omega);rw[agc,kY];omega
theorem oT (f t:Nat) (hf:f≤256) (ht:2≤t) (l:List UInt8):(dc f t l).length≤17*l.length:=by
 have:∀(l:List UInt8) (xs:List UInt8),(l.foldl (fun out d=>dj f t out d.toNat) xs).length≤xs.length+17*l.length:=by
  intro l
  induction l with
  |nil=>intro xs;simp
  |cons d l ih=>
   intro xs;have h1:=ih (dj f t xs d.toNat);have h2:=qZ f t hf ht xs d.toNat (by have:=d.toNat_lt;omega);simp only[List.foldl_cons,agm];omega
 unfold dc;simpa using this l []
def aB:List UInt8:=[49,50,51,52,53,54,55,56,57,65,66,67,68,69,70,71,72,74,75,76,77,78,80,81,82,83,84,85,86,87,88,89,90,97,98,99,100,101,102,103,104,105,106,107,109,110,111,112,113,114,115,116,117,118,119,120,121,122]
def dK (d:UInt8):UInt8:=aB.getD d.toNat 0
theorem q7 (d:UInt8) (h:d.toNat<(⟨aB.toArray⟩:ByteArray).size):(⟨aB.toArray⟩:ByteArray)[d.toNat]=dK d:=by
 have h':d.toNat<aB.length:=h;show aB.toArray[d.toNat]'(by simpa using h')=_
 simp[dK,h']
def lz:List UInt8→Nat
 |[]=>0
 |b::bs=>if b=0 then lz bs+1 else 0
theorem U2:∀bs:List UInt8,lz bs≤bs.length
 |[]=>by simp[lz]
 |b::bs=>by have:=U2 bs;simp only[lz];split<;>simp<;>omega
theorem U3:∀(bs:List UInt8) (k:Nat) (_:k≤bs.length) (_:∀j (h:j<bs.length),j<k→bs[j]=0) (_:∀h:k<bs.length,bs[k]≠0),lz bs=k
 |[],k,hk,_,_=>by simp at hk;subst hk;rfl
 |b::bs,0,_,_,hn=>by have:=hn (by simp);simp at this;simp[lz,this]
 |b::bs,k+1,hk,hz,hn=>by
  have h0:b=0:=hz 0 (by simp) (by omega);have:=U3 bs k (by simpa using hk) (fun j h hj=>by have:=hz (j+1) (by simpa using h) (by omega);simpa using this) (fun h=>by have:=hn (by simpa using h);simpa using this);simp[lz,h0,this]
theorem sI (t:Nat) (ht:0<t) (mF:t≤256):∀(n c:Nat),∀d∈aU t n c,d.toNat<t
 |0,c=>by simp[aU]
 |n+1,c=>by
  intro d hd;unfold aU at hd;split at hd
  · simp at hd
  simp only[List.mem_cons] at hd;rcases hd with rfl|hd
  · have:=Nat.mod_lt c ht
    simp;rw[agA (by omega)];omega
  exact sI t ht mF n _ d hd
theorem M9 (f t:Nat) (ht:0<t) (mF:t≤256):∀(xs:List UInt8) (c:Nat),∀d∈(nA f t xs c).1,d.toNat<t
 |[],c=>by simp[nA]
 |x::xs,c=>by
  intro d hd;simp only[nA,List.mem_cons] at hd;rcases hd with rfl|hd
  · have:=Nat.mod_lt (c+x.toNat*f) ht
    simp;rw[agA (by omega)];omega
  exact M9 f t ht mF xs _ d hd
theorem Ck (f t:Nat) (ht:0<t) (mF:t≤256) (xs:List UInt8) (c:Nat):∀d∈dj f t xs c,d.toNat<t:=by
 intro d hd;simp only[dj,List.mem_append] at hd;rcases hd with hd|hd
 · exact M9 f t ht mF _ _ d hd
 exact sI t ht mF _ _ d hd
theorem vn (f t:Nat) (ht:0<t) (mF:t≤256) (l:List UInt8):∀d∈dc f t l,d.toNat<t:=by
 rcases List.eq_nil_or_concat l with rfl|⟨l',d0,rfl⟩
 · simp[dc]
 rw[List.concat_eq_append,kh];exact Ck f t ht mF _ _
def fK (bs:List UInt8):List UInt8:=List.replicate (lz bs) 49++(dc 256 58 bs).reverse.map dK
end Go.Proofs.YtcjioogololnoaaGreatDoor
namespace Go.Proofs.YtcjioogololnoaaGreatDoor
open Go.RowKit Go.Shelf
attribute [local go_sem] Oper.semAt_some
theorem Sj (F:Fence) (hF:∀k,F.fn k) (oS:F.round=none) (n:Nat) (hn:3≤n) (f t:Nat) (hf:1≤f) (hf2:f≤256) (ht:2≤t) (mF:t≤256) (A:Option Addr) (cap:Nat) (bs:List UInt8) (hl:bs.length≤4096) (w:World) (hs:Sl w w.heap.size A (B8 bs)):
 CallsIn F n Tryz.prog 165 #[.slice A bs.length cap,.int .i64 f,.int .i64 t] w fun e W'=>∃v,e=.returned v∧Ow W' w.heap.size 5 v (B8 (dc f t bs.reverse))∧Below w.heap.size w W':=by
 have h1:1≤n:=by omega
 obtain⟨i0,hi,iC,gq,mI⟩:=info_parts zP;refine callsIn_of_wp_marks Tryz.func165 rfl (hF _) ?_ oS;simp only[Tryz.ntmps165,List.size_toArray,agm,List.length_nil,Nat.reduceAdd,Nat.reduceSub,Array.replicate_succ,Array.replicate_zero,List.push_toArray,List.append_toArray,agJ,agw]
 gi_wp2_with (gi_at_call 164;refine(zV F hF oS _ _ _ _ _).mono ?_;rintro e w' ⟨rfl,rfl⟩)
 obtain⟨B,hB⟩:=ab w.heap.size;rw[←hB] at hs⊢;obtain⟨W0,aM⟩:∃W0,W0=(((w.alloc (Obj.cells #[Value.int IntKind.i64 f] 3)).alloc (Obj.cells #[Value.int IntKind.i64 t] 3)).alloc (Obj.cells #[Value.slice none 0 0] 37)).alloc (Obj.cells #[Value.slice A bs.length cap] 37):=⟨_,rfl⟩
 rw[←aM];have b0:Boxed W0 B 3 (.int .i64 f):=by rw[aM,hB];exact(((Boxed.new w _ _).alloc _).alloc _).alloc _
 have b1:Boxed W0 (B+1) 3 (.int .i64 t):=by rw[aM,hB];have:=(((Boxed.new (w.alloc (Obj.cells #[Value.int IntKind.i64 f] 3)) 3 (.int .i64 t)).alloc (Obj.cells #[Value.slice none 0 0] 37)).alloc (Obj.cells #[Value.slice A bs.length cap] 37));simpa using this
 have b2:Boxed W0 (B+2) 37 (.slice none 0 0):=by rw[aM,hB];have:=(Boxed.new ((w.alloc (Obj.cells #[Value.int IntKind.i64 f] 3)).alloc (Obj.cells #[Value.int IntKind.i64 t] 3)) 37 (.slice none 0 0)).alloc (Obj.cells #[Value.slice A bs.length cap] 37);simpa using this
 have b3:Boxed W0 (B+3) 37 (.slice A bs.length cap):=by rw[aM,hB];have:=(Boxed.new (((w.alloc (Obj.cells #[Value.int IntKind.i64 f] 3)).alloc (Obj.cells #[Value.int IntKind.i64 t] 3)).alloc (Obj.cells #[Value.slice none 0 0] 37)) 37 (.slice A bs.length cap));simpa using this
 have hsz:W0.heap.size=B+4:=by rw[aM,hB];simp
 have Il:Below B w W0:=by rw[aM,hB];exact((((af5 _ w).alloc (af2 _) _).alloc (by simp) _).alloc (by simp;omega) _).alloc (by simp;omega) _
 have HB:=aa hB;clear aM hB
 refine wpIn_rangeFunc_ownG oS h1 (gf:=195) (lb:=#[.pointer (some ⟨B+3,0,none⟩)]) rfl (hF _) (enters_of Tryz.func195 (by kernel_rfl) rfl)
  (EN F hF oS (n-1) (by omega) (B+3) B A cap bs (by omega) W0 (by omega) (by omega) b3.cell (hs.below Il)) j2 (uR (by omega) (by omega)) (af5 _ _) (fun _=>rfl)
  (fun pre W=>(Boxed W B 3 (.int .i64 f)∧Boxed W (B+1) 3 (.int .i64 t)∧∃v,Boxed W (B+2) 37 v∧Ow W (B+4) 5 v (B8 (dc f t (pre.map (·.2)))))∧Below B W0 W)
  (fun _ _ _=>False)
  (OwnFrom.and (Go.Own.from (fun s A B row hs hg hr=>⟨dU hs.1 hg hr,dU hs.2.1 hg hr,let ⟨v,hv,ho⟩:=hs.2.2;⟨v,dU hv hg hr,ho.others hg hr⟩⟩) _) (ownFrom_below (by omega) (by omega)))
  (fun _ _ _ _ _ hs _ _=>hs)
  ⟨⟨b0,b1,_,b2,Ow.nil_ _ _ _ _⟩,af5 _ _⟩
  (fun x=>{ tmps:=#[.slice A bs.length cap,.int .i64 f,.int .i64 t,undef,.pointer (some ⟨B,0,none⟩),.pointer (some ⟨B+1,0,none⟩),.slice none 0 0,.pointer (some ⟨B+2,0,none⟩),undef,.int .u8 (x.2.toNat:Int),undef,undef,undef,.slice A bs.length cap,.func (.func 195) #[] #[.pointer (some ⟨B+3,0,none⟩)],.int .i64 (x.1:Int),.int .u8 (x.2.toNat:Int),undef,undef,undef,undef,undef,undef,undef,undef,undef,undef,undef,undef,undef,undef,undef,undef,undef,undef,undef,undef,undef,undef,undef,undef,undef,undef,undef,undef,undef,undef,undef,undef,undef,undef,undef,undef,undef,undef,undef],defers:=[] }) ?assign ?body ?done ?stop
 case assign=>
  intro l x W K hK
  gi_wp2
  exact hK
 case body=>
  have aat:B+4≤W0.heap.size:=by omega
  clear hs b0 b1 b2 b3 Il hsz;rintro l pre x W ⟨⟨h0,h1,v,h2,ho⟩,kO⟩ po;have hd:1≤n-1-1:=by omega
  have c0:=h0.cell;have c1:=h1.cell;have c2:=h2.cell;have f2:=h2.frozen;obtain⟨xs,EP⟩:=ab (dc f t (pre.map (·.2)));rw[←EP] at ho;have hxl:xs.length≤69632:=by rw[EP];have:=oT f t hf2 ht (pre.map (·.2));simp at this;omega
  have Hxs:=aa EP;clear EP;obtain⟨Av,cv,rfl⟩:∃Av cv,v=.slice Av xs.length cv:=by obtain⟨Av,cv,e,_⟩:=ho;exact⟨Av,cv,by simpa using e⟩
  have Cl:=x.2.toNat_lt;have pQ:x.2.toNat≤65536:=by omega
  obtain⟨d,hdd⟩:=ab x.2.toNat;rw[←hdd] at pQ;have Hd:=aa hdd
  gi_wp2
  rw[←hdd];clear hdd Cl
  gi_loopw [10,21] (fun cr i wr=>∃k c:Nat,k≤xs.length∧i=.int .i64 k∧cr=.int .i64 c∧c≤65536∧Hid (c=(nA f t (xs.take k) d).2)∧Boxed wr B 3 (.int .i64 f)∧Boxed wr (B+1) 3 (.int .i64 t)∧
   Boxed wr (B+2) 37 (.slice Av xs.length cv)∧Ow wr (B+4) 5 (.slice Av xs.length cv) (B8 ((nA f t (xs.take k) d).1++xs.drop k))∧Below B W0 wr∧Keep B (B+3) W wr∧KeepsOthers W wr) (fun _ i _=>xs.length-(intOf i).toNat)
  case atStart=>exact⟨0,d,agu _,rfl,rfl,pQ,rfl,h0,h1,h2,by simpa [nA] using ho,kO,Keep.refl _ _ _,KeepsOthers.refl _⟩
  case round=>
   clear h0 h1 h2 c0 c1 c2 f2 ho kO;obtain⟨k,c,hk,rfl,rfl,hc,Hc,h0,h1,h2,ho,kO,hWW,hKO⟩:=hrel;have c0:=h0.cell;have c1:=h1.cell;have c2:=h2.cell;have f2:=h2.frozen
   by_cases aL:k<xs.length
   · obtain⟨m,hm⟩:∃m,m=(nA f t (xs.take k) d).1:=⟨_,rfl⟩
     have Cm:m.length=k:=by rw[hm,kY,agj];omega
     rw[←hm] at ho;have Hm:=aa hm;clear hm;obtain⟨g,rfl,hg,aF,aD,hfr⟩:=ho.at_ (j:=k) (by simp;omega)
     have hv:(B8 (m++xs.drop k))[k]'(by simp;omega)=.int .u8 (xs[k].toNat:Int):=by
      rw[dd,List.getElem_append_right (by omega)];simp[Cm]
     rw[hv] at aD;have q8:=xs[k].toNat_lt;have Hml:=aa Cm;clear hv Cm;clear aF;have b1:0≤(xs[k].toNat:Int)*(f:Int):=by exact Int.mul_nonneg (by omega) (by omega)
     have b2:(xs[k].toNat:Int)*(f:Int)≤65280:=by
      have:xs[k].toNat*f≤255*256:=Nat.mul_le_mul (by omega) hf2;have h:((xs[k].toNat*f:Nat):Int)≤65280:=by omega
      rwa [Int.natCast_mul] at h
     gi_wp2
     have bW:Tryz.prog.follows .mixedOrders=true:=by kernel_rfl
     refine fZ [(0,1),(1,0),(2,0),(3,1),(4,0),(5,0),(6,0),(7,2)] 7 (fun _=>hF _) bW (by kernel_rfl) (by intro c a d v w h;cases d<;>exact h) ?_
     repeat ((first|refine ag rfl fun K hK=>?_|refine af rfl fun K hK=>?_);go_simp;(first|refine hK _ ?_|(simp only[IntWalk.iteOmega];go_simp;refine hK _ ?_)|(go_bits;go_simp;refine hK _ ?_));clear hK K;try go_bits)
     refine cR rfl rfl (fun K hK=>?_)
     gi_wp2
     refine⟨.inl (by decide),ak ?_⟩
     gi_wp2
     have Bw:B≤(⟨g,k,none⟩:Addr).block:=by show B≤g;omega
     refine⟨⟨k+1,(c+xs[k].toNat*f)/t,by omega,by go_num,by simp,?_,?_,sD h0 (p:=⟨g,k,none⟩) (by show B≠g;omega) _,sD h1 (p:=⟨g,k,none⟩) (by show B+1≠g;omega) _,sD h2 (p:=⟨g,k,none⟩) (by show B+2≠g;omega) _,?_,kO.setCell Bw _ |>.drew,j2 hWW ⟨((af5 B wr).setCell Bw _).drew,ago wr ⟨g,k,none⟩ _ (B+3) (by show B+3≠g;omega)⟩,hKO.trans ((KeepsOthers.setCell _ _ _).trans (KeepsOthers.drew _))⟩,by simp[intOf];omega⟩
     · have:=Nat.div_le_div_left (a:=c+xs[k].toNat*f) ht (by omega)
       omega
     · show _=_
       rw[agh aL,nL,←Hc.out]
     have hs:=ho.store k (by have:=ho.len;simp at this;omega) (.int .u8 ((((c:Int)+(xs[k].toNat:Int)*(f:Int))%(t:Int))%256))
     have e:(B8 (m++xs.drop k)).set k (.int .u8 ((((c:Int)+(xs[k].toNat:Int)*(f:Int))%(t:Int))%256))=B8 ((nA f t (xs.take (k+1)) d).1++xs.drop (k+1)):=by
      rw[agh aL,nL,←Hc.out,←Hm.out];have hd:xs.drop k=xs[k]::xs.drop (k+1):=by rw[List.getElem_cons_drop]
      rw[hd];simp only[B8,List.map_append,List.map_cons];rw[List.set_append_right _ _ (by simp[Hml.out])];simp[Hml.out]
     rw[e] at hs;exact hs
   obtain rfl:k=xs.length:=by omega
   rw[List.take_length,List.drop_length,List.append_nil] at ho;rw[List.take_length] at Hc
   gi_wp2
   obtain⟨fin,iQ⟩:=ab (dj f t xs d);have nM:fin.length≤69649:=by rw[iQ];have:=qZ f t hf2 ht xs d pQ;omega
   have kP:=aa iQ;clear iQ
   gi_loopw [10] (fun cr wq=>∃(c:Nat) (v:Value) (ys:List UInt8),cr=.int .i64 c∧c≤65536∧Hid (ys++aU t c c=fin)∧Boxed wq B 3 (.int .i64 f)∧Boxed wq (B+1) 3 (.int .i64 t)∧
    Boxed wq (B+2) 37 v∧Ow wq (B+4) 5 v (B8 ys)∧Below B W0 wq∧Keep B (B+3) W wq∧KeepsOthers W wq) (fun cr _=>(intOf cr).toNat)
   case atStart=>exact⟨c,_,_,rfl,hc,by rw[kP.out];unfold dj;rw[←Hc.out];rfl,h0,h1,h2,ho,kO,hWW,hKO⟩
   case round=>
    clear h0 h1 h2 c0 c1 c2 f2 ho kO hWW hKO Hc hc hk aL;obtain⟨c,v,ys,rfl,hc,hfe,h0,h1,h2,ho,kO,hWW,hKO⟩:=hrel;have hyl:ys.length≤69649:=by have:=congrArg List.length hfe.out;simp at this;omega
    have c1:=h1.cell;have c2:=h2.cell;obtain⟨Ay,cy,rfl⟩:∃Ay cy,v=.slice Ay ys.length cy:=by obtain⟨Ay,cy,e,_⟩:=ho;exact⟨Ay,cy,by simpa using e⟩
    by_cases iu:0<c
    · have bW:Tryz.prog.follows .mixedOrders=true:=by kernel_rfl
      have dt:=ho.row_ne_box h2 (by decide);have x8:=ho.row_ne_box h0 (by decide);have ER:=ho.row_ne_box h1 (by decide);have aF:=ho.row;have BN:(0:Int)≤(c:Int)/(t:Int):=Int.ediv_nonneg (by omega) (by omega);have hq1:(c:Int)/(t:Int)≤65536:=by have:=Int.ediv_le_self (a:=(c:Int)) (t:Int) (by omega);omega
      gi_wp2
      refine fZ [(0,1),(1,0),(2,1),(3,0),(4,0),(5,2),(6,2),(7,2)] 6 (fun _=>hF _) bW (by kernel_rfl) (by intro c a d v w h;cases d<;>exact h) ?_
      repeat ((first|refine ag rfl fun K hK=>?_|refine af rfl fun K hK=>?_);go_simp;(first|refine hK _ ?_|(simp only[IntWalk.iteOmega];go_simp;refine hK _ ?_)|(go_bits;go_simp;refine hK _ ?_));clear hK K;try go_bits)
      refine cR rfl rfl (fun K hK=>?_)
      gi_wp2
      refine⟨.inr (bM _ _),?_⟩;refine cR rfl rfl (fun K hK=>?_);refine ke (F:=F.inRound l) (v:=.slice Ay ys.length cy) (m:=1) (c:=1) (fun _=>hF _) jf (.tmp 48) (.tmp 53) rfl rfl (ho.alloc _).drew rfl (Sl.one wr _ _).drew rfl ?_ ?_ ?_ ?_ ?_
      · intro u hu;simp at hu;subst hu;rfl
      · simp[maxLen];omega
      · simp;omega
      · have:=kO.size;simp;omega
      intro v' w1 jc jd jQ;have U4:∀g,az (.slice Ay ys.length cy)=some g→B+4≤g:=fun g hg=>by have:=aF g hg;omega
      have zW:∀b,b<wr.heap.size→(∀g,az (.slice Ay ys.length cy)=some g→g≠b)→some b≠az (.slice Ay ys.length cy):=fun b _ h e=>h b e.symm rfl
      have h0':Boxed w1 B 3 (.int .i64 f):=(iw (h0.alloc _)).kept jd (zW _ h0.lt x8);have h1':Boxed w1 (B+1) 3 (.int .i64 t):=(iw (h1.alloc _)).kept jd (zW _ h1.lt ER);have Cn:=Boxed.kept (iw (h2.alloc _)) jd (zW _ h2.lt dt);have c1':=h1'.cell;have c2':=Cn.cell;have f2':=Cn.frozen;have k1:KeepsOthers wr w1:=(KeepsOthers.alloc wr _).trans ((KeepsOthers.drew _).trans ((ho.alloc _).drew.keepsOthers jd rfl));have Mp:=kO.size;have bl:Below B wr w1:=((af5 B wr).alloc (by omega) _).drew.grown jd (by simp;omega) (fun g hg=>by have:=U4 g hg;omega)
      have nB:∀u,Ow (w1.setCell ⟨B+2,0,none⟩ u) (B+4) 5 v' (B8 (ys++[UInt8.ofNat (c%t)])):=fun u=>by
       rw[bu,MZ];have e:((c:Int)%(t:Int)%256)=((UInt8.ofNat (c%t)).toNat:Int):=by simp
       rw[←e];exact jc.setCell (fun g hg=>by have:=jc.row g hg;show B+2≠g;omega) u
      obtain⟨JI,JJ,rfl⟩:∃JI JJ,v'=.slice JI (ys.length+1) JJ:=by obtain⟨A',c',e,_⟩:=jc;exact⟨A',c',by simpa using e⟩
      refine hK _ _ ⟨.inl (by decide),?_⟩;clear hK K;refine cR rfl rfl (fun K hK=>?_)
      gi_wp2
      refine⟨.inl (by decide),ak ?_⟩
      gi_wp2
      refine⟨⟨c/t,.slice JI (ys.length+1) JJ,ys++[UInt8.ofNat (c%t)],by simp,?_,?_,h0'.other (by omega) _,h1'.other (by omega) _,?_,?_,?_,?_,?_⟩,?_⟩
      · exact agx (Nat.div_le_self c t) hc
      · show _=_
        rw[←hfe.out,dx t c ht iu];simp
      · simpa using Cn.set _
      · simpa using nB _
      · exact(kO.trans bl).setCell (p:=⟨B+2,0,none⟩) (by show B≤B+2;omega) _
      · exact j2 hWW ⟨bl.setCell (p:=⟨B+2,0,none⟩) (by show B≤B+2;omega) _,(ago w1 ⟨B+2,0,none⟩ _ (B+3) (by show B+3≠B+2;omega)).trans ((jd.block (B+3) (by simp;omega) (fun e=>by have:=U4 _ e.symm;omega)).trans (Below.heap_alloc wr _ (B+3) (by omega)))⟩
      · exact hKO.trans (k1.trans (KeepsOthers.setCell _ _ _))
      have:c/t<c:=Nat.div_lt_self iu (by omega);simp[intOf];omega
    obtain rfl:c=0:=by omega
    gi_wp2
    refine⟨hKO.from _,hWW,⟨h0,h1,_,h2,?_⟩,kO⟩
    have e:ys=dc f t ((pre++[x]).map (·.2)):=by
     have:=hfe.out;rw[Ch,List.append_nil,kP.out,Hxs.out,Hd.out] at this;rw[this];simp[kh]
    rw[←e];exact ho
 case done=>
  rintro D ys W hD rfl ⟨⟨_,_,v,h2,ho⟩,hB⟩ hK;have c2:=h2.cell
  gi_wp2
  refine⟨by simp,.inl ⟨_,_,rfl,run_takeDeferred hK,?_⟩⟩;refine⟨_,results_tmp rfl _ _ _,v,rfl,?_,?_⟩
  · rw[sG] at ho
    rw[←HB.out];exact(ho.others (grownBy_putObj' _ D (.deferred none)) (fun r e=>by cases e;exact⟨_,hK,rfl⟩)).mono (by omega)
  rw[←HB.out];exact Il.trans (hB.trans (belowK_b (w:=W0) (by omega) W D _ _ hD hK rfl rfl))
 case stop=>
  rintro D c pre W _ _ h _;exact h.elim
theorem vo (f t:Nat) (hf:1≤f) (hf2:f≤256) (ht:2≤t) (mF:t≤256) (A:Option Addr) (cap:Nat) (bs:List UInt8) (hl:bs.length≤4096) (w:World) (hs:Sl w w.heap.size A (B8 bs)):
 Calls Tryz.prog 165 #[.slice A bs.length cap,.int .i64 f,.int .i64 t] w fun e W'=>∃v,e=.returned v∧Ow W' w.heap.size 5 v (B8 (dc f t bs.reverse))∧Below w.heap.size w W':=
 (callsIn_wide (n:=3)).1 (Sj Fence.wide (fun _=>trivial) rfl 3 (af2 _) f t hf hf2 ht mF A cap bs hl w hs)
end Go.Proofs.YtcjioogololnoaaGreatDoor
namespace Go.Proofs.YtcjioogololnoaaGreatDoor
open Go.RowKit Go.Shelf
attribute [local go_sem] Oper.semAt_some
theorem vp (b o c n:Nat) (x:UInt8) (Cr:n≤4096) (w:World) (hx:w.cell? ⟨b,o,none⟩=some (.int .u8 (x.toNat:Int))):
 Calls Tryz.prog 163 #[.slice (some ⟨b,o,none⟩) 1 c,.int .i64 n] w fun e W'=>∃v,e=.returned v∧Ow W' w.heap.size 5 v (B8 (List.replicate n x))∧Below w.heap.size w W':=by
 by_cases h:n=0
 · subst h;exact Cp _ _ _ _
 exact ET b o c n x (by omega) Cr w hx
theorem JK (F:Fence) (JL:F=Fence.wide) (hF:∀k,F.fn k) (oS:F.round=none) (Cs:F.depth=none) (n:Nat) (hn:3≤n) (A:Option Addr) (cap:Nat) (bs:List UInt8) (hl:bs.length≤300) (w:World) (hs:Sl w w.heap.size A (B8 bs)):
 CallsIn F n Tryz.prog 123 #[.slice A bs.length cap] w fun e W'=>e=.returned (.string ⟨(fK bs).toArray⟩)∧Below w.heap.size w W':=by
 have h1:1≤n:=by omega
 refine callsIn_of_wp_marks Tryz.func123 rfl (hF _) ?_ oS;simp only[Tryz.ntmps123,List.size_toArray,agm,List.length_nil,Nat.reduceAdd,Nat.reduceSub,Array.replicate_succ,Array.replicate_zero,List.push_toArray,List.append_toArray,agJ,agw]
 gi_wp2
 gi_loop [3,4,5,13] (fun z _ _ i=>∃k:Nat,k≤bs.length∧z=.int .i64 bs.length∧i=.int .i64 k∧∀j (h:j<bs.length),j<k→bs[j]=0) (fun _ _ _ i=>bs.length-(intOf i).toNat)
 case atStart=>exact⟨0,agu _,rfl,rfl,fun j _ h=>by omega⟩
 case round=>
  obtain⟨k,hk,rfl,rfl,hz⟩:=hrel;have Hz:=aa hz;clear hz
  by_cases Ct:∃h:k<bs.length,bs[k]=0
  · obtain⟨aL,h0⟩:=Ct
    obtain⟨b,o,rfl,_,hc⟩:=hs.at_ aL;have eX:=hc k aL;rw[h0] at eX;clear hc;have H0:=aa h0;clear h0
    gi_wp2
    refine⟨⟨k+1,by omega,rfl,by go_num,fun j hj WL=>?_⟩,by simp[intOf];omega⟩
    by_cases e:j=k
    · subst e;exact H0.out
    exact Hz.out j hj (by omega)
  have WW:lz bs=k:=U3 bs k hk Hz.out (fun h e=>Ct ⟨h,e⟩);have Hlz:=aa WW
  by_cases aL:k<bs.length
  · obtain⟨b,o,rfl,_,hc⟩:=hs.at_ aL
    have eX:=hc k aL;have dt:((bs[k].toNat:Int)!=0)=true:=by simp;exact fun e=>Ct ⟨aL,UInt8.toNat_inj.1 (by simpa using e)⟩
    clear hc WW Ct
    gi_wp2_with fail
    subst JL;refine⟨trivial,?_⟩;obtain⟨W1,kK⟩:=ab (w.alloc (.cells #[.int .u8 (49:UInt8).toNat] 5))
    have db:W1.cell? ⟨w.heap.size,0,none⟩=some (.int .u8 ((49:UInt8).toNat:Int)):=by rw[kK];exact World.cell?_alloc_new _ _ _ 0
    have Nb:W1.heap.size=w.heap.size+1:=by rw[kK];simp
    have zY:Below w.heap.size w W1:=by rw[kK];exact(af5 _ w).alloc (af2 _) _
    change CallsIn _ _ _ _ _ (w.alloc (.cells #[.int .u8 (((49:UInt8).toNat:Nat):Int)] 5)) _
    rw[←kK];refine callsIn_wide.2 ((vp _ _ _ (k) 49 (by omega) W1 db).mono ?_);rintro e w1 ⟨v,rfl,ho,aZ⟩;obtain⟨Av,cv,rfl⟩:∃Av cv,v=.slice Av (k) cv:=by obtain⟨Av,cv,e,_⟩:=ho;exact⟨Av,cv,by simpa using e⟩
    gi_wp2_with fail
    have hHk:k≤300:=by omega
    have JM:Ow w1 w.heap.size 5 (.slice Av (k) cv) (B8 (List.replicate (k) 49)):=ho.mono (by omega);have EU:Below w.heap.size w w1:=zY.trans (aZ.mono (by omega));clear ho aZ zY db kK Nb;obtain⟨B,hB⟩:=ab w1.heap.size;obtain⟨W2,il⟩:=ab (w1.alloc (.cells #[.slice Av (k) cv] 37))
    have JN:Boxed W2 B 37 (.slice Av (k) cv):=by rw[il,hB];exact Boxed.new _ _ _
    have px:W2.heap.size=B+1:=by rw[il,hB];simp
    have Mp:w.heap.size≤B:=by rw[hB];exact EU.size
    have sK:Below w.heap.size w W2:=by rw[il];exact EU.alloc (by omega) _
    have nB:Ow W2 w.heap.size 5 (.slice Av (k) cv) (B8 (List.replicate (k) 49)):=by rw[il];exact JM.alloc _
    rw[←il];clear JM EU il;have pP:=(hs.below sK).mono (show w.heap.size≤W2.heap.size by omega);refine callsIn_wide.2 ((mK _ _ bs W2 pP (by omega)).mono ?_);rintro e w3 ⟨v,rfl,cZ,bd⟩;obtain⟨A3,c3,rfl⟩:∃A3 c3,v=.slice A3 bs.reverse.length c3:=by obtain⟨Av,cv,e,_⟩:=cZ;exact⟨Av,cv,by simpa using e⟩
    have Nc:=cZ.sl;have rf:bs.reverse.length≤4096:=by simp;omega
    rw[←hB];clear hB
    gi_wp2_with fail
    have Nd:=vo 256 58 (by omega) (by omega) (by omega) (by omega) A3 c3 bs.reverse rf w3 Nc;rw[List.length_reverse] at Nd;refine callsIn_wide.2 (Nd.mono ?_);clear Nd;rintro e w4 ⟨v,rfl,lQ,dn⟩;rw[List.reverse_reverse] at lQ;obtain⟨ds,qk⟩:=ab (dc 256 58 bs);rw[←qk] at lQ;have uQ:ds.length≤8192:=by rw[qk];have:=oT 256 58 (by omega) (by omega) bs;omega
    have WX:∀d∈ds,d.toNat<58:=by rw[qk];exact vn 256 58 (by omega) (by omega) bs
    have Cu:=aa qk;clear qk;obtain⟨A4,c4,rfl⟩:∃A4 c4,v=.slice A4 ds.length c4:=by obtain⟨Av,cv,e,_⟩:=lQ;exact⟨Av,cv,by simpa using e⟩
    gi_wp2_with (gi_at_call 164;refine(zV Fence.wide hF oS _ _ _ _ _).mono ?_;rintro e w' ⟨rfl,rfl⟩)
    obtain⟨Bs,pn⟩:=ab w4.heap.size;obtain⟨W0,aM⟩:=ab (w4.alloc (.cells #[.slice A4 ds.length c4] 37))
    rw[←aM,←pn];have k3:=bd.size;have k4:=dn.size;have zZ:Below W2.heap.size W2 W0:=by rw[aM];exact(bd.trans (dn.mono k3)).alloc (by omega) _
    have b0:Boxed W0 B 37 (.slice Av (k) cv):=(zZ.block B (by omega)).trans JN;have b1:Boxed W0 Bs 37 (.slice A4 ds.length c4):=by rw[aM,pn];exact Boxed.new _ _ _
    have nO:Ow W0 w.heap.size 5 (.slice Av (k) cv) (B8 (List.replicate (k) 49)):=nB.below zZ (af2 _);have vq:W0.heap.size=Bs+1:=by rw[aM,pn];simp
    have Nf:Sl W0 Bs A4 (B8 ds):=by rw[aM,pn];exact lQ.sl.alloc (af2 _) _
    obtain⟨gA,WY,WZ,hgA⟩:=lQ.rowAt (by omega);rw[B8_length] at hgA;have acL:B<gA:=by omega
    have Ng:gA<W0.heap.size:=by omega
    clear WY WZ;have Cv:Below w.heap.size w W0:=sK.trans (zZ.mono (by omega));have acM:B<Bs:=by omega
    have x8:∀g,az (.slice Av (k) cv)=some g→g≠gA:=fun g hg=>by have:=nB.row g hg;omega
    clear zZ JN nB aM pn sK lQ dn bd cZ Nc k3 k4 px
    refine wpIn_rangeFunc_ownG (a₁:=?fr1) oS h1 (gf:=195) (lb:=#[.pointer (some ⟨Bs,0,none⟩)]) rfl (hF _) (enters_of Tryz.func195 (by kernel_rfl) rfl)
     (nK Fence.wide hF oS (n-1) (by omega) Bs Bs (Keep3 w.heap.size Bs gA) (Keep3.refl _ _ _) Keep3.trans (fun h=>h.1.2) A4 c4 ds (by omega) (α:={x:Nat×UInt8 // x.2.toNat<58}) (·.1) (fun j h=>⟨⟨(j,ds[j]),WX _ (agl h)⟩,rfl⟩) W0 (fun W h=>⟨⟨h.mono (by omega),h.block Bs (by omega)⟩,h.block gA Ng⟩) b1.cell (fun _ h=>Nf.keep3 (by rw[B8_length];exact hgA) h))
     Keep3.trans (Keep3.b (by omega) (by omega) Ng) (af5 _ _) (fun _=>rfl)
     (fun pre W=>(∃v,Boxed W B 37 v∧Ow W w.heap.size 5 v (B8 (List.replicate (k) 49++pre.map fun x=>dK x.1.2))∧(∀g,az v=some g→g≠gA)∧Boxed W Bs 37 (.slice A4 ds.length c4))∧Below w.heap.size W0 W)
     (fun _ _ _=>False)
     (OwnFrom.and (Go.Own.from (fun s A B row hs hg hr=>let ⟨v,hv,ho,dt,hq⟩:=hs;⟨v,dU hv hg hr,ho.others hg hr,dt,dU hq hg hr⟩) _) (ownFrom_below (by omega) (by omega)))
     (fun _ _ _ _ _ hs _ _=>hs)
     ⟨⟨_,b0,by simpa using nO,x8,b1⟩,af5 _ _⟩
     ?assign ?body ?done ?stop
    case assign=>
     intro l x W K hK
     gi_wp2
     exact hK
    case stop=>
     rintro D c pre W _ _ h _;exact h.elim
    case done=>
     rintro D ys W hD tI ⟨⟨v,h2,ho,_,_⟩,hB⟩ hK;have c2:=h2.cell
     have nP:(ys.map fun x=>dK x.1.2)=ds.reverse.map dK:=by
      rw[←sG ds,←tI];simp[Function.comp_def]
     rw[nP] at ho;clear tI nP;obtain⟨r,hr⟩:∃r,r=List.replicate (k) 49++ds.reverse.map dK:=⟨_,rfl⟩;have So:r=fK bs:=by rw[hr,fK,Hlz.out,←Cu.out]
     rw[←hr] at ho;clear hr;obtain⟨Ar,cr,rfl⟩:∃Ar cr,v=.slice Ar r.length cr:=by obtain⟨A',c',e,_⟩:=ho;exact⟨A',c',by simpa using e⟩
     have mJ:=du (P:=Tryz.prog) W 37 9 5 (by kernel_rfl) (by kernel_rfl) (by kernel_rfl) W.heap.size Ar cr r ho.sl;have Hrb:=aa So;clear So
     gi_wp2
     refine⟨by simp,.inl ⟨_,_,rfl,run_takeDeferred hK,?_⟩⟩;refine⟨_,results_tmp rfl _ _ _,by rw[←Hrb.out];rfl,?_⟩;exact Cv.trans (hB.trans (belowK_b (w:=W0) (by omega) W D _ _ hD hK rfl rfl))
    case body=>
     clear Nf b0 b1 nO x8 Cv hs;rintro l pre ⟨x,hx⟩ W ⟨⟨v,h2,ho,dt,hq⟩,kO⟩ po;have c2:=h2.cell;have aaw:(x.2.toNat:Int)<58:=by omega
     obtain⟨y,hy⟩:=ab (dK x.2);have lV:∀h,(⟨aB.toArray⟩:ByteArray)[x.2.toNat]'h=y:=fun h=>by rw[hy];exact q7 x.2 h
     simp only[aB] at lV;have Hy:=aa hy;clear hy;obtain⟨ys,tI⟩:∃ys,ys=List.replicate (k) 49++pre.map (fun x:{x:Nat×UInt8 // x.2.toNat<58}=>dK x.1.2):=⟨_,rfl⟩;rw[←tI] at ho;have hyl:ys.length≤16384:=by rw[tI];simp;omega
     obtain⟨Ay,cy,rfl⟩:∃Ay cy,v=.slice Ay ys.length cy:=by obtain⟨Ay,cy,e,_⟩:=ho;exact⟨Ay,cy,by simpa using e⟩
     have Hys:=aa tI;clear tI;have bW:Tryz.prog.follows .mixedOrders=true:=by kernel_rfl
     have Nh:=ho.row_ne_box h2 (by decide);have aF:=ho.row;have Ni:=ho.row_ne_box hq (by decide)
     gi_wp2
     refine fZ [(0,1),(1,0),(2,0),(3,2),(4,2),(5,2)] 4 (fun _=>trivial) bW (by kernel_rfl) (by intro c a d v w h;cases d<;>exact h) ?_
     repeat ((first|refine ag rfl fun K hK=>?_|refine af rfl fun K hK=>?_);go_simp;(first|refine hK _ ?_|(simp only[IntWalk.iteOmega];go_simp;refine hK _ ?_)|(go_bits;go_simp;refine hK _ ?_));clear hK K;try go_bits)
     refine cR rfl rfl (fun K hK=>?_)
     gi_wp2
     refine⟨.inr (bM _ _),?_⟩;refine cR rfl rfl (fun K hK=>?_);refine ke (F:=Fence.wide.inRound l) (v:=.slice Ay ys.length cy) (m:=1) (c:=1) (fun _=>trivial) jf (.tmp 32) (.tmp 35) rfl rfl (ho.alloc _).drew rfl (Sl.one W.drew _ _).drew rfl ?_ ?_ ?_ ?_ ?_
     · intro u hu;simp at hu;subst hu;rfl
     · simp[maxLen];omega
     · simp;omega
     · have:=kO.size;simp;omega
     intro v' w1 jc jd jQ;have Xa:w.heap.size≤B:=Mp;have Nj:az (.slice Ay ys.length cy)≠some Bs:=fun e=>Ni Bs e rfl
     have acN:=kO.size;have Cn:=Boxed.kept (iw (h2.alloc _)) jd (by intro e;exact Nh B e.symm rfl);have c2':=Cn.cell;have f2':=Cn.frozen;have Xb:∀g,az (.slice Ay ys.length cy)=some g→w.heap.size≤g:=fun g hg=>(aF g hg).1
     have k1:KeepsOthers W w1:=(KeepsOthers.alloc W _).trans ((KeepsOthers.drew _).trans ((ho.alloc _).drew.keepsOthers jd rfl));have bl:Below w.heap.size W w1:=((af5 _ W).alloc (by omega) _).drew.grown jd (by simp;omega) Xb;obtain⟨JI,JJ,rfl⟩:∃JI JJ,v'=.slice JI (ys.length+1) JJ:=by obtain⟨A',c',e,_⟩:=jc;exact⟨A',c',by simpa using e⟩
     refine hK _ _ ⟨.inl (by decide),?_⟩;clear hK K;refine cR rfl rfl (fun K hK=>?_)
     gi_wp2
     refine⟨.inl (by decide),ak ?_⟩
     have hnB:∀g,az (.slice JI (ys.length+1) JJ)=some g→B≠g:=fun g hg e=>by
      subst e;rcases jQ with e|e
      · exact Nh B (e▸hg) rfl
      rw[e] at hg;simp at hg;have:=h2.lt;omega
     gi_wp2
     have hbk:Below w.heap.size W (w1.setCell ⟨B,0,none⟩ (.slice JI (ys.length+1) JJ)):=bl.setCell (p:=⟨B,0,none⟩) Xa _;refine⟨(k1.trans (KeepsOthers.setCell _ _ _)).from _,⟨⟨hbk,?_⟩,?_⟩,⟨_,Cn.set _,?_,?_,?_⟩,kO.trans hbk⟩
     · exact(ago w1 ⟨B,0,none⟩ _ Bs (by show Bs≠B;omega)).trans ((jd.block Bs (by simp;omega) (fun e=>Nj e.symm)).trans (Below.heap_alloc W _ Bs (by omega)))
     · exact(ago w1 ⟨B,0,none⟩ _ gA (by show gA≠B;omega)).trans ((jd.block gA (by simp;omega) (fun e=>dt gA e.symm rfl)).trans (Below.heap_alloc W _ gA (by omega)))
     · have e:B8 ys++[Value.int .u8 (y.toNat:Int)]=B8 (List.replicate (k) 49++(pre++[(⟨x,hx⟩:{x:Nat×UInt8 // x.2.toNat<58})]).map (fun x:{x:Nat×UInt8 // x.2.toNat<58}=>dK x.1.2)):=by
        rw[List.map_append,←agL,←Hys.out,bu,Hy.out];rfl
       rw[←e];exact jc.setCell (fun g hg=>hnB g hg) _
     · intro g hg e
       subst e;rcases jQ with e|e
       · exact dt g (e▸hg) rfl
       rw[e] at hg;simp at hg;omega
     exact(Boxed.kept (iw (hq.alloc _)) jd (fun e=>Nj e.symm)).other (by omega) _
  have hke:k=bs.length:=by omega
  subst hke;clear Ct
  gi_wp2_with fail
  subst JL;refine⟨trivial,?_⟩;obtain⟨W1,kK⟩:=ab (w.alloc (.cells #[.int .u8 (49:UInt8).toNat] 5))
  have db:W1.cell? ⟨w.heap.size,0,none⟩=some (.int .u8 ((49:UInt8).toNat:Int)):=by rw[kK];exact World.cell?_alloc_new _ _ _ 0
  have Nb:W1.heap.size=w.heap.size+1:=by rw[kK];simp
  have zY:Below w.heap.size w W1:=by rw[kK];exact(af5 _ w).alloc (af2 _) _
  change CallsIn _ _ _ _ _ (w.alloc (.cells #[.int .u8 (((49:UInt8).toNat:Nat):Int)] 5)) _
  rw[←kK];refine callsIn_wide.2 ((vp _ _ _ (bs.length) 49 (by omega) W1 db).mono ?_);rintro e w1 ⟨v,rfl,ho,aZ⟩;obtain⟨Av,cv,rfl⟩:∃Av cv,v=.slice Av (bs.length) cv:=by obtain⟨Av,cv,e,_⟩:=ho;exact⟨Av,cv,by simpa using e⟩
  gi_wp2_with fail
  have JM:Ow w1 w.heap.size 5 (.slice Av (bs.length) cv) (B8 (List.replicate (bs.length) 49)):=ho.mono (by omega);have EU:Below w.heap.size w w1:=zY.trans (aZ.mono (by omega));clear ho aZ zY db kK Nb;obtain⟨B,hB⟩:=ab w1.heap.size;obtain⟨W2,il⟩:=ab (w1.alloc (.cells #[.slice Av (bs.length) cv] 37))
  have JN:Boxed W2 B 37 (.slice Av (bs.length) cv):=by rw[il,hB];exact Boxed.new _ _ _
  have px:W2.heap.size=B+1:=by rw[il,hB];simp
  have Mp:w.heap.size≤B:=by rw[hB];exact EU.size
  have sK:Below w.heap.size w W2:=by rw[il];exact EU.alloc (by omega) _
  have nB:Ow W2 w.heap.size 5 (.slice Av (bs.length) cv) (B8 (List.replicate (bs.length) 49)):=by rw[il];exact JM.alloc _
  rw[←il];clear JM EU il;have pP:=(hs.below sK).mono (show w.heap.size≤W2.heap.size by omega);refine callsIn_wide.2 ((mK _ _ bs W2 pP (by omega)).mono ?_);rintro e w3 ⟨v,rfl,cZ,bd⟩;obtain⟨A3,c3,rfl⟩:∃A3 c3,v=.slice A3 bs.reverse.length c3:=by obtain⟨Av,cv,e,_⟩:=cZ;exact⟨Av,cv,by simpa using e⟩
  have Nc:=cZ.sl;have rf:bs.reverse.length≤4096:=by simp;omega
  rw[←hB];clear hB
  gi_wp2_with fail
  have Nd:=vo 256 58 (by omega) (by omega) (by omega) (by omega) A3 c3 bs.reverse rf w3 Nc;rw[List.length_reverse] at Nd;refine callsIn_wide.2 (Nd.mono ?_);clear Nd;rintro e w4 ⟨v,rfl,lQ,dn⟩;rw[List.reverse_reverse] at lQ;obtain⟨ds,qk⟩:=ab (dc 256 58 bs);rw[←qk] at lQ;have uQ:ds.length≤8192:=by rw[qk];have:=oT 256 58 (by omega) (by omega) bs;omega
  have WX:∀d∈ds,d.toNat<58:=by rw[qk];exact vn 256 58 (by omega) (by omega) bs
  have Cu:=aa qk;clear qk;obtain⟨A4,c4,rfl⟩:∃A4 c4,v=.slice A4 ds.length c4:=by obtain⟨Av,cv,e,_⟩:=lQ;exact⟨Av,cv,by simpa using e⟩
  gi_wp2_with (gi_at_call 164;refine(zV Fence.wide hF oS _ _ _ _ _).mono ?_;rintro e w' ⟨rfl,rfl⟩)
  obtain⟨Bs,pn⟩:=ab w4.heap.size;obtain⟨W0,aM⟩:=ab (w4.alloc (.cells #[.slice A4 ds.length c4] 37))
  rw[←aM,←pn];have k3:=bd.size;have k4:=dn.size;have zZ:Below W2.heap.size W2 W0:=by rw[aM];exact(bd.trans (dn.mono k3)).alloc (by omega) _
  have b0:Boxed W0 B 37 (.slice Av (bs.length) cv):=(zZ.block B (by omega)).trans JN;have b1:Boxed W0 Bs 37 (.slice A4 ds.length c4):=by rw[aM,pn];exact Boxed.new _ _ _
  have nO:Ow W0 w.heap.size 5 (.slice Av (bs.length) cv) (B8 (List.replicate (bs.length) 49)):=nB.below zZ (af2 _);have vq:W0.heap.size=Bs+1:=by rw[aM,pn];simp
  have Nf:Sl W0 Bs A4 (B8 ds):=by rw[aM,pn];exact lQ.sl.alloc (af2 _) _
  obtain⟨gA,WY,WZ,hgA⟩:=lQ.rowAt (by omega);rw[B8_length] at hgA;have acL:B<gA:=by omega
  have Ng:gA<W0.heap.size:=by omega
  clear WY WZ;have Cv:Below w.heap.size w W0:=sK.trans (zZ.mono (by omega));have acM:B<Bs:=by omega
  have x8:∀g,az (.slice Av (bs.length) cv)=some g→g≠gA:=fun g hg=>by have:=nB.row g hg;omega
  clear zZ JN nB aM pn sK lQ dn bd cZ Nc k3 k4 px
  refine wpIn_rangeFunc_ownG (a₁:=?fr2) oS h1 (gf:=195) (lb:=#[.pointer (some ⟨Bs,0,none⟩)]) rfl (hF _) (enters_of Tryz.func195 (by kernel_rfl) rfl)
   (nK Fence.wide hF oS (n-1) (by omega) Bs Bs (Keep3 w.heap.size Bs gA) (Keep3.refl _ _ _) Keep3.trans (fun h=>h.1.2) A4 c4 ds (by omega) (α:={x:Nat×UInt8 // x.2.toNat<58}) (·.1) (fun j h=>⟨⟨(j,ds[j]),WX _ (agl h)⟩,rfl⟩) W0 (fun W h=>⟨⟨h.mono (by omega),h.block Bs (by omega)⟩,h.block gA Ng⟩) b1.cell (fun _ h=>Nf.keep3 (by rw[B8_length];exact hgA) h))
   Keep3.trans (Keep3.b (by omega) (by omega) Ng) (af5 _ _) (fun _=>rfl)
   (fun pre W=>(∃v,Boxed W B 37 v∧Ow W w.heap.size 5 v (B8 (List.replicate (bs.length) 49++pre.map fun x=>dK x.1.2))∧(∀g,az v=some g→g≠gA)∧Boxed W Bs 37 (.slice A4 ds.length c4))∧Below w.heap.size W0 W)
   (fun _ _ _=>False)
   (OwnFrom.and (Go.Own.from (fun s A B row hs hg hr=>let ⟨v,hv,ho,dt,hq⟩:=hs;⟨v,dU hv hg hr,ho.others hg hr,dt,dU hq hg hr⟩) _) (ownFrom_below (by omega) (by omega)))
   (fun _ _ _ _ _ hs _ _=>hs)
   ⟨⟨_,b0,by simpa using nO,x8,b1⟩,af5 _ _⟩
   ?assign ?body ?done ?stop
  case assign=>
   intro l x W K hK
   gi_wp2
   exact hK
  case stop=>
   rintro D c pre W _ _ h _;exact h.elim
  case done=>
   rintro D ys W hD tI ⟨⟨v,h2,ho,_,_⟩,hB⟩ hK;have c2:=h2.cell
   have nP:(ys.map fun x=>dK x.1.2)=ds.reverse.map dK:=by
    rw[←sG ds,←tI];simp[Function.comp_def]
   rw[nP] at ho;clear tI nP;obtain⟨r,hr⟩:∃r,r=List.replicate (bs.length) 49++ds.reverse.map dK:=⟨_,rfl⟩;have So:r=fK bs:=by rw[hr,fK,Hlz.out,←Cu.out]
   rw[←hr] at ho;clear hr;obtain⟨Ar,cr,rfl⟩:∃Ar cr,v=.slice Ar r.length cr:=by obtain⟨A',c',e,_⟩:=ho;exact⟨A',c',by simpa using e⟩
   have mJ:=du (P:=Tryz.prog) W 37 9 5 (by kernel_rfl) (by kernel_rfl) (by kernel_rfl) W.heap.size Ar cr r ho.sl;have Hrb:=aa So;clear So
   gi_wp2
   refine⟨by simp,.inl ⟨_,_,rfl,run_takeDeferred hK,?_⟩⟩;refine⟨_,results_tmp rfl _ _ _,by rw[←Hrb.out];rfl,?_⟩;exact Cv.trans (hB.trans (belowK_b (w:=W0) (by omega) W D _ _ hD hK rfl rfl))
  case body=>
   clear Nf b0 b1 nO x8 Cv hs;rintro l pre ⟨x,hx⟩ W ⟨⟨v,h2,ho,dt,hq⟩,kO⟩ po;have c2:=h2.cell;have aaw:(x.2.toNat:Int)<58:=by omega
   obtain⟨y,hy⟩:=ab (dK x.2);have lV:∀h,(⟨aB.toArray⟩:ByteArray)[x.2.toNat]'h=y:=fun h=>by rw[hy];exact q7 x.2 h
   simp only[aB] at lV;have Hy:=aa hy;clear hy;obtain⟨ys,tI⟩:∃ys,ys=List.replicate (bs.length) 49++pre.map (fun x:{x:Nat×UInt8 // x.2.toNat<58}=>dK x.1.2):=⟨_,rfl⟩;rw[←tI] at ho;have hyl:ys.length≤16384:=by rw[tI];simp;omega
   obtain⟨Ay,cy,rfl⟩:∃Ay cy,v=.slice Ay ys.length cy:=by obtain⟨Ay,cy,e,_⟩:=ho;exact⟨Ay,cy,by simpa using e⟩
   have Hys:=aa tI;clear tI;have bW:Tryz.prog.follows .mixedOrders=true:=by kernel_rfl
   have Nh:=ho.row_ne_box h2 (by decide);have aF:=ho.row;have Ni:=ho.row_ne_box hq (by decide)
   gi_wp2
   refine fZ [(0,1),(1,0),(2,0),(3,2),(4,2),(5,2)] 4 (fun _=>trivial) bW (by kernel_rfl) (by intro c a d v w h;cases d<;>exact h) ?_
   repeat ((first|refine ag rfl fun K hK=>?_|refine af rfl fun K hK=>?_);go_simp;(first|refine hK _ ?_|(simp only[IntWalk.iteOmega];go_simp;refine hK _ ?_)|(go_bits;go_simp;refine hK _ ?_));clear hK K;try go_bits)
   refine cR rfl rfl (fun K hK=>?_)
   gi_wp2
   refine⟨.inr (bM _ _),?_⟩;refine cR rfl rfl (fun K hK=>?_);refine ke (F:=Fence.wide.inRound l) (v:=.slice Ay ys.length cy) (m:=1) (c:=1) (fun _=>trivial) jf (.tmp 32) (.tmp 35) rfl rfl (ho.alloc _).drew rfl (Sl.one W.drew _ _).drew rfl ?_ ?_ ?_ ?_ ?_
   · intro u hu;simp at hu;subst hu;rfl
   · simp[maxLen];omega
   · simp;omega
   · have:=kO.size;simp;omega
   intro v' w1 jc jd jQ;have Xa:w.heap.size≤B:=Mp;have Nj:az (.slice Ay ys.length cy)≠some Bs:=fun e=>Ni Bs e rfl
   have acN:=kO.size;have Cn:=Boxed.kept (iw (h2.alloc _)) jd (by intro e;exact Nh B e.symm rfl);have c2':=Cn.cell;have f2':=Cn.frozen;have Xb:∀g,az (.slice Ay ys.length cy)=some g→w.heap.size≤g:=fun g hg=>(aF g hg).1
   have k1:KeepsOthers W w1:=(KeepsOthers.alloc W _).trans ((KeepsOthers.drew _).trans ((ho.alloc _).drew.keepsOthers jd rfl));have bl:Below w.heap.size W w1:=((af5 _ W).alloc (by omega) _).drew.grown jd (by simp;omega) Xb;obtain⟨JI,JJ,rfl⟩:∃JI JJ,v'=.slice JI (ys.length+1) JJ:=by obtain⟨A',c',e,_⟩:=jc;exact⟨A',c',by simpa using e⟩
   refine hK _ _ ⟨.inl (by decide),?_⟩;clear hK K;refine cR rfl rfl (fun K hK=>?_)
   gi_wp2
   refine⟨.inl (by decide),ak ?_⟩
   have hnB:∀g,az (.slice JI (ys.length+1) JJ)=some g→B≠g:=fun g hg e=>by
    subst e;rcases jQ with e|e
    · exact Nh B (e▸hg) rfl
    rw[e] at hg;simp at hg;have:=h2.lt;omega
   gi_wp2
   have hbk:Below w.heap.size W (w1.setCell ⟨B,0,none⟩ (.slice JI (ys.length+1) JJ)):=bl.setCell (p:=⟨B,0,none⟩) Xa _;refine⟨(k1.trans (KeepsOthers.setCell _ _ _)).from _,⟨⟨hbk,?_⟩,?_⟩,⟨_,Cn.set _,?_,?_,?_⟩,kO.trans hbk⟩
   · exact(ago w1 ⟨B,0,none⟩ _ Bs (by show Bs≠B;omega)).trans ((jd.block Bs (by simp;omega) (fun e=>Nj e.symm)).trans (Below.heap_alloc W _ Bs (by omega)))
   · exact(ago w1 ⟨B,0,none⟩ _ gA (by show gA≠B;omega)).trans ((jd.block gA (by simp;omega) (fun e=>dt gA e.symm rfl)).trans (Below.heap_alloc W _ gA (by omega)))
   · have e:B8 ys++[Value.int .u8 (y.toNat:Int)]=B8 (List.replicate (bs.length) 49++(pre++[(⟨x,hx⟩:{x:Nat×UInt8 // x.2.toNat<58})]).map (fun x:{x:Nat×UInt8 // x.2.toNat<58}=>dK x.1.2)):=by
      rw[List.map_append,←agL,←Hys.out,bu,Hy.out];rfl
     rw[←e];exact jc.setCell (fun g hg=>hnB g hg) _
   · intro g hg e
     subst e;rcases jQ with e|e
     · exact dt g (e▸hg) rfl
     rw[e] at hg;simp at hg;omega
   exact(Boxed.kept (iw (hq.alloc _)) jd (fun e=>Nj e.symm)).other (by omega) _
theorem EV (A:Option Addr) (cap:Nat) (bs:List UInt8) (hl:bs.length≤300) (w:World) (hs:Sl w w.heap.size A (B8 bs)):
 Calls Tryz.prog 123 #[.slice A bs.length cap] w fun e W'=>e=.returned (.string ⟨(fK bs).toArray⟩)∧Below w.heap.size w W':=
 (callsIn_wide (n:=3)).1 (JK Fence.wide rfl (fun _=>trivial) rfl rfl 3 (af2 _) A cap bs hl w hs)
end Go.Proofs.YtcjioogololnoaaGreatDoor
namespace Go.Proofs.YtcjioogololnoaaGreatDoor
theorem NN (f t c x:Nat) (hf:1≤f) (ht:1≤t) (hc:c<f) (hx:x<t):(c+x*f)/t<f:=by
 rw[Nat.div_lt_iff_lt_mul (by omega)];have h1:x*f≤(t-1)*f:=Nat.mul_le_mul_right f (by omega);have h2:(t-1)*f+f=t*f:=by rw[←Nat.succ_mul];congr 1;omega
 have h3:f*t=t*f:=Nat.mul_comm _ _;omega
theorem l5 (f t:Nat) (hf:1≤f) (ht:1≤t):∀(xs:List UInt8) (c:Nat),(∀x∈xs,x.toNat<t)→c<f→(nA f t xs c).2<f
 |[],c,_,h=>h
 |x::xs,c,hx,h=>by
  simp only[nA];exact l5 f t hf ht xs _ (fun y hy=>hx y (by simp[hy])) (NN f t c x.toNat hf ht h (hx x (by simp)))
theorem E8 (t:Nat) (ht:2≤t) (c:Nat) (hc:c<t):(aU t c c).length≤1:=by
 by_cases h:c=0
 · subst h;simp[aU]
 rw[dx t c ht (by omega),Nat.div_eq_of_lt hc];simp[aU]
theorem mN (f t:Nat) (hf:1≤f) (hft:f≤t) (ht:2≤t) (mF:t≤256) (l:List UInt8) (hl:∀d∈l,d.toNat<f):(dc f t l).length≤l.length:=by
 induction hn:l.length generalizing l with
 |zero=>rw[List.length_eq_zero_iff.1 hn];simp[dc]
 |succ n ih=>
  rcases List.eq_nil_or_concat l with rfl|⟨l',d0,rfl⟩
  · simp[dc]
  rw[List.concat_eq_append] at hl hn⊢;have ih:=ih l' (fun d hd=>hl d (by simp[hd])) (by simpa using hn);rw[kh,dj,agc,kY];have h1:=l5 f t hf (by omega) (dc f t l') d0.toNat (vn f t (by omega) mF l') (hl d0 (by simp));have h2:=E8 t ht _ (show (nA f t (dc f t l') d0.toNat).2<t by omega);omega
def bp (f:Nat) (l:List UInt8):Nat:=l.foldl (fun v d=>v*f+d.toNat) 0
theorem ft (f:Nat) (l:List UInt8) (d:UInt8):bp f (l++[d])=bp f l*f+d.toNat:=by simp[bp]
theorem Bg (f t V c:Nat) (ht:0<t):(V*f+c)%t=(c+V%t*f)%t∧(V*f+c)/t=V/t*f+(c+V%t*f)/t:=by
 have h:V*f+c=t*(V/t*f)+(c+V%t*f):=by
  have h1:=Nat.div_add_mod V t;have h2:(t*(V/t)+V%t)*f=V*f:=by rw[h1]
  rw[Nat.add_mul,Nat.mul_assoc] at h2;omega
 rw[h];exact⟨by rw[Nat.mul_add_mod],by rw[Nat.mul_add_div ht]⟩
theorem DD (f t:Nat) (hf:1≤f) (ht:2≤t) (mF:t≤256):∀(n V c:Nat),V≤n→dj f t (aU t V V) c=aU t (V*f+c) (V*f+c):=by
 intro n
 induction n with
 |zero=>
  intro V c hV;obtain rfl:V=0:=by omega
  simp[dj,aU,nA]
 |succ n ih=>
  intro V c hV
  by_cases h0:V=0
  · subst h0;simp[dj,aU,nA]
  have hp:0<V*f+c:=by have:0<V*f:=Nat.mul_pos (by omega) (by omega);omega
  rw[dx t V ht (by omega),dx t (V*f+c) ht hp];have aL:V/t<V:=Nat.div_lt_self (by omega) (by omega);have hm:=Nat.mod_lt V (show 0<t by omega);have hx:(UInt8.ofNat (V%t)).toNat=V%t:=by rw[agp,agA (by omega)]
  obtain⟨h1,h2⟩:=Bg f t V c (by omega);have:=ih (V/t) ((c+V%t*f)/t) (by omega);unfold dj at this⊢;simp only[nA,hx,agw];rw[this,←h2,←h1]
theorem eP (f t:Nat) (hf:1≤f) (ht:2≤t) (mF:t≤256) (l:List UInt8):dc f t l=aU t (bp f l) (bp f l):=by
 induction hn:l.length generalizing l with
 |zero=>rw[List.length_eq_zero_iff.1 hn];simp[dc,bp,aU]
 |succ n ih=>
  rcases List.eq_nil_or_concat l with rfl|⟨l',d0,rfl⟩
  · simp at hn
  rw[List.concat_eq_append] at hn⊢;rw[kh,ft,ih l' (by simpa using hn),DD f t hf ht mF _ _ _ (af2 _)]
theorem qa (t:Nat) (ht:2≤t) (l:List UInt8) (hl:∀d∈l,d.toNat<t) (h0:∀d,l.head?=some d→d.toNat≠0):aU t (bp t l) (bp t l)=l.reverse∧(l≠[]→0<bp t l):=by
 induction hn:l.length generalizing l with
 |zero=>rw[List.length_eq_zero_iff.1 hn];simp[bp,aU]
 |succ n ih=>
  rcases List.eq_nil_or_concat l with rfl|⟨l',d0,rfl⟩
  · simp at hn
  rw[List.concat_eq_append] at hn hl h0⊢;have hd:=hl d0 (by simp)
  by_cases he:l'=[]
  · subst he
    have Kp:=h0 d0 (by simp);have hv:bp t ([]++[d0])=d0.toNat:=by simp[bp]
    refine⟨?_,fun _=>by rw[hv];omega⟩;rw[hv,dx t _ ht (by omega),Nat.div_eq_of_lt hd,agA hd];simp[aU]
  have hp:=ih l' (fun d h=>hl d (by simp[h])) (fun d h=>h0 d (by cases l' with|nil=>simp at he|cons x xs=>simpa using h)) (by simpa using hn);have od:=hp.2 he;have hm:0<bp t l'*t:=Nat.mul_pos od (by omega);rw[ft];refine⟨?_,fun _=>by omega⟩
  rw[dx t _ ht (by omega),show (bp t l'*t+d0.toNat)%t=d0.toNat by rw[Nat.mul_add_mod_self_right,agA hd],
   show (bp t l'*t+d0.toNat)/t=bp t l' by rw[Nat.mul_comm,Nat.mul_add_div (by omega),Nat.div_eq_of_lt hd];rfl,hp.1]
  simp
theorem lK (t:Nat) (ht:2≤t) (mF:t≤256):∀(n V:Nat),V≤n→bp t (aU t V V).reverse=V:=by
 intro n
 induction n with
 |zero=>
  intro V hV;obtain rfl:V=0:=by omega
  rfl
 |succ n ih=>
  intro V hV
  by_cases h0:V=0
  · subst h0;rfl
  have aL:V/t<V:=Nat.div_lt_self (by omega) (by omega);have hm:=Nat.mod_lt V (show 0<t by omega);rw[dx t V ht (by omega),List.reverse_cons,ft,ih (V/t) (by omega),agp,agA (show V%t<2^8 by omega)];have:=Nat.div_add_mod V t;rw[Nat.mul_comm];exact this
theorem xc (t:Nat) (ht:2≤t) (mF:t≤256):∀(n V:Nat),V≤n→∀d,(aU t V V).reverse.head?=some d→d.toNat≠0:=by
 intro n
 induction n with
 |zero=>
  intro V hV d hd;obtain rfl:V=0:=by omega
  simp[aU] at hd
 |succ n ih=>
  intro V hV d hd
  by_cases h0:V=0
  · subst h0;simp[aU] at hd
  have aL:V/t<V:=Nat.div_lt_self (by omega) (by omega);have hm:=Nat.mod_lt V (show 0<t by omega);rw[dx t V ht (by omega),List.reverse_cons] at hd
  by_cases hq:V/t=0
  · rw[hq] at hd
    simp only[aU,List.reverse_nil,agJ,List.head?_cons,Option.some.injEq] at hd;have hVm:V%t=V:=agA ((Nat.div_eq_zero_iff_lt (by omega)).1 hq);rw[←hd,agp,agA (by omega)];omega
  refine ih (V/t) (by omega) d ?_
  cases abx:(aU t (V/t) (V/t)).reverse with
  |nil=>
   have:=congrArg List.length abx;rw[dx t _ ht (Nat.pos_of_ne_zero hq)] at this;simp at this
  |cons x xs=>rw[abx] at hd;simpa using hd
theorem lL (t:Nat) (ht:2≤t) (mF:t≤256) (V:Nat):∀d∈aU t V V,d.toNat<t:=sI t (by omega) mF V V
end Go.Proofs.YtcjioogololnoaaGreatDoor
