/- Of any text: the program's descriptors and the reference's are read and written alike (DescParses). No condition. -/
import Derived.Test.YtcjioogololnoaaGreatDoorU1
import Derived.WalkKit
import Derived.Test.YtcjioogololnoaaGreatDoorU3
import Derived.Test.YtcjioogololnoaaGreatDoorRows
import Derived.WalkSpells
import Derived.WalkLawsBesides
import Derived.Lib.Hide
import Derived.Test.YtcjioogololnoaaGreatDoorU4
import Derived.BigQuiet
import Derived.Shelf.RegionOpen
import Derived.Deep.QuietTactic
import Derived.StillTailTactics
import Derived.Deep.RegionHeld3
import Derived.Deep.RegionWith
import Derived.Deep.WholeRow
set_option maxRecDepth 1000000
set_option maxHeartbeats 16000000
set_option linter.unusedVariables false
set_option linter.unusedSimpArgs false
namespace Go.Proofs.YtcjioogololnoaaGreatDoor
open Go
theorem j6 (a b:Nat) (ha:a<4294967296) (hb:b<4294967296):bits .or .u32 (a:Int) (b:Int)=((a ||| b:Nat):Int):=u32_or_nat a b ha hb
theorem vr (x:BitVec 32) (n:Nat) (h0:0<n) (h1:n<32):
 bits .or .u32 ((x.toNat:Int)*2^n%4294967296) ((x.toNat:Int)/2^(32-n))=((x.rotateLeft n).toNat:Int):=by
 have hx:=x.isLt;have e1:((x.toNat:Int)*2^n%4294967296)=((x.toNat*2^n%4294967296:Nat):Int):=by simp
 have e2:((x.toNat:Int)/2^(32-n))=((x.toNat/2^(32-n):Nat):Int):=by simp
 rw[e1,e2,j6 _ _ (Nat.mod_lt _ (by omega)) (Nat.lt_of_le_of_lt (Nat.div_le_self _ _) hx)];congr 1;rw[BitVec.rotateLeft_def,BitVec.toNat_or,BitVec.toNat_shiftLeft,BitVec.toNat_ushiftRight,agA h1,Nat.shiftLeft_eq,Nat.shiftRight_eq_div_pow]
theorem eZ (x:BitVec 32) (n:Nat) (h0:0<n) (h1:n<32):x.rotateLeft (32-n)=x.rotateRight n:=by
 rw[BitVec.rotateLeft_def,BitVec.rotateRight_def,agA h1,agA (by omega),show 32-(32-n)=n by omega,BitVec.or_comm]
theorem Cw (n:Nat) (h0:0<n) (h1:n<32):bits .and .u64 (IntKind.u64.wrap (-(n:Int))) 31=((32-n:Nat):Int):=by
 have:∀n:Fin 32,0<n.val→bits .and .u64 (IntKind.u64.wrap (-(n.val:Int))) 31=((32-n.val:Nat):Int):=by decide
 exact this ⟨n,h1⟩ h0
def eK (xs:List (BitVec 32)):List Value:=xs.map fun x=>.int .u32 (x.toNat:Int)
@[simp] theorem W32_length (xs:List (BitVec 32)):(eK xs).length=xs.length:=by simp[eK]
theorem Cx (xs:List (BitVec 32)) (k:Nat):(eK xs)[k]?=xs[k]?.map fun x=>.int .u32 (x.toNat:Int):=by simp[eK]
def EW (x:BitVec 32):BitVec 32:=x.rotateRight 7 ^^^ x.rotateRight 18 ^^^ (x>>>3)
def EX (x:BitVec 32):BitVec 32:=x.rotateRight 17 ^^^ x.rotateRight 19 ^^^ (x>>>10)
def Nk (x:BitVec 32):BitVec 32:=x.rotateRight 2 ^^^ x.rotateRight 13 ^^^ x.rotateRight 22
def JO (x:BitVec 32):BitVec 32:=x.rotateRight 6 ^^^ x.rotateRight 11 ^^^ x.rotateRight 25
def eT (b:List UInt8) (i:Nat):BitVec 32:=
 (b.getD (4*i) 0).toBitVec.setWidth 32<<<24 ||| (b.getD (4*i+1) 0).toBitVec.setWidth 32<<<16 ||| (b.getD (4*i+2) 0).toBitVec.setWidth 32<<<8 ||| (b.getD (4*i+3) 0).toBitVec.setWidth 32
def wd (b:List UInt8) (k:Nat):BitVec 32:=
 if k<16 then eT b k else wd b (k-16)+wd b (k-7)+EW (wd b (k-15))+EX (wd b (k-2))
termination_by k
decreasing_by all_goals omega
theorem U8 (b:List UInt8) (k:Nat) (h:k<16):wd b k=eT b k:=by rw[wd,if_pos h]
theorem U9 (b:List UInt8) (k:Nat) (h:¬k<16):wd b k=wd b (k-16)+wd b (k-7)+EW (wd b (k-15))+EX (wd b (k-2)):=by rw[wd,if_neg h]
def EY (b:List UInt8):List (BitVec 32):=(List.range 64).map (wd b)
theorem fa (b:List UInt8) (k:Nat) (h:k<64):(eK (EY b))[k]?=some (.int .u32 ((wd b k).toNat:Int)):=by rw[Cx];simp[EY,h]
theorem fO (b:List UInt8):(EY b).length=64:=by simp[EY]
def ch (e f g:BitVec 32):BitVec 32:=(e &&& f) ^^^ (~~~e &&& g)
def maj (a b c:BitVec 32):BitVec 32:=((a &&& b) ^^^ (a &&& c)) ^^^ (b &&& c)
def rnd (k x:BitVec 32):List (BitVec 32)→List (BitVec 32)
 |[a,b,c,d,e,f,g,h]=>[h+JO e+ch e f g+k+x+(Nk a+maj a b c),a,b,c,d+(h+JO e+ch e f g+k+x),e,f,g]
 |l=>l
def Cy (ks:List (BitVec 32)) (bs:List UInt8) (st:List (BitVec 32)):Nat→List (BitVec 32)
 |0=>st
 |k+1=>rnd (ks.getD k 0) (wd bs k) (Cy ks bs st k)
def rh (ks:List (BitVec 32)) (bs:List UInt8) (st:List (BitVec 32)):List (BitVec 32):=List.zipWith (·+·) st (Cy ks bs st 64)
theorem ql (x y:BitVec 32):((x.toNat:Int)+(y.toNat:Int))%4294967296=((x+y).toNat:Int):=by simp[BitVec.toNat_add]
theorem lA (x y:BitVec 32):bits .xor .u32 (x.toNat:Int) (y.toNat:Int)=((x ^^^ y).toNat:Int):=by rw[u32_xor_nat _ _ x.isLt y.isLt,BitVec.toNat_xor]
theorem vt (x y:BitVec 32):bits .and .u32 (x.toNat:Int) (y.toNat:Int)=((x &&& y).toNat:Int):=by rw[u32_and_nat _ _ x.isLt y.isLt,BitVec.toNat_and]
theorem Nl (x y:BitVec 32):bits .or .u32 (x.toNat:Int) (y.toNat:Int)=((x ||| y).toNat:Int):=by rw[u32_or_nat _ _ x.isLt y.isLt,BitVec.toNat_or]
theorem Nn (x:BitVec 32) (n:Nat):(x.toNat:Int)/2^n=((x>>>n).toNat:Int):=by simp[BitVec.toNat_ushiftRight,Nat.shiftRight_eq_div_pow]
theorem EZ (x:BitVec 32) (n:Nat):(x.toNat:Int)*2^n%4294967296=((x<<<n).toNat:Int):=by simp[BitVec.toNat_shiftLeft,Nat.shiftLeft_eq]
theorem Sp (x:UInt8):(x.toNat:Int)=((x.toBitVec.setWidth 32).toNat:Int):=by
 have h:=x.toNat_lt;rw[BitVec.toNat_setWidth,UInt8.toNat_toBitVec,agA (by omega)]
theorem Va (x r1 r2:BitVec 32):bits .xor .u32 (bits .xor .u32 (r1.toNat:Int) (r2.toNat:Int)) ((x.toNat:Int)/8)=((r1 ^^^ r2 ^^^ (x>>>3)).toNat:Int):=by
 rw[lA,show (8:Int)=2^3 from rfl,Nn,lA]
theorem Vb (x r1 r2:BitVec 32):bits .xor .u32 (bits .xor .u32 (r1.toNat:Int) (r2.toNat:Int)) ((x.toNat:Int)/1024)=((r1 ^^^ r2 ^^^ (x>>>10)).toNat:Int):=by
 rw[lA,show (1024:Int)=2^10 from rfl,Nn,lA]
theorem aax (r1 r2 r3:BitVec 32):bits .xor .u32 (bits .xor .u32 (r1.toNat:Int) (r2.toNat:Int)) (r3.toNat:Int)=((r1 ^^^ r2 ^^^ r3).toNat:Int):=by
 rw[lA,lA]
theorem Io (a b c d:BitVec 32):((a.toNat:Int)+(b.toNat:Int)+(c.toNat:Int)+(d.toNat:Int))%4294967296=((a+b+c+d).toNat:Int):=by
 simp[BitVec.toNat_add]
theorem Sq (a b c d e:BitVec 32):((a.toNat:Int)+(b.toNat:Int)+(c.toNat:Int)+(d.toNat:Int)+(e.toNat:Int))%4294967296=((a+b+c+d+e).toNat:Int):=by
 simp[BitVec.toNat_add]
theorem Xc (x:BitVec 32):bits .xor .u32 IntKind.u32.max (x.toNat:Int)=((~~~x).toNat:Int):=by
 have h:IntKind.u32.max=(((BitVec.allOnes 32).toNat:Nat):Int):=by decide
 rw[h,lA,BitVec.allOnes_xor]
theorem aay (h e f g k x r1 r2 r3:BitVec 32):
 ((h.toNat:Int)+bits .xor .u32 (bits .xor .u32 (r1.toNat:Int) (r2.toNat:Int)) (r3.toNat:Int)+bits .xor .u32 (bits .and .u32 (e.toNat:Int) (f.toNat:Int)) (bits .and .u32 (bits .xor .u32 IntKind.u32.max (e.toNat:Int)) (g.toNat:Int))+(k.toNat:Int)+(x.toNat:Int))%4294967296
  =((h+(r1 ^^^ r2 ^^^ r3)+ch e f g+k+x).toNat:Int):=by
 rw[aax,Xc,vt,vt,lA,Sq];rfl
theorem aaz (a b c r1 r2 r3:BitVec 32):
 (bits .xor .u32 (bits .xor .u32 (r1.toNat:Int) (r2.toNat:Int)) (r3.toNat:Int)+bits .xor .u32 (bits .xor .u32 (bits .and .u32 (a.toNat:Int) (b.toNat:Int)) (bits .and .u32 (a.toNat:Int) (c.toNat:Int))) (bits .and .u32 (b.toNat:Int) (c.toNat:Int)))%4294967296
  =(((r1 ^^^ r2 ^^^ r3)+maj a b c).toNat:Int):=by
 rw[aax,vt,vt,vt,lA,lA,ql];rfl
def mixed (ss vs:List (BitVec 32)) (k:Nat):List (BitVec 32):=(List.zipWith (·+·) ss vs).take k++ss.drop k
theorem vu (ss vs:List (BitVec 32)):mixed ss vs 0=ss:=by simp[mixed]
theorem yJ (ss vs:List (BitVec 32)) (h1:ss.length=8) (h2:vs.length=8):mixed ss vs 8=List.zipWith (·+·) ss vs:=by
 rw[mixed,af7 (by simp[h1,h2]),List.drop_eq_nil_of_le (by omega),List.append_nil]
theorem z8 (ss vs:List (BitVec 32)) (h1:ss.length=8) (h2:vs.length=8) (k:Nat) (hk:k≤8):(mixed ss vs k).length=8:=by simp[mixed,h1,h2];omega
theorem Cz (ss vs:List (BitVec 32)) (h1:ss.length=8) (h2:vs.length=8) (rest:List Value) (k:Nat) (hk:k<8):
 (eK (mixed ss vs k)++rest).toArray[k]?=some (.int .u32 ((ss.getD k 0).toNat:Int)):=by
 have hl:=z8 ss vs h1 h2 k (by omega);rw[agr,agK (by simp[hl,hk]),Cx,mixed,agv (by simp;omega)];simp[h1,h2,show min k 8=k by omega,hk]
theorem yK (ss vs:List (BitVec 32)) (h1:ss.length=8) (h2:vs.length=8) (rest:List Value) (k:Nat) (hk:k<8):
 (eK (mixed ss vs k)++rest).toArray.setIfInBounds k (.int .u32 ((ss.getD k 0+vs.getD k 0).toNat:Int))=(eK (mixed ss vs (k+1))++rest).toArray:=by
 match ss,h1,vs,h2 with
 |[s0,s1,s2,s3,s4,s5,s6,s7],_,[a0,a1,a2,a3,a4,a5,a6,a7],_=>
 match k,hk with
 |0,_=>simp[mixed,eK]
 |1,_=>simp[mixed,eK]
 |2,_=>simp[mixed,eK]
 |3,_=>simp[mixed,eK]
 |4,_=>simp[mixed,eK]
 |5,_=>simp[mixed,eK]
 |6,_=>simp[mixed,eK]
 |7,_=>simp[mixed,eK]
theorem elW:El Tryz.prog 60 55 (.int .u32 0) 4:=⟨by kernel_rfl,by kernel_rfl,rfl⟩
theorem lC {P:Program} (t e:TypeId) (n:Nat) (cs:Array Value) (kk:IntKind) (k:Nat) (v:Value) (h:P.underlying t=some (.array n e)) (he:P.underlying e=some (.int .u32)) (hs:(P.info? e).map (·.size)=some 1) (hk:k<n) (hv:cs[k]?=some v) (w:World):
 (Instr.index t (.agg cs) (.int kk (k:Int))).run P w=.ok v w:=by
 have hsz:(sizeOf e).run P w=.ok 1 w:=by
  cases hq:P.info? e with
  |none=>simp[hq] at hs
  |some i=>simp[hq] at hs;simp[sizeOf,typeInfo,hq,hs]
 have Xd:(isAgg e).run P w=.ok false w:=by
  unfold isAgg;rw[Sem.run_bind,run_underlying he w];rfl
 simp[Instr.index,asIntOf,run_underlying h,hsz,part,Xd,hv,hk,go_sem]
end Go.Proofs.YtcjioogololnoaaGreatDoor
namespace Go.Proofs.YtcjioogololnoaaGreatDoor
open Go.RowKit
theorem jz (x:BitVec 32) (n:Nat) (h0:0<n) (h1:n<32) (w:World):
 Calls Tryz.prog 200 #[.int .u32 (x.toNat:Int),.int .i64 n] w fun e w'=>e=.returned (.int .u32 ((x.rotateLeft n).toNat:Int))∧w=w':=by
 go_enter Tryz.func200,Tryz.ntmps200;go_wp2;go_ret;exact⟨by rw[←vr x n h0 h1];rfl,rfl⟩
theorem sL (x:BitVec 32) (n:Nat) (h0:0<n) (h1:n<32) (w:World):
 Calls Tryz.prog 215 #[.int .u32 (x.toNat:Int),.int .i64 (-(n:Int))] w fun e w'=>e=.returned (.int .u32 ((x.rotateRight n).toNat:Int))∧w=w':=by
 obtain⟨m,hm⟩:∃m,m=32-n:=⟨_,rfl⟩;have hb:bits .and .u64 (IntKind.u64.wrap (-(n:Int))) 31=(m:Int):=by rw[hm];exact Cw n h0 h1
 have h2:0<m:=by omega
 have h3:m<32:=by omega
 rw[←eZ x n h0 h1,←hm];clear hm h0 h1;go_enter Tryz.func215,Tryz.ntmps215;go_wp2;go_ret;exact⟨by rw[←vr x m h2 h3];rfl,rfl⟩
theorem fC (x:BitVec 32) (n:Nat) (h0:0<n) (h1:n<32) (w:World):
 Calls Tryz.prog 208 #[.int .u32 (x.toNat:Int),.int .i64 n] w fun e w'=>e=.returned (.int .u32 ((x.rotateRight n).toNat:Int))∧w=w':=by
 go_enter Tryz.func208,Tryz.ntmps208;go_wp2_with (go_at_call 215;refine(sL x n h0 h1 _).mono ?_;rintro e w' ⟨rfl,rfl⟩);go_ret;exact⟨rfl,rfl⟩
end Go.Proofs.YtcjioogololnoaaGreatDoor
namespace Go.Proofs.YtcjioogololnoaaGreatDoor
open Go.RowKit Go.Shelf
theorem CA (gs gk E1 E2:Nat) (st:List (BitVec 32)) (cW:st.length=8) (rest:List Value) (ks:List (BitVec 32)) (hks:ks.length=64) (A:Option Addr) (c:Nat) (b:List UInt8) (hb:b.length=64) (w:World)
 (oU:w.heap[gs]?=some (.cells (eK st++rest).toArray E1 (0,0))) (jR:w.heap[gk]?=some (.cells (eK ks).toArray E2 (0,0))) (dt:gs≠gk) (hs:Sl w w.heap.size A (B8 b)):
 Calls Tryz.prog 191 #[.pointer (some ⟨gs,0,none⟩),.pointer (some ⟨gk,0,none⟩),.slice A 64 c] w fun e W'=>e=.returned (.tuple #[])∧W'.heap[gs]?=some (.cells (eK (rh ks b st)++rest).toArray E1 (0,0))∧w.grownBy W' (some gs):=by
 obtain⟨s0,s1,s2,s3,s4,s5,s6,s7,rfl⟩:∃s0 s1 s2 s3 s4 s5 s6 s7,st=[s0,s1,s2,s3,s4,s5,s6,s7]:=by
  match st,cW with
  |[s0,s1,s2,s3,s4,s5,s6,s7],_=>exact⟨s0,s1,s2,s3,s4,s5,s6,s7,rfl⟩
 have pP:=hs;obtain⟨bb,bo,rfl,nC,sF⟩:=hs.at_ (k:=0) (by omega);clear hs;have Ip:=aa oU;have No:=aa jR;clear oU jR;go_enter Tryz.func191,Tryz.ntmps191;go_wp2;go_loopw [18] (fun i wr=>∃k:Nat,k≤64∧i=.int .i64 k∧Fill wr w.heap.size 242 64 (eK (EY b)) k∧Below w.heap.size w wr) (fun i _=>64-(intOf i).toNat)
 case atStart=>
  exact⟨0,agu _,rfl,Fill.new w _ _ _,(af5 _ w).alloc (af2 _) _⟩
 case round=>
  obtain⟨k,hk,rfl,bK,mL⟩:=hrel
  by_cases aL:k<64
  · by_cases h16:k<16
    · have aaA:=pP.below mL
      have aD:∀j,j<4→wr.cell? ⟨bb,bo+(4*k+j),none⟩=some (.int .u8 (((b.getD (4*k+j) 0).toBitVec.setWidth 32).toNat:Int)):=fun j hj=>by
       obtain⟨b',o',e,_,hc⟩:=aaA.at_ (k:=0) (by omega)
       cases e
       rw[hc (4*k+j) (by omega),←Sp,agB,age (by omega)];rfl
      have c0:=aD 0 (by omega);have c1:=aD 1 (by omega);have c2:=aD 2 (by omega);have c3:=aD 3 (by omega);rw[Nat.add_zero] at c0;obtain⟨x0,tJ⟩:∃x0,x0=(b.getD (4*k) 0).toBitVec.setWidth 32:=⟨_,rfl⟩;obtain⟨x1,tK⟩:∃x1,x1=(b.getD (4*k+1) 0).toBitVec.setWidth 32:=⟨_,rfl⟩;obtain⟨x2,Cl⟩:∃x2,x2=(b.getD (4*k+2) 0).toBitVec.setWidth 32:=⟨_,rfl⟩;obtain⟨x3,hx3⟩:∃x3,x3=(b.getD (4*k+3) 0).toBitVec.setWidth 32:=⟨_,rfl⟩;rw[←tJ] at c0;rw[←tK] at c1;rw[←Cl] at c2;rw[←hx3] at c3;have Hx:Hid (eT b k=x0<<<24 ||| x1<<<16 ||| x2<<<8 ||| x3):=by subst tJ tK Cl hx3;rfl
      clear tJ tK Cl hx3 aD aaA hb pP;have bW:Tryz.prog.follows .mixedOrders=true:=by kernel_rfl
      obtain⟨v0,Vc⟩:=bK.cell aL;have lR:=bK.frozen k;go_wp2;refine an [(0,0),(1,0),(2,0),(3,0),(4,0),(5,1),(6,0),(7,0),(8,0),(9,0),(10,0),(11,0),(12,0),(13,1),(14,0),(15,0),(16,0),(17,0),(18,0),(19,0),(20,0),(21,0),(22,1),(23,0),(24,0),(25,0),(26,0),(27,0),(28,0),(29,0),(30,0),(31,1),(32,0),(33,0),(34,0),(35,2)] 35 bW (by kernel_rfl) (by intro c a d v w h;cases d<;>exact h) ?_
      repeat ((first|refine ag rfl fun K hK=>?_|refine af rfl fun K hK=>?_);go_simp;(first|refine hK _ ?_|(simp only[IntWalk.iteOmega];go_simp;refine hK _ ?_)|(go_bits;go_simp;refine hK _ ?_));clear hK K;try go_bits)
      refine ae rfl rfl (fun K hK=>?_);go_wp2;refine⟨.inl (by decide),ak ?_⟩;go_wp2
      have e:bits .or .u32 (bits .or .u32 (bits .or .u32 ((x0.toNat:Int)*16777216%4294967296) ((x1.toNat:Int)*65536%4294967296)) ((x2.toNat:Int)*256%4294967296)) (x3.toNat:Int)=((wd b k).toNat:Int):=by
       rw[U8 b k h16,Hx.out,←Nl,←Nl,←Nl,←EZ,←EZ,←EZ];rfl
      rw[e];exact⟨⟨k+1,by omega,by go_num,bK.set aL (fa b k aL) |>.drew,(mL.setCell (p:=⟨w.heap.size,k,none⟩) (af2 _) _).drew⟩,by simp[intOf];omega⟩
    obtain⟨JP,Np⟩:∃m,m=k-16:=⟨_,rfl⟩;obtain⟨JQ,Nq⟩:∃m,m=k-15:=⟨_,rfl⟩;obtain⟨a7,h7'⟩:∃m,m=k-7:=⟨_,rfl⟩;obtain⟨a2,Cn⟩:∃m,m=k-2:=⟨_,rfl⟩;have e16:(k:Int)-16=(JP:Int):=by omega
    have e15:(k:Int)-15=(JQ:Int):=by omega
    have e7:(k:Int)-7=(a7:Int):=by omega
    have e2:(k:Int)-2=(a2:Int):=by omega
    have l16:JP<64:=by omega
    have l15:JQ<64:=by omega
    have l7:a7<64:=by omega
    have l2:a2<64:=by omega
    have c16:=bK.known (j:=JP) (by omega) (fa b JP (by omega));have c15:=bK.known (j:=JQ) (by omega) (fa b JQ (by omega));have c7:=bK.known (j:=a7) (by omega) (fa b a7 (by omega));have c2:=bK.known (j:=a2) (by omega) (fa b a2 (by omega));have Hx:Hid (wd b k=wd b JP+wd b a7+EW (wd b JQ)+EX (wd b a2)):=by subst Np Nq h7' Cn;exact U9 b k h16
    clear Np Nq h7' Cn pP;obtain⟨x16,Nr⟩:∃x,x=wd b JP:=⟨_,rfl⟩;obtain⟨yL,Ns⟩:∃x,x=wd b JQ:=⟨_,rfl⟩;obtain⟨x7,hx7⟩:∃x,x=wd b a7:=⟨_,rfl⟩;obtain⟨x2,Cl⟩:∃x,x=wd b a2:=⟨_,rfl⟩;rw[←Nr] at c16 Hx;rw[←Ns] at c15 Hx;rw[←hx7] at c7 Hx;rw[←Cl] at c2 Hx;clear Nr Ns hx7 Cl;have bW:Tryz.prog.follows .mixedOrders=true:=by kernel_rfl
    obtain⟨v0,Vc⟩:=bK.cell aL;have lR:=bK.frozen k;go_wp2;refine an [(0,0),(1,0),(2,0),(3,1),(4,0),(5,0),(6,0),(7,1),(8,0),(9,0)] 10 bW (by kernel_rfl) (by intro c a d v w h;cases d<;>exact h) ?_
    repeat ((first|refine ag rfl fun K hK=>?_|refine af rfl fun K hK=>?_);go_simp;(first|refine hK _ ?_|(simp only[IntWalk.iteOmega];go_simp;refine hK _ ?_)|(go_bits;go_simp;refine hK _ ?_));clear hK K;try go_bits)
    refine ak ?_;go_wp2;obtain⟨r1,jQ⟩:∃x,x=yL.rotateRight 7:=⟨_,rfl⟩;obtain⟨r2,sM⟩:∃x,x=yL.rotateRight 18:=⟨_,rfl⟩;obtain⟨r3,j0⟩:∃x,x=x2.rotateRight 17:=⟨_,rfl⟩;obtain⟨r4,qm⟩:∃x,x=x2.rotateRight 19:=⟨_,rfl⟩;have q1:=fC yL 7 (by omega) (by omega);have q2:=fC yL 18 (by omega) (by omega);have q3:=fC x2 17 (by omega) (by omega);have q4:=fC x2 19 (by omega) (by omega);rw[←jQ] at q1;rw[←sM] at q2;rw[←j0] at q3;rw[←qm] at q4;have Hr:Hid (EW yL=r1 ^^^ r2 ^^^ (yL>>>3)∧EX x2=r3 ^^^ r4 ^^^ (x2>>>10)):=by subst jQ sM j0 qm;exact⟨rfl,rfl⟩
    clear jQ sM j0 qm;have Q1:=aa q1;have Q2:=aa q2;have Q3:=aa q3;have Q4:=aa q4;clear q1 q2 q3 q4;refine an [(0,0),(1,0),(2,0),(3,0),(4,1),(5,0),(6,0),(7,0),(8,1),(9,0),(10,0),(12,0),(15,0),(16,0),(19,0),(21,0),(24,0),(25,0),(11,2),(13,2),(14,0),(17,0),(18,0),(20,2),(22,2),(23,0),(26,0),(27,0),(28,0),(29,2)] 29 bW (by kernel_rfl) (by intro c a d v w h;cases d<;>exact h) ?_
    repeat ((first|refine ag rfl fun K hK=>?_|refine af rfl fun K hK=>?_);go_simp;(first|refine hK _ ?_|(simp only[IntWalk.iteOmega];go_simp;refine hK _ ?_)|(go_bits;go_simp;refine hK _ ?_));clear hK K;try go_bits)
    refine ae rfl rfl (fun K hK=>?_);go_wp2_with (go_at_call 208;refine(Q1.out _).mono ?_;rintro e w' ⟨rfl,rfl⟩);refine⟨.inr (Ext.refl _),?_⟩
    repeat ((first|refine ag rfl fun K hK=>?_|refine af rfl fun K hK=>?_);go_simp;(first|refine hK _ ?_|(simp only[IntWalk.iteOmega];go_simp;refine hK _ ?_)|(go_bits;go_simp;refine hK _ ?_));clear hK K;try go_bits)
    refine ae rfl rfl (fun K hK=>?_);go_wp2_with (go_at_call 208;refine(Q2.out _).mono ?_;rintro e w' ⟨rfl,rfl⟩);refine⟨.inr (Ext.refl _),?_⟩
    repeat ((first|refine ag rfl fun K hK=>?_|refine af rfl fun K hK=>?_);go_simp;(first|refine hK _ ?_|(simp only[IntWalk.iteOmega];go_simp;refine hK _ ?_)|(go_bits;go_simp;refine hK _ ?_));clear hK K;try go_bits)
    refine ae rfl rfl (fun K hK=>?_);go_wp2_with (go_at_call 208;refine(Q3.out _).mono ?_;rintro e w' ⟨rfl,rfl⟩);refine⟨.inr (Ext.refl _),?_⟩
    repeat ((first|refine ag rfl fun K hK=>?_|refine af rfl fun K hK=>?_);go_simp;(first|refine hK _ ?_|(simp only[IntWalk.iteOmega];go_simp;refine hK _ ?_)|(go_bits;go_simp;refine hK _ ?_));clear hK K;try go_bits)
    refine ae rfl rfl (fun K hK=>?_);go_wp2_with (go_at_call 208;refine(Q4.out _).mono ?_;rintro e w' ⟨rfl,rfl⟩);refine⟨.inr (Ext.refl _),?_⟩
    repeat ((first|refine ag rfl fun K hK=>?_|refine af rfl fun K hK=>?_);go_simp;(first|refine hK _ ?_|(simp only[IntWalk.iteOmega];go_simp;refine hK _ ?_)|(go_bits;go_simp;refine hK _ ?_));clear hK K;try go_bits)
    refine ae rfl rfl (fun K hK=>?_);go_wp2;refine⟨.inl (by decide),ak ?_⟩;go_wp2;rw[Va yL r1 r2,Vb x2 r3 r4,←Hr.out.1,←Hr.out.2,Io,←Hx.out];exact⟨⟨k+1,by omega,by go_num,bK.set aL (fa b k aL) |>.drew,(mL.setCell (p:=⟨w.heap.size,k,none⟩) (af2 _) _).drew.drew⟩,by simp[intOf];omega⟩
  obtain rfl:k=64:=by omega
  have hW:=bK.done (by simp[fO]);have HW:=aa hW;clear hW bK;have oU:=(mL.block gs (by have:=(af3.1 Ip.out).1;exact this)).trans Ip.out;have jR:=(mL.block gk (by have:=(af3.1 No.out).1;exact this)).trans No.out;have c0:wr.cell? ⟨gs,0,none⟩=some (.int .u32 (s0.toNat:Int)):=by rw[agb wr gs 0 _ E1 (0,0) oU];rfl
  have c1:wr.cell? ⟨gs,1,none⟩=some (.int .u32 (s1.toNat:Int)):=by rw[agb wr gs 1 _ E1 (0,0) oU];rfl
  have c2:wr.cell? ⟨gs,2,none⟩=some (.int .u32 (s2.toNat:Int)):=by rw[agb wr gs 2 _ E1 (0,0) oU];rfl
  have c3:wr.cell? ⟨gs,3,none⟩=some (.int .u32 (s3.toNat:Int)):=by rw[agb wr gs 3 _ E1 (0,0) oU];rfl
  have c4:wr.cell? ⟨gs,4,none⟩=some (.int .u32 (s4.toNat:Int)):=by rw[agb wr gs 4 _ E1 (0,0) oU];rfl
  have c5:wr.cell? ⟨gs,5,none⟩=some (.int .u32 (s5.toNat:Int)):=by rw[agb wr gs 5 _ E1 (0,0) oU];rfl
  have c6:wr.cell? ⟨gs,6,none⟩=some (.int .u32 (s6.toNat:Int)):=by rw[agb wr gs 6 _ E1 (0,0) oU];rfl
  have c7:wr.cell? ⟨gs,7,none⟩=some (.int .u32 (s7.toNat:Int)):=by rw[agb wr gs 7 _ E1 (0,0) oU];rfl
  have HGs:=aa oU;have HGk:=aa jR;clear oU jR pP;have acO:w.heap.size<wr.heap.size:=(af3.1 HW.out).1;have hsz:(eK (EY b)).toArray.size=64:=by simp[fO]
  obtain⟨ws,Mp⟩:∃ws,ws=(eK (EY b)).toArray:=⟨_,rfl⟩
  have aF:∀(t:TypeId) (c:Array Value),(wr.alloc (.cells c t)).heap[w.heap.size]?=some (.cells ws 242 (0,0)):=fun t c=>by
   rw[Below.heap_alloc wr _ _ acO,Mp];exact HW.out
  have ri:(Tryz.prog.info? 242).map (·.size)=some ws.size:=by rw[Mp,hsz];kernel_rfl
  have Hws:=aa Mp;have eC:=aa aF;have lW:=aa ri;clear Mp hsz aF ri;go_wp2_with (refine aga rfl 242 (.tmp 6) rfl w.heap.size rfl 242 ws (0,0) (.array 64 55) (eC.out _ _) (by kernel_rfl) rfl lW.out ?_);obtain⟨wS,rfl⟩:=ab wr;obtain⟨vb,Xe⟩:=ab wS.heap.size;rw[←Xe];obtain⟨w1,gu⟩:=ab (wS.alloc (.cells #[.int .u32 (s0.toNat:Int),.int .u32 (s1.toNat:Int),.int .u32 (s2.toNat:Int),.int .u32 (s3.toNat:Int),.int .u32 (s4.toNat:Int),.int .u32 (s5.toNat:Int),.int .u32 (s6.toNat:Int),.int .u32 (s7.toNat:Int)] 207))
  rw[←gu];have oV:w1.heap[vb]?=some (.cells #[.int .u32 (s0.toNat:Int),.int .u32 (s1.toNat:Int),.int .u32 (s2.toNat:Int),.int .u32 (s3.toNat:Int),.int .u32 (s4.toNat:Int),.int .u32 (s5.toNat:Int),.int .u32 (s6.toNat:Int),.int .u32 (s7.toNat:Int)] 207 (0,0)):=by rw[gu,Xe];exact af4 _ _
  have aZ:Below vb wS w1:=by rw[gu,Xe];exact(af5 _ _).alloc (af2 _) _
  have acP:gs<vb:=by rw[Xe];exact(af3.1 HGs.out).1
  have aaB:gk<vb:=by rw[Xe];exact(af3.1 HGk.out).1
  have Hvb:=aa Xe;clear gu Xe c0 c1 c2 c3 c4 c5 c6 c7
  go_loopw [100] (fun i wq=>∃(k:Nat) (a0 a1 a2 a3 a4 a5 a6 a7:BitVec 32),k≤64∧i=.int .i64 k∧Hid (Cy ks b [s0,s1,s2,s3,s4,s5,s6,s7] k=[a0,a1,a2,a3,a4,a5,a6,a7])∧
   Hid (wq.heap[vb]?=some (.cells #[.int .u32 (a0.toNat:Int),.int .u32 (a1.toNat:Int),.int .u32 (a2.toNat:Int),.int .u32 (a3.toNat:Int),.int .u32 (a4.toNat:Int),.int .u32 (a5.toNat:Int),.int .u32 (a6.toNat:Int),.int .u32 (a7.toNat:Int)] 207 (0,0)))∧Below vb wS wq) (fun i _=>64-(intOf i).toNat)
  case atStart=>exact⟨0,s0,s1,s2,s3,s4,s5,s6,s7,agu _,rfl,rfl,oV,aZ⟩
  case round=>
   clear oV aZ;obtain⟨k,a0,a1,a2,a3,a4,a5,a6,a7,hk,rfl,hR,hV,hB⟩:=hrel;have yM:=hV.out;have bW:Tryz.prog.follows .mixedOrders=true:=by kernel_rfl
   by_cases aL:k<64
   · have c0:wr.cell? ⟨vb,0,none⟩=some (.int .u32 (a0.toNat:Int)):=by rw[agb _ vb 0 _ _ (0,0) yM];rfl
     have c1:wr.cell? ⟨vb,1,none⟩=some (.int .u32 (a1.toNat:Int)):=by rw[agb _ vb 1 _ _ (0,0) yM];rfl
     have c2:wr.cell? ⟨vb,2,none⟩=some (.int .u32 (a2.toNat:Int)):=by rw[agb _ vb 2 _ _ (0,0) yM];rfl
     have c3:wr.cell? ⟨vb,3,none⟩=some (.int .u32 (a3.toNat:Int)):=by rw[agb _ vb 3 _ _ (0,0) yM];rfl
     have c4:wr.cell? ⟨vb,4,none⟩=some (.int .u32 (a4.toNat:Int)):=by rw[agb _ vb 4 _ _ (0,0) yM];rfl
     have c5:wr.cell? ⟨vb,5,none⟩=some (.int .u32 (a5.toNat:Int)):=by rw[agb _ vb 5 _ _ (0,0) yM];rfl
     have c6:wr.cell? ⟨vb,6,none⟩=some (.int .u32 (a6.toNat:Int)):=by rw[agb _ vb 6 _ _ (0,0) yM];rfl
     have c7:wr.cell? ⟨vb,7,none⟩=some (.int .u32 (a7.toNat:Int)):=by rw[agb _ vb 7 _ _ (0,0) yM];rfl
     have f0:wr.frozen? ⟨vb,0,none⟩=false:=agF _ vb 0 _ _ yM;have f1:wr.frozen? ⟨vb,1,none⟩=false:=agF _ vb 1 _ _ yM;have f2:wr.frozen? ⟨vb,2,none⟩=false:=agF _ vb 2 _ _ yM;have f3:wr.frozen? ⟨vb,3,none⟩=false:=agF _ vb 3 _ _ yM;have f4:wr.frozen? ⟨vb,4,none⟩=false:=agF _ vb 4 _ _ yM;have f5:wr.frozen? ⟨vb,5,none⟩=false:=agF _ vb 5 _ _ yM;have f6:wr.frozen? ⟨vb,6,none⟩=false:=agF _ vb 6 _ _ yM;have f7:wr.frozen? ⟨vb,7,none⟩=false:=agF _ vb 7 _ _ yM;obtain⟨xw,Xf⟩:∃x,x=wd b k:=⟨_,rfl⟩;obtain⟨xk,q8⟩:∃x,x=ks.getD k 0:=⟨_,rfl⟩
     have ck:wr.cell? ⟨gk,k,none⟩=some (.int .u32 (xk.toNat:Int)):=by
      rw[agb wr gk k _ E2 (0,0) ((hB.block gk aaB).trans HGk.out),q8];simp[eK,hks,aL]
     have mM:=lC (P:=Tryz.prog) 242 55 64 ws .i64 k (.int .u32 ((wd b k).toNat:Int)) (by kernel_rfl) (by kernel_rfl) (by kernel_rfl) aL (by rw[Hws.out];simpa using fa b k aL);rw[←Xf] at mM;have Hxw:=aa Xf;have Vd:=aa q8;have HVo:=aa yM;clear Xf q8 yM;obtain⟨r1,jQ⟩:∃x,x=a4.rotateRight 6:=⟨_,rfl⟩;have Xg:=fC a4 6 (by omega) (by omega);rw[←jQ] at Xg;have Qr1:=aa Xg;clear Xg;obtain⟨r2,sM⟩:∃x,x=a4.rotateRight 11:=⟨_,rfl⟩;have Xh:=fC a4 11 (by omega) (by omega);rw[←sM] at Xh;have Qr2:=aa Xh;clear Xh;obtain⟨r3,j0⟩:∃x,x=a4.rotateRight 25:=⟨_,rfl⟩;have Xi:=fC a4 25 (by omega) (by omega);rw[←j0] at Xi;have Qr3:=aa Xi;clear Xi;obtain⟨r4,qm⟩:∃x,x=a0.rotateRight 2:=⟨_,rfl⟩;have Xj:=fC a0 2 (by omega) (by omega);rw[←qm] at Xj;have Qr4:=aa Xj;clear Xj;obtain⟨r5,Aa⟩:∃x,x=a0.rotateRight 13:=⟨_,rfl⟩;have Xk:=fC a0 13 (by omega) (by omega);rw[←Aa] at Xk;have Qr5:=aa Xk;clear Xk;obtain⟨r6,Ez⟩:∃x,x=a0.rotateRight 22:=⟨_,rfl⟩;have Xl:=fC a0 22 (by omega) (by omega);rw[←Ez] at Xl;have Qr6:=aa Xl;clear Xl;have Hr:Hid (JO a4=r1 ^^^ r2 ^^^ r3∧Nk a0=r4 ^^^ r5 ^^^ r6):=by subst jQ sM j0 qm Aa Ez;exact⟨rfl,rfl⟩
     clear jQ sM j0 qm Aa Ez;go_wp2_with fail;refine an [(0,0),(1,1),(2,0),(3,1),(4,0),(5,0)] 6 bW (by kernel_rfl) (by intro c a d v w h;cases d<;>exact h) ?_
     repeat ((first|refine ag rfl fun K hK=>?_|refine af rfl fun K hK=>?_);go_simp;(first|refine hK _ ?_|(simp only[IntWalk.iteOmega];go_simp;refine hK _ ?_)|(go_bits;go_simp;refine hK _ ?_));clear hK K;try go_bits)
     refine ak ?_;go_wp2_with fail;refine an [(0,0),(1,1),(2,0),(4,0),(7,0),(11,0),(12,0),(13,1),(14,0),(15,0),(16,0),(17,0),(18,1),(19,0),(20,0),(22,0),(23,0),(24,0),(25,0),(26,1),(28,0),(3,2),(5,2),(6,0),(8,2),(9,0),(10,0),(21,0),(27,0),(29,0),(30,0)] 31 bW (by kernel_rfl) (by intro c a d v w h;cases d<;>exact h) ?_
     repeat ((first|refine ag rfl fun K hK=>?_|refine af rfl fun K hK=>?_);go_simp;(first|refine hK _ ?_|(simp only[IntWalk.iteOmega];go_simp;refine hK _ ?_)|(go_bits;go_simp;refine hK _ ?_));clear hK K;try go_bits)
     refine ae rfl rfl (fun K hK=>?_);go_wp2_with (go_at_call 208;refine(Qr1.out _).mono ?_;rintro e w' ⟨rfl,rfl⟩);refine⟨(by first|exact .inr (Ext.refl _)|exact Ext.refl _),?_⟩
     repeat ((first|refine ag rfl fun K hK=>?_|refine af rfl fun K hK=>?_);go_simp;(first|refine hK _ ?_|(simp only[IntWalk.iteOmega];go_simp;refine hK _ ?_)|(go_bits;go_simp;refine hK _ ?_));clear hK K;try go_bits)
     refine ae rfl rfl (fun K hK=>?_);go_wp2_with (go_at_call 208;refine(Qr2.out _).mono ?_;rintro e w' ⟨rfl,rfl⟩);refine⟨(by first|exact .inr (Ext.refl _)|exact Ext.refl _),?_⟩
     repeat ((first|refine ag rfl fun K hK=>?_|refine af rfl fun K hK=>?_);go_simp;(first|refine hK _ ?_|(simp only[IntWalk.iteOmega];go_simp;refine hK _ ?_)|(go_bits;go_simp;refine hK _ ?_));clear hK K;try go_bits)
     refine ae rfl rfl (fun K hK=>?_);go_wp2_with (go_at_call 208;refine(Qr3.out _).mono ?_;rintro e w' ⟨rfl,rfl⟩);refine⟨(by first|exact .inr (Ext.refl _)|exact Ext.refl _),?_⟩
     repeat ((first|refine ag rfl fun K hK=>?_|refine af rfl fun K hK=>?_);go_simp;(first|refine hK _ ?_|(simp only[IntWalk.iteOmega];go_simp;refine hK _ ?_)|(go_bits;go_simp;refine hK _ ?_));clear hK K;try go_bits)
     refine ak ?_;go_wp2_with fail;rw[aay a7 a4 a5 a6 xk xw r1 r2 r3,←Hr.out.1];obtain⟨T,hT⟩:∃T,T=a7+JO a4+ch a4 a5 a6+xk+xw:=⟨_,rfl⟩;rw[←hT];have HT:=aa hT;clear hT;refine an [(0,0),(2,0),(5,0),(8,0),(9,0),(10,1),(11,0),(12,0),(13,0),(14,1),(15,0),(16,0),(17,0),(18,1),(19,0),(20,1),(21,0),(22,0),(1,2),(3,2),(4,0),(6,2),(7,0),(23,0),(24,0)] 25 bW (by kernel_rfl) (by intro c a d v w h;cases d<;>exact h) ?_
     repeat ((first|refine ag rfl fun K hK=>?_|refine af rfl fun K hK=>?_);go_simp;(first|refine hK _ ?_|(simp only[IntWalk.iteOmega];go_simp;refine hK _ ?_)|(go_bits;go_simp;refine hK _ ?_));clear hK K;try go_bits)
     refine ae rfl rfl (fun K hK=>?_);go_wp2_with (go_at_call 208;refine(Qr4.out _).mono ?_;rintro e w' ⟨rfl,rfl⟩);refine⟨(by first|exact .inr (Ext.refl _)|exact Ext.refl _),?_⟩
     repeat ((first|refine ag rfl fun K hK=>?_|refine af rfl fun K hK=>?_);go_simp;(first|refine hK _ ?_|(simp only[IntWalk.iteOmega];go_simp;refine hK _ ?_)|(go_bits;go_simp;refine hK _ ?_));clear hK K;try go_bits)
     refine ae rfl rfl (fun K hK=>?_);go_wp2_with (go_at_call 208;refine(Qr5.out _).mono ?_;rintro e w' ⟨rfl,rfl⟩);refine⟨(by first|exact .inr (Ext.refl _)|exact Ext.refl _),?_⟩
     repeat ((first|refine ag rfl fun K hK=>?_|refine af rfl fun K hK=>?_);go_simp;(first|refine hK _ ?_|(simp only[IntWalk.iteOmega];go_simp;refine hK _ ?_)|(go_bits;go_simp;refine hK _ ?_));clear hK K;try go_bits)
     refine ae rfl rfl (fun K hK=>?_);go_wp2_with (go_at_call 208;refine(Qr6.out _).mono ?_;rintro e w' ⟨rfl,rfl⟩);refine⟨(by first|exact .inr (Ext.refl _)|exact Ext.refl _),?_⟩
     repeat ((first|refine ag rfl fun K hK=>?_|refine af rfl fun K hK=>?_);go_simp;(first|refine hK _ ?_|(simp only[IntWalk.iteOmega];go_simp;refine hK _ ?_)|(go_bits;go_simp;refine hK _ ?_));clear hK K;try go_bits)
     refine ak ?_;go_wp2_with fail;rw[aaz a0 a1 a2 r4 r5 r6,←Hr.out.2];obtain⟨U,hU⟩:∃U,U=Nk a0+maj a0 a1 a2:=⟨_,rfl⟩;rw[←hU];have HU:=aa hU;clear hU;refine an [(0,0),(1,0),(2,2)] 2 bW (by kernel_rfl) (by intro c a d v w h;cases d<;>exact h) ?_
     repeat ((first|refine ag rfl fun K hK=>?_|refine af rfl fun K hK=>?_);go_simp;(first|refine hK _ ?_|(simp only[IntWalk.iteOmega];go_simp;refine hK _ ?_)|(go_bits;go_simp;refine hK _ ?_));clear hK K;try go_bits)
     refine ae rfl rfl (fun K hK=>?_);refine qh (g:=vb) (off:=1) (dLen:=7) (dCap:=7) (A:=some ⟨vb,0,none⟩) (sLen:=7) (sCap:=8) (cur:=#[.int .u32 (a0.toNat:Int),.int .u32 (a1.toNat:Int),.int .u32 (a2.toNat:Int),.int .u32 (a3.toNat:Int),.int .u32 (a4.toNat:Int),.int .u32 (a5.toNat:Int),.int .u32 (a6.toNat:Int),.int .u32 (a7.toNat:Int)]) (t:=207) (cs:=[.int .u32 (a0.toNat:Int),.int .u32 (a1.toNat:Int),.int .u32 (a2.toNat:Int),.int .u32 (a3.toNat:Int),.int .u32 (a4.toNat:Int),.int .u32 (a5.toNat:Int),.int .u32 (a6.toNat:Int)]) (B:=vb+1) elW (.tmp 162) (.tmp 163) rfl rfl rfl HVo.out rfl ?_ (by simp) (by intro v hv;simp at hv;rcases hv with rfl|rfl|rfl|rfl|rfl|rfl|rfl<;>rfl) ?_
     · intro _
       refine⟨vb,0,rfl,by omega,fun j hj=>?_⟩
       match j,hj with
       |0,_=>exact c0
       |1,_=>exact c1
       |2,_=>exact c2
       |3,_=>exact c3
       |4,_=>exact c4
       |5,_=>exact c5
       |6,_=>exact c6
     obtain⟨w2,iN⟩:∃w2,w2=wr.drew.drew.drew.drew.setRow vb #[.int .u32 (a0.toNat:Int),.int .u32 (a0.toNat:Int),.int .u32 (a1.toNat:Int),.int .u32 (a2.toNat:Int),.int .u32 (a3.toNat:Int),.int .u32 (a4.toNat:Int),.int .u32 (a5.toNat:Int),.int .u32 (a6.toNat:Int)]:=⟨_,rfl⟩
     refine hK _ (wr.drew.drew.drew.drew.setRow vb #[.int .u32 (a0.toNat:Int),.int .u32 (a0.toNat:Int),.int .u32 (a1.toNat:Int),.int .u32 (a2.toNat:Int),.int .u32 (a3.toNat:Int),.int .u32 (a4.toNat:Int),.int .u32 (a5.toNat:Int),.int .u32 (a6.toNat:Int)]) ⟨(by first|exact .inl (by decide)|trivial),?_⟩
     clear hK K;refine ak ?_;rw[←iN];have EA:w2.heap[vb]?=some (.cells #[.int .u32 (a0.toNat:Int),.int .u32 (a0.toNat:Int),.int .u32 (a1.toNat:Int),.int .u32 (a2.toNat:Int),.int .u32 (a3.toNat:Int),.int .u32 (a4.toNat:Int),.int .u32 (a5.toNat:Int),.int .u32 (a6.toNat:Int)] 207 (0,0)):=by rw[iN];exact agd _ vb _ _ _ _ HVo.out
     have jZ:Below vb wS w2:=by rw[iN];exact below_setRow hB.drew.drew.drew.drew (af2 _) _
     clear iN c0 f0 c1 f1 c2 f2 c3 f3 c4 f4 c5 f5 c6 f6 c7 f7 hB hV;have c0:w2.cell? ⟨vb,0,none⟩=some (.int .u32 (a0.toNat:Int)):=by rw[agb _ vb 0 _ _ (0,0) EA];rfl
     have c4:w2.cell? ⟨vb,4,none⟩=some (.int .u32 (a3.toNat:Int)):=by rw[agb _ vb 4 _ _ (0,0) EA];rfl
     have f0:w2.frozen? ⟨vb,0,none⟩=false:=agF _ vb 0 _ _ EA;have f4:w2.frozen? ⟨vb,4,none⟩=false:=agF _ vb 4 _ _ EA;have Xm:=aa EA;clear EA;go_wp2;rw[ql,ql];refine⟨⟨k+1,T+U,a0,a1,a2,a3+T,a4,a5,a6,by omega,by go_num,?_,?_,(jZ.setCell (p:=⟨vb,4,none⟩) (af2 _) _).setCell (p:=⟨vb,0,none⟩) (af2 _) _⟩,by simp[intOf];omega⟩
     · show rnd _ _ (Cy ks b _ k)=_
       rw[hR.out,←Vd.out,←Hxw.out,HT.out,HU.out];rfl
     show _=_;rw[heap_setCell_same _ vb 0 _ _ _ (heap_setCell_same _ vb 4 _ _ _ Xm.out)];rfl
   obtain rfl:k=64:=by omega
   obtain⟨ss,nD⟩:∃ss,ss=[s0,s1,s2,s3,s4,s5,s6,s7]:=⟨_,rfl⟩;obtain⟨vs,Sr⟩:∃vs,vs=[a0,a1,a2,a3,a4,a5,a6,a7]:=⟨_,rfl⟩;have j7:ss.length=8:=by rw[nD];rfl
   have yN:vs.length=8:=by rw[Sr];rfl
   have hG:wr.heap[gs]?=some (.cells (eK ss++rest).toArray E1 (0,0)):=by rw[nD];exact(hB.block gs acP).trans HGs.out
   have hv:wr.heap[vb]?=some (.cells (eK vs).toArray 207 (0,0)):=by rw[Sr];exact yM
   have iQ:Hid (rh ks b [s0,s1,s2,s3,s4,s5,s6,s7]=List.zipWith (·+·) ss vs):=by
    show rh _ _ _=_;rw[rh,hR.out,nD,Sr]
   have fL:w.grownBy wr (some gs):=by
    have aat:=mL.size;have hb:=mL.trans (hB.mono (show w.heap.size≤vb by rw[Hvb.out];exact aat));exact⟨hb.os,hb.tape,hb.output,hb.size,fun j hj _=>hb.block j hj⟩
   have HG:=aa hG;have HV:=aa hv;clear nD Sr yM hV hR hG hv hB;go_wp2_with fail;go_loopw [175] (fun i wq=>∃k:Nat,k≤8∧i=.int .i64 k∧Hid (wq.heap[gs]?=some (.cells (eK (mixed ss vs k)++rest).toArray E1 (0,0)))∧Hid (wq.heap[vb]?=some (.cells (eK vs).toArray 207 (0,0)))∧w.grownBy wq (some gs)) (fun i _=>8-(intOf i).toNat)
   case atStart=>exact⟨0,agu _,rfl,by rw[vu];exact HG,HV,fL⟩
   case round=>
    clear HG HV fL;obtain⟨k,hk,rfl,hG,hV,fL⟩:=hrel
    by_cases aL:k<8
    · obtain⟨x,hx⟩:=ab (ss.getD k 0)
      obtain⟨y,hy⟩:=ab (vs.getD k 0);have cx:wr.cell? ⟨gs,k,none⟩=some (.int .u32 (x.toNat:Int)):=by rw[agb wr gs k _ _ (0,0) hG.out,Cz ss vs j7 yN rest k aL,hx]
      have cy:wr.cell? ⟨vb,k,none⟩=some (.int .u32 (y.toNat:Int)):=by rw[agb wr vb k _ _ (0,0) hV.out,hy];simp[eK,yN,aL]
      have fx:=agF wr gs k _ _ hG.out;have Hx:=aa hx;have Hy:=aa hy;clear hx hy;go_wp2_with fail;refine an [(0,0),(1,0),(2,0),(3,0),(4,1),(5,0),(6,0),(7,1),(8,0),(9,0),(10,0),(11,2)] 11 bW (by kernel_rfl) (by intro c a d v w h;cases d<;>exact h) ?_
      repeat ((first|refine ag rfl fun K hK=>?_|refine af rfl fun K hK=>?_);go_simp;(first|refine hK _ ?_|(simp only[IntWalk.iteOmega];go_simp;refine hK _ ?_)|(go_bits;go_simp;refine hK _ ?_));clear hK K;try go_bits)
      refine ae rfl rfl (fun K hK=>?_);go_wp2;refine⟨.inl (by decide),ak ?_⟩;go_wp2;rw[ql];refine⟨⟨_,.int .i64 ((k:Int)+1),_,_,_,_,_,_,_,_,_,_,_,_,_,_,⟨k+1,by omega,by go_num,?_,?_,?_⟩,rfl⟩,?_⟩
      · show _=_
        rw[heap_drew,heap_setCell_same _ gs k _ _ _ hG.out,Hx.out,Hy.out,yK ss vs j7 yN rest k aL]
      · show _=_
        rw[heap_drew,heap_setCell_other _ _ _ _ (by show vb≠gs;omega)];exact hV.out
      · exact⟨fL.os,fL.tape,fL.output,by have:=fL.size;simpa using this,fun j hj dt=>by rw[heap_drew,heap_setCell_other _ _ _ _ (by show j≠gs;exact fun e=>dt (by rw[e]))];exact fL.block j hj dt⟩
      simp[intOf];omega
    obtain rfl:k=8:=by omega
    go_wp2_with fail;go_end0;refine⟨rfl,?_,fL⟩;rw[hG.out,yJ ss vs j7 yN,←iQ.out]
def nQ:List (BitVec 32):=[0x428a2f98,0x71374491,0xb5c0fbcf,0xe9b5dba5,0x3956c25b,0x59f111f1,0x923f82a4,0xab1c5ed5,0xd807aa98,0x12835b01,0x243185be,0x550c7dc3,0x72be5d74,0x80deb1fe,0x9bdc06a7,0xc19bf174,0xe49b69c1,0xefbe4786,0x0fc19dc6,0x240ca1cc,0x2de92c6f,0x4a7484aa,0x5cb0a9dc,0x76f988da,0x983e5152,0xa831c66d,0xb00327c8,0xbf597fc7,0xc6e00bf3,0xd5a79147,0x06ca6351,0x14292967,0x27b70a85,0x2e1b2138,0x4d2c6dfc,0x53380d13,0x650a7354,0x766a0abb,0x81c2c92e,0x92722c85,0xa2bfe8a1,0xa81a664b,0xc24b8b70,0xc76c51a3,0xd192e819,0xd6990624,0xf40e3585,0x106aa070,0x19a4c116,0x1e376c08,0x2748774c,0x34b0bcb5,0x391c0cb3,0x4ed8aa4a,0x5b9cca4f,0x682e6ff3,0x748f82ee,0x78a5636f,0x84c87814,0x8cc70208,0x90befffa,0xa4506ceb,0xbef9a3f7,0xc67178f2]
def nR:List (BitVec 32):=[0x6a09e667,0xbb67ae85,0x3c6ef372,0xa54ff53a,0x510e527f,0x9b05688c,0x1f83d9ab,0x5be0cd19]
theorem fP:nQ.length=64:=by decide
theorem tL:nR.length=8:=by decide
theorem JR (w:World):Calls Tryz.prog 189 #[] w fun e w'=>e=.returned (.agg (eK nR).toArray)∧Below w.heap.size w w':=by
 go_enter Tryz.func189,Tryz.ntmps189;go_wp2_with fail;refine agf (v:=.agg (eK nR).toArray) ?_ rfl ⟨rfl,(af5 _ w).alloc (af2 _) _⟩;exact ags rfl _ _ w.heap.size 207 (eK nR).toArray (0,0) (.array 8 55) rfl (af4 w _) (by kernel_rfl) rfl (by kernel_rfl)
theorem CB (w:World):Calls Tryz.prog 190 #[] w fun e w'=>e=.returned (.agg (eK nQ).toArray)∧Below w.heap.size w w':=by
 obtain⟨kc,mG⟩:∃kc,kc=(eK nQ).toArray:=⟨_,rfl⟩;have hsz:kc.size=64:=by rw[mG];simp[fP]
 have h1:kc.all (·.oneCell')=true:=by rw[mG];simp[eK];intro x _;rfl
 have ri:(Tryz.prog.info? 242).map (·.size)=some kc.size:=by rw[hsz];kernel_rfl
 have Ss:=aa mG;have ra:=aa hsz;have H1:=aa h1;have lW:=aa ri;clear mG hsz h1 ri;go_enter Tryz.func190,Tryz.ntmps190;go_wp2_with (first|(refine wpList_build rfl 242 _ rfl (by kernel_rfl) ?_;rw[show (Tryz.prog.built 242 _).getD #[]=kc from by rw[Ss.out];kernel_rfl];refine af6 rfl 242 (.tmp 0) (.tmp 1) rfl w.heap.size kc rfl rfl 242 _ (af4 w _) lW.out ra.out.symm H1.out ?_)|fail)
 refine agf (v:=.agg kc) ?_ rfl ⟨by rw[Ss.out],ah ((af5 _ w).alloc (af2 _) _) (af2 _) _⟩;exact ags rfl _ _ w.heap.size 242 kc (0,0) (.array 64 55) rfl (agd _ _ _ _ _ _ (af4 w _)) (by kernel_rfl) rfl lW.out
def Ah (m:Nat) (i:Nat):List UInt8:=((List.range i).map fun j=>UInt8.ofNat (m/256^j)).reverse
def fb (n:Nat) (i:Nat):List UInt8:=128::(List.replicate (63-(n%64+8)%64+(8-i)) 0++Ah (n*8) i)
theorem CG (m i:Nat):(Ah m i).length=i:=by simp[Ah]
theorem iR (n i:Nat) (h:i≤8):(fb n i).length=63-(n%64+8)%64+9:=by simp[fb,CG];omega
theorem JY (m i:Nat):Ah m (i+1)=UInt8.ofNat (m/256^i)::Ah m i:=by simp[Ah,List.range_succ]
theorem JZ (n i:Nat) (h:i<8):(fb n i).set (63-(n%64+8)%64+9-1-i) (UInt8.ofNat (n*8/256^i))=fb n (i+1):=by
 obtain⟨f,hf⟩:∃f,f=63-(n%64+8)%64:=⟨_,rfl⟩;rw[fb,fb,JY,←hf];rw[show f+9-1-i=(f+(7-i))+1 by omega,List.set_cons_succ,show f+(8-i)=f+(7-i)+1 by omega,List.replicate_succ',agL];rw[List.set_append_right _ _ (by simp)];simp only[List.length_replicate,Nat.sub_self,List.singleton_append,List.set_cons_zero];rw[show 8-(i+1)=7-i by omega]
theorem J0 (n k:Nat):((n:Int)*8/2^(8*k)%256)=((UInt8.ofNat (n*8/256^k)).toNat:Int):=by
 rw[agp,show (256:Nat)=2^8 from rfl,←Nat.pow_mul];rw[Int.natCast_emod,Int.natCast_ediv,Int.natCast_mul,Int.natCast_pow];rfl
theorem CH (n:Nat) (hn:n≤8192) (w:World):
 Calls Tryz.prog 209 #[.int .u64 n,.int .i64 64,.int .i64 8] w fun e w'=>∃v,e=.returned v∧Ow w' w.heap.size 5 v (B8 (fb n 8))∧Below w.heap.size w w':=by
 obtain⟨i0,hi,iC,gq,mI⟩:=info_parts zP;obtain⟨f,hf⟩:∃f,f=63-(n%64+8)%64:=⟨_,rfl⟩;have aeT:f≤63:=by omega
 have hmk:=yF (P:=Tryz.prog) 37 5 i0 _ 1 Tryz.underlying37 hi iC gq mI rfl .i64 .i64 (1+(f:Int)+8) (1+(f:Int)+8) (f+9) (f+9) (by omega) (by omega) (af2 _) (by omega) (by unfold maxLen;omega);have he:(63:Int)-((n:Int)+8)%64=(f:Int):=by omega
 have Hf:=aa hf;clear hf;go_enter Tryz.func209,Tryz.ntmps209;go_wp2_with fail;go_loopw [29] (fun i wr=>∃k:Nat,k≤8∧i=.int .i64 k∧Ow wr w.heap.size 5 (.slice (some ⟨w.heap.size,0,none⟩) (f+9) (f+9)) (B8 (fb n k))∧Below w.heap.size w wr) (fun i _=>8-(intOf i).toNat)
 case atStart=>
  have Mr:=Ow.of_row (w:=w) ((Array.replicate (f+9) (Value.int IntKind.u8 0)).setIfInBounds 0 (Value.int IntKind.u8 128)) 5 w.heap.size (af2 _) (cap:=f+9) (by simp) (by unfold maxLen;omega) (f+9) (af2 _);refine⟨0,agu _,rfl,?_,(af5 _ w).alloc (af2 _) _⟩
  have e:((Array.replicate (f+9) (Value.int IntKind.u8 0)).setIfInBounds 0 (Value.int IntKind.u8 128)).toList.take (f+9)=B8 (fb n 0):=by
   rw[af7 (by simp),fb,←Hf.out];simp[B8,Ah,List.replicate_succ,Array.toList_setIfInBounds]
  rw[e] at Mr;exact Mr
 case round=>
  obtain⟨k,hk,rfl,ho,hB⟩:=hrel
  by_cases aL:k<8
  · obtain⟨m,hm⟩:∃m,m=f+9-1-k:=⟨_,rfl⟩
    have em:(f:Int)+9-1-(k:Int)=(m:Int):=by omega
    have acV:m<f+9:=by omega
    have hlen:=iR n k hk;rw[←Hf.out] at hlen;obtain⟨g,yE,hg,aF,aD,lR⟩:=ho.at_ (j:=m) (by simp[hlen];exact acV);injection yE with yE;injection yE with yE;subst yE;obtain⟨cv,J1⟩:∃cv,wr.cell? ⟨w.heap.size,m,none⟩=some cv:=⟨_,aD⟩;clear aD;have Hm:=aa hm;clear hm hlen aF;go_wp2_with fail;have cW:=ho.store m (by omega) (Value.int IntKind.u8 ((n:Int)*8/2^(8*k)%256))
    rw[show (B8 (fb n k)).set m (Value.int IntKind.u8 ((n:Int)*8/2^(8*k)%256))=B8 (fb n (k+1)) from by
     rw[←JZ n k aL,←Hf.out,←Hm.out,J0];simp[B8,List.map_set]] at cW
    refine⟨⟨k+1,by omega,rfl,cW,hB.setCell (af2 _) _⟩,by simp[intOf];omega⟩
  go_wp2_with fail;obtain rfl:k=8:=by omega
  go_ret;exact⟨_,rfl,ho,hB⟩
end Go.Proofs.YtcjioogololnoaaGreatDoor
