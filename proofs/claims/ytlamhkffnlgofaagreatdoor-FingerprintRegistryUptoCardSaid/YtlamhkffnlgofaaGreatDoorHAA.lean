/- Plain helpers: byte values, blocks of bytes turned into strings, small facts on worlds. What varint.Get computes. What varint.Put computes. What sheaveref03.Put computes: the same as varint.Put. Plain laws of varints, for the seats whose code has no GetAll. What Zigzag and its reference compute, for the seats that have no Unzigzag. Unzigzag. Small words on blocks of cells that a call has made. Opening arguments of any depth: slices, structs, strings, with the reach. Append that tells which block may have changed; operations under a guard that holds. Values as trees, and how memory reads as one. Small words that carry facts on blocks from world to world. Steps of regions that draw: a store of a whole block. No condition. -/
import Derived.Test.YtlamhkffnlgofaaGreatDoorRows
import Derived.Handy
import Derived.Lib.Hide
import Derived.Lib.AppendStr
import Derived.Deep.QuietTactic
import Derived.BigQuiet
import Derived.WalkSpells
import Derived.WalkLawsBesides
import Derived.ShutString
import Derived.ChangeOld
import Derived.Carry
import Derived.SizedLaws
import Derived.Deep.RegionHeld3
import Derived.Deep.Slices
import Derived.Deep.RegionWith
import Derived.Deep.Cut
import Derived.Deep.DeepCutAuto
import Derived.Laws.Tables
import Derived.Deep.AppendLies
import Derived.Laws.CopyOwn
import Derived.IntWalk
import Derived.Deep.CutBlock
set_option maxHeartbeats 400000
set_option maxRecDepth 100000
namespace Go.Proofs.YtlamhkffnlgofaaGreatDoor
open Go.ChangeShapes Go.WideShapes Go.ChangeAt Go.RowKit
open Go.ChangeMaps (open_string shut_string)
def B8 (b:UInt8):Value:=.int .u8 (b.toNat:Int)
def oV (n:Nat):Prop:=n < 18446744073709551616
theorem QM {P:Program} (src dst e:TypeId) (hs:P.underlying src=some (.slice e)) (he:P.underlying e=some (.int .u8)) (hd:P.underlying dst=some .string)
  (W:World) (b off len cap:Nat) (cs:Array Value) (t:TypeId) (fz:Nat × Nat) (l:List UInt8) (hb:W.heap[b]?=some (.cells cs t fz)) (hl:l.length=len)
  (hc:∀ (i:Nat) (x:UInt8),l[i]?=some x→cs[off+i]?=some (B8 x)) :
  (convert src dst (.slice (some ⟨b,off,none⟩) len cap)).run P W = .ok (.string ⟨l.toArray⟩) W:=by
 have:=run_convert_bytes_arg (P:=P) W src e hs he b off len cap (l.map fun x => (x.toNat:Int)) (by simpa using hl) (fun i hi => by
  simp only [World.cell?,hb];have hlt:i < l.length:=by omega
  rw [hc i l[i] (List.getElem?_eq_getElem hlt)];simp [B8,List.getD,hlt]) dst hd
 rw [this]
 congr 2
 simp [strOfNums,List.map_map,Function.comp_def]
theorem bC {k:IntKind} {a b:Int} (h:a=b):Ending.returned (.int k a) = .returned (.int k b):=by rw [h]
theorem au {a b:Bool} (h:a=b):Ending.returned (.bool a) = .returned (.bool b):=by rw [h]
theorem qO (a b:List UInt8):({ data:=a.toArray } : ByteArray) ++ { data:=b.toArray } = { data:=(a ++ b).toArray }:=by
 ext1
 rw [ByteArray.data_append];simp
theorem YB (l:List UInt8) (i j:Nat):({ data:=l.toArray } : ByteArray).extract i j = { data:=((l.take j).drop i).toArray }:=by
 ext1
 rw [ByteArray.data_extract];simp [List.extract_eq_take_drop,List.drop_take]
theorem Pg (l:List UInt8) (i j:Nat) (h:j=l.length):({ data:=l.toArray } : ByteArray).extract i j = { data:=(l.drop i).toArray }:=by
 rw [YB,h,List.take_length]
theorem below_drewN {B:Nat} {a w:World} (h:Below B a w) (n:Nat):Below B a (w.drewN n):=⟨h.os,h.tape,h.output,h.size,h.block⟩
theorem ate (w:World) (o:Obj):(w.alloc o).heap[w.heap.size]?=some o:=heap_alloc_new w o
theorem ZC (n:Int) (h0:0≤n) (h1:n < 256):Value.int .u8 n=B8 (UInt8.ofNat n.toNat):=by
 unfold B8;congr 1;simp;omega
theorem aDE (b:Int) (h0:0≤b) (h1:b < 256):bits .or .u8 b 128=b % 128+128:=by
 have:∀ n:Fin 256,bits .or .u8 (n.val:Int) 128=(n.val:Int) % 128+128:=by decide +kernel
 have:=this ⟨b.toNat,by omega⟩;simpa [Int.toNat_of_nonneg h0] using this
theorem ZE {P:Program} (src dst e:TypeId) (hs:P.underlying src=some (.slice e)) (he:P.underlying e=some (.int .u8)) (hd:P.underlying dst=some .string)
  {W:World} {base n:Nat} {v:Value} {l:List UInt8} {te:TypeId} (h:W.ownsRow base te 1 v n (l.map B8)):(convert src dst v).run P W = .ok (.string ⟨l.toArray⟩) W:=by
 obtain ⟨hlen,h2⟩:=h;rcases h2 with ⟨rfl,rfl⟩ | ⟨g,cap,cur,rfl,hb,hh,hn,hm,hsz,ht⟩
 ·
  have:l = []:=by simpa using hlen
  subst this;rw [run_convert_bytes_nil W src e hs he 0 0 dst hd]
  rfl
 refine QM src dst e hs he hd W g 0 n cap cur te _ l hh (by simpa using hlen) (fun i x hx => ?_);have hi:i < n:=by
  have:=(List.getElem?_eq_some_iff.1 hx).1;simp at hlen;omega
 have h3:(cur.toList.take (n*1))[i]?=some (B8 x):=by rw [ht];simp [hx]
 rw [List.getElem?_take_of_lt (by omega)] at h3;simpa using h3
theorem zDx {p:Prop} (h:p:=by
 intro j u hu;have hj:(⟨W.heap.size,0,none⟩ : Addr).add j=⟨W.heap.size,j,none⟩:=by unfold Addr.add;split <;> simp_all
 rw [hj];simp only [World.cell?,ate];simpa using hu):p:=h
theorem su {P:Program} {ops:Array Oper} {rest:List Oper} {o:Oper} {a:Act} {Q:Exit→Act→World→Prop} (hgd:o.guard=none) (s x:Operand) (t:TypeId)
  (ho:o.op = .call { callee:=.builtin .append,args:=#[s,x],argTypes:=#[t,t] })
  (base:Nat) (e:TypeId) (z:Value) (size bytes:Nat) (ht:P.underlying t=some (.slice e)) (hinfo:(P.info? e).map (fun i => (i.zero,i.size,i.bytes))=some (some z,size,bytes)) (hzs:z.cells.size=size) (hsz:0 < size)
  (v:Value) (n:Nat) (xs:List Value) (hs:a.eval s=v) {W:World} (hown:W.ownsRow base e size v n xs) (news:List Value) (te:TypeId) (c:Nat)
  (hx:a.eval x = .slice (some ⟨W.heap.size,0,none⟩) 1 c) (hl:news.length=size) (h1:∀ u ∈ news,u.oneCell'=true) (hsmall:n < 1048576) (hby:bytes≤1048576) (hbase:base≤W.heap.size)
  (h:∀ v' w',w'.ownsRow base e size v' (n+1) (xs ++ news)→Below base W w'→wpList P ops Q rest (a.put o.dst v') w'):wpList P ops Q (o :: rest) a (W.alloc (.cells news.toArray te)):=by
 obtain ⟨i0,hi,hz0,hz1,hz2⟩:=info_parts hinfo;refine wpList_append_own _ hgd s x t ho base e i0 z size bytes ht hi hz0 hz1 hz2 hzs hsz v n xs hs (hown.alloc _) ⟨W.heap.size,0,none⟩ 1 c news hx (by omega) ?_ h1 (by simp only [maxLen];omega) ?_ (by simp;omega) ?_
 · exact zDx
 ·
  have:(n+1)*bytes≤1048576*1048576:=Nat.mul_le_mul (by omega) hby
  omega
 intro v' w' h2 h3 _;exact h v' w' h2 (((Below.refl base W).alloc hbase _).grown h3 (by simp;omega) (fun k hk => (hown.lt k hk).1))
def Rd (w:World) (B size:Nat) (v:Value) (n:Nat) (xs:List Value):Prop :=
 xs.length=n*size∧∃ A c,v = .slice A n c∧n≤c∧(n=0∨∃ b o,A=some ⟨b,o,none⟩∧b < B∧∀ j u,xs[j]?=some u→w.cell? ⟨b,o+j,none⟩=some u)
section
variable {w w':World} {B B' size n:Nat} {v:Value} {xs:List Value}
theorem Rd.nil_ (w:World) (B size:Nat):Rd w B size (.slice none 0 0) 0 []:=⟨by simp,none,0,rfl,Nat.le_refl _,.inl rfl⟩
theorem Rd.keep (h:Rd w B size v n xs) (hk:∀ p:Addr,p.block < B→w'.cell? p=w.cell? p):Rd w' B size v n xs:=by
 obtain ⟨hl,A,c,hv,hc,h2⟩:=h;refine ⟨hl,A,c,hv,hc,?_⟩;rcases h2 with h2 | ⟨b,o,hA,hb,hcell⟩
 · exact .inl h2
 exact .inr ⟨b,o,hA,hb,fun j u hu => (hk _ hb).trans (hcell j u hu)⟩
theorem zGq {p:Prop} (h:p:=by
 rcases h2 with h2 | ⟨b,o,hA,hb,hcell⟩
 · exact .inl h2
 exact .inr ⟨b,o,hA,by omega,hcell⟩):p:=h
theorem Rd.mono (h:Rd w B size v n xs) (hB:B≤B'):Rd w B' size v n xs:=by
 obtain ⟨hl,A,c,hv,hc,h2⟩:=h;refine ⟨hl,A,c,hv,hc,?_⟩;exact zGq
theorem Rd.below (h:Rd w B size v n xs) (hb:Below B w w'):Rd w' B size v n xs:=h.keep fun _ hp => hb.cell hp
theorem Rd.alloc (h:Rd w B size v n xs) (hB:B≤w.heap.size) (o:Obj):Rd (w.alloc o) B size v n xs:=h.keep fun p hp => World.cell?_of_block (Below.heap_alloc w o p.block (by omega))
theorem Rd.form (h:Rd w B size v n xs):∃ A c,v = .slice A n c∧n≤c:=by
 obtain ⟨_,A,c,hv,hc,_⟩:=h;exact ⟨A,c,hv,hc⟩
theorem Rd.at_ {A:Option Addr} {c:Nat} (h:Rd w B size (.slice A n c) n xs) (hn:0 < n):∃ b o,A=some ⟨b,o,none⟩∧b < B∧∀ j u,xs[j]?=some u→w.cell? ⟨b,o+j,none⟩=some u:=by
 obtain ⟨hl,A',c',hv,hc,h2⟩:=h;injection hv with h3 h4 h5;subst h3;rcases h2 with h2 | h2
 · omega
 exact h2
theorem zGl {p:Prop} (h:p:=by
 rcases Nat.lt_or_ge g w.heap.size with h3 | h3
 · exact h3
 rw [Array.getElem?_eq_none h3] at hh;cases hh):p:=h
theorem Rd.uX {base:Nat} {e:TypeId} (h:w.ownsRow base e size v n xs):Rd w w.heap.size size v n xs:=by
 have h0:=h;obtain ⟨hl,h2⟩:=h;rcases h2 with ⟨rfl,rfl⟩ | ⟨g,cap,cur,rfl,hb,hh,hn,hm,hsz,ht⟩
 · exact ⟨hl,none,0,rfl,Nat.le_refl _,.inl rfl⟩
 refine ⟨hl,_,cap,rfl,hn,.inr ⟨g,0,rfl,?_,fun j u hu => ?_⟩⟩
 · exact zGl
 have:=h0.cells (g:=g) rfl j u hu;have e:(⟨g,0,none⟩ : Addr).add j=⟨g,0+j,none⟩:=by unfold Addr.add;split <;> simp_all
 rwa [e] at this
theorem own_below {base:Nat} {e:TypeId} (h:w.ownsRow base e size v n xs) (hb:Below w.heap.size w w'):w'.ownsRow base e size v n xs :=
 h.kept (row:=none) ⟨hb.os,hb.tape,hb.output,hb.size,fun k hk _ => hb.block k hk⟩ (by
  cases hv:v.ownBlock with
  | none => exact .inl rfl
  | some k => exact .inr (by simp))
theorem own_base {base base':Nat} {e:TypeId} (h:w.ownsRow base e size v n xs) (hb:base'≤base):w.ownsRow base' e size v n xs:=by
 obtain ⟨hl,h2⟩:=h;refine ⟨hl,?_⟩;rcases h2 with h2 | ⟨g,cap,cur,hv,hb2,h3⟩
 · exact .inl h2
 exact .inr ⟨g,cap,cur,hv,by omega,h3⟩
end
theorem arS (l:List UInt8):Lib.strCells ⟨l.toArray⟩=l.map B8:=by
 unfold Lib.strCells;simp [B8]
theorem asE {P:Program} {ops:Array Oper} {rest:List Oper} {o:Oper} {a:Act} {Q:Exit→Act→World→Prop} (hgd:o.guard=none) (sl x:Operand) (t u:TypeId)
  (ho:o.op = .call { callee:=.builtin .append,args:=#[sl,x],argTypes:=#[t,u] })
  (base:Nat) (e:TypeId) (ht:P.underlying t=some (.slice e)) (hu:P.underlying u=some .string) (hinfo:(P.info? e).map (fun i => (i.zero,i.size,i.bytes))=some (some (.int .u8 0),1,1))
  (v:Value) (n:Nat) (l:List UInt8) (hs:a.eval sl=v) {W:World} (hown:W.ownsRow base e 1 v n (l.map B8)) (r:List UInt8) (hx:a.eval x = .string ⟨r.toArray⟩)
  (hsmall:n+r.length≤140737488355328) (hbase:base≤W.heap.size)
  (h:∀ v' w',w'.ownsRow base e 1 v' (n+r.length) ((l ++ r).map B8)→Below base W w'→wpList P ops Q rest (a.put o.dst v') w'):wpList P ops Q (o :: rest) a W:=by
 obtain ⟨i0,hi,hz0,hz1,hz2⟩:=info_parts hinfo;refine Lib.wpList_append_own_string W hgd sl x t u ho base e i0 ht hu hi hz0 hz1 hz2 v n _ hs hown ⟨r.toArray⟩ hx (by simp [maxLen,ByteArray.size];omega) (by simpa [ByteArray.size] using hsmall) hbase ?_;intro v' w' h2 h3 _;refine h v' w' ?_ ((Below.refl base W).grown h3 hbase (fun k hk => (hown.lt k hk).1));rw [arS] at h2;simpa [ByteArray.size] using h2
def I64 (n:Int):Prop := -9223372036854775808≤n∧n≤9223372036854775807
theorem wf_i64 {a:Int} (h:(Lit.int .i64 a).wf=true):I64 a:=by
 simp [Lit.wf,IntKind.min,IntKind.max,IntKind.bits,IntKind.signed] at h;unfold I64;omega
theorem azu (s:ByteArray):∃ l:List UInt8,s = { data:=l.toArray }∧s.size=l.length:=⟨s.data.toList,by cases s;simp,by cases s;simp [ByteArray.size]⟩
theorem ad3:ownKnob Tryz.prog.godebug=none:=by kernel_rfl
theorem ad4:laidOutB Tryz.prog=true:=by kernel_rfl
theorem UN {H:Type} {enc:TypeId × Value→H} {P:Program} (hl:laidOutB P=true) {W W':World} (hb:Below W.heap.size W W') :
  ∀ (ts:List TypeId) (vs:List Value) (ds:List (DataW H)) (ps:List MemPlace),ts.all (fun t => P.readableRec t && decide (t < P.types.size))=true →
   DataW.TrodAll enc P W 0 (fun _ => true) true ts vs ds ps→(∀ x ∈ ps,x.block < W.heap.size)→DataW.TrodAll enc P W' 0 (fun b => decide (b < W.heap.size)) true ts vs ds ps:=by
 intro ts
 induction ts with
 | nil => intro vs ds ps _ h _;exact (match vs,ds,h with | [],[],h => h)
 | cons t ts ih =>
  intro vs ds ps hall h hlt
  match vs,ds,h with
  | v :: vs,d :: ds,⟨p,q,h1,h2,e⟩ =>
   subst e;simp only [List.all_cons,Bool.and_eq_true,decide_eq_true_eq] at hall;exact ⟨p,q,Below.trod hl hall.1.1 hall.1.2 h1 hb (fun x hx => hlt x (List.mem_append_left _ hx)),ih vs ds q hall.2 h2 (fun x hx => hlt x (List.mem_append_right _ hx)),rfl⟩
theorem qI:(∀ (l:List Value) (i:Nat),l.toArray[i]?=l[i]?)∧(∀ (x:Value) (l:List Value) (i:Nat),(x :: l)[i+1]?=l[i]?)∧(∀ (x:Value) (l:List Value),(x :: l)[0]?=some x):=⟨fun _ _ => by simp,fun _ _ _ => by simp,fun _ _ => by simp⟩
theorem Oe (w:World):∀ o1 o2:Obj,Below w.heap.size w ((w.alloc o1).alloc o2):=fun o1 o2 => ((Below.refl w.heap.size w).alloc (Nat.le_refl _) o1).alloc (show w.heap.size≤(w.alloc o1).heap.size by simp) o2
theorem KH (w:World):∀ o1 o2 o3:Obj,Below w.heap.size w (((w.alloc o1).alloc o2).alloc o3):=fun o1 o2 o3 => (((Below.refl w.heap.size w).alloc (Nat.le_refl _) o1).alloc (show w.heap.size≤(w.alloc o1).heap.size by simp) o2).alloc (show w.heap.size≤((w.alloc o1).alloc o2).heap.size by simp;omega) o3
end Go.Proofs.YtlamhkffnlgofaaGreatDoor
namespace Go.Proofs.YtlamhkffnlgofaaGreatDoor
open Go.ChangeShapes Go.WideShapes Go.ChangeAt Go.RowKit
def ru:Nat→Nat→List UInt8→Nat × Nat × Nat
 | _,_,[] => (0,0,10)
 | i,n,b :: r =>
  if i=9∧1 < b.toNat then (0,0,7)
  else if 128≤b.toNat then ru (i+1) (n+b.toNat % 128*128 ^ i) r
  else if b.toNat=0∧0 < i then (0,0,2)
  else (n+b.toNat*128 ^ i,i+1,0)
theorem byte_at (l:List UInt8) (k:Nat) (h:k < l.length):∃ b r,l.drop k=b :: r∧({ data:=l.toArray } : ByteArray)[k]'(by simpa [ByteArray.size] using h)=b∧l.drop (k+1)=r:=by
 refine ⟨l[k],l.drop (k+1),List.drop_eq_getElem_cons h,rfl,rfl⟩
theorem aiJ (k:Nat):(2:Int) ^ (7*k)=((128 ^ k:Nat):Int):=by
 rw [show (128:Nat)=2 ^ 7 from rfl,← Nat.pow_mul]
 norm_cast
theorem VH (n x k:Nat) (hn:n < 128 ^ k) (hx:x < 128) (hk:k≤8∨(k=9∧x≤1)) :
  bits .or .u64 (n:Int) (IntKind.u64.wrap ((x:Int)*2 ^ (7*k)))=((n+x*128 ^ k:Nat):Int)∧n+x*128 ^ k < 128 ^ (k+1)∧n+x*128 ^ k < 18446744073709551616:=by
 have h1:n+x*128 ^ k < 128 ^ (k+1):=by
  rw [Nat.pow_succ,Nat.mul_comm _ 128];have:x*128 ^ k≤127*128 ^ k:=Nat.mul_le_mul_right _ (by omega);omega
 have h2:n+x*128 ^ k < 18446744073709551616:=by
  rcases hk with hk | ⟨rfl,hx1⟩
  ·
   have:128 ^ (k+1)≤128 ^ 9:=Nat.pow_le_pow_right (by omega) (by omega);have e:(128:Nat) ^ 9 < 18446744073709551616:=by decide
   omega
  have:x*128 ^ 9≤1*128 ^ 9:=Nat.mul_le_mul_right _ hx1;have e:(128:Nat) ^ 9=9223372036854775808:=by decide
  omega
 refine ⟨?_,h1,h2⟩;rw [aiJ,← Int.natCast_mul,IntKind.wrap_u64];have h3:((x*128 ^ k:Nat):Int) % 18446744073709551616=((x*128 ^ k:Nat):Int):=by
  apply Int.emod_eq_of_lt <;> omega
 rw [h3,u64_or_nat _ _ (by omega) (by omega)]
 congr 1
 have e7:(128:Nat) ^ k=2 ^ (7*k):=by rw [show (128:Nat)=2 ^ 7 from rfl,← Nat.pow_mul]
 rw [e7] at hn ⊢;have:=Nat.two_pow_add_eq_or_of_lt hn x;rw [Nat.or_comm,Nat.mul_comm x,← this,Nat.add_comm]
theorem aiK (b:UInt8):IntKind.u64.wrap (bits .and .u8 (b.toNat:Int) 127)=((b.toNat % 128:Nat):Int):=by
 have hb:=b.toNat_lt;have h:bits .and .u8 (b.toNat:Int) 127=(b.toNat:Int) % 128:=bits_mask .u8 8 (by decide) wraps_u8 7 (by decide) _ (by omega) (by omega);rw [h,IntKind.wrap_u64];omega
theorem Jm (i n:Nat) (b:UInt8) (r:List UInt8) (h:i=9) (h1:1 < b.toNat):ru i n (b :: r)=(0,0,7):=by
 rw [ru,if_pos ⟨h,h1⟩]
theorem Gx (i n:Nat) (b:UInt8) (r:List UInt8) (h:¬ (i=9∧1 < b.toNat)) (h1:128≤b.toNat):ru i n (b :: r)=ru (i+1) (n+b.toNat % 128*128 ^ i) r:=by
 rw [ru,if_neg h,if_pos h1]
theorem Ig (i n:Nat) (b:UInt8) (r:List UInt8) (h:¬ (i=9∧1 < b.toNat)) (h1:b.toNat=0) (h2:0 < i):ru i n (b :: r)=(0,0,2):=by
 rw [ru,if_neg h,if_neg (by omega),if_pos ⟨h1,h2⟩]
theorem Ed (i n:Nat) (b:UInt8) (r:List UInt8) (h:¬ (i=9∧1 < b.toNat)) (h1:b.toNat < 128) (h2:¬ (b.toNat=0∧0 < i)):ru i n (b :: r)=(n+b.toNat*128 ^ i,i+1,0):=by
 rw [ru,if_neg h,if_neg (by omega),if_neg h2]
theorem or_zero (n k x:Nat) (hx:x=0) (h:bits .or .u64 (n:Int) (IntKind.u64.wrap ((x:Int)*2 ^ (7*k)))=((n+x*128 ^ k:Nat):Int)):bits .or .u64 (n:Int) 0=((n+x*128 ^ k:Nat):Int):=by
 rw [← h,hx,Int.natCast_zero,Int.zero_mul];rfl
theorem agS (n k x:Nat) (hk:k=9) (hx:x≤1) (h:bits .or .u64 (n:Int) (IntKind.u64.wrap ((x:Int)*2 ^ (7*k)))=((n+x*128 ^ k:Nat):Int)):bits .or .u64 (n:Int) ((x:Int)*9223372036854775808)=((n+x*128 ^ k:Nat):Int):=by
 rw [← h,hk,IntKind.wrap_u64]
 congr 1
 rw [show (2:Int) ^ (7*9)=9223372036854775808 from rfl];omega
theorem ad5 (a b:Int) {a':Int} {q:Nat} (h:a=a') (h2:b=(q:Int)):Ending.returned (.tuple #[.int .u64 a,.int .i64 b,.int .i64 0])=Ending.returned (.tuple #[.int .u64 a',.int .i64 (q:Int),.int .i64 0]):=by
 rw [h,h2]
theorem get_any (l:List UInt8) (w:World) :
  Calls Tryz.prog 115 #[.string ⟨l.toArray⟩] w fun e w' => e = .returned (.tuple #[.int .u64 (ru 0 0 l).1,.int .i64 (ru 0 0 l).2.1,.int .i64 (ru 0 0 l).2.2])∧w=w':=by
 go_enter Tryz.func115,Tryz.ntmps115
 go_wp2
 all_goals
  go_loop [5,11] (fun a i => ∃ k n:Nat,k≤9∧k≤l.length∧a = .int .u64 n∧i = .int .i64 k∧ru 0 0 l=ru k n (l.drop k)∧Hid (n < 128 ^ k)) (fun _ i => 10 - (intOf i).toNat)
  case atStart => exact ⟨0,0,by omega,by omega,rfl,rfl,rfl,by show _ < _;omega⟩
  case round =>
   obtain ⟨k,n,hk,hk2,rfl,rfl,hp,hm⟩:=hrel;have Hp:=Lib.hid hp;clear hp;by_cases hlt:k < l.length
   ·
    obtain ⟨b,r,hd,hb,hr⟩:=byte_at l k hlt;have Hd:=Lib.hid hd;have Hr:=Lib.hid hr;clear hd hr;have hbl:b.toNat < 256:=b.toNat_lt;go_wp2
    all_goals first
     | (go_ret3;refine ⟨?_,rfl⟩;rw [Hp.out,Hd.out,Jm k n b r (by omega) (by omega)];rfl)
     | (go_ret3;refine ⟨?_,rfl⟩;rw [Hp.out,Hd.out,Ig k n b r (by omega) (by omega) (by omega)];rfl)
     | (
      go_ret3;refine ⟨?_,rfl⟩;have hx:b.toNat < 128:=by omega
      have hg:=VH n b.toNat k hm.out hx (by omega);rw [Hp.out,Hd.out,Ed k n b r (by omega) (by omega) (by omega)];refine ad5 (a':=((n+b.toNat*128 ^ k:Nat):Int)) (q:=k+1) _ _ ?_ ?_
      · first | (with_reducible exact hg.1) | (refine or_zero n k b.toNat ?_ hg.1;omega) | (refine agS n k b.toNat ?_ ?_ hg.1 <;> omega)
      first | (with_reducible rfl) | omega)
     | (
      go_round
      case rel =>
       have hg:=VH n (b.toNat % 128) k hm.out (by omega) (by omega);exact ⟨k+1,n+b.toNat % 128*128 ^ k,by omega,by omega,by rw [aiK,hg.1],by go_num,by rw [Hp.out,Hd.out,Hr.out,Gx k n b r (by omega) (by omega)],hg.2.1⟩
      case measure => simp [intOf];omega)
   have hke:k=l.length:=by omega
   clear hm;go_wp2
   all_goals go_ret3
   all_goals refine ⟨?_,rfl⟩
   all_goals rw [Hp.out,List.drop_of_length_le (by omega)]
   all_goals rfl
def pJ:Nat→Nat→List UInt8
 | 0,n => [UInt8.ofNat n]
 | f+1,n => if n < 128 then [UInt8.ofNat n] else UInt8.ofNat (n % 128+128) :: pJ f (n / 128)
def aoA (k:Nat) (l:List UInt8):Array Value:=(l.map B8 ++ List.replicate (10-k) (B8 0)).toArray
theorem axG (k:Nat) (l:List UInt8) (hl:l.length=k) (hk:k≤9):(aoA k l)[k]?=some (B8 0):=by
 unfold aoA;rw [List.getElem?_toArray,List.getElem?_append_right (by simp [hl]),List.getElem?_replicate_of_lt (by simp [hl];omega)]
theorem atK (k:Nat) (l:List UInt8) (hl:l.length=k) (hk:k≤9) (b:UInt8):(aoA k l).setIfInBounds k (B8 b)=aoA (k+1) (l ++ [b]):=by
 unfold aoA;rw [List.setIfInBounds_toArray]
 congr 1
 have:10 - k=(10 - (k+1))+1:=by omega
 rw [this,List.replicate_succ];subst hl;rw [List.set_append_right _ _ (by simp)];simp
theorem axH (k:Nat) (l:List UInt8) (i:Nat) (x:UInt8) (h:l[i]?=some x):(aoA k l)[i]?=some (B8 x):=by
 unfold aoA;rw [List.getElem?_toArray,List.getElem?_append_left (by simp;exact (List.getElem?_eq_some_iff.1 h).1)];simp [h]
theorem ag1 (f m:Nat) (h:m < 128):pJ f m = [UInt8.ofNat m]:=by cases f <;> simp [pJ,h]
theorem ag2 (k m:Nat) (h:¬ m < 128) (hk:k < 9):pJ (9 - k) m=UInt8.ofNat (m % 128+128) :: pJ (9 - (k+1)) (m / 128):=by
 have:9 - k=(9 - (k+1))+1:=by omega
 rw [this,pJ,if_neg h]
theorem zGw {p:Prop} (h:p:=by
 rcases Nat.lt_or_ge k 9 with h | h
 · exact h
 obtain rfl:k=9:=by omega
 have:=hm.out;omega):p:=h
theorem put (n:Nat) (hn:oV n) (w:World) :
  Calls Tryz.prog 79 #[.int .u64 n] w fun e w' => e = .returned (.string ⟨(pJ 9 n).toArray⟩)∧Below w.heap.size w w':=by
 go_enter Tryz.func79,Tryz.ntmps79
 go_wp2
 go_loopw [0,4] (fun a i wr => ∃ k m:Nat,∃ l:List UInt8,k≤9∧l.length=k∧a = .int .u64 m∧i = .int .i64 k∧pJ 9 n=l ++ pJ (9-k) m∧wr=w.alloc (.cells (aoA k l) 167)∧Hid (m*128 ^ k < 18446744073709551616))
  (fun _ i _ => 10 - (intOf i).toNat)
 case atStart => exact ⟨0,n,[],by omega,rfl,rfl,rfl,rfl,rfl,by rw [Nat.pow_zero,Nat.mul_one];exact hn⟩
 case round =>
  obtain ⟨k,m,l,hk,hl,rfl,rfl,hp,rfl,hm⟩:=hrel;have Hl:=Lib.hid hl;have Hp:=Lib.hid hp;have hc:=axG k l hl hk;clear hl hp;by_cases hlt:m < 128
  ·
   have hsl:∀ W,(Instr.sliceAt 167 (.pointer (some ⟨w.heap.size,0,none⟩)) none (some (.int .i64 ((k:Int)+1))) none).run Tryz.prog W = .ok (.slice (some ⟨w.heap.size,0,none⟩) (k+1) 10) W:=by
    intro W;rw [run_sliceAt_array_h W 167 ⟨w.heap.size,0,none⟩ (by simp [Program.arrayLen,Program.elem,Tryz.underlying167]) .i64 ((k:Int)+1) (by omega) (by simp [Program.arrayLen,Tryz.underlying167];omega)];simp [go_sem,slicedAt,Program.elem,Program.arrayLen,Tryz.underlying167]
   go_wp2
   rw [ZC m (by omega) (by omega),atK k l Hl.out hk,QM 87 9 5 Tryz.underlying87 Tryz.underlying5 Tryz.underlying9 _ _ _ _ _ _ _ _ (l ++ [UInt8.ofNat m]) (ate _ _) (by simp [Hl.out]) (fun i x h => by simpa using axH _ _ _ _ h)];go_wp2
   go_ret;refine ⟨?_,(Below.refl _ _).alloc (Nat.le_refl _) _⟩;rw [Hp.out,ag1 _ _ hlt];rfl
  have hk9:k < 9:=by
   exact zGw
  go_wp2
  go_round
  case rel =>
   refine ⟨k+1,m/128,l ++ [UInt8.ofNat (m % 128+128)],by omega,by simp [Hl.out],by go_num,by go_num,?_,?_,?_⟩
   · rw [Hp.out,ag2 _ _ hlt hk9];simp
   ·
    rw [aDE _ (by omega) (by omega),ZC _ (by omega) (by omega),atK k l Hl.out hk]
    congr 6
    omega
   have:=hm.out;have h2:m / 128*128≤m:=Nat.div_mul_le_self _ _;show _ < _
   calc m / 128*128 ^ (k+1)=(m / 128*128)*128^k:=by rw [Nat.pow_succ,Nat.mul_comm (128^k),Nat.mul_assoc]
    _≤m*128 ^ k:=Nat.mul_le_mul_right _ h2
    _ < _:=this
  case measure => simp [intOf];omega
theorem Wp (m k:Nat) (h:m*128 ^ k < 18446744073709551616):m / 128*128 ^ (k+1) < 18446744073709551616:=by
 have h2:m / 128*128≤m:=Nat.div_mul_le_self _ _
 calc m / 128*128 ^ (k+1)=(m / 128*128)*128^k:=by rw [Nat.pow_succ,Nat.mul_comm (128^k),Nat.mul_assoc]
  _≤m*128 ^ k:=Nat.mul_le_mul_right _ h2
  _ < _:=h
theorem qw (f n:Nat):(pJ f n).length≤f+1:=by
 induction f generalizing n with
 | zero => simp [pJ]
 | succ f ih =>
  rw [pJ];split
  · simp
  have:=ih (n / 128);simp;omega
theorem ag3:∀ (f i m acc:Nat) (rest:List UInt8),f=9 - i→i≤9→m*128 ^ i < 18446744073709551616→(0 < i→m≠0)→ru i acc (pJ f m ++ rest)=(acc+m*128 ^ i,i+(pJ f m).length,0):=by
 intro f
 induction f with
 | zero =>
  intro i m acc rest hf hi hm h0;obtain rfl:i=9:=by omega
  have e:(128:Nat) ^ 9=9223372036854775808:=by decide
  rw [e] at hm;have hm2:m < 2:=by omega
  have e2:(UInt8.ofNat m).toNat=m:=by simp;omega
  rw [pJ,List.singleton_append,Ed 9 acc _ _ (by omega) (by omega) (by omega),e2]
  rfl
 | succ f ih =>
  intro i m acc rest hf hi hm h0;by_cases h:m < 128
  ·
   have e2:(UInt8.ofNat m).toNat=m:=by simp;omega
   rw [pJ,if_pos h,List.singleton_append,Ed i acc _ _ (by omega) (by omega) (by omega),e2]
   rfl
  have e2:(UInt8.ofNat (m % 128+128)).toNat=m % 128+128:=by simp;omega
  rw [pJ,if_neg h,List.cons_append,Gx i acc _ _ (by omega) (by omega),e2,ih (i+1) (m / 128) _ rest (by omega) (by omega) (Wp m i hm) (by omega)];have e3:(m % 128+128) % 128=m % 128:=by omega
  rw [e3];have e4:acc+m % 128*128 ^ i+m / 128*128 ^ (i+1)=acc+m*128 ^ i:=by
   rw [Nat.pow_succ,Nat.add_assoc,show m / 128*(128 ^ i*128)=(m / 128*128)*128 ^ i from by rw [Nat.mul_comm (128 ^ i),Nat.mul_assoc],← Nat.add_mul]
   congr 2;omega
  rw [e4,List.length_cons]
  congr 2
  omega
theorem aeu (n:Nat) (hn:oV n) (rest:List UInt8):ru 0 0 (pJ 9 n ++ rest)=(n,(pJ 9 n).length,0):=by
 rw [ag3 9 0 n 0 rest rfl (by omega) (by rw [Nat.pow_zero,Nat.mul_one];exact hn) (by omega)];simp
def zig (n:Int):Int:=if 0≤n then 2*n else -2*n - 1
def yU (n:Int):Int:=if n % 2=0 then n / 2 else -(n / 2) - 1
theorem VI (b:Nat) (hb:b < 2 ^ 64):(2 ^ 64 - 1) ^^^ b=2 ^ 64 - 1 - b:=by
 apply Nat.eq_of_testBit_eq
 intro i;rw [Nat.testBit_xor,Nat.testBit_two_pow_sub_one,show 2 ^ 64 - 1 - b=2 ^ 64 - (b+1) by omega,Nat.testBit_two_pow_sub_succ hb];by_cases hi:i < 64
 · simp [hi]
 have:b.testBit i=false:=Nat.testBit_lt_two_pow (Nat.lt_of_lt_of_le hb (Nat.pow_le_pow_right (by decide) (by omega)));simp [hi,this]
theorem ad6 (n:Int) (h:I64 n):bits .xor .u64 (IntKind.u64.wrap (IntKind.u64.wrap n*2)) (IntKind.u64.wrap (n / 9223372036854775808))=zig n:=by
 obtain ⟨h0,h1⟩:=h;unfold zig;split
 ·
  have e1:IntKind.u64.wrap (IntKind.u64.wrap n*2)=(((2*n).toNat:Nat):Int):=by
   rw [IntKind.wrap_u64,IntKind.wrap_u64];omega
  have e2:IntKind.u64.wrap (n / 9223372036854775808)=((0:Nat):Int):=by
   rw [IntKind.wrap_u64];omega
  rw [e1,e2,u64_xor_nat _ _ (by omega) (by omega),Nat.xor_zero];omega
 have e1:IntKind.u64.wrap (IntKind.u64.wrap n*2)=(((2*n+18446744073709551616).toNat:Nat):Int):=by
  rw [IntKind.wrap_u64,IntKind.wrap_u64];omega
 have e2:IntKind.u64.wrap (n / 9223372036854775808)=((2 ^ 64 - 1:Nat):Int):=by
  rw [IntKind.wrap_u64];omega
 rw [e1,e2,u64_xor_nat _ _ (by omega) (by decide),Nat.xor_comm,VI _ (by omega)];omega
theorem YD (n:Int) (h:I64 n) (w:World):Calls Tryz.prog 108 #[.int .i64 n] w fun e w' => e = .returned (.int .u64 (zig n))∧w=w':=by
 have H:=Lib.hid (ad6 n h);go_enter Tryz.func108,Tryz.ntmps108
 go_wp2
 go_ret;exact ⟨by rw [← H.out];rfl,rfl⟩
theorem zDv {p:Prop} (h:p:=by
 by_cases hn:0≤n
 ·
  go_enter Tryz.func87,Tryz.ntmps87
  go_wp2
  go_ret;refine ⟨bC ?_,rfl⟩;obtain ⟨h0,h1⟩:=h;unfold zig;rw [if_pos hn,IntKind.wrap_u64,IntKind.wrap_u64];omega
 go_enter Tryz.func87,Tryz.ntmps87
 go_wp2
 go_ret;refine ⟨bC ?_,rfl⟩;obtain ⟨h0,h1⟩:=h;unfold zig;rw [if_neg (by omega)];simp only [IntKind.wrap_u64,wrap64];omega):p:=h
theorem Ph (n:Int) (h:I64 n) (w:World):Calls Tryz.prog 87 #[.int .i64 n] w fun e w' => e = .returned (.int .u64 (zig n))∧w=w':=by
 exact zDv
theorem TT (n:Int) (h:I64 n):0≤zig n∧zig n < 18446744073709551616:=by
 obtain ⟨h0,h1⟩:=h;unfold zig;split <;> omega
theorem KJ (n:Int):yU (zig n)=n:=by
 unfold zig yU;split <;> split <;> omega
def Has (w:World) (g:Nat) (t:TypeId) (cs:Array Value):Prop:=w.heap[g]?=some (.cells cs t (0,0))
section
variable {w w':World} {g:Nat} {t:TypeId} {cs:Array Value}
theorem Has.here (h:Has w g t cs):g < w.heap.size:=by
 rcases Nat.lt_or_ge g w.heap.size with h1 | h1
 · exact h1
 unfold Has at h;rw [Array.getElem?_eq_none h1] at h;cases h
theorem Has.cell (h:Has w g t cs) (i:Nat):w.cell? ⟨g,i,none⟩=cs[i]?:=by
 unfold Has at h;simp [World.cell?,h]
theorem Has.free (h:Has w g t cs) (i:Nat):w.frozen? ⟨g,i,none⟩=false:=by
 unfold Has at h;simp [World.frozen?,h]
theorem Has.made (w:World) (t:TypeId) (cs:Array Value):Has (w.alloc (.cells cs t)) w.heap.size t cs:=heap_alloc_new w _
theorem Has.alloc (h:Has w g t cs) (o:Obj):Has (w.alloc o) g t cs:=(Below.heap_alloc w o g h.here).trans h
theorem Has.drew (h:Has w g t cs):Has w.drew g t cs:=h
theorem Has.drewN (h:Has w g t cs) (n:Nat):Has (w.drewN n) g t cs:=h
theorem Has.set (h:Has w g t cs) (i:Nat) (u:Value):Has (w.setCell ⟨g,i,none⟩ u) g t (cs.setIfInBounds i u):=by
 unfold Has at h ⊢;simp [World.setCell,Array.getElem?_modify,h]
theorem Has.far (h:Has w g t cs) {p:Addr} (hp:g≠p.block) (u:Value):Has (w.setCell p u) g t cs:=(Below.heap_setCell w p u g hp).trans h
theorem Has.below {B:Nat} (h:Has w g t cs) (hb:Below B w w') (hg:g < B):Has w' g t cs:=(hb.block g hg).trans h
end
def Sz {H:Type} (t:TypeId) (d:DataW H):Prop := ∀ n ∈ d.weights Tryz.prog t,n≤140737488351232
theorem abT:reachBytes=140737488351232:=by decide
theorem ZG {H:Type} {ts:List TypeId} {ds:List (DataW H)} (h:(DataW.weightsEach Tryz.prog ts ds).all (· ≤ reachBytes)=true) {j:Nat} {t:TypeId} {d:DataW H} (ht:ts[j]?=some t) (hd:ds[j]?=some d):Sz t d:=fun n hn => by
 have:=List.all_eq_true.1 h n (DataW.weights_mem_each ht hd n hn);rw [← abT];simpa using this
theorem Iy {H:Type} {P:Program} {e:TypeId} : ∀ {ds:List (DataW H)} {d:DataW H},d ∈ ds→∀ n ∈ d.weights P e,n ∈ DataW.weightsAll P e ds
 | d0 :: ds,d,hd,n,hn => by
  rw [DataW.weightsAll];rcases List.mem_cons.1 hd with rfl | hd
  · exact List.mem_append_left _ hn
  exact List.mem_append_right _ (Iy hd n hn)
theorem QN {H:Type} {P:Program} : ∀ {ts:List TypeId} {ds:List (DataW H)} {j:Nat} {t:TypeId} {d:DataW H},ts[j]?=some t→ds[j]?=some d→∀ n ∈ d.weights P t,n ∈ DataW.weightsEach P ts ds:=DataW.weights_mem_each
theorem Sz.str {H:Type} {t:TypeId} {b:List UInt8} (h:Sz t (.lit (.string b):DataW H)):b.length≤140737488351232:=h _ (by simp [DataW.weights])
theorem Sz.field {H:Type} {t:TypeId} {fs:Array Field} {parts:List (DataW H)} (h:Sz t (.agg parts)) (ht:Tryz.prog.underlying t=some (.struct fs)) {i:Nat} {f:Field} {d:DataW H} (hf:fs[i]?=some f) (hd:parts[i]?=some d):Sz f.type d:=fun n hn => by
 refine h n ?_;simp only [DataW.weights,ht];exact QN (j:=i) (by simpa using ⟨f,hf,rfl⟩) hd n hn
theorem Sz.len {H:Type} {t e:TypeId} {es sp:List (DataW H)} (h:Sz t (.slice es sp)) (ht:Tryz.prog.underlying t=some (.slice e)):(es.length+sp.length)*Tryz.prog.bytesOf e≤140737488351232 :=
 h _ (by simp [DataW.weights,ht])
theorem Sz.elem {H:Type} {t e:TypeId} {es sp:List (DataW H)} (h:Sz t (.slice es sp)) (ht:Tryz.prog.underlying t=some (.slice e)) {d:DataW H} (hd:d ∈ es):Sz e d:=fun n hn =>
 h n (by simp only [DataW.weights,ht];exact List.mem_cons_of_mem _ (List.mem_append_left _ (Iy hd n hn)))
section
variable {H:Type} {enc:TypeId × Value→H} {w:World} {base:Nat} {spare:Nat→Bool} {held:Bool}
theorem zEv {p:Prop} (h:p:=by
 have hj:j < size:=by rw [← h1];exact (List.getElem?_eq_some_iff.1 hv).1
 have e1:((⟨b,o,none⟩ : Addr).add (i*size)).add j=⟨b,o+i*size+j,none⟩:=by unfold Addr.add;split <;> split <;> simp_all
 rw [← e1,h2 j hj,hv]):p:=h
theorem zEy {p:Prop} (h:p:=by
 obtain ⟨cs',h1,h2,_⟩:=hcell 0 (by omega);have:=h2 0 hpos;have e0:(a.add (0*size)).add 0=a:=by simp [Addr.add]
 rw [e0] at this;exact ⟨cs'[0]'(by omega),by rw [this];exact List.getElem?_eq_getElem (by omega)⟩):p:=h
theorem zGi {p:Prop} (h:p:=by
 obtain ⟨cs',h1,h2⟩:=hel i (by omega);rw [hC] at h1;obtain ⟨_,h3,h4⟩:=World.cells?_some h1;exact ⟨cs',h3,h4,h2⟩):p:=h
theorem zGo {p:Prop} (h:p:=by
 cases hs:a.spot with
 | none => rfl
 | some s => simp [World.cell?,hs] at hu;split at hu <;> simp at hu):p:=h
theorem abU {t e:TypeId} {size fuel:Nat} {cs:List Value} {x:DataW H × List MemPlace} (ht:Tryz.prog.underlying t=some (.slice e)) (hC:Tryz.prog.cellsOf e=size) (hpos:0 < size)
  (h:DataW.trod enc Tryz.prog w base spare held fuel t cs=some x) (hs:Sz t x.1) :
  ∃ (A:Option Addr) (len cap:Nat),cs = [.slice A len cap]∧len≤cap∧len*Tryz.prog.bytesOf e≤140737488351232 ∧
   (len=0∨∃ b o,A=some ⟨b,o,none⟩∧b < w.heap.size∧∃ (N:Nat) (D:Nat→DataW H) (Pl:Nat→List MemPlace),∀ i,i < len→∃ cs',cs'.length=size ∧
    (∀ j u,cs'[j]?=some u→w.cell? ⟨b,o+i*size+j,none⟩=some u)∧DataW.trod enc Tryz.prog w base spare held N e cs'=some (D i,Pl i)∧Sz e (D i)):=by
 rcases Go.Deep.open_slice ht h with ⟨rfl,_⟩ | ⟨a,len,cap,m,n,D,Pl,rfl,hb,hl,hm,hmm,rfl,hel⟩
 · exact ⟨none,0,0,rfl,Nat.le_refl _,by simp,.inl rfl⟩
 have hlm:len≤m:=by rw [hmm];split <;> omega
 refine ⟨some a,len,cap,rfl,hl,?_,?_⟩
 ·
  have:=hs.len ht;simp only [List.length_map,List.length_range] at this;exact Nat.le_trans (Nat.mul_le_mul_right _ (by omega)) this
 by_cases h0:len=0
 · exact .inl h0
 right
 have hcell:∀ i,i < len→∃ cs',cs'.length=size∧(∀ j,j < size→w.cell? ((a.add (i*size)).add j)=cs'[j]?)∧DataW.trod enc Tryz.prog w base spare held n e cs'=some (D i,Pl i):=fun i hi => by
  exact zGi
 have h00:∃ u,w.cell? a=some u:=by
  exact zEy
 obtain ⟨u,hu⟩:=h00;have hsp:a.spot=none:=by
  exact zGo
 obtain ⟨b,o,sp⟩:=a;simp only at hsp;subst hsp;refine ⟨b,o,rfl,World.block_lt_of_cell? _ _ hu,n,D,Pl,fun i hi => ?_⟩;obtain ⟨cs',h1,h2,h3⟩:=hcell i hi;refine ⟨cs',h1,fun j v hv => ?_,h3,hs.elem ht (List.mem_map.2 ⟨i,by simpa using hi,rfl⟩)⟩;exact zEv
end
theorem VN {α:Type} {f:α→List Value} {size:Nat} (hf:∀ a,(f a).length=size) (xs:List α):(xs.flatMap f).length=xs.length*size:=by
 induction xs with
 | nil => simp
 | cons x r ih => rw [List.flatMap_cons,List.length_append,hf,ih,List.length_cons,Nat.succ_mul,Nat.add_comm]
theorem flat_get {α:Type} {f:α→List Value} {size:Nat} (hf:∀ a,(f a).length=size) (xs:List α):∀ (k j:Nat) (h:k < xs.length),j < size→(xs.flatMap f)[k*size+j]?=(f xs[k])[j]?:=by
 induction xs with
 | nil => intro k j h;simp at h
 | cons x r ih =>
  intro k j h hj;rw [List.flatMap_cons];cases k with
  | zero => rw [List.getElem?_append_left (by rw [hf];omega)];simp
  | succ k =>
   rw [List.getElem?_append_right (by rw [hf,Nat.succ_mul];omega),hf];have e2:(k+1)*size+j - size=k*size+j:=by rw [Nat.succ_mul];omega
   rw [e2,ih k j (by simpa using h) hj];simp
theorem ad9 {α:Type} {f:α→List Value} {size:Nat} (hf:∀ a,(f a).length=size) (hpos:0 < size) (xs:List α) (j:Nat) (u:Value) (h:(xs.flatMap f)[j]?=some u):∃ hk:j / size < xs.length,(f (xs[j / size]))[j % size]?=some u:=by
 have hl:=(List.getElem?_eq_some_iff.1 h).1;rw [VN hf] at hl;have hk:j / size < xs.length:=Nat.div_lt_of_lt_mul (by rw [Nat.mul_comm];exact hl);refine ⟨hk,?_⟩;rw [← flat_get hf xs (j / size) (j % size) hk (Nat.mod_lt _ hpos)];have:j / size*size+j % size=j:=by rw [Nat.mul_comm];exact Nat.div_add_mod j size
 rw [this,h]
theorem zCd {p:Prop} (h:p:=by
 have hall:∀ n,n≤len→∃ xs:List α,xs.length=n∧(∀ a ∈ xs,good a)∧∀ i (h:i < xs.length),∀ j u,(f xs[i])[j]?=some u→w.cell? ⟨b,o+i*size+j,none⟩=some u:=by
  intro n
  induction n with
  | zero => intro _;exact ⟨[],rfl,by simp,fun i h => by simp at h⟩
  | succ n ih =>
   intro hn;obtain ⟨xs,h1,h2,h3⟩:=ih (by omega);obtain ⟨a,hg,ha⟩:=hex n (by omega);refine ⟨xs ++ [a],by simp [h1],fun y hy => ?_,fun i hi j u hu => ?_⟩
   ·
    rcases List.mem_append.1 hy with hy | hy
    · exact h2 y hy
    rw [List.mem_singleton.1 hy];exact hg
   rw [List.length_append,List.length_singleton] at hi;rcases Nat.lt_or_ge i xs.length with hlt | hge
   · rw [List.getElem_append_left hlt] at hu;exact h3 i hlt j u hu
   obtain rfl:i=xs.length:=by omega
   rw [List.getElem_append_right (Nat.le_refl _)] at hu;simp only [Nat.sub_self,List.getElem_cons_zero] at hu;rw [h1];exact ha j u hu
 obtain ⟨xs,h1,h2,h3⟩:=hall len (Nat.le_refl _);subst h1;refine ⟨_,xs,rfl,hb,h2,VN hf xs,_,cap,rfl,hl,?_⟩;refine .inr ⟨b,o,rfl,hlt,fun j u hu => ?_⟩;obtain ⟨hk,hu2⟩:=ad9 hf hpos xs j u hu;have:=h3 _ hk _ _ hu2;have e:o+j / size*size+j % size=o+j:=by
  have:=Nat.div_add_mod j size;rw [Nat.mul_comm] at this;omega
 rw [e] at this;exact this):p:=h
theorem open_list {H:Type} {enc:TypeId × Value→H} {w:World} {base:Nat} {spare:Nat→Bool} {held:Bool} {α:Type} {good:α→Prop} {f:α→List Value}
  {t e:TypeId} {size fuel:Nat} {cs:List Value} {x:DataW H × List MemPlace} (ht:Tryz.prog.underlying t=some (.slice e)) (hC:Tryz.prog.cellsOf e=size) (hpos:0 < size) (hf:∀ a,(f a).length=size)
  (h:DataW.trod enc Tryz.prog w base spare held fuel t cs=some x) (hs:Sz t x.1)
  (hel:∀ (N:Nat) (cs':List Value) (D:DataW H) (Q:List MemPlace),cs'.length=size→DataW.trod enc Tryz.prog w base spare held N e cs'=some (D,Q)→Sz e D→∃ a,cs'=f a∧good a) :
  ∃ (v:Value) (xs:List α),cs = [v]∧xs.length*Tryz.prog.bytesOf e≤140737488351232∧(∀ a ∈ xs,good a)∧Rd w w.heap.size size v xs.length (xs.flatMap f):=by
 obtain ⟨A,len,cap,rfl,hl,hb,hrow⟩:=abU ht hC hpos h hs;rcases hrow with rfl | ⟨b,o,rfl,hlt,N,D,Pl,hi⟩
 · exact ⟨_,[],rfl,by simp,by simp,by simp,A,cap,rfl,hl,.inl rfl⟩
 have hex:∀ i,i < len→∃ a,good a∧∀ j u,(f a)[j]?=some u→w.cell? ⟨b,o+i*size+j,none⟩=some u:=fun i h0 => by
  obtain ⟨cs',h1,h2,h3,h4⟩:=hi i h0;obtain ⟨a,rfl,hg⟩:=hel N cs' (D i) (Pl i) h1 h3 h4;exact ⟨a,hg,h2⟩
 exact zCd
theorem grown_below {W w':World} {base:Nat} {e:TypeId} {size n:Nat} {v:Value} {xs:List Value} {o:Obj} (hown:W.ownsRow base e size v n xs) (hb:base≤W.heap.size) (h:(W.alloc o).grownBy w' v.ownBlock):Below base W w' :=
 ((Below.refl base W).alloc hb o).grown h (by simp;omega) (fun k hk => (hown.lt k hk).1)
abbrev Raw:=Int × List UInt8
inductive Val where
 | mk (kind:Int) (bool:Bool) (num:Int) (str:List UInt8) (id:Int) (keys items:List Val) (rest:List Raw):Val
namespace Val
def kind:Val→Int | .mk k _ _ _ _ _ _ _ => k
def bool:Val→Bool | .mk _ b _ _ _ _ _ _ => b
def num:Val→Int | .mk _ _ n _ _ _ _ _ => n
def str:Val→List UInt8 | .mk _ _ _ s _ _ _ _ => s
def id:Val→Int | .mk _ _ _ _ i _ _ _ => i
def keys:Val→List Val | .mk _ _ _ _ _ ks _ _ => ks
def items:Val→List Val | .mk _ _ _ _ _ _ is _ => is
def rest:Val→List Raw | .mk _ _ _ _ _ _ _ rs => rs
end Val
def jm:Val:=.mk 0 false 0 [] 0 [] [] []
mutual
def nodes:Val→Nat
 | .mk _ _ _ _ _ ks is _ => lT ks+lT is+1
def lT:List Val→Nat
 | [] => 0
 | x :: r => nodes x+lT r
end
mutual
def depth:Val→Nat
 | .mk _ _ _ _ _ ks is _ => max (Iz ks) (Iz is)+1
def Iz:List Val→Nat
 | [] => 0
 | x :: r => max (depth x) (Iz r)
end
theorem zJ (v:Val):1≤nodes v:=by cases v;rw [nodes];omega
theorem tY (l:List Val) (x:Val) (h:x ∈ l):nodes x≤lT l:=by
 induction l with
 | nil => simp at h
 | cons y r ih =>
  rw [lT];rcases List.mem_cons.1 h with rfl | h
  · omega
  have:=ih h;omega
mutual
theorem X0:∀ v:Val,depth v≤nodes v
 | .mk _ _ _ _ _ ks is _ => by
  rw [depth,nodes];have h1:=FD ks;have h2:=FD is;omega
theorem FD:∀ l:List Val,Iz l≤lT l
 | [] => by simp [Iz]
 | x :: r => by
  rw [Iz,lT];have h1:=X0 x;have h2:=FD r;omega
end
def Kw (r:Raw):List Value:=[.int .i64 r.1,.string ⟨r.2.toArray⟩]
theorem Jl (r:Raw):(Kw r).length=2:=rfl
def jO (rs:List Raw):List Value:=rs.flatMap Kw
def yR (r:Raw):Prop:=I64 r.1∧r.2.length≤140737488351232
def Row (w:World) (B size:Nat) (v:Value) (n:Nat) (c:Nat→List Value):Prop :=
 ∃ A cap,v = .slice A n cap∧n≤cap∧(n=0∨∃ b o,A=some ⟨b,o,none⟩∧b < B∧∀ i,i < n→∀ j u,(c i)[j]?=some u→w.cell? ⟨b,o+i*size+j,none⟩=some u)
section
variable {w w':World} {B B' size n:Nat} {v:Value} {c:Nat→List Value}
theorem Row.keep (h:Row w B size v n c) (hk:∀ p:Addr,p.block < B→w'.cell? p=w.cell? p):Row w' B size v n c:=by
 obtain ⟨A,cap,hv,hc,h2⟩:=h;refine ⟨A,cap,hv,hc,?_⟩;rcases h2 with h2 | ⟨b,o,hA,hb,hcell⟩
 · exact .inl h2
 exact .inr ⟨b,o,hA,hb,fun i hi j u hu => (hk _ hb).trans (hcell i hi j u hu)⟩
theorem Row.mono (h:Row w B size v n c) (hB:B≤B'):Row w B' size v n c:=by
 obtain ⟨A,cap,hv,hc,h2⟩:=h;refine ⟨A,cap,hv,hc,?_⟩;exact zGq
end
inductive wJ (w:World) (B:Nat):Val→List Value→Prop
 | mk (k:Int) (b:Bool) (n:Int) (s:List UInt8) (id:Int) (ks is:List Val) (rs:List Raw) (vk vi vr:Value) (ck ci:Nat→List Value)
   (hn:I64 k∧I64 n∧I64 id) (hs:s.length≤140737488351232) (hl:ks.length≤1172812402926∧is.length≤1172812402926∧rs.length≤5864062014634) (hri:∀ r ∈ rs,yR r)
   (hk:Row w B 8 vk ks.length ck) (hkr:∀ (i:Nat) (h:i < ks.length),wJ w B ks[i] (ck i))
   (hi:Row w B 8 vi is.length ci) (hir:∀ (i:Nat) (h:i < is.length),wJ w B is[i] (ci i))
   (hr:Rd w B 2 vr rs.length (jO rs)):wJ w B (.mk k b n s id ks is rs) [.int .i64 k,.bool b,.int .i64 n,.string ⟨s.toArray⟩,.int .i64 id,vk,vi,vr]
def qF (w:World) (B:Nat) (v:Value) (xs:List Val):Prop := ∃ c:Nat→List Value,Row w B 8 v xs.length c∧∀ (i:Nat) (h:i < xs.length),wJ w B xs[i] (c i)
theorem wJ.keep {w w':World} {B B':Nat} {v:Val} {cs:List Value} (h:wJ w B v cs) (hk:∀ p:Addr,p.block < B→w'.cell? p=w.cell? p) (hB:B≤B'):wJ w' B' v cs:=by
 induction h with
 | mk k b n s id ks is rs vk vi vr ck ci hn hs hl hri h1 _ h2 _ h3 ih1 ih2 =>
  exact .mk k b n s id ks is rs vk vi vr ck ci hn hs hl hri ((h1.keep hk).mono hB) ih1 ((h2.keep hk).mono hB) ih2 ((h3.keep hk).mono hB)
theorem wJ.on {w w':World} {v:Val} {cs:List Value} (h:wJ w w.heap.size v cs) (hb:Below w.heap.size w w'):wJ w' w'.heap.size v cs:=h.keep (fun _ hp => hb.cell hp) hb.size
theorem zGx {p:Prop} (h:p:=by
 obtain ⟨c,h1,h2⟩:=h;exact ⟨c,(h1.keep hk).mono hB,fun i hi => (h2 i hi).keep hk hB⟩):p:=h
theorem qF.keep {w w':World} {B B':Nat} {v:Value} {xs:List Val} (h:qF w B v xs) (hk:∀ p:Addr,p.block < B→w'.cell? p=w.cell? p) (hB:B≤B'):qF w' B' v xs:=by
 exact zGx
theorem qF.on {w w':World} {v:Value} {xs:List Val} (h:qF w w.heap.size v xs) (hb:Below w.heap.size w w'):qF w' w'.heap.size v xs:=h.keep (fun _ hp => hb.cell hp) hb.size
theorem zFr {p:Prop} (h:p:=by
 obtain ⟨_,⟨A,c,h1,h2,_⟩,_⟩:=h;exact ⟨A,c,h1,h2⟩):p:=h
theorem qF.form {w:World} {B:Nat} {v:Value} {xs:List Val} (h:qF w B v xs):∃ A c,v = .slice A xs.length c∧xs.length≤c:=by
 exact zFr
theorem qF.at_ {w:World} {B n cap:Nat} {A:Option Addr} {xs:List Val} (h:qF w B (.slice A n cap) xs) (hpos:0 < xs.length):∃ b o,A=some ⟨b,o,none⟩∧b < B∧∀ k (hk:k < xs.length),∃ cs,(∀ j u,cs[j]?=some u→w.cell? ⟨b,o+k*8+j,none⟩=some u)∧wJ w B xs[k] cs:=by
 obtain ⟨c,⟨A',c',hv,hc,h2⟩,h3⟩:=h;injection hv with h4 h5 h6;subst h4;rcases h2 with h2 | ⟨b,o,hA,hb,hcell⟩
 · omega
 exact ⟨b,o,hA,hb,fun k hk => ⟨c k,hcell k hk,h3 k hk⟩⟩
def Cells8 (w:World) (b o:Nat) (x:Val) (vk vi vr:Value):Prop :=
 w.cell? ⟨b,o,none⟩=some (.int .i64 x.kind)∧w.cell? ⟨b,o+1,none⟩=some (.bool x.bool)∧w.cell? ⟨b,o+2,none⟩=some (.int .i64 x.num)∧w.cell? ⟨b,o+3,none⟩=some (.string ⟨x.str.toArray⟩) ∧
 w.cell? ⟨b,o+4,none⟩=some (.int .i64 x.id)∧w.cell? ⟨b,o+5,none⟩=some vk∧w.cell? ⟨b,o+6,none⟩=some vi∧w.cell? ⟨b,o+7,none⟩=some vr
def oD (x:Val) (vk vi vr:Value):List Value:=[.int .i64 x.kind,.bool x.bool,.int .i64 x.num,.string ⟨x.str.toArray⟩,.int .i64 x.id,vk,vi,vr]
structure ValAt (w:World) (B:Nat) (x:Val) (vk vi vr:Value):Prop where
 ints:I64 x.kind∧I64 x.num∧I64 x.id
 AL:x.str.length≤140737488351232
 FH:x.keys.length≤1172812402926∧x.items.length≤1172812402926∧x.rest.length≤5864062014634
 Ie:∀ r ∈ x.rest,yR r
 keys:qF w B vk x.keys
 items:qF w B vi x.items
 rest:Rd w B 2 vr x.rest.length (jO x.rest)
theorem ValAt.lens {w:World} {B:Nat} {x:Val} {vk vi vr:Value} (h:ValAt w B x vk vi vr):x.keys.length≤140737488351232∧x.items.length≤140737488351232∧x.rest.length≤140737488351232:=by have:=h.FH;omega
theorem wJ.inv {w:World} {B:Nat} {x:Val} {cs:List Value} (h:wJ w B x cs):∃ vk vi vr,cs=oD x vk vi vr∧ValAt w B x vk vi vr:=by
 cases h with
 | mk k b n s id ks is rs vk vi vr ck ci hn hs hl hri h1 h2 h3 h4 h5 => exact ⟨vk,vi,vr,rfl,hn,hs,hl,hri,⟨ck,h1,h2⟩,⟨ci,h3,h4⟩,h5⟩
theorem ValAt.forms {w:World} {B:Nat} {x:Val} {vk vi vr:Value} (h:ValAt w B x vk vi vr):∃ A1 c1 A2 c2 A3 c3,vk = .slice A1 x.keys.length c1∧vi = .slice A2 x.items.length c2∧vr = .slice A3 x.rest.length c3∧x.keys.length≤c1∧x.items.length≤c2∧x.rest.length≤c3:=by
 obtain ⟨A1,c1,e1,h1⟩:=h.keys.form;obtain ⟨A2,c2,e2,h2⟩:=h.items.form;obtain ⟨A3,c3,e3,h3⟩:=h.rest.form;exact ⟨A1,c1,A2,c2,A3,c3,e1,e2,e3,h1,h2,h3⟩
theorem zGa {p:Prop} (h:p:=by
 obtain ⟨hn,hs,hl,hri,⟨ck,h1,h2⟩,⟨ci,h3,h4⟩,h5⟩:=h;cases x;exact .mk _ _ _ _ _ _ _ _ vk vi vr ck ci hn hs hl hri h1 h2 h3 h4 h5):p:=h
theorem ValAt.rd {w:World} {B:Nat} {x:Val} {vk vi vr:Value} (h:ValAt w B x vk vi vr):wJ w B x (oD x vk vi vr):=by
 exact zGa
theorem ValAt.on {w w':World} {x:Val} {vk vi vr:Value} (h:ValAt w w.heap.size x vk vi vr) (hb:Below w.heap.size w w'):ValAt w' w'.heap.size x vk vi vr :=
 ⟨h.ints,h.AL,h.FH,h.Ie,h.keys.on hb,h.items.on hb,(h.rest.below hb).mono hb.size⟩
theorem qF.elem {w:World} {B n cap:Nat} {A:Option Addr} {xs:List Val} (h:qF w B (.slice A n cap) xs) (hpos:0 < xs.length):∃ b o,A=some ⟨b,o,none⟩∧b < B∧∀ k (hk:k < xs.length),∃ vk vi vr,Cells8 w b (o+k*8) xs[k] vk vi vr∧ValAt w B xs[k] vk vi vr:=by
 obtain ⟨b,o,h1,h2,h3⟩:=h.at_ hpos;refine ⟨b,o,h1,h2,fun k hk => ?_⟩;obtain ⟨cs,hc,hr⟩:=h3 k hk;obtain ⟨vk,vi,vr,rfl,hv⟩:=hr.inv;exact ⟨vk,vi,vr,⟨hc 0 _ rfl,hc 1 _ rfl,hc 2 _ rfl,hc 3 _ rfl,hc 4 _ rfl,hc 5 _ rfl,hc 6 _ rfl,hc 7 _ rfl⟩,hv⟩
theorem Cells8.below {w w':World} {B b o:Nat} {x:Val} {vk vi vr:Value} (h:Cells8 w b o x vk vi vr) (hb:Below B w w') (hlt:b < B):Cells8 w' b o x vk vi vr:=by
 obtain ⟨h0,h1,h2,h3,h4,h5,h6,h7⟩:=h;exact ⟨(hb.cell hlt).trans h0,(hb.cell hlt).trans h1,(hb.cell hlt).trans h2,(hb.cell hlt).trans h3,(hb.cell hlt).trans h4,(hb.cell hlt).trans h5,(hb.cell hlt).trans h6,(hb.cell hlt).trans h7⟩
theorem Has.c8 {w:World} {g:Nat} {T:TypeId} {a0 a1 a2 a3 a4 a5 a6 a7:Value} (h:Has w g T #[a0,a1,a2,a3,a4,a5,a6,a7]):w.cell? ⟨g,0,none⟩=some a0∧w.cell? ⟨g,1,none⟩=some a1∧w.cell? ⟨g,2,none⟩=some a2∧w.cell? ⟨g,3,none⟩=some a3∧w.cell? ⟨g,4,none⟩=some a4∧w.cell? ⟨g,5,none⟩=some a5∧w.cell? ⟨g,6,none⟩=some a6∧w.cell? ⟨g,7,none⟩=some a7 :=
 ⟨h.cell 0,h.cell 1,h.cell 2,h.cell 3,h.cell 4,h.cell 5,h.cell 6,h.cell 7⟩
theorem Has.c10 {w:World} {g:Nat} {T:TypeId} {a0 a1 a2 a3 a4 a5 a6 a7 a8 a9:Value} (h:Has w g T #[a0,a1,a2,a3,a4,a5,a6,a7,a8,a9]):w.cell? ⟨g,0,none⟩=some a0∧w.cell? ⟨g,1,none⟩=some a1∧w.cell? ⟨g,2,none⟩=some a2∧w.cell? ⟨g,3,none⟩=some a3∧w.cell? ⟨g,4,none⟩=some a4∧w.cell? ⟨g,5,none⟩=some a5∧w.cell? ⟨g,6,none⟩=some a6∧w.cell? ⟨g,7,none⟩=some a7∧w.cell? ⟨g,8,none⟩=some a8∧w.cell? ⟨g,9,none⟩=some a9 :=
 ⟨h.cell 0,h.cell 1,h.cell 2,h.cell 3,h.cell 4,h.cell 5,h.cell 6,h.cell 7,h.cell 8,h.cell 9⟩
theorem Has.c13 {w:World} {g:Nat} {T:TypeId} {a0 a1 a2 a3 a4 a5 a6 a7 a8 a9 a10 a11 a12:Value} (h:Has w g T #[a0,a1,a2,a3,a4,a5,a6,a7,a8,a9,a10,a11,a12]):w.cell? ⟨g,0,none⟩=some a0∧w.cell? ⟨g,1,none⟩=some a1∧w.cell? ⟨g,2,none⟩=some a2∧w.cell? ⟨g,3,none⟩=some a3∧w.cell? ⟨g,4,none⟩=some a4∧w.cell? ⟨g,5,none⟩=some a5∧w.cell? ⟨g,6,none⟩=some a6∧w.cell? ⟨g,7,none⟩=some a7∧w.cell? ⟨g,8,none⟩=some a8∧w.cell? ⟨g,9,none⟩=some a9∧w.cell? ⟨g,10,none⟩=some a10∧w.cell? ⟨g,11,none⟩=some a11∧w.cell? ⟨g,12,none⟩=some a12 :=
 ⟨h.cell 0,h.cell 1,h.cell 2,h.cell 3,h.cell 4,h.cell 5,h.cell 6,h.cell 7,h.cell 8,h.cell 9,h.cell 10,h.cell 11,h.cell 12⟩
theorem tH (w:World) (o:Obj):(w.alloc o).heap.size=w.heap.size+1:=by simp
theorem jY {B:Nat} {a w:World} (h:Below B a w) (hs:B≤a.heap.size) (o:Obj):Below B a (w.alloc o):=h.alloc (Nat.le_trans hs h.size) o
theorem jS {B g:Nat} {a w:World} (h:Below B a w) (hB:B≤g) (i:Nat) (u:Value):Below B a (w.setCell ⟨g,i,none⟩ u):=h.setCell (p:=⟨g,i,none⟩) hB u
theorem oO {w:World} {g k:Nat} {T:TypeId} {cs cs':Array Value} (h:Has w g T cs) (hne:g≠k):Has (w.setRow k cs') g T cs:=(setRow_other _ _ _ _ hne).trans h
theorem kF {w:World} {g:Nat} {T:TypeId} {cs:Array Value} (h:Has w g T cs) (cs':Array Value):Has (w.setRow g cs') g T cs':=setRow_heap w g cs cs' T (0,0) h
theorem jF {w:World} {base:Nat} {e:TypeId} {size n:Nat} {v:Value} {xs:List Value} (h:w.ownsRow base e size v n xs):∃ A c,v = .slice A n c:=by
 obtain ⟨_,h2⟩:=h;rcases h2 with ⟨rfl,rfl⟩ | ⟨g,cap,cur,rfl,_⟩
 · exact ⟨_,_,rfl⟩
 exact ⟨_,_,rfl⟩
theorem Du {w:World} {base:Nat} {e:TypeId} {n:Nat} {v:Value} {xs:List Value} (h:w.ownsRow base e 1 v n xs) (hn:0 < n):∃ g c,v = .slice (some ⟨g,0,none⟩) n c∧base≤g∧g < w.heap.size∧n≤c∧∀ (j:Nat) (u:Value),xs[j]?=some u→w.cell? ⟨g,j,none⟩=some u:=by
 have h0:=h;obtain ⟨_,h2⟩:=h;rcases h2 with ⟨rfl,rfl⟩ | ⟨g,cap,cur,rfl,hb,hh,hc,_⟩
 · omega
 refine ⟨g,cap,rfl,hb,?_,hc,fun j u hu => ?_⟩
 · exact zGl
 have:=h0.cells (g:=g) rfl j u hu;have e:(⟨g,0,none⟩ : Addr).add j=⟨g,j,none⟩:=by unfold Addr.add;split <;> simp_all
 rwa [e] at this
theorem fA {P:Program} {ops:Array Oper} {rest:List Oper} {o:Oper} {a:Act} {Q:Exit→Act→World→Prop} (hgd:o.guard=none) (s x:Operand) (t:TypeId)
  (ho:o.op = .call { callee:=.builtin .append,args:=#[s,x],argTypes:=#[t,t] })
  (base:Nat) (e:TypeId) (z:Value) (size bytes:Nat) (ht:P.underlying t=some (.slice e)) (hinfo:(P.info? e).map (fun i => (i.zero,i.size,i.bytes))=some (some z,size,bytes)) (hzs:z.cells.size=size) (hsz:0 < size)
  (v:Value) (n:Nat) (xs:List Value) (hs:a.eval s=v) {W:World} (hown:W.ownsRow base e size v n xs) (news:List Value) (te:TypeId) (c g0:Nat)
  (hx:a.eval x = .slice (some ⟨g0,0,none⟩) 1 c) (hg:g0=W.heap.size) (hl:news.length=size) (h1:∀ u ∈ news,u.oneCell'=true) (hsmall:n < 8000000000000) (hby:(n+1)*bytes≤140737488355328) (hbase:base≤W.heap.size)
  (h:∀ g cap w',w'.ownsRow base e size (.slice (some ⟨g,0,none⟩) (n+1) cap) (n+1) (xs ++ news)→(W.alloc (.cells news.toArray te)).grownBy w' v.ownBlock→(v.ownBlock=some g∨g=W.heap.size+1)→Below base W w'→wpList P ops Q rest (a.put o.dst (.slice (some ⟨g,0,none⟩) (n+1) cap)) w'):wpList P ops Q (o :: rest) a (W.alloc (.cells news.toArray te)):=by
 subst hg;obtain ⟨i0,hi,hz0,hz1,hz2⟩:=info_parts hinfo;refine wpList_append_lies _ hgd s x t ho base e i0 z size bytes ht hi hz0 hz1 hz2 hzs hsz v n xs hs (hown.alloc _) ⟨W.heap.size,0,none⟩ 1 c news hx (by omega) ?_ h1 (by omega) (by simp only [maxLen];omega) ?_ (by simp;omega) (W.heap.size+1) (by simp) ?_
 · exact zDx
 · omega
 intro g cap w' h2 h3 h4 _;exact h g cap w' h2 h3 h4 (grown_below hown hbase h3)
structure Kept (P:World→Prop) (w:World) (L B:Nat):Prop where
 now:P w
 st:∀ w',(∀ k:Nat,L≤k→k < B→w'.heap[k]?=w.heap[k]?)→P w'
 le:B≤w.heap.size
theorem Kept.move {P:World→Prop} {w w':World} {L B:Nat} (h:Kept P w L B) (hk:∀ k:Nat,L≤k→k < B→w'.heap[k]?=w.heap[k]?) (hs:w.heap.size≤w'.heap.size):Kept P w' L B :=
 ⟨h.st w' hk,fun w2 h2 => h.st w2 fun p hl hp => (h2 p hl hp).trans (hk p hl hp),Nat.le_trans h.le hs⟩
theorem Kept.on {P:World→Prop} {w w':World} {L B:Nat} (h:Kept P w L B) (hb:Below w.heap.size w w'):Kept P w' L B :=
 h.move (fun _ _ hp => hb.block _ (Nat.lt_of_lt_of_le hp h.le)) hb.size
theorem Kept.iJ {P:World→Prop} {w w':World} {L B C:Nat} (h:Kept P w L B) (hb:Below C w w') (hc:B≤C):Kept P w' L B :=
 h.move (fun _ _ hp => hb.block _ (Nat.lt_of_lt_of_le hp hc)) hb.size
theorem Kept.set {P:World→Prop} {w:World} {L B:Nat} (h:Kept P w L B) (g:Nat) (hg:B≤g∨g < L) (i:Nat) (u:Value):Kept P (w.setCell ⟨g,i,none⟩ u) L B :=
 h.move (fun k hl hk => Below.heap_setCell w ⟨g,i,none⟩ u k (by show k≠g;omega)) (by simp [World.setCell])
theorem Kept.row {P:World→Prop} {w:World} {L B:Nat} (h:Kept P w L B) (g:Nat) (hg:B≤g∨g < L) (cs:Array Value):Kept P (w.setRow g cs) L B :=
 h.move (fun k hl hk => setRow_other _ _ _ _ (by omega)) (by simp)
theorem DI {w w':World} {base:Nat} {e:TypeId} {size n:Nat} {v:Value} {xs:List Value} (h:w.ownsRow base e size v n xs) (hk:∀ k:Nat,base≤k→k < w.heap.size→w'.heap[k]?=w.heap[k]?):w'.ownsRow base e size v n xs:=by
 obtain ⟨h1,h2⟩:=h;refine ⟨h1,?_⟩;rcases h2 with h2 | ⟨g,cap,cur,hv,hb,hh,h3⟩
 · exact .inl h2
 refine .inr ⟨g,cap,cur,hv,hb,?_,h3⟩;rw [hk g hb,hh];rcases Nat.lt_or_ge g w.heap.size with h4 | h4
 · exact h4
 rw [Array.getElem?_eq_none h4] at hh;cases hh
theorem Kept.own {w:World} {base:Nat} {e:TypeId} {size n:Nat} {v:Value} {xs:List Value} (h:w.ownsRow base e size v n xs):Kept (fun w => w.ownsRow base e size v n xs) w base w.heap.size :=
 ⟨h,fun _ hk => DI h hk,Nat.le_refl _⟩
theorem Kept.rd {P:World→Nat→Prop} {w:World} {B:Nat} (h:P w B) (hB:B≤w.heap.size) (hk:∀ w',(∀ p:Addr,p.block < B→w'.cell? p=w.cell? p)→P w' B):Kept (fun w => P w B) w 0 B :=
 ⟨h,fun w' h2 => hk w' fun p hp => World.cell?_of_block (h2 p.block (Nat.zero_le _) hp),hB⟩
section
variable {w w' w0:World} {g g' i L B:Nat} {T T':TypeId} {cs cs':Array Value} {P:World→Prop} {v:Value} {o:Obj}
theorem dB (h:Hid (Has w g T cs)) (hb:Below w.heap.size w w'):Hid (Has w' g T cs):=h.out.below hb h.out.here
theorem dK (h:Hid (Kept P w L B)) (hb:Below w.heap.size w w'):Hid (Kept P w' L B):=h.out.on hb
theorem dT (h:Below w0.heap.size w0 w) (hb:Below w.heap.size w w'):Below w0.heap.size w0 w':=h.trans (hb.mono h.size)
theorem aB (h:w'=w.alloc o):Below w.heap.size w w':=by rw [h];exact jY (Below.refl _ _) (Nat.le_refl _) _
theorem aN (h:w'=w.alloc (.cells cs T)):Hid (Has w' w.heap.size T cs):=by rw [h];exact Has.made w T cs
theorem aZ {n:Nat} (h:w'=w.alloc o) (hn:w.heap.size=n):w'.heap.size=n+1:=by rw [h,tH,hn]
theorem aM {n:Nat} (h:w'=w.alloc (.cells cs T)) (hn:w.heap.size=n):Hid (Has w' n T cs):=hn ▸ aN h
theorem dS (h:Hid (Has w g T cs)) (hE:w'=w.setCell ⟨g,i,none⟩ v):Has w' g T (cs.setIfInBounds i v):=by rw [hE];exact h.out.set i v
theorem dO (h:Hid (Has w g T cs)) (hE:w'=w.setRow g cs'):Hid (Has w' g T cs'):=by rw [hE];exact kF h.out _
theorem tF (h:Below w0.heap.size w0 w) (hE:w'=w.setCell ⟨g',i,none⟩ v) (hn:w0.heap.size≤g'):Below w0.heap.size w0 w':=by rw [hE];exact jS h hn i v
theorem tR (h:Below w0.heap.size w0 w) (hE:w'=w.setRow g' cs') (hn:w0.heap.size≤g'):Below w0.heap.size w0 w':=by rw [hE];exact below_setRow h hn cs'
theorem dG {row:Option Nat} (h:Hid (Has w g T cs)) (hk:∀ k,k < w.heap.size→row≠some k→w'.heap[k]?=w.heap[k]?) (hn:row≠some g):Hid (Has w' g T cs):=(hk g h.out.here hn).trans h.out
theorem d8 {R:Prop} {a0 a1 a2 a3 a4 a5 a6 a7:Value} (h:Hid (Has w g T #[a0,a1,a2,a3,a4,a5,a6,a7])) (r:R):w.cell? ⟨g,0,none⟩=some a0∧w.cell? ⟨g,1,none⟩=some a1∧w.cell? ⟨g,2,none⟩=some a2∧w.cell? ⟨g,3,none⟩=some a3∧w.cell? ⟨g,4,none⟩=some a4∧w.cell? ⟨g,5,none⟩=some a5∧w.cell? ⟨g,6,none⟩=some a6∧w.cell? ⟨g,7,none⟩=some a7∧R :=
 ⟨h.out.cell 0,h.out.cell 1,h.out.cell 2,h.out.cell 3,h.out.cell 4,h.out.cell 5,h.out.cell 6,h.out.cell 7,r⟩
theorem Has.e0 {a0:Value} {r:List Value} (h:Has w g T (a0 :: r).toArray):w.cell? ⟨g,0,none⟩=some a0:=h.cell 0
theorem Has.e1 {a0 a1:Value} {r:List Value} (h:Has w g T (a0 :: a1 :: r).toArray):w.cell? ⟨g,1,none⟩=some a1:=h.cell 1
theorem Has.e2 {a0 a1 a2:Value} {r:List Value} (h:Has w g T (a0 :: a1 :: a2 :: r).toArray):w.cell? ⟨g,2,none⟩=some a2:=h.cell 2
theorem Has.e3 {a0 a1 a2 a3:Value} {r:List Value} (h:Has w g T (a0 :: a1 :: a2 :: a3 :: r).toArray):w.cell? ⟨g,3,none⟩=some a3:=h.cell 3
theorem Has.e4 {a0 a1 a2 a3 a4:Value} {r:List Value} (h:Has w g T (a0 :: a1 :: a2 :: a3 :: a4 :: r).toArray):w.cell? ⟨g,4,none⟩=some a4:=h.cell 4
theorem Has.e5 {a0 a1 a2 a3 a4 a5:Value} {r:List Value} (h:Has w g T (a0 :: a1 :: a2 :: a3 :: a4 :: a5 :: r).toArray):w.cell? ⟨g,5,none⟩=some a5:=h.cell 5
theorem Has.e6 {a0 a1 a2 a3 a4 a5 a6:Value} {r:List Value} (h:Has w g T (a0 :: a1 :: a2 :: a3 :: a4 :: a5 :: a6 :: r).toArray):w.cell? ⟨g,6,none⟩=some a6:=h.cell 6
theorem Has.e7 {a0 a1 a2 a3 a4 a5 a6 a7:Value} {r:List Value} (h:Has w g T (a0 :: a1 :: a2 :: a3 :: a4 :: a5 :: a6 :: a7 :: r).toArray):w.cell? ⟨g,7,none⟩=some a7:=h.cell 7
theorem Has.e8 {a0 a1 a2 a3 a4 a5 a6 a7 a8:Value} {r:List Value} (h:Has w g T (a0 :: a1 :: a2 :: a3 :: a4 :: a5 :: a6 :: a7 :: a8 :: r).toArray):w.cell? ⟨g,8,none⟩=some a8:=h.cell 8
theorem Has.e9 {a0 a1 a2 a3 a4 a5 a6 a7 a8 a9:Value} {r:List Value} (h:Has w g T (a0 :: a1 :: a2 :: a3 :: a4 :: a5 :: a6 :: a7 :: a8 :: a9 :: r).toArray):w.cell? ⟨g,9,none⟩=some a9:=h.cell 9
theorem Has.c2 {a0 a1:Value} (h:Has w g T #[a0,a1]):w.cell? ⟨g,0,none⟩=some a0∧w.cell? ⟨g,1,none⟩=some a1:=⟨h.cell 0,h.cell 1⟩
theorem Has.c3 {a0 a1 a2:Value} (h:Has w g T #[a0,a1,a2]):w.cell? ⟨g,0,none⟩=some a0∧w.cell? ⟨g,1,none⟩=some a1∧w.cell? ⟨g,2,none⟩=some a2:=⟨h.cell 0,h.cell 1,h.cell 2⟩
theorem Has.c11 {a0 a1 a2 a3 a4 a5 a6 a7 a8 a9 a10:Value} (h:Has w g T #[a0,a1,a2,a3,a4,a5,a6,a7,a8,a9,a10]):w.cell? ⟨g,0,none⟩=some a0∧w.cell? ⟨g,1,none⟩=some a1∧w.cell? ⟨g,2,none⟩=some a2∧w.cell? ⟨g,3,none⟩=some a3∧w.cell? ⟨g,4,none⟩=some a4∧w.cell? ⟨g,5,none⟩=some a5∧w.cell? ⟨g,6,none⟩=some a6∧w.cell? ⟨g,7,none⟩=some a7∧w.cell? ⟨g,8,none⟩=some a8∧w.cell? ⟨g,9,none⟩=some a9∧w.cell? ⟨g,10,none⟩=some a10:=⟨h.cell 0,h.cell 1,h.cell 2,h.cell 3,h.cell 4,h.cell 5,h.cell 6,h.cell 7,h.cell 8,h.cell 9,h.cell 10⟩
theorem xR {a0:Value} {r:List Value} (h:Hid (Has w g T (a0 :: r).toArray)) (hE:w.setCell ⟨g,0,none⟩ v=w'):Hid (Has w' g T (v :: r).toArray):=Lib.hid (by simpa using dS h hE.symm)
theorem yT {a0 a1:Value} {r:List Value} (h:Hid (Has w g T (a0 :: a1 :: r).toArray)) (hE:w.setCell ⟨g,1,none⟩ v=w'):Hid (Has w' g T (a0 :: v :: r).toArray):=Lib.hid (by simpa using dS h hE.symm)
theorem Yx {a0 a1 a2:Value} {r:List Value} (h:Hid (Has w g T (a0 :: a1 :: a2 :: r).toArray)) (hE:w.setCell ⟨g,2,none⟩ v=w'):Hid (Has w' g T (a0 :: a1 :: v :: r).toArray):=Lib.hid (by simpa using dS h hE.symm)
theorem Vx {a0 a1 a2 a3:Value} {r:List Value} (h:Hid (Has w g T (a0 :: a1 :: a2 :: a3 :: r).toArray)) (hE:w.setCell ⟨g,3,none⟩ v=w'):Hid (Has w' g T (a0 :: a1 :: a2 :: v :: r).toArray):=Lib.hid (by simpa using dS h hE.symm)
theorem zB {a0 a1 a2 a3 a4:Value} {r:List Value} (h:Hid (Has w g T (a0 :: a1 :: a2 :: a3 :: a4 :: r).toArray)) (hE:w.setCell ⟨g,4,none⟩ v=w'):Hid (Has w' g T (a0 :: a1 :: a2 :: a3 :: v :: r).toArray):=Lib.hid (by simpa using dS h hE.symm)
theorem Ea {a0 a1 a2 a3 a4 a5:Value} {r:List Value} (h:Hid (Has w g T (a0 :: a1 :: a2 :: a3 :: a4 :: a5 :: r).toArray)) (hE:w.setCell ⟨g,5,none⟩ v=w'):Hid (Has w' g T (a0 :: a1 :: a2 :: a3 :: a4 :: v :: r).toArray):=Lib.hid (by simpa using dS h hE.symm)
theorem qM {a0 a1 a2 a3 a4 a5 a6:Value} {r:List Value} (h:Hid (Has w g T (a0 :: a1 :: a2 :: a3 :: a4 :: a5 :: a6 :: r).toArray)) (hE:w.setCell ⟨g,6,none⟩ v=w'):Hid (Has w' g T (a0 :: a1 :: a2 :: a3 :: a4 :: a5 :: v :: r).toArray):=Lib.hid (by simpa using dS h hE.symm)
theorem Ky {a0 a1 a2 a3 a4 a5 a6 a7:Value} {r:List Value} (h:Hid (Has w g T (a0 :: a1 :: a2 :: a3 :: a4 :: a5 :: a6 :: a7 :: r).toArray)) (hE:w.setCell ⟨g,7,none⟩ v=w'):Hid (Has w' g T (a0 :: a1 :: a2 :: a3 :: a4 :: a5 :: a6 :: v :: r).toArray):=Lib.hid (by simpa using dS h hE.symm)
theorem JZ {a0 a1 a2 a3 a4 a5 a6 a7 a8:Value} {r:List Value} (h:Hid (Has w g T (a0 :: a1 :: a2 :: a3 :: a4 :: a5 :: a6 :: a7 :: a8 :: r).toArray)) (hE:w.setCell ⟨g,8,none⟩ v=w'):Hid (Has w' g T (a0 :: a1 :: a2 :: a3 :: a4 :: a5 :: a6 :: a7 :: v :: r).toArray):=Lib.hid (by simpa using dS h hE.symm)
theorem Cc {a0 a1 a2 a3 a4 a5 a6 a7 a8 a9:Value} {r:List Value} (h:Hid (Has w g T (a0 :: a1 :: a2 :: a3 :: a4 :: a5 :: a6 :: a7 :: a8 :: a9 :: r).toArray)) (hE:w.setCell ⟨g,9,none⟩ v=w'):Hid (Has w' g T (a0 :: a1 :: a2 :: a3 :: a4 :: a5 :: a6 :: a7 :: a8 :: v :: r).toArray):=Lib.hid (by simpa using dS h hE.symm)
theorem an2 {w1:World} (h:w.alloc (.cells cs T)=w1) (h2:w1.alloc (.cells cs' T')=w'):Below w.heap.size w w'∧Hid (Has w' w.heap.size T cs)∧Hid (Has w' (w.heap.size+1) T' cs'):=⟨dT (aB h.symm) (aB h2.symm),dB (aN h.symm) (aB h2.symm),aM h2.symm (aZ h.symm rfl)⟩
theorem tf (h:Below w0.heap.size w0 w) (hE:w.setCell ⟨g',i,none⟩ v=w') (hn:w0.heap.size≤g':=by omega):Below w0.heap.size w0 w':=tF h hE.symm hn
theorem tr (h:Below w0.heap.size w0 w) (hE:w.setRow g' cs'=w') (hn:w0.heap.size≤g':=by omega):Below w0.heap.size w0 w':=tR h hE.symm hn
theorem dV (h:Hid (Has w g T cs)) (hE:w.setRow g cs'=w'):Hid (Has w' g T cs'):=dO h hE.symm
theorem aO {F:World→Prop} {w:World} {cs0:Array Value} {T0:TypeId} (h:∀ W,Below w.heap.size w W→Hid (Has W (w.heap.size) T0 cs0)→F W):F (w.alloc (.cells cs0 T0)) :=
 h _ (jY (Below.refl _ _) (Nat.le_refl _) _) (Lib.hid ((aM rfl rfl).out))
theorem jg {F:World→Prop} {w:World} {cs0 cs1:Array Value} {T0 T1:TypeId} (h:∀ W,Below w.heap.size w W→Hid (Has W (w.heap.size) T0 cs0)→Hid (Has W (w.heap.size+1) T1 cs1)→F W):F ((w.alloc (.cells cs0 T0)).alloc (.cells cs1 T1)) :=
 h _ (jY (jY (Below.refl _ _) (Nat.le_refl _) _) (Nat.le_refl _) _) (Lib.hid ((((aM rfl rfl).out).alloc _))) (Lib.hid ((aM rfl (aZ rfl rfl)).out))
theorem Fj {F:World→Prop} {w:World} {cs0 cs1 cs2:Array Value} {T0 T1 T2:TypeId} (h:∀ W,Below w.heap.size w W→Hid (Has W (w.heap.size) T0 cs0)→Hid (Has W (w.heap.size+1) T1 cs1)→Hid (Has W (w.heap.size+1+1) T2 cs2)→F W):F (((w.alloc (.cells cs0 T0)).alloc (.cells cs1 T1)).alloc (.cells cs2 T2)) :=
 h _ (jY (jY (jY (Below.refl _ _) (Nat.le_refl _) _) (Nat.le_refl _) _) (Nat.le_refl _) _) (Lib.hid (((((aM rfl rfl).out).alloc _).alloc _))) (Lib.hid ((((aM rfl (aZ rfl rfl)).out).alloc _))) (Lib.hid ((aM rfl (aZ rfl (aZ rfl rfl))).out))
class iT (w w':World) (A:Prop) (B:outParam Prop):Prop where
 out:Below w.heap.size w w'→A→B
instance apI:iT w w' (Has w g T cs) (Has w' g T cs):=⟨fun hb h => (dB (Lib.hid h) hb).out⟩
instance apJ:iT w w' (Kept P w L B) (Kept P w' L B):=⟨fun hb h => (dK (Lib.hid h) hb).out⟩
structure La (w w':World) (g:Nat):Prop where
 blk:∀ k,k≠g→w'.heap[k]?=w.heap[k]?
 sz:w.heap.size≤w'.heap.size
theorem eF (h:w.setCell ⟨g,i,none⟩ v=w'):La w w' g:=by subst h;exact ⟨fun k hk => Below.heap_setCell w ⟨g,i,none⟩ v k hk,by simp [World.setCell]⟩
theorem eR (h:w.setRow g cs=w'):La w w' g:=by subst h;exact ⟨fun k hk => setRow_other _ _ _ _ hk,by simp⟩
class jI (w w':World) (g':Nat) (A:Prop) (B C:outParam Prop):Prop where
 out:La w w' g'→C→A→B
instance apK:jI w w' g' (Has w g T cs) (Has w' g T cs) (g≠g'):=⟨fun e hn h => (e.blk g hn).trans h⟩
instance apL:jI w w' g' (Kept P w L B) (Kept P w' L B) (B≤g'∨g' < L):=⟨fun e hn h => ⟨h.st w' (fun k h1 h2 => e.blk k (by omega)),fun w2 hk => h.st w2 (fun k h1 h2 => (hk k h1 h2).trans (e.blk k (by omega))),Nat.le_trans h.le e.sz⟩⟩
theorem b1 {A1 B1:Prop} [iT w w' A1 B1] (h1:Hid A1) (hb:Below w.heap.size w w'):Hid B1:=Lib.hid (iT.out hb h1.out)
theorem b2 {A1 B1 A2 B2:Prop} [iT w w' A1 B1] [iT w w' A2 B2] (h1:Hid A1) (h2:Hid A2) (hb:Below w.heap.size w w'):Hid B1∧Hid B2:=⟨Lib.hid (iT.out hb h1.out),Lib.hid (iT.out hb h2.out)⟩
theorem b3 {A1 B1 A2 B2 A3 B3:Prop} [iT w w' A1 B1] [iT w w' A2 B2] [iT w w' A3 B3] (h1:Hid A1) (h2:Hid A2) (h3:Hid A3) (hb:Below w.heap.size w w'):Hid B1∧Hid B2∧Hid B3:=⟨Lib.hid (iT.out hb h1.out),Lib.hid (iT.out hb h2.out),Lib.hid (iT.out hb h3.out)⟩
theorem b4 {A1 B1 A2 B2 A3 B3 A4 B4:Prop} [iT w w' A1 B1] [iT w w' A2 B2] [iT w w' A3 B3] [iT w w' A4 B4] (h1:Hid A1) (h2:Hid A2) (h3:Hid A3) (h4:Hid A4) (hb:Below w.heap.size w w'):Hid B1∧Hid B2∧Hid B3∧Hid B4:=⟨Lib.hid (iT.out hb h1.out),Lib.hid (iT.out hb h2.out),Lib.hid (iT.out hb h3.out),Lib.hid (iT.out hb h4.out)⟩
theorem b5 {A1 B1 A2 B2 A3 B3 A4 B4 A5 B5:Prop} [iT w w' A1 B1] [iT w w' A2 B2] [iT w w' A3 B3] [iT w w' A4 B4] [iT w w' A5 B5] (h1:Hid A1) (h2:Hid A2) (h3:Hid A3) (h4:Hid A4) (h5:Hid A5) (hb:Below w.heap.size w w'):Hid B1∧Hid B2∧Hid B3∧Hid B4∧Hid B5:=⟨Lib.hid (iT.out hb h1.out),Lib.hid (iT.out hb h2.out),Lib.hid (iT.out hb h3.out),Lib.hid (iT.out hb h4.out),Lib.hid (iT.out hb h5.out)⟩
theorem b6 {A1 B1 A2 B2 A3 B3 A4 B4 A5 B5 A6 B6:Prop} [iT w w' A1 B1] [iT w w' A2 B2] [iT w w' A3 B3] [iT w w' A4 B4] [iT w w' A5 B5] [iT w w' A6 B6] (h1:Hid A1) (h2:Hid A2) (h3:Hid A3) (h4:Hid A4) (h5:Hid A5) (h6:Hid A6) (hb:Below w.heap.size w w'):Hid B1∧Hid B2∧Hid B3∧Hid B4∧Hid B5∧Hid B6:=⟨Lib.hid (iT.out hb h1.out),Lib.hid (iT.out hb h2.out),Lib.hid (iT.out hb h3.out),Lib.hid (iT.out hb h4.out),Lib.hid (iT.out hb h5.out),Lib.hid (iT.out hb h6.out)⟩
theorem b7 {A1 B1 A2 B2 A3 B3 A4 B4 A5 B5 A6 B6 A7 B7:Prop} [iT w w' A1 B1] [iT w w' A2 B2] [iT w w' A3 B3] [iT w w' A4 B4] [iT w w' A5 B5] [iT w w' A6 B6] [iT w w' A7 B7] (h1:Hid A1) (h2:Hid A2) (h3:Hid A3) (h4:Hid A4) (h5:Hid A5) (h6:Hid A6) (h7:Hid A7) (hb:Below w.heap.size w w'):Hid B1∧Hid B2∧Hid B3∧Hid B4∧Hid B5∧Hid B6∧Hid B7:=⟨Lib.hid (iT.out hb h1.out),Lib.hid (iT.out hb h2.out),Lib.hid (iT.out hb h3.out),Lib.hid (iT.out hb h4.out),Lib.hid (iT.out hb h5.out),Lib.hid (iT.out hb h6.out),Lib.hid (iT.out hb h7.out)⟩
theorem b8 {A1 B1 A2 B2 A3 B3 A4 B4 A5 B5 A6 B6 A7 B7 A8 B8:Prop} [iT w w' A1 B1] [iT w w' A2 B2] [iT w w' A3 B3] [iT w w' A4 B4] [iT w w' A5 B5] [iT w w' A6 B6] [iT w w' A7 B7] [iT w w' A8 B8] (h1:Hid A1) (h2:Hid A2) (h3:Hid A3) (h4:Hid A4) (h5:Hid A5) (h6:Hid A6) (h7:Hid A7) (h8:Hid A8) (hb:Below w.heap.size w w'):Hid B1∧Hid B2∧Hid B3∧Hid B4∧Hid B5∧Hid B6∧Hid B7∧Hid B8:=⟨Lib.hid (iT.out hb h1.out),Lib.hid (iT.out hb h2.out),Lib.hid (iT.out hb h3.out),Lib.hid (iT.out hb h4.out),Lib.hid (iT.out hb h5.out),Lib.hid (iT.out hb h6.out),Lib.hid (iT.out hb h7.out),Lib.hid (iT.out hb h8.out)⟩
theorem b9 {A1 B1 A2 B2 A3 B3 A4 B4 A5 B5 A6 B6 A7 B7 A8 B8 A9 B9:Prop} [iT w w' A1 B1] [iT w w' A2 B2] [iT w w' A3 B3] [iT w w' A4 B4] [iT w w' A5 B5] [iT w w' A6 B6] [iT w w' A7 B7] [iT w w' A8 B8] [iT w w' A9 B9] (h1:Hid A1) (h2:Hid A2) (h3:Hid A3) (h4:Hid A4) (h5:Hid A5) (h6:Hid A6) (h7:Hid A7) (h8:Hid A8) (h9:Hid A9) (hb:Below w.heap.size w w'):Hid B1∧Hid B2∧Hid B3∧Hid B4∧Hid B5∧Hid B6∧Hid B7∧Hid B8∧Hid B9:=⟨Lib.hid (iT.out hb h1.out),Lib.hid (iT.out hb h2.out),Lib.hid (iT.out hb h3.out),Lib.hid (iT.out hb h4.out),Lib.hid (iT.out hb h5.out),Lib.hid (iT.out hb h6.out),Lib.hid (iT.out hb h7.out),Lib.hid (iT.out hb h8.out),Lib.hid (iT.out hb h9.out)⟩
theorem f1 {A1 B1 C1:Prop} [jI w w' g A1 B1 C1] (h1:Hid A1) (e:La w w' g) (c1:C1:=by omega):Hid B1:=Lib.hid (jI.out e c1 h1.out)
theorem f2 {A1 B1 C1 A2 B2 C2:Prop} [jI w w' g A1 B1 C1] [jI w w' g A2 B2 C2] (h1:Hid A1) (h2:Hid A2) (e:La w w' g) (c1:C1:=by omega) (c2:C2:=by omega):Hid B1∧Hid B2:=⟨Lib.hid (jI.out e c1 h1.out),Lib.hid (jI.out e c2 h2.out)⟩
theorem f3 {A1 B1 C1 A2 B2 C2 A3 B3 C3:Prop} [jI w w' g A1 B1 C1] [jI w w' g A2 B2 C2] [jI w w' g A3 B3 C3] (h1:Hid A1) (h2:Hid A2) (h3:Hid A3) (e:La w w' g) (c1:C1:=by omega) (c2:C2:=by omega) (c3:C3:=by omega):Hid B1∧Hid B2∧Hid B3:=⟨Lib.hid (jI.out e c1 h1.out),Lib.hid (jI.out e c2 h2.out),Lib.hid (jI.out e c3 h3.out)⟩
theorem f4 {A1 B1 C1 A2 B2 C2 A3 B3 C3 A4 B4 C4:Prop} [jI w w' g A1 B1 C1] [jI w w' g A2 B2 C2] [jI w w' g A3 B3 C3] [jI w w' g A4 B4 C4] (h1:Hid A1) (h2:Hid A2) (h3:Hid A3) (h4:Hid A4) (e:La w w' g) (c1:C1:=by omega) (c2:C2:=by omega) (c3:C3:=by omega) (c4:C4:=by omega):Hid B1∧Hid B2∧Hid B3∧Hid B4:=⟨Lib.hid (jI.out e c1 h1.out),Lib.hid (jI.out e c2 h2.out),Lib.hid (jI.out e c3 h3.out),Lib.hid (jI.out e c4 h4.out)⟩
theorem f5 {A1 B1 C1 A2 B2 C2 A3 B3 C3 A4 B4 C4 A5 B5 C5:Prop} [jI w w' g A1 B1 C1] [jI w w' g A2 B2 C2] [jI w w' g A3 B3 C3] [jI w w' g A4 B4 C4] [jI w w' g A5 B5 C5] (h1:Hid A1) (h2:Hid A2) (h3:Hid A3) (h4:Hid A4) (h5:Hid A5) (e:La w w' g) (c1:C1:=by omega) (c2:C2:=by omega) (c3:C3:=by omega) (c4:C4:=by omega) (c5:C5:=by omega):Hid B1∧Hid B2∧Hid B3∧Hid B4∧Hid B5:=⟨Lib.hid (jI.out e c1 h1.out),Lib.hid (jI.out e c2 h2.out),Lib.hid (jI.out e c3 h3.out),Lib.hid (jI.out e c4 h4.out),Lib.hid (jI.out e c5 h5.out)⟩
theorem f6 {A1 B1 C1 A2 B2 C2 A3 B3 C3 A4 B4 C4 A5 B5 C5 A6 B6 C6:Prop} [jI w w' g A1 B1 C1] [jI w w' g A2 B2 C2] [jI w w' g A3 B3 C3] [jI w w' g A4 B4 C4] [jI w w' g A5 B5 C5] [jI w w' g A6 B6 C6] (h1:Hid A1) (h2:Hid A2) (h3:Hid A3) (h4:Hid A4) (h5:Hid A5) (h6:Hid A6) (e:La w w' g) (c1:C1:=by omega) (c2:C2:=by omega) (c3:C3:=by omega) (c4:C4:=by omega) (c5:C5:=by omega) (c6:C6:=by omega):Hid B1∧Hid B2∧Hid B3∧Hid B4∧Hid B5∧Hid B6:=⟨Lib.hid (jI.out e c1 h1.out),Lib.hid (jI.out e c2 h2.out),Lib.hid (jI.out e c3 h3.out),Lib.hid (jI.out e c4 h4.out),Lib.hid (jI.out e c5 h5.out),Lib.hid (jI.out e c6 h6.out)⟩
theorem f7 {A1 B1 C1 A2 B2 C2 A3 B3 C3 A4 B4 C4 A5 B5 C5 A6 B6 C6 A7 B7 C7:Prop} [jI w w' g A1 B1 C1] [jI w w' g A2 B2 C2] [jI w w' g A3 B3 C3] [jI w w' g A4 B4 C4] [jI w w' g A5 B5 C5] [jI w w' g A6 B6 C6] [jI w w' g A7 B7 C7] (h1:Hid A1) (h2:Hid A2) (h3:Hid A3) (h4:Hid A4) (h5:Hid A5) (h6:Hid A6) (h7:Hid A7) (e:La w w' g) (c1:C1:=by omega) (c2:C2:=by omega) (c3:C3:=by omega) (c4:C4:=by omega) (c5:C5:=by omega) (c6:C6:=by omega) (c7:C7:=by omega):Hid B1∧Hid B2∧Hid B3∧Hid B4∧Hid B5∧Hid B6∧Hid B7:=⟨Lib.hid (jI.out e c1 h1.out),Lib.hid (jI.out e c2 h2.out),Lib.hid (jI.out e c3 h3.out),Lib.hid (jI.out e c4 h4.out),Lib.hid (jI.out e c5 h5.out),Lib.hid (jI.out e c6 h6.out),Lib.hid (jI.out e c7 h7.out)⟩
theorem f8 {A1 B1 C1 A2 B2 C2 A3 B3 C3 A4 B4 C4 A5 B5 C5 A6 B6 C6 A7 B7 C7 A8 B8 C8:Prop} [jI w w' g A1 B1 C1] [jI w w' g A2 B2 C2] [jI w w' g A3 B3 C3] [jI w w' g A4 B4 C4] [jI w w' g A5 B5 C5] [jI w w' g A6 B6 C6] [jI w w' g A7 B7 C7] [jI w w' g A8 B8 C8] (h1:Hid A1) (h2:Hid A2) (h3:Hid A3) (h4:Hid A4) (h5:Hid A5) (h6:Hid A6) (h7:Hid A7) (h8:Hid A8) (e:La w w' g) (c1:C1:=by omega) (c2:C2:=by omega) (c3:C3:=by omega) (c4:C4:=by omega) (c5:C5:=by omega) (c6:C6:=by omega) (c7:C7:=by omega) (c8:C8:=by omega):Hid B1∧Hid B2∧Hid B3∧Hid B4∧Hid B5∧Hid B6∧Hid B7∧Hid B8:=⟨Lib.hid (jI.out e c1 h1.out),Lib.hid (jI.out e c2 h2.out),Lib.hid (jI.out e c3 h3.out),Lib.hid (jI.out e c4 h4.out),Lib.hid (jI.out e c5 h5.out),Lib.hid (jI.out e c6 h6.out),Lib.hid (jI.out e c7 h7.out),Lib.hid (jI.out e c8 h8.out)⟩
theorem f9 {A1 B1 C1 A2 B2 C2 A3 B3 C3 A4 B4 C4 A5 B5 C5 A6 B6 C6 A7 B7 C7 A8 B8 C8 A9 B9 C9:Prop} [jI w w' g A1 B1 C1] [jI w w' g A2 B2 C2] [jI w w' g A3 B3 C3] [jI w w' g A4 B4 C4] [jI w w' g A5 B5 C5] [jI w w' g A6 B6 C6] [jI w w' g A7 B7 C7] [jI w w' g A8 B8 C8] [jI w w' g A9 B9 C9] (h1:Hid A1) (h2:Hid A2) (h3:Hid A3) (h4:Hid A4) (h5:Hid A5) (h6:Hid A6) (h7:Hid A7) (h8:Hid A8) (h9:Hid A9) (e:La w w' g) (c1:C1:=by omega) (c2:C2:=by omega) (c3:C3:=by omega) (c4:C4:=by omega) (c5:C5:=by omega) (c6:C6:=by omega) (c7:C7:=by omega) (c8:C8:=by omega) (c9:C9:=by omega):Hid B1∧Hid B2∧Hid B3∧Hid B4∧Hid B5∧Hid B6∧Hid B7∧Hid B8∧Hid B9:=⟨Lib.hid (jI.out e c1 h1.out),Lib.hid (jI.out e c2 h2.out),Lib.hid (jI.out e c3 h3.out),Lib.hid (jI.out e c4 h4.out),Lib.hid (jI.out e c5 h5.out),Lib.hid (jI.out e c6 h6.out),Lib.hid (jI.out e c7 h7.out),Lib.hid (jI.out e c8 h8.out),Lib.hid (jI.out e c9 h9.out)⟩
theorem sR {ops:Array Oper} {rest:List Oper} {op:Oper} {a:Act} {Q:Exit→Act→World→Prop} {ty:TypeId} {x y:Operand} (hg:Has w g T cs) (h:wpList Tryz.prog ops Q rest (a.put op.dst undef) (w.setRow g cs')) (hgd:op.guard=none:=by rfl) (ho:op.op = .store ty x y:=by rfl) (hx:a.eval x = .pointer (some ⟨g,0,none⟩):=by rfl) (hy:a.eval y = .agg cs':=by rfl)
  (hi:(Tryz.prog.info? ty).map (·.size)=some cs'.size:=by kernel_rfl) (hold:cs.size=cs'.size:=by rfl) (h1:cs'.all (·.oneCell')=true:=by first | assumption | simp [Value.oneCell']):wpList Tryz.prog ops Q (op :: rest) a w:=wpList_store_row hgd ty x y ho g cs' hx hy T cs hg hi hold h1 h
end
theorem kM:(∀ (a:Act) (v:Value),a.put none v=a)∧(∀ (ts:Array Value) (ds:List _) (i:Nat) (v:Value),Act.put ⟨ts,ds⟩ (some i) v=⟨ts.setIfInBounds i v,ds⟩) ∧
  (∀ (l:List Value) (i:Nat) (v:Value),l.toArray.setIfInBounds i v=(l.set i v).toArray)∧(∀ (x:Value) (l:List Value) (v:Value),(x :: l).set 0 v=v :: l)∧(∀ (x:Value) (l:List Value) (i:Nat) (v:Value),(x :: l).set (i+1) v=x :: l.set i v) :=
 ⟨fun _ _ => rfl,fun _ _ _ _ => rfl,fun _ _ _ => by simp,fun _ _ _ => rfl,fun _ _ _ _ => rfl⟩
theorem eY {P:Program} {ops:Array Oper} {op:Oper} {a:Act} {w:World} {K:Act→World→Prop} {Q:Exit→Act→World→Prop} {E:Prop} (hgd:op.guard=none) (ty:TypeId) (x y:Operand) (ho:op.op = .store ty x y)
  (g:Nat) (cells:Array Value) (hx:a.eval x = .pointer (some ⟨g,0,none⟩)) (hy:a.eval y = .agg cells)
  (t:TypeId) (old:Array Value) (hg:w.heap[g]?=some (.cells old t (0,0))) (hi:(P.info? ty).map (·.size)=some cells.size) (hold:old.size=cells.size) (h1:cells.all (·.oneCell')=true)
  (h:K (a.put op.dst undef) (w.setRow g cells)):if Region.wanted op (yielded ops a.tmps)=true then Oper.wp P op a w K Q else E:=by
 rw [if_pos (by simp [Region.wanted,hgd])];exact wp_store_row ty x y ho g cells hx hy t old hg hi hold h1 h
abbrev RTq (w:World) (v:Value) (e:Ending) (w':World):Prop:=e = .returned v∧Below w.heap.size w w'
theorem hiQ {p:Prop} (h:p):Hid p:=Lib.hid h
end Go.Proofs.YtlamhkffnlgofaaGreatDoor
