/- What slices.Clone computes for values and for unknown parts, and what else is used with it. No condition. -/
import Derived.Test.YtkaedmpppnnamaaGreatDoorHAD
import Derived.Deep.AppendLies
import Derived.IntWalk
set_option maxHeartbeats 8000000
set_option maxRecDepth 100000
namespace Go.Proofs.YtkaedmpppnnamaaGreatDoor
open ChangeShapes WideShapes ChangeAt RowKit
theorem aeh:(Tryz.prog.info? 34).map (fun i => (i.zero,i.size,i.bytes))=some (some (.agg #[.int .i64 0,.bool false,.int .i64 0,.string ByteArray.empty,.int .i64 0,.slice none 0 0,.slice none 0 0,.slice none 0 0]),8,120):=by kernel_rfl
theorem Vh:(Tryz.prog.info? 102).map (fun i => (i.zero,i.size,i.bytes))=some (some (.agg #[.int .i64 0,.string ByteArray.empty]),2,24):=by kernel_rfl
def DJ (w:World) (e:TypeId) (size n:Nat) (xs:List Value) (r:Ending) (w':World):Prop :=
 ∃ v',r = .returned v'/\w'.ownsRow w.heap.size e size v' n xs/\Below w.heap.size w w'
theorem zDz {p:Prop} (h:p:=by
 rw [Ru,J_] at hown2;have h02:Below w.heap.size w w2:=h01.grown hgrow (by simp) (fun k hk => (Lc.out.lt k hk).1);have HO:=hiQ hown2;clear hown2 hgrow;go_wp2_with fail;go_ret;exact ⟨_,rfl,HO.out,h02⟩):p:=h
theorem zEp {p:Prop} (h:p:=by
 intro j u hu;have h:=hr a rfl j u hu;have hb:=World.block_lt_of_cell? _ _ h;rw [<- h];exact D_ (Below.heap_alloc w _ _ hb)):p:=h
theorem zFu {p:Prop} (h:p:=by
 go_wp2_with fail;go_ret;exact ⟨_,rfl,⟨rfl,.inl ⟨rfl,rfl⟩⟩,g_ _ _⟩):p:=h
theorem QU (n:Nat) (A:Option Addr) (cap:Nat) (xs:List Value) (w:World) (hn:n<=1172812402926) (hA:A=none->n=0) (hl:xs.length=n*8) (hr:∀ a,A=some a->∀ j u,xs[j]?=some u->w.cell? (a.add j)=some u) (hlt:∀ a,A=some a->0 < n->a.block < w.heap.size) (h1:∀ u ∈ xs,u.oneCell'=true) :
  Calls Tryz.prog 136 #[.slice A n cap] w (DJ w 34 8 n xs):=by
 have heq:=fun (W:World) => Lib.run_eql_slice_nil (P:=Tryz.prog) W 31 34 A n cap 0 0 Tryz.underlying31;cases A with
 | none =>
  obtain rfl:=hA rfl;simp only [Option.isNone_none] at heq;have hx:xs = []:=by simpa using hl
  subst hx;clear hr hlt h1;go_enter Tryz.func136,Tryz.ntmps136
  exact zFu
 | some a =>
  simp only [Option.isNone_some] at heq;have hcell:∀ j u,xs[j]?=some u->(w.alloc (.cells #[] 34)).cell? (a.add j)=some u:=by
   exact zEp
  have HR:=hiQ hcell;have hown:(w.alloc (.cells #[] 34)).ownsRow w.heap.size 34 8 (.slice (some ⟨w.heap.size,0,none⟩) 0 0) 0 [] :=
   ⟨rfl,.inr ⟨w.heap.size,0,#[],rfl,b_ _,heap_alloc_new w _,b_ _,by simp [maxLen],rfl,rfl⟩⟩
  have h01:=(g_ w.heap.size w).alloc (b_ _) (.cells #[] 34);have Lc:=hiQ hown;have H1:=hiQ h1;have HL:=hiQ hl;obtain ⟨i0,hi,hz0,hz1,hz2⟩:=info_parts aeh;have Hi:=hiQ hi;have Hz0:=hiQ hz0;have Hz1:=hiQ hz1;have Hz2:=hiQ hz2;clear hr hcell hown h1 hl hlt hA hi hz0 hz1 hz2;go_enter Tryz.func136,Tryz.ntmps136
  go_wp2_with (at_builtin;refine wpList_append_own _ rfl _ _ _ rfl w.heap.size 34 i0 _ 8 120 Tryz.underlying31 Hi.out Hz0.out Hz1.out Hz2.out rfl (by decide) _ 0 [] rfl Lc.out a n cap xs rfl HL.out HR.out H1.out (by simp only [maxLen];omega) (by omega) (by simp) ?_;intro v' w2 hown2 hgrow _)
  exact zDz
theorem ZO (n:Nat) (A:Option Addr) (cap:Nat) (xs:List Value) (w:World) (hn:n<=5864062014634) (hA:A=none->n=0) (hl:xs.length=n*2) (hr:∀ a,A=some a->∀ j u,xs[j]?=some u->w.cell? (a.add j)=some u) (hlt:∀ a,A=some a->0 < n->a.block < w.heap.size) (h1:∀ u ∈ xs,u.oneCell'=true) :
  Calls Tryz.prog 137 #[.slice A n cap] w (DJ w 102 2 n xs):=by
 have heq:=fun (W:World) => Lib.run_eql_slice_nil (P:=Tryz.prog) W 32 102 A n cap 0 0 Tryz.underlying32;cases A with
 | none =>
  obtain rfl:=hA rfl;simp only [Option.isNone_none] at heq;have hx:xs = []:=by simpa using hl
  subst hx;clear hr hlt h1;go_enter Tryz.func137,Tryz.ntmps137
  exact zFu
 | some a =>
  simp only [Option.isNone_some] at heq;have hcell:∀ j u,xs[j]?=some u->(w.alloc (.cells #[] 102)).cell? (a.add j)=some u:=by
   exact zEp
  have HR:=hiQ hcell;have hown:(w.alloc (.cells #[] 102)).ownsRow w.heap.size 102 2 (.slice (some ⟨w.heap.size,0,none⟩) 0 0) 0 [] :=
   ⟨rfl,.inr ⟨w.heap.size,0,#[],rfl,b_ _,heap_alloc_new w _,b_ _,by simp [maxLen],rfl,rfl⟩⟩
  have h01:=(g_ w.heap.size w).alloc (b_ _) (.cells #[] 102);have Lc:=hiQ hown;have H1:=hiQ h1;have HL:=hiQ hl;obtain ⟨i0,hi,hz0,hz1,hz2⟩:=info_parts Vh;have Hi:=hiQ hi;have Hz0:=hiQ hz0;have Hz1:=hiQ hz1;have Hz2:=hiQ hz2;clear hr hcell hown h1 hl hlt hA hi hz0 hz1 hz2;go_enter Tryz.func137,Tryz.ntmps137
  go_wp2_with (at_builtin;refine wpList_append_own _ rfl _ _ _ rfl w.heap.size 102 i0 _ 2 24 Tryz.underlying32 Hi.out Hz0.out Hz1.out Hz2.out rfl (by decide) _ 0 [] rfl Lc.out a n cap xs rfl HL.out HR.out H1.out (by simp only [maxLen];omega) (by omega) (by simp) ?_;intro v' w2 hown2 hgrow _)
  exact zDz
theorem oP:(Tryz.prog.info? 3).map (fun i => (i.zero,i.size,i.bytes))=some (some (.int .i64 0),1,8):=by kernel_rfl
theorem ZP (n:Nat) (A:Option Addr) (cap:Nat) (xs:List Value) (w:World) (hn:n<=1000000) (hA:A=none->n=0) (hl:xs.length=n*1) (hr:∀ a,A=some a->∀ j u,xs[j]?=some u->w.cell? (a.add j)=some u) (hlt:∀ a,A=some a->0 < n->a.block < w.heap.size) (h1:∀ u ∈ xs,u.oneCell'=true) :
  Calls Tryz.prog 103 #[.slice A n cap] w (DJ w 3 1 n xs):=by
 have heq:=fun (W:World) => Lib.run_eql_slice_nil (P:=Tryz.prog) W 57 3 A n cap 0 0 Tryz.underlying57;cases A with
 | none =>
  obtain rfl:=hA rfl;simp only [Option.isNone_none] at heq;have hx:xs = []:=by simpa using hl
  subst hx;clear hr hlt h1;go_enter Tryz.func103,Tryz.ntmps103
  exact zFu
 | some a =>
  simp only [Option.isNone_some] at heq;have hcell:∀ j u,xs[j]?=some u->(w.alloc (.cells #[] 3)).cell? (a.add j)=some u:=by
   exact zEp
  have HR:=hiQ hcell;have hown:(w.alloc (.cells #[] 3)).ownsRow w.heap.size 3 1 (.slice (some ⟨w.heap.size,0,none⟩) 0 0) 0 [] :=
   ⟨rfl,.inr ⟨w.heap.size,0,#[],rfl,b_ _,heap_alloc_new w _,b_ _,by simp [maxLen],rfl,rfl⟩⟩
  have h01:=(g_ w.heap.size w).alloc (b_ _) (.cells #[] 3);have Lc:=hiQ hown;have H1:=hiQ h1;have HL:=hiQ hl;obtain ⟨i0,hi,hz0,hz1,hz2⟩:=info_parts oP;have Hi:=hiQ hi;have Hz0:=hiQ hz0;have Hz1:=hiQ hz1;have Hz2:=hiQ hz2;clear hr hcell hown h1 hl hlt hA hi hz0 hz1 hz2;go_enter Tryz.func103,Tryz.ntmps103
  go_wp2_with (at_builtin;refine wpList_append_own _ rfl _ _ _ rfl w.heap.size 3 i0 _ 1 8 Tryz.underlying57 Hi.out Hz0.out Hz1.out Hz2.out rfl (by decide) _ 0 [] rfl Lc.out a n cap xs rfl HL.out HR.out H1.out (by simp only [maxLen];omega) (by omega) (by simp) ?_;intro v' w2 hown2 hgrow _)
  exact zDz
theorem ab5:(Tryz.prog.info? 9).map (fun i => (i.zero,i.size,i.bytes))=some (some (.string ByteArray.empty),1,16):=by kernel_rfl
structure Two (w:World) (B:Nat) (v1:Value) (n1:Nat) (xs1:List Value) (v2:Value) (n2:Nat) (xs2:List Value):Prop where
 o1:w.ownsRow B 3 1 v1 n1 xs1
 o2:w.ownsRow B 9 1 v2 n2 xs2
 sp:∀ k,v1.ownBlock=some k->v2.ownBlock=some k->False
section
variable {w w':World} {B n1 n2:Nat} {v1 v2:Value} {xs1 xs2:List Value}
theorem Two.nil (w:World) (B:Nat):Two w B (.slice none 0 0) 0 [] (.slice none 0 0) 0 []:=⟨K_ _ _ _ _,K_ _ _ _ _,fun k h => by cases h⟩
theorem Two.heap (h:Two w B v1 n1 xs1 v2 n2 xs2) (hk:∀ k:Nat,B<=k->k < w.heap.size->w'.heap[k]?=w.heap[k]?):Two w' B v1 n1 xs1 v2 n2 xs2 :=
 ⟨DI h.o1 hk,DI h.o2 hk,h.sp⟩
theorem Two.on (h:Two w B v1 n1 xs1 v2 n2 xs2) (hb:Below w.heap.size w w'):Two w' B v1 n1 xs1 v2 n2 xs2:=h.heap fun _ _ hk => hb.block _ hk
theorem Two.lt1 (h:Two w B v1 n1 xs1 v2 n2 xs2):∀ k,v1.ownBlock=some k->k < w.heap.size:=fun k hk => (h.o1.lt k hk).2
theorem Two.lt2 (h:Two w B v1 n1 xs1 v2 n2 xs2):∀ k,v2.ownBlock=some k->k < w.heap.size:=fun k hk => (h.o2.lt k hk).2
end
theorem sepL {a b:Value} (h:∀ k,a.ownBlock=some k->b.ownBlock=some k->False):b.ownBlock=none\/b.ownBlock≠a.ownBlock:=by
 cases hv:b.ownBlock with
 | none => exact .inl rfl
 | some k => exact .inr (fun e => h k e.symm hv)
theorem Ef {w w1:World} {B:Nat} {r:Option Nat} (h:w.grownBy w1 r) (hB:B<=w.heap.size) (hr:∀ k,r=some k->B<=k):Below B w w1:=(g_ B w).grown h hB hr
theorem BJ {ops:Array Oper} {op:Oper} {a:Act} {w:World} {K:Act->World->Prop} {Q:Exit->Act->World->Prop} {E:Prop} (hgd:op.guard=none) (s x:Operand)
  (ho:op.op = .call { callee:=.builtin .append,args:=#[s,x],argTypes:=#[57,57] }) {B gN n1 n2:Nat} {v1 v2:Value} {xs1 xs2:List Value} (ht:Two w B v1 n1 xs1 v2 n2 xs2) (u:Value) (hs:a.eval s=v1)
  (hN:Has w gN 3 #[u]) (hx:a.eval x = .slice (some ⟨gN,0,none⟩) 1 1) (h1:u.oneCell'=true) (hn:n1 < 8000000000000) (hB:B<=w.heap.size)
  (h:∀ v w1,Two w1 B v (n1+1) (xs1 ++ [u]) v2 n2 xs2->Below B w w1->(∀ k,k < w.heap.size->v1.ownBlock≠some k->w1.heap[k]?=w.heap[k]?)->K (a.put op.dst v) w1) :
  if Region.wanted op (yielded ops a.tmps)=true then Oper.wp Tryz.prog op a w K Q else E:=by
 obtain ⟨i0,hi,hz0,hz1,hz2⟩:=info_parts oP;refine step_append_lies (P:=Tryz.prog) w hgd s x _ ho B 3 i0 _ 1 8 Tryz.underlying57 hi hz0 hz1 hz2 rfl (by decide) v1 n1 xs1 hs ht.o1 ⟨gN,0,none⟩ 1 1 [u] hx rfl (World.news_of_block hN) (by simpa using h1) (by omega) (by simp only [maxLen];omega) (by omega) hB w.heap.size rfl ?_;intro g cap w1 hown hgr hat _;have hsp:∀ k,(Value.slice (some ⟨g,0,none⟩) (n1+1) cap).ownBlock=some k->v2.ownBlock=some k->False:=by
  intro k hk hk2;have hg:g=k:=by injection hk
  rcases hat with h2 | h2
  . rw [hg] at h2;exact ht.sp k h2 hk2
  have:=ht.lt2 k hk2;omega
 refine h _ w1 ⟨hown,ht.o2.kept hgr (sepL ht.sp),hsp⟩ (Ef hgr hB (fun k hk => (ht.o1.lt k hk).1)) (fun k hk hne => hgr.block k hk (fun e => hne e.symm))
theorem BK {ops:Array Oper} {op:Oper} {a:Act} {w:World} {K:Act->World->Prop} {Q:Exit->Act->World->Prop} {E:Prop} (hgd:op.guard=none) (s x:Operand)
  (ho:op.op = .call { callee:=.builtin .append,args:=#[s,x],argTypes:=#[98,98] }) {B gN n1 n2:Nat} {v1 v2:Value} {xs1 xs2:List Value} (ht:Two w B v1 n1 xs1 v2 n2 xs2) (u:Value) (hs:a.eval s=v2)
  (hN:Has w gN 9 #[u]) (hx:a.eval x = .slice (some ⟨gN,0,none⟩) 1 1) (h1:u.oneCell'=true) (hn:n2 < 8000000000000) (hB:B<=w.heap.size)
  (h:∀ v w1,Two w1 B v1 n1 xs1 v (n2+1) (xs2 ++ [u])->Below B w w1->(∀ k,k < w.heap.size->v2.ownBlock≠some k->w1.heap[k]?=w.heap[k]?)->K (a.put op.dst v) w1) :
  if Region.wanted op (yielded ops a.tmps)=true then Oper.wp Tryz.prog op a w K Q else E:=by
 obtain ⟨i0,hi,hz0,hz1,hz2⟩:=info_parts ab5;refine step_append_lies (P:=Tryz.prog) w hgd s x _ ho B 9 i0 _ 1 16 Tryz.underlying98 hi hz0 hz1 hz2 rfl (by decide) v2 n2 xs2 hs ht.o2 ⟨gN,0,none⟩ 1 1 [u] hx rfl (World.news_of_block hN) (by simpa using h1) (by omega) (by simp only [maxLen];omega) (by omega) hB w.heap.size rfl ?_;intro g cap w1 hown hgr hat _;have hsp:∀ k,(Value.slice (some ⟨g,0,none⟩) (n2+1) cap).ownBlock=some k->v1.ownBlock=some k->False:=by
  intro k hk hk2;have hg:g=k:=by injection hk
  rcases hat with h2 | h2
  . rw [hg] at h2;exact ht.sp k hk2 h2
  have:=ht.lt1 k hk2;omega
 refine h _ w1 ⟨ht.o1.kept hgr (sepL fun k h1 h2 => ht.sp k h2 h1),hown,fun k h1 h2 => hsp k h2 h1⟩ (Ef hgr hB (fun k hk => (ht.o2.lt k hk).1)) (fun k hk hne => hgr.block k hk (fun e => hne e.symm))
theorem Two.kept {w:World} {B n1 n2:Nat} {v1 v2:Value} {xs1 xs2:List Value} (h:Two w B v1 n1 xs1 v2 n2 xs2):Kept (fun w => Two w B v1 n1 xs1 v2 n2 xs2) w B w.heap.size :=
 ⟨h,fun _ hk => h.heap hk,b_ _⟩
def wu (l:List Raw):Bool:=decide (0 < l.length) && nP l
theorem Bj {α β:Type} (f:α->β) (l:List α) (k:Nat) (h:k < l.length):(l.take (k+1)).map f=(l.take k).map f ++ [f l[k]]:=by
 rw [vK h,Qw];rfl
def Jr (r:Raw):Value:=.int .i64 r.1
def EL (r:Raw):Value:=.string ⟨r.2.toArray⟩
theorem zAa {p:Prop} (h:p:=by exact ⟨X.out.cell 0,X.out.cell 1⟩):p:=h
theorem zCe {p:Prop} (h:p:=by
 replace hb:=hb.trans (hbB.mono (show w.heap.size<=w.heap.size by omega));have TW:=hiQ (Two.kept htw);clear htw hkk hbB;(try clear hHeld);refine hK.out _ _ zAa (fun hHeld => ?_);clear hK K;refine J5 (i:=10) (v := ?_) rfl (by kernel_rfl) (by kernel_rfl) (by kernel_rfl) (fun _ _ _ h => h) (Or.inl ⟨by rfl,?_⟩) (by assumption) ?_
 case refine_2 => (intro w hSw;(try dsimp only at hSw);go_simp;(first | done | with_reducible rfl))
 try simp only [kM]
 refine J5 (i:=11) (v := ?_) rfl (by kernel_rfl) (by kernel_rfl) (by kernel_rfl) (fun _ _ _ h => h) (Or.inl ⟨by rfl,?_⟩) (by assumption) ?_
 case refine_2 => (intro w hSw;(try dsimp only at hSw);go_simp;(first | done | with_reducible rfl))
 try simp only [kM]
 refine Dl (by kernel_rfl) ?_ _;(try clear hHeld);go_wp2_with fail;go_roundw
 case rel => exact ⟨k+1,by omega,by go_num,by rw [HT1.out,HT2.out];exact TW.out.now,hb⟩
 case measure => simp [intOf];omega):p:=h
theorem zHr {p:Prop} (h:p:=by
 refine hK.out _ _ zAa (fun hHeld => ?_);clear hK K;refine I_ (rs:=[9]) (by kernel_rfl) (by simp) ?_;refine yI rfl (fun K hK => ?_) (FB);refine BK (by rfl) _ _ (by rfl) TW.out.now (.string ⟨s.toArray⟩) (by rfl) N2.out (by rfl) rfl (by omega) (hb).size ?_;intro v2' w1 htw hbB hkk;clear TW;replace X:=dG X hkk (fun hh => by have:=hZ2 _ hh;omega);replace N1:=dG N1 hkk (fun hh => by have:=hZ2 _ hh;omega);replace N2:=dG N2 hkk (fun hh => by have:=hZ2 _ hh;omega);exact zCe):p:=h
theorem XY (l:List Raw) (va:Value) (w:World) (hl:l.length<=6000000000000) (gy:∀ r ∈ l,yR r) (h1:Rd w w.heap.size 2 va l.length (jO l)) :
  Calls Tryz.prog 100 #[va] w (RT w (.bool (wu l))):=by
 obtain ⟨A,c,rfl,hca⟩:=h1.form;have H1:=hiQ h1;have Om:=hiQ gy;clear h1 gy;go_enter Tryz.func100,Tryz.ntmps100
 go_wp2_with fail;go_loopw [3,4,9] (fun s3 s4 i wr => ∃ k:Nat,k<=l.length/\i = .int .i64 k/\Two wr w.heap.size s3 k ((l.take k).map Jr) s4 k ((l.take k).map EL)/\Below w.heap.size w wr) (fun _ _ i _ => l.length - (intOf i).toNat)
 case atStart => exact ⟨0,by omega,rfl,Two.nil _ _,g_ _ _⟩
 case round =>
  obtain ⟨k,hk,rfl,htw,hb⟩:=hrel;by_cases hlt:k < l.length
  .
   obtain ⟨b,o,rfl,hb1,hc1⟩:=(H1.out.below hb).at_ (by omega);obtain ⟨x1,x2⟩:=qy hc1 k hlt;have HT1:Hid ((l.take (k+1)).map Jr=(l.take k).map Jr ++ [.int .i64 l[k].1]):=Bj Jr l k hlt;have HT2:Hid ((l.take (k+1)).map EL=(l.take k).map EL ++ [.string ⟨l[k].2.toArray⟩]):=Bj EL l k hlt;have hi1:(k:Int) < l.length:=by omega
   have hZ1:=htw.lt1;have hZ2:=htw.lt2;generalize l[k].1=a at *;generalize l[k].2=s at *;clear hc1;have TW:=hiQ (Two.kept htw);clear htw;go_upto_region 6 with fail;refine aO (fun wd2 hb1 X => ?_);have hl4:=TW.out.le;have hl5:=hb.size;replace TW:=b1 TW hb1;replace hb:=dT hb hb1;clear hb1;generalize wr.heap.size=g3 at *;clear x1 x2;obtain ⟨aK,bJ⟩:=X.out.c2;refine t_ (S:=(fun w' => w'.cell? ⟨g3,0,none⟩=some (.int .i64 a)/\w'.cell? ⟨g3,1,none⟩=some (.string ⟨s.toArray⟩))) (by kernel_rfl) ⟨aK,bJ⟩ (fun hHeld => ?_);clear aK bJ;have hb6:Below wd2.heap.size wd2 (wd2.drew):=(g_ _ _).drew;obtain ⟨X,TW⟩:=b2 X TW hb6;replace hb:=dT hb hb6;clear hb6;generalize wd2.drew=jC at *;refine J5 (i:=0) (v := ?_) rfl (by kernel_rfl) (by kernel_rfl) (by kernel_rfl) (fun _ _ _ h => h) (Or.inl ⟨by rfl,?_⟩) (by assumption) ?_
   case refine_2 => (intro w hSw;(try dsimp only at hSw);go_simp;(first | done | with_reducible rfl))
   try simp only [kM]
   refine J5 (i:=1) (v := ?_) rfl (by kernel_rfl) (by kernel_rfl) (by kernel_rfl) (fun _ _ _ h => h) (Or.inl ⟨by rfl,?_⟩) (by assumption) ?_
   case refine_2 => (intro w hSw;(try dsimp only at hSw);go_simp;(first | done | with_reducible rfl))
   try simp only [kM]
   refine J5 (i:=2) (v := ?_) rfl (by kernel_rfl) (by kernel_rfl) (by kernel_rfl) (fun _ _ _ h => h) (Or.inl ⟨by rfl,?_⟩) (by assumption) ?_
   case refine_2 => (intro w hSw;(try dsimp only at hSw);go_simp;(first | done | with_reducible rfl))
   try simp only [kM]
   refine J5 (i:=5) (v := ?_) rfl (by kernel_rfl) (by kernel_rfl) (by kernel_rfl) (fun _ _ _ h => h) (Or.inl ⟨by rfl,?_⟩) (by assumption) ?_
   case refine_2 => (intro w hSw;(try dsimp only at hSw);go_simp;(first | done | with_reducible rfl))
   try simp only [kM]
   refine J5 (i:=6) (v := ?_) rfl (by kernel_rfl) (by kernel_rfl) (by kernel_rfl) (fun _ _ _ h => h) (Or.inl ⟨by rfl,?_⟩) (by assumption) ?_
   case refine_2 => (intro w hSw;(try dsimp only at hSw);go_simp;(first | done | with_reducible rfl))
   try simp only [kM]
   refine J5 (i:=7) (v := ?_) rfl (by kernel_rfl) (by kernel_rfl) (by kernel_rfl) (fun _ _ _ h => h) (Or.inl ⟨by rfl,?_⟩) (by assumption) ?_
   case refine_2 => (intro w hSw;(try dsimp only at hSw);go_simp;(first | done | with_reducible rfl))
   try simp only [kM]
   refine I_ (rs:=[3,8]) (by kernel_rfl) (by simp) ?_;refine yI rfl (fun K hK => ?_) (yI rfl (fun K hK => ?_) (FB))
   .
    skip
    go_simp;refine aO (fun nM hb8 N1 => ?_);have sH:=X.out.here;have hl12:=TW.out.le;have alh:=hb.size;obtain ⟨X,TW⟩:=b2 X TW hb8;replace hb:=dT hb hb8;clear hb8;generalize jC.heap.size=g10 at *;(try clear hHeld);refine hK.out _ _ zAa (fun hHeld => ?_);clear hK K;refine I_ (rs:=[4,8]) (by kernel_rfl) (by simp) ?_;refine yI rfl (fun K hK => ?_) (yI rfl (fun K hK => ?_) (FB))
    .
     skip
     refine BJ (by rfl) _ _ (by rfl) TW.out.now (.int .i64 a) (by rfl) N1.out (by rfl) rfl (by omega) (hb).size ?_;intro v1' w1 htw hbB hkk;clear TW;replace X:=dG X hkk (fun hh => by have:=hZ1 _ hh;omega);replace N1:=dG N1 hkk (fun hh => by have:=hZ1 _ hh;omega);replace hb:=hb.trans (hbB.mono (show w.heap.size<=w.heap.size by omega));have TW:=hiQ (Two.kept htw);clear htw hkk hbB;(try clear hHeld);refine hK.out _ _ zAa (fun hHeld => ?_);clear hK K;refine I_ (rs:=[8]) (by kernel_rfl) (by simp) ?_;refine yI rfl (fun K hK => ?_) (FB);go_simp;refine aO (fun jA jh N2 => ?_);have sO:=X.out.here;have sW:=N1.out.here;have Az:=TW.out.le;have BQ:=hb.size;obtain ⟨X,N1,TW⟩:=b3 X N1 TW jh;replace hb:=dT hb jh;clear jh;generalize w1.heap.size=g16 at *;(try clear hHeld);exact zHr
    skip
    go_simp;refine aO (fun jA jh N2 => ?_);have sO:=X.out.here;have sW:=N1.out.here;have Az:=TW.out.le;have BQ:=hb.size;obtain ⟨X,N1,TW⟩:=b3 X N1 TW jh;replace hb:=dT hb jh;clear jh;generalize nM.heap.size=g16 at *;(try clear hHeld);refine hK.out _ _ zAa (fun hHeld => ?_);clear hK K;refine I_ (rs:=[4]) (by kernel_rfl) (by simp) ?_;refine yI rfl (fun K hK => ?_) (FB);refine BJ (by rfl) _ _ (by rfl) TW.out.now (.int .i64 a) (by rfl) N1.out (by rfl) rfl (by omega) (hb).size ?_;intro v1' w1 htw hbB hkk;clear TW;replace X:=dG X hkk (fun hh => by have:=hZ1 _ hh;omega);replace N1:=dG N1 hkk (fun hh => by have:=hZ1 _ hh;omega);replace N2:=dG N2 hkk (fun hh => by have:=hZ1 _ hh;omega);replace hb:=hb.trans (hbB.mono (show w.heap.size<=w.heap.size by omega));have TW:=hiQ (Two.kept htw);clear htw hkk hbB;(try clear hHeld);exact zHr
   skip
   go_simp;refine aO (fun nM hb8 N2 => ?_);have sH:=X.out.here;have hl12:=TW.out.le;have alh:=hb.size;obtain ⟨X,TW⟩:=b2 X TW hb8;replace hb:=dT hb hb8;clear hb8;generalize jC.heap.size=g10 at *;(try clear hHeld);refine hK.out _ _ zAa (fun hHeld => ?_);clear hK K;refine I_ (rs:=[3]) (by kernel_rfl) (by simp) ?_;refine yI rfl (fun K hK => ?_) (FB);go_simp;refine aO (fun jA jh N1 => ?_);have sO:=X.out.here;have sW:=N2.out.here;have Az:=TW.out.le;have BQ:=hb.size;obtain ⟨X,N2,TW⟩:=b3 X N2 TW jh;replace hb:=dT hb jh;clear jh;generalize nM.heap.size=g16 at *;(try clear hHeld);refine hK.out _ _ zAa (fun hHeld => ?_);clear hK K;refine I_ (rs:=[4]) (by kernel_rfl) (by simp) ?_;refine yI rfl (fun K hK => ?_) (FB);refine BJ (by rfl) _ _ (by rfl) TW.out.now (.int .i64 a) (by rfl) N1.out (by rfl) rfl (by omega) (hb).size ?_;intro v1' w1 htw hbB hkk;clear TW;replace X:=dG X hkk (fun hh => by have:=hZ1 _ hh;omega);replace N2:=dG N2 hkk (fun hh => by have:=hZ1 _ hh;omega);replace N1:=dG N1 hkk (fun hh => by have:=hZ1 _ hh;omega);replace hb:=hb.trans (hbB.mono (show w.heap.size<=w.heap.size by omega));have TW:=hiQ (Two.kept htw);clear htw hkk hbB;(try clear hHeld);refine hK.out _ _ zAa (fun hHeld => ?_);clear hK K;refine I_ (rs:=[9]) (by kernel_rfl) (by simp) ?_;refine yI rfl (fun K hK => ?_) (FB);refine BK (by rfl) _ _ (by rfl) TW.out.now (.string ⟨s.toArray⟩) (by rfl) N2.out (by rfl) rfl (by omega) (hb).size ?_
   intro v2' w1 htw hbB hkk;clear TW;replace X:=dG X hkk (fun hh => by have:=hZ2 _ hh;omega);replace N2:=dG N2 hkk (fun hh => by have:=hZ2 _ hh;omega);replace N1:=dG N1 hkk (fun hh => by have:=hZ2 _ hh;omega);exact zCe
  obtain rfl:k=l.length:=by omega
  rw [yJ (b_ _)] at htw;have hr1:=Rd.uX htw.o1;have hr2:=Rd.uX htw.o2;have HI:=hiQ (VY l _ _ wr (by omega) Om.out hr1 hr2);clear htw hr1 hr2;by_cases h0:l.length=0
  .
   have Hs:Hid (wu l=false):=by show _=_;unfold wu;rw [h0];rfl
   have Hn:=hiQ (yS h0);have hd:decide (0 < l.length)=false:=f_ (by omega);clear h0;go_wp2_with fail;go_ret;exact ⟨au Hs.out.symm,hb⟩
  have Hs:Hid (wu l=nP l):=by show _=_;unfold wu;rw [n_ (by omega)];rfl
  have hd:decide (0 < l.length)=true:=n_ (by omega);have hd2:(0:Int) < l.length:=by omega
  clear h0;go_wp2_with fail;refine HI.out.mono ?_;rintro e w2 ⟨rfl,hb2⟩;go_wp2_with fail;go_ret;exact ⟨au Hs.out.symm,hb.trans (hb2.mono hb.size)⟩
theorem ZQ (n:Nat) (A:Option Addr) (c:Nat) (w:World):Calls Tryz.prog 125 #[.slice A n c,.slice none 0 0] w fun e w' => e = .returned (.bool (decide (n=0)))/\w=w':=by
 by_cases h0:n=0
 .
  subst h0;go_enter Tryz.func125,Tryz.ntmps125
  go_wp2
  refine wp_loop_rounds 1 ?_;rw [rounds_succ];go_wp2
  go_ret;exact ⟨rfl,rfl⟩
 have Hd:Hid (decide (n=0)=false):=f_ h0;have t:((n:Int) != 0)=true:=by simpa using h0
 go_enter Tryz.func125,Tryz.ntmps125
 go_wp2
 go_ret;exact ⟨au Hd.out.symm,rfl⟩
theorem ZR (n:Nat) (A:Option Addr) (c:Nat) (w:World):Calls Tryz.prog 126 #[.slice A n c,.slice none 0 0,.func (.func 127) #[] #[]] w fun e w' => e = .returned (.bool (decide (n=0)))/\w=w':=by
 by_cases h0:n=0
 .
  subst h0;go_enter Tryz.func126,Tryz.ntmps126
  go_wp2
  refine wp_loop_rounds 1 ?_;rw [rounds_succ];go_wp2
  go_ret;exact ⟨rfl,rfl⟩
 have Hd:Hid (decide (n=0)=false):=f_ h0;have t:((n:Int) != 0)=true:=by simpa using h0
 go_enter Tryz.func126,Tryz.ntmps126
 go_wp2
 go_ret;exact ⟨au Hd.out.symm,rfl⟩
theorem Py (w:World) (B:Nat):ValAt w B jm (.slice none 0 0) (.slice none 0 0) (.slice none 0 0) :=
 ⟨⟨by simp [I64,jm,Val.kind],by simp [I64,jm,Val.num],by simp [I64,jm,Val.id]⟩,by simp [jm,Val.str],⟨by simp [jm,Val.keys],by simp [jm,Val.items],by simp [jm,Val.rest]⟩,by simp [jm,Val.rest],
  ⟨fun _ => [],⟨none,0,rfl,b_ _,.inl rfl⟩,fun i h => by simp [jm,Val.keys] at h⟩,⟨fun _ => [],⟨none,0,rfl,b_ _,.inl rfl⟩,fun i h => by simp [jm,Val.items] at h⟩,Rd.nil_ w B 2⟩
def jy (x y:ay):Bool:=decide (x.kind=y.kind/\x.name=y.name/\x.low=y.low/\x.high=y.high/\x.max=y.max/\x.key=y.key/\x.elem=y.elem/\x.opn=y.opn) && (decide (x.syms.length=0) && decide (x.ah.length=0))
theorem zCd {p:Prop} (h:p:=by
 go_enter Tryz.func102,Tryz.ntmps102
 go_upto_region 1 with fail;refine jg (fun wd2 hb1 X Y => ?_);have hw3:=hb1;clear hb1;obtain ⟨aK,bJ,bY,bZ,dL,eX,bU,dD,dM,dU⟩:=X.out.c10;obtain ⟨kT,kU,kV,kW,kX,mD,lJ,mF,wS,wU⟩:=Y.out.c10;go_wp2_with fail;go_ret;exact ⟨au ny.out.symm,hw3⟩):p:=h
theorem zDd {p:Prop} (h:p:=by
 go_wp2_with fail;go_ret;exact ⟨au ny.out.symm,hw3⟩):p:=h
theorem rO (x y:ay) (A1 A2:Option Addr) (c1 c2:Nat) (w:World) :
  Calls Tryz.prog 102 #[dA x (.slice A1 x.syms.length c1) (.slice A2 x.ah.length c2),dA y (.slice none 0 0) (.slice none 0 0)] w (RT w (.bool (jy x y))):=by
 by_cases e0:x.kind=y.kind
 .
  have t0:(x.kind == y.kind)=true:=by simp [e0]
  by_cases e1:x.name=y.name
  .
   have t1:(x.name == y.name)=true:=by simp [e1]
   by_cases e2:x.low=y.low
   .
    have t2:(x.low == y.low)=true:=by simp [e2]
    by_cases e3:x.high=y.high
    .
     have t3:(x.high == y.high)=true:=by simp [e3]
     by_cases e4:x.max=y.max
     .
      have t4:(x.max == y.max)=true:=by simp [e4]
      by_cases e5:x.key=y.key
      .
       have t5:(x.key == y.key)=true:=by simp [e5]
       by_cases e6:x.elem=y.elem
       .
        have t6:(x.elem == y.elem)=true:=by simp [e6]
        by_cases e7:x.opn=y.opn
        .
         have t7:(x.opn == y.opn)=true:=by simp [e7]
         have ny:Hid (jy x y=(decide (x.syms.length=0) && decide (x.ah.length=0))):=by show _=_;unfold jy;rw [n_ ⟨e0,e1,e2,e3,e4,e5,e6,e7⟩];rfl
         clear e0 e1 e2 e3 e4 e5 e6 e7;go_enter Tryz.func102,Tryz.ntmps102
         go_upto_region 1 with fail;refine jg (fun wd2 hb1 X Y => ?_);have hw3:=hb1;clear hb1;obtain ⟨aK,bJ,bY,bZ,dL,eX,bU,dD,dM,dU⟩:=X.out.c10;obtain ⟨kT,kU,kV,kW,kX,mD,lJ,mF,wS,wU⟩:=Y.out.c10;go_wp2_with fail;clear aK bJ bY bZ dL eX bU dD dM dU kT kU kV kW kX mD lJ mF wS wU;((with_reducible refine (ZQ _ _ _ _).mono ?_);rintro e wd4 ⟨rfl,rfl⟩);cases hs:decide (x.syms.length=0) with
         | false =>
          rw [hs] at ny;clear hs;exact zDd
         | true =>
          rw [hs,CX] at ny;clear hs;have bU:=X.out.e6;have lJ:=Y.out.e6;go_wp2_with fail;clear bU lJ;((with_reducible refine (ZR _ _ _ _).mono ?_);rintro e wL ⟨rfl,rfl⟩);generalize decide (x.ah.length=0)=bm at *;exact zDd
        have t7:(x.opn == y.opn)=false:=by simpa using e7
        have ny:Hid (jy x y=false):=by show _=_;unfold jy;rw [f_ (fun h => e7 (by simp [h]))];rfl
        clear e0 e1 e2 e3 e4 e5 e6 e7;exact zCd
       have t6:(x.elem == y.elem)=false:=by simpa using e6
       have ny:Hid (jy x y=false):=by show _=_;unfold jy;rw [f_ (fun h => e6 (by simp [h]))];rfl
       clear e0 e1 e2 e3 e4 e5 e6;exact zCd
      have t5:(x.key == y.key)=false:=by simpa using e5
      have ny:Hid (jy x y=false):=by show _=_;unfold jy;rw [f_ (fun h => e5 (by simp [h]))];rfl
      clear e0 e1 e2 e3 e4 e5;exact zCd
     have t4:(x.max == y.max)=false:=by simpa using e4
     have ny:Hid (jy x y=false):=by show _=_;unfold jy;rw [f_ (fun h => e4 (by simp [h]))];rfl
     clear e0 e1 e2 e3 e4;exact zCd
    have t3:(x.high == y.high)=false:=by simpa using e3
    have ny:Hid (jy x y=false):=by show _=_;unfold jy;rw [f_ (fun h => e3 (by simp [h]))];rfl
    clear e0 e1 e2 e3;exact zCd
   have t2:(x.low == y.low)=false:=by simpa using e2
   have ny:Hid (jy x y=false):=by show _=_;unfold jy;rw [f_ (fun h => e2 (by simp [h]))];rfl
   clear e0 e1 e2;exact zCd
  have t1:(x.name == y.name)=false:=by simpa using e1
  have ny:Hid (jy x y=false):=by show _=_;unfold jy;rw [f_ (fun h => e1 (by simp [h]))];rfl
  clear e0 e1;exact zCd
 have t0:(x.kind == y.kind)=false:=by simpa using e0
 have ny:Hid (jy x y=false):=by show _=_;unfold jy;rw [f_ (fun h => e0 (by simp [h]))];rfl
 clear e0;exact zCd
theorem zFb {p:Prop} (h:p:=by
 go_wp2_with fail;go_ret;exact ⟨rfl,hw3⟩):p:=h
theorem Ld (x:Val) (vk vi vr:Value) (w:World) (hv:ValAt w w.heap.size x vk vi vr) :
  Calls Tryz.prog 124 #[aS x vk vi vr] w (RT w (.bool (iK x jm))):=by
 obtain ⟨A1,n1,A2,n2,A3,n3,rfl,rfl,rfl,-,-,-⟩:=hv.forms;have HV:=hiQ hv;have hc:∀ W,ValAt W W.heap.size x (.slice A1 x.keys.length n1) (.slice A2 x.items.length n2) (.slice A3 x.rest.length n3)->Calls Tryz.prog 128 #[aS x (.slice A1 x.keys.length n1) (.slice A2 x.items.length n2) (.slice A3 x.rest.length n3),.agg #[.int .i64 0,.bool false,.int .i64 0,.string ⟨#[]⟩,.int .i64 0,.slice none 0 0,.slice none 0 0,.slice none 0 0]] W fun e w' => e = .returned (.bool (iK x jm))/\Below W.heap.size W w' :=
  fun W h => abW (nodes x+1) x jm _ _ _ (.slice none 0 0) (.slice none 0 0) (.slice none 0 0) W (by omega) h (Py _ _)
 have HC:=hiQ hc;clear hv hc;go_enter Tryz.func124,Tryz.ntmps124
 go_upto_region 1 with fail;refine aO (fun wd2 hb1 X => ?_);have hw3:=hb1;clear hb1;obtain ⟨aK,bJ,bY,bZ,dL,eX,bU,dD⟩:=X.out.c8;go_wp2_with fail;clear aK bJ bY bZ dL eX bU dD;((with_reducible refine (HC.out _ (HV.out.on hw3)).mono ?_);rintro e wd4 ⟨rfl,hb5⟩);replace X:=b1 X hb5;replace hw3:=dT hw3 hb5;clear hb5;exact zFb
theorem Two.amD {w:World} {B n1 n2:Nat} {v1 v2:Value} {xs1 xs2:List Value} (h:Two w B v1 n1 xs1 v2 n2 xs2):∀ k,v1.ownBlock=some k->B<=k/\k < w.heap.size:=fun k hk => h.o1.lt k hk
theorem Two.amE {w:World} {B n1 n2:Nat} {v1 v2:Value} {xs1 xs2:List Value} (h:Two w B v1 n1 xs1 v2 n2 xs2):∀ k,v2.ownBlock=some k->B<=k/\k < w.heap.size:=fun k hk => h.o2.lt k hk
def bW (m:Mem):Raw:=(m.id,m.name)
def jf (un:Bool) (m:Mem):Bool := !(un && (m.akb || m.eG)) && (!(m.akb && m.eG) && (m.eG || iK m.dflt jm))
def iQ (x:ay):Bool:=x.ah.all (jf (decide (x.kind=6))) && ((decide (x.kind=5) || decide (0 < x.ah.length)) && nP (x.ah.map bW))
theorem yu (x:ay) (m:Mem) (hm:m ∈ x.ah) (h:jf (decide (x.kind=6)) m=false):iQ x=false:=by
 have:x.ah.all (jf (decide (x.kind=6)))=false:=by
  rw [List.all_eq_false];exact ⟨m,hm,by simp [h]⟩
 unfold iQ;rw [this];rfl
theorem aej (f:Mem->Bool) (l:List Mem) (k:Nat) (h:k < l.length):(l.take (k+1)).all f=((l.take k).all f && f l[k]):=by
 rw [vK h,List.all_append];simp
theorem agZ {w:World} {B:Nat} {v:Value} {ms:List Mem} (h:rW w B v ms):∀ r ∈ ms.map bW,yR r:=by
 intro r hr;obtain ⟨m,hm,rfl⟩:=Pe.1 hr;obtain ⟨i,hi,rfl⟩:=List.getElem_of_mem hm;obtain ⟨c,_,h2⟩:=h;obtain ⟨_,_,_,_,hma⟩:=h2 i hi;exact ⟨hma.ints.1,hma.GI⟩
theorem zAb {p:Prop} (h:p:=by exact ⟨M.out.cell 0,M.out.cell 1⟩):p:=h
theorem zIi {p:Prop} (h:p:=by
 go_wp2_with fail;go_roundw
 case rel => exact ⟨k+1,by omega,by go_num,by rw [HAL.out,Hm.out,Bool.and_true];exact yP.out,TW.out.now,T.out,hb⟩
 case measure => simp [intOf];omega):p:=h
theorem zCf {p:Prop} (h:p:=by
 have Uc:=hiQ hcr;have Ud:=hiQ hhd;have aC:=T.out.e0;obtain ⟨-,-,-,mQ,kK,qU,qV,qW,qX,qY,oK,oL,oM⟩:=M.out.c13;go_wp2_with fail;clear aC mQ kK qU qV qW qX qY oK oL oM;((with_reducible refine (Ld m.dflt _ _ _ _ (Oo.out.on hb)).mono ?_);rintro e kL ⟨rfl,iR⟩);obtain ⟨T,M,TW⟩:=b3 T M TW iR;replace hb:=dT hb iR;clear iR;cases hbl:iK m.dflt jm with
 | true =>
  have Hm:Hid (jf (decide (x.kind=6)) m=true):=by show _=_;unfold jf;rw [Le.out,Uc.out,Ud.out,hbl];rfl
  clear hbl;exact zIi
 | false =>
  have Hm:Hid (jf (decide (x.kind=6)) m=false):=by show _=_;unfold jf;rw [Le.out,Uc.out,Ud.out,hbl];simp
  clear hbl;have Hno:Hid (iQ x=false):=yu x m xE.out Hm.out;have aC:=T.out.e0;go_wp2_with fail;go_ret;exact ⟨au Hno.out.symm,hb⟩):p:=h
theorem zCi {p:Prop} (h:p:=by
 replace hb:=hb.trans (hbB.mono (show w.heap.size<=w.heap.size+1 by omega));have TW:=hiQ (Two.kept htw);clear htw hkk hbB;(try clear hHeld);refine hK.out _ _ zAb (fun hHeld => ?_);clear hK K;refine J5 (i:=10) (v := ?_) rfl (by kernel_rfl) (by kernel_rfl) (by kernel_rfl) (fun _ _ _ h => h) (Or.inl ⟨by rfl,?_⟩) (by assumption) ?_
 case refine_2 => (intro w hSw;(try dsimp only at hSw);go_simp;(first | done | with_reducible rfl))
 try simp only [kM]
 refine J5 (i:=11) (v := ?_) rfl (by kernel_rfl) (by kernel_rfl) (by kernel_rfl) (fun _ _ _ h => h) (Or.inl ⟨by rfl,?_⟩) (by assumption) ?_
 case refine_2 => (intro w hSw;(try dsimp only at hSw);go_simp;(first | done | with_reducible rfl))
 try simp only [kM]
 refine Dl (by kernel_rfl) ?_ _;(try clear hHeld);go_wp2_with fail;go_meet
 exact ⟨by rw [HT1.out,HT2.out];exact TW.out.now,T.out,M.out,hb⟩):p:=h
theorem zEw {p:Prop} (h:p:=by
 have aC:=T.out.e0;go_wp2_with fail;clear aC;((with_reducible refine (HI.out _ (g_ _ _)).mono ?_);rintro e wd4 ⟨rfl,hb5⟩);replace T:=b1 T hb5;replace hb:=dT hb hb5;clear hb5;go_wp2_with fail;go_ret;exact ⟨au Hs.out.symm,hb⟩):p:=h
theorem zHn {p:Prop} (h:p:=by
 refine hK.out _ _ zAb (fun hHeld => ?_);clear hK K;refine I_ (rs:=[9]) (by kernel_rfl) (by simp) ?_;refine yI rfl (fun K hK => ?_) (FB);refine BK (by rfl) _ _ (by rfl) TW.out.now (.string ⟨m.name.toArray⟩) (by rfl) N2.out (by rfl) rfl (by omega) T.out.here ?_;intro v2' w1 htw hbB hkk;clear TW;replace T:=dG T hkk (fun hh => by have:=hZ2 _ hh;omega);replace M:=dG M hkk (fun hh => by have:=hZ2 _ hh;omega);replace N1:=dG N1 hkk (fun hh => by have:=hZ2 _ hh;omega);replace N2:=dG N2 hkk (fun hh => by have:=hZ2 _ hh;omega);exact zCi):p:=h
theorem DZ (x:ay) (vs vm:Value) (w:World) (hl:x.ah.length<=6000000000000) (ht:jc w w.heap.size x vs vm) :
  Calls Tryz.prog 101 #[dA x vs vm] w (RT w (.bool (iQ x))):=by
 obtain ⟨C1,m1,C2,m2,rfl,rfl,-,-⟩:=ht.forms;have HT:=hiQ ht;have FI:=hiQ (agZ ht.ah);clear ht;go_enter Tryz.func101,Tryz.ntmps101
 go_upto_region 3 with fail;refine aO (fun wd2 hb1 T => ?_);have hw3:=hb1;clear hb1;have bf:=T.out.e6;have hT0:=T.out;have hB0:=hw3;have HT0:=hiQ hT0;clear hT0;go_wp2_with fail;go_loopw [3,4,10] (fun s3 s4 i wr => ∃ k:Nat,k<=x.ah.length/\i = .int .i64 k/\(x.ah.take k).all (jf (decide (x.kind=6)))=true/\Two wr (w.heap.size+1) s3 k (((x.ah.map bW).take k).map Jr) s4 k (((x.ah.map bW).take k).map EL)/\Has wr w.heap.size 72 #[.int .i64 x.kind,.string ⟨x.name.toArray⟩,.int .i64 x.low,.int .i64 x.high,.int .i64 x.max,.slice C1 x.syms.length m1,.slice C2 x.ah.length m2,.int .i64 x.key,.int .i64 x.elem,.bool x.opn]/\Below w.heap.size w wr) (fun _ _ i _ => x.ah.length - (intOf i).toNat)
 case atStart => exact ⟨0,by omega,rfl,rfl,Two.nil _ _,HT0.out,hB0⟩
 case round =>
  clear T hB0 HT0;obtain ⟨k,hk,rfl,hall,htw,T,hb⟩:=hrel;by_cases hlt:k < x.ah.length
  .
   obtain ⟨b,o,hC2,hb1,hel⟩:=HT.out.ah.elem (by omega);obtain ⟨dk,di,dr,hcells,hma⟩:=hel k hlt;have hlk:k < (x.ah.map bW).length:=by simpa using hlt
   have HT1:Hid (((x.ah.map bW).take (k+1)).map Jr=((x.ah.map bW).take k).map Jr ++ [.int .i64 x.ah[k].id]):=by have h:=Bj Jr (x.ah.map bW) k hlk;rw [OX] at h;exact h
   have HT2:Hid (((x.ah.map bW).take (k+1)).map EL=((x.ah.map bW).take k).map EL ++ [.string ⟨x.ah[k].name.toArray⟩]):=by have h:=Bj EL (x.ah.map bW) k hlk;rw [OX] at h;exact h
   have HAL:=hiQ (aej (jf (decide (x.kind=6))) x.ah k hlt);have xE:=hiQ (jl hlt);generalize x.ah[k]=m at *;have yP:=hiQ hall;obtain ⟨D1,d1,D2,d2,D3,d3,rfl,rfl,rfl,-,-,-⟩:=hma.dflt.forms;obtain ⟨y0,y1,y2,y3,y4,y5,y6,y7,y8,y9,GN,GR,GU⟩:=hcells;have x0:=(hb.cell (p:=⟨b,_,none⟩) hb1).trans y0;have x1:=(hb.cell (p:=⟨b,_,none⟩) hb1).trans y1;have x2:=(hb.cell (p:=⟨b,_,none⟩) hb1).trans y2;have x3:=(hb.cell (p:=⟨b,_,none⟩) hb1).trans y3;have x4:=(hb.cell (p:=⟨b,_,none⟩) hb1).trans y4;have x5:=(hb.cell (p:=⟨b,_,none⟩) hb1).trans y5;have x6:=(hb.cell (p:=⟨b,_,none⟩) hb1).trans y6;have x7:=(hb.cell (p:=⟨b,_,none⟩) hb1).trans y7;have x8:=(hb.cell (p:=⟨b,_,none⟩) hb1).trans y8;have x9:=(hb.cell (p:=⟨b,_,none⟩) hb1).trans y9;have x10:=(hb.cell (p:=⟨b,_,none⟩) hb1).trans GN;have x11:=(hb.cell (p:=⟨b,_,none⟩) hb1).trans GR;have x12:=(hb.cell (p:=⟨b,_,none⟩) hb1).trans GU;clear y0 y1 y2 y3 y4 y5 y6 y7 y8 y9 GN GR GU;have hi1:(k:Int) < x.ah.length:=by omega
   have hZ1:=htw.amD;have hZ2:=htw.amE;have Oo:=hiQ hma.dflt;clear hel hall hma;replace T:=hiQ T;have TW:=hiQ (Two.kept htw);clear htw;go_upto_region 6 with fail;refine aO (fun fG hb4 M => ?_);have nI:=T.out.here;have mO:=TW.out.le;have kH:=hb.size;obtain ⟨T,TW⟩:=b2 T TW hb4;replace hb:=dT hb hb4;clear hb4;generalize wr.heap.size=g6 at *;clear x0 x1 x2 x3 x4 x5 x6 x7 x8 x9 x10 x11 x12 hC2;obtain ⟨gM,hgM⟩ : ∃ g,g=g6:=⟨_,rfl⟩
   go_cut [3,4] from 14 to 54 (fun s3 s4 wx => Two wx (w.heap.size+1) s3 (k+1) (((x.ah.map bW).take (k+1)).map Jr) s4 (k+1) (((x.ah.map bW).take (k+1)).map EL)/\Has wx w.heap.size 72 #[.int .i64 x.kind,.string ⟨x.name.toArray⟩,.int .i64 x.low,.int .i64 x.high,.int .i64 x.max,.slice C1 x.syms.length m1,.slice C2 x.ah.length m2,.int .i64 x.key,.int .i64 x.elem,.bool x.opn]/\Has wx g6 76 #[.int .i64 m.id,.string ⟨m.name.toArray⟩,.int .i64 m.ty,.bool m.akb,.bool m.eG,.int .i64 m.dflt.kind,.bool m.dflt.bool,.int .i64 m.dflt.num,.string ⟨m.dflt.str.toArray⟩,.int .i64 m.dflt.id,.slice D1 m.dflt.keys.length d1,.slice D2 m.dflt.items.length d2,.slice D3 m.dflt.rest.length d3]/\Below w.heap.size w wx)
   case first =>
    clear hgM;have iU:=M.out.e0;have iD:=M.out.e1;refine t_ (S:=(fun w' => w'.cell? ⟨g6,0,none⟩=some (.int .i64 m.id)/\w'.cell? ⟨g6,1,none⟩=some (.string ⟨m.name.toArray⟩))) (by kernel_rfl) ⟨iU,iD⟩ (fun hHeld => ?_);clear iU iD;have aY:Below fG.heap.size fG (fG.drew):=(g_ _ _).drew;obtain ⟨T,M,TW⟩:=b3 T M TW aY;replace hb:=dT hb aY;clear aY;generalize fG.drew=dw at *;refine J5 (i:=0) (v := ?_) rfl (by kernel_rfl) (by kernel_rfl) (by kernel_rfl) (fun _ _ _ h => h) (Or.inl ⟨by rfl,?_⟩) (by assumption) ?_
    case refine_2 => (intro w hSw;(try dsimp only at hSw);go_simp;(first | done | with_reducible rfl))
    try simp only [kM]
    refine J5 (i:=1) (v := ?_) rfl (by kernel_rfl) (by kernel_rfl) (by kernel_rfl) (fun _ _ _ h => h) (Or.inl ⟨by rfl,?_⟩) (by assumption) ?_
    case refine_2 => (intro w hSw;(try dsimp only at hSw);go_simp;(first | done | with_reducible rfl))
    try simp only [kM]
    refine J5 (i:=2) (v := ?_) rfl (by kernel_rfl) (by kernel_rfl) (by kernel_rfl) (fun _ _ _ h => h) (Or.inl ⟨by rfl,?_⟩) (by assumption) ?_
    case refine_2 => (intro w hSw;(try dsimp only at hSw);go_simp;(first | done | with_reducible rfl))
    try simp only [kM]
    refine J5 (i:=5) (v := ?_) rfl (by kernel_rfl) (by kernel_rfl) (by kernel_rfl) (fun _ _ _ h => h) (Or.inl ⟨by rfl,?_⟩) (by assumption) ?_
    case refine_2 => (intro w hSw;(try dsimp only at hSw);go_simp;(first | done | with_reducible rfl))
    try simp only [kM]
    refine J5 (i:=6) (v := ?_) rfl (by kernel_rfl) (by kernel_rfl) (by kernel_rfl) (fun _ _ _ h => h) (Or.inl ⟨by rfl,?_⟩) (by assumption) ?_
    case refine_2 => (intro w hSw;(try dsimp only at hSw);go_simp;(first | done | with_reducible rfl))
    try simp only [kM]
    refine J5 (i:=7) (v := ?_) rfl (by kernel_rfl) (by kernel_rfl) (by kernel_rfl) (fun _ _ _ h => h) (Or.inl ⟨by rfl,?_⟩) (by assumption) ?_
    case refine_2 => (intro w hSw;(try dsimp only at hSw);go_simp;(first | done | with_reducible rfl))
    try simp only [kM]
    refine I_ (rs:=[3,8]) (by kernel_rfl) (by simp) ?_;refine yI rfl (fun K hK => ?_) (yI rfl (fun K hK => ?_) (FB))
    .
     skip
     go_simp;refine aO (fun dQ fV N1 => ?_);have qA:=T.out.here;have alj:=M.out.here;have sO:=TW.out.le;have sW:=hb.size;obtain ⟨T,M,TW⟩:=b3 T M TW fV;replace hb:=dT hb fV;clear fV;generalize dw.heap.size=g14 at *;(try clear hHeld);refine hK.out _ _ zAb (fun hHeld => ?_);clear hK K;refine I_ (rs:=[4,8]) (by kernel_rfl) (by simp) ?_;refine yI rfl (fun K hK => ?_) (yI rfl (fun K hK => ?_) (FB))
     .
      skip
      refine BJ (by rfl) _ _ (by rfl) TW.out.now (.int .i64 m.id) (by rfl) N1.out (by rfl) rfl (by omega) T.out.here ?_;intro v1' w1 htw hbB hkk;clear TW;replace T:=dG T hkk (fun hh => by have:=hZ1 _ hh;omega);replace M:=dG M hkk (fun hh => by have:=hZ1 _ hh;omega);replace N1:=dG N1 hkk (fun hh => by have:=hZ1 _ hh;omega);replace hb:=hb.trans (hbB.mono (show w.heap.size<=w.heap.size+1 by omega));have TW:=hiQ (Two.kept htw);clear htw hkk hbB;(try clear hHeld);refine hK.out _ _ zAb (fun hHeld => ?_);clear hK K;refine I_ (rs:=[8]) (by kernel_rfl) (by simp) ?_;refine yI rfl (fun K hK => ?_) (FB);go_simp;refine aO (fun yO aln N2 => ?_);have Dw:=T.out.here;have Es:=M.out.here;have sJ:=N1.out.here;have uP:=TW.out.le;have sN:=hb.size;obtain ⟨T,M,N1,TW⟩:=b4 T M N1 TW aln;replace hb:=dT hb aln;clear aln;generalize w1.heap.size=g21 at *;(try clear hHeld);exact zHn
     skip
     go_simp;refine aO (fun yO aln N2 => ?_);have Dw:=T.out.here;have Es:=M.out.here;have sJ:=N1.out.here;have uP:=TW.out.le;have sN:=hb.size;obtain ⟨T,M,N1,TW⟩:=b4 T M N1 TW aln;replace hb:=dT hb aln;clear aln;generalize dQ.heap.size=g21 at *;(try clear hHeld);refine hK.out _ _ zAb (fun hHeld => ?_);clear hK K;refine I_ (rs:=[4]) (by kernel_rfl) (by simp) ?_;refine yI rfl (fun K hK => ?_) (FB);refine BJ (by rfl) _ _ (by rfl) TW.out.now (.int .i64 m.id) (by rfl) N1.out (by rfl) rfl (by omega) T.out.here ?_;intro v1' w1 htw hbB hkk;clear TW;replace T:=dG T hkk (fun hh => by have:=hZ1 _ hh;omega);replace M:=dG M hkk (fun hh => by have:=hZ1 _ hh;omega);replace N1:=dG N1 hkk (fun hh => by have:=hZ1 _ hh;omega);replace N2:=dG N2 hkk (fun hh => by have:=hZ1 _ hh;omega);replace hb:=hb.trans (hbB.mono (show w.heap.size<=w.heap.size+1 by omega));have TW:=hiQ (Two.kept htw);clear htw hkk hbB;(try clear hHeld);exact zHn
    skip
    go_simp;refine aO (fun dQ fV N2 => ?_);have qA:=T.out.here;have alj:=M.out.here;have sO:=TW.out.le;have sW:=hb.size;obtain ⟨T,M,TW⟩:=b3 T M TW fV;replace hb:=dT hb fV;clear fV;generalize dw.heap.size=g14 at *;(try clear hHeld);refine hK.out _ _ zAb (fun hHeld => ?_);clear hK K;refine I_ (rs:=[3]) (by kernel_rfl) (by simp) ?_;refine yI rfl (fun K hK => ?_) (FB);go_simp;refine aO (fun yO aln N1 => ?_);have Dw:=T.out.here;have Es:=M.out.here;have sJ:=N2.out.here;have uP:=TW.out.le;have sN:=hb.size;obtain ⟨T,M,N2,TW⟩:=b4 T M N2 TW aln;replace hb:=dT hb aln;clear aln;generalize dQ.heap.size=g21 at *;(try clear hHeld);refine hK.out _ _ zAb (fun hHeld => ?_);clear hK K;refine I_ (rs:=[4]) (by kernel_rfl) (by simp) ?_;refine yI rfl (fun K hK => ?_) (FB);refine BJ (by rfl) _ _ (by rfl) TW.out.now (.int .i64 m.id) (by rfl) N1.out (by rfl) rfl (by omega) T.out.here ?_;intro v1' w1 htw hbB hkk;clear TW;replace T:=dG T hkk (fun hh => by have:=hZ1 _ hh;omega);replace M:=dG M hkk (fun hh => by have:=hZ1 _ hh;omega);replace N2:=dG N2 hkk (fun hh => by have:=hZ1 _ hh;omega);replace N1:=dG N1 hkk (fun hh => by have:=hZ1 _ hh;omega);replace hb:=hb.trans (hbB.mono (show w.heap.size<=w.heap.size+1 by omega));have TW:=hiQ (Two.kept htw);clear htw hkk hbB;(try clear hHeld);refine hK.out _ _ zAb (fun hHeld => ?_);clear hK K;refine I_ (rs:=[9]) (by kernel_rfl) (by simp) ?_;refine yI rfl (fun K hK => ?_) (FB)
    refine BK (by rfl) _ _ (by rfl) TW.out.now (.string ⟨m.name.toArray⟩) (by rfl) N2.out (by rfl) rfl (by omega) T.out.here ?_;intro v2' w1 htw hbB hkk;clear TW;replace T:=dG T hkk (fun hh => by have:=hZ2 _ hh;omega);replace M:=dG M hkk (fun hh => by have:=hZ2 _ hh;omega);replace N2:=dG N2 hkk (fun hh => by have:=hZ2 _ hh;omega);replace N1:=dG N1 hkk (fun hh => by have:=hZ2 _ hh;omega);exact zCi
   case rest =>
    clear T M TW hb;subst hgM;obtain ⟨htw,T,M,hb⟩:=hcut;replace T:=hiQ T;replace M:=hiQ M;have TW:=hiQ (Two.kept htw);clear htw hZ1 hZ2;have hcr:m.akb=true\/m.akb=false:=by cases m.akb <;> simp
    have hhd:m.eG=true\/m.eG=false:=by cases m.eG <;> simp
    by_cases hun:x.kind=6
    .
     have tun:(x.kind == 6)=true:=by simp [hun]
     have Le:Hid (decide (x.kind=6)=true):=n_ hun;clear hun;rcases hhd with hhd | hhd
     .
      have Hm:Hid (jf (decide (x.kind=6)) m=false):=by show _=_;unfold jf;rw [Le.out,hhd];simp
      rcases hcr with hcr | hcr
      .
       have aC:=T.out.e0;have mQ:=M.out.e3;have kK:=M.out.e4;have Hno:Hid (iQ x=false):=yu x m xE.out Hm.out;exact zCq
      have aC:=T.out.e0;have mQ:=M.out.e3;have kK:=M.out.e4;have Hno:Hid (iQ x=false):=yu x m xE.out Hm.out;exact zCq
     rcases hcr with hcr | hcr
     .
      have Hm:Hid (jf (decide (x.kind=6)) m=false):=by show _=_;unfold jf;rw [Le.out,hcr];simp
      have aC:=T.out.e0;have mQ:=M.out.e3;have kK:=M.out.e4;have Hno:Hid (iQ x=false):=yu x m xE.out Hm.out;exact zCq
     exact zCf
    have tun:(x.kind == 6)=false:=by simpa using hun
    have Le:Hid (decide (x.kind=6)=false):=f_ hun;clear hun;rcases hhd with hhd | hhd
    .
     rcases hcr with hcr | hcr
     .
      have Hm:Hid (jf (decide (x.kind=6)) m=false):=by show _=_;unfold jf;rw [Le.out,hhd,hcr];rfl
      have aC:=T.out.e0;have mQ:=M.out.e3;have kK:=M.out.e4;have Hno:Hid (iQ x=false):=yu x m xE.out Hm.out;exact zCq
     have Hm:Hid (jf (decide (x.kind=6)) m=true):=by show _=_;unfold jf;rw [Le.out,hhd,hcr];rfl
     have aC:=T.out.e0;have mQ:=M.out.e3;have kK:=M.out.e4;exact zIi
    rcases hcr with hcr | hcr
    . exact zCf
    exact zCf
  obtain rfl:k=x.ah.length:=by omega
  rw [yJ (b_ _)] at hall;rw [yJ (by simp)] at htw;have hlm:(x.ah.map bW).length=x.ah.length:=by simp
  obtain ⟨S3,c3,rfl⟩:=jF htw.o1;obtain ⟨S4,c4,rfl⟩:=jF htw.o2;have hr1:=Rd.uX htw.o1;have hr2:=Rd.uX htw.o2;have Ib:∀ W,Below wr.heap.size wr W->Calls Tryz.prog 123 #[.slice S3 x.ah.length c3,.slice S4 x.ah.length c4] W fun e w' => e = .returned (.bool (nP (x.ah.map bW)))/\Below W.heap.size W w':=fun W hW =>
   VY (x.ah.map bW) _ _ W (by omega) FI.out (by rw [hlm];exact (hr1.below hW).mono hW.size) (by rw [hlm];exact (hr2.below hW).mono hW.size)
  have HI:=hiQ Ib;have hmb:iQ x=((decide (x.kind=5) || decide (0 < x.ah.length)) && nP (x.ah.map bW)):=by unfold iQ;rw [hall];rfl
  clear htw hr1 hr2 Ib hall hlm;replace T:=hiQ T;by_cases h5:x.kind=5
  .
   have t5:(x.kind == 5)=true:=by simp [h5]
   have Hs:Hid (iQ x=nP (x.ah.map bW)):=by show _=_;rw [hmb,n_ h5];rfl
   clear hmb h5;exact zEw
  have t5:(x.kind == 5)=false:=by simpa using h5
  by_cases h0:x.ah.length=0
  .
   have Hs:Hid (iQ x=false):=by show _=_;rw [hmb,f_ h5,h0];rfl
   have hd:decide (0 < x.ah.length)=false:=f_ (by omega);have Hn:=hiQ h0;clear hmb h5 h0;have aC:=T.out.e0;go_wp2_with fail;go_ret;exact ⟨au Hs.out.symm,hb⟩
  have Hs:Hid (iQ x=nP (x.ah.map bW)):=by show _=_;rw [hmb,n_ (show 0 < x.ah.length by omega),Bool.or_true];rfl
  have hd:decide (0 < x.ah.length)=true:=n_ (by omega);have hd2:(0:Int) < x.ah.length:=by omega
  clear hmb h5 h0;exact zEw
theorem ag0 (ts:List ay) (pl:Bool) (l:List Val) (t:Int) (h:0 < l.length):zM ts pl l t=cO ts pl l[0] t:=by
 cases l with
 | nil => simp at h
 | cons a r => rw [zM];rfl
theorem Yp (l:List Val) (k:Nat) (h:k+1 < l.length):ati (l.drop k)=(decide (alD l[k] l[k+1] < 0) && ati (l.drop (k+1))):=by
 rw [A_ (show k < l.length by omega),A_ h,ati]
theorem Va (l:List Val) (k:Nat) (h:l.length<=k+1):ati (l.drop k)=true:=by
 have h2:(l.drop k).length<=1:=by rw [Qx];omega
 match l.drop k,h2 with
 | [],_ => rfl
 | [_],_ => rfl
 | _ :: _ :: _,h2 => simp at h2
