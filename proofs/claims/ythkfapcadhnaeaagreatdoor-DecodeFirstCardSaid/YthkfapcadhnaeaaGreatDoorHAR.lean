/- Reason. What the listed variables of layer 10 read as. Ints, Same of the reference. Plain: a failure's path is short. No condition. -/
import Derived.Test.YthkfapcadhnaeaaGreatDoorShelf
import Derived.Test.YthkfapcadhnaeaaGreatDoorHAK
import Derived.Test.YthkfapcadhnaeaaGreatDoorHAA
import Derived.Lib.ItoaLen
import Derived.Lib.AppendIntMem
import Derived.Lib.SmallJoins
import Derived.Test.YthkfapcadhnaeaaGreatDoorTie
import Derived.Test.YthkfapcadhnaeaaGreatDoorCards
import Derived.SevenTiedAt
import Derived.ProofKit
import Derived.LaidMore
import Derived.OpenShut
import Derived.Stop.Joined
import Derived.Lib.LaidTab
import Derived.Deep.Strs
import Derived.Test.YthkfapcadhnaeaaGreatDoorHAI
import Derived.Test.YthkfapcadhnaeaaGreatDoorHAF
set_option maxHeartbeats 800000
namespace Go.Proofs.YthkfapcadhnaeaaGreatDoor
open Go.ChangeShapes Go.WideShapes Go.ChangeAt Go.RowKit
def wz:List (List UInt8):=[[109,97,108,102,111,114,109,101,100],[114,97,110,103,101],[108,111,110,103],[115,121,109,98,111,108],[97,114,109],[99,114,105,116,105,99,97,108],[109,105,115,115,105,110,103],[100,101,101,112],[107,105,110,100],[100,101,102,97,117,108,116]]
def wu (n:Int):List UInt8:=if n < 1∨10 < n then [117,110,107,110,111,119,110] else wz.getD (n - 1).toNat []
def Kz (path:List Int):List UInt8:=if path = [] then [45] else Lib.join (path.map Lib.itoa) [46]
def Ky (path:List Int) (n:Int):List UInt8:=Kz path ++ 32 :: wu n
theorem Rq (n:Int):(wu n).length≤10:=by
 unfold wu
 split
 · simp
 have h:∀ l ∈ wz,l.length≤10:=by decide
 rw [List.getD_eq_getElem?_getD]
 cases hq:wz[(n - 1).toNat]? with
 | none => simp
 | some l => exact h l (List.mem_of_getElem? hq)
def aic (w:World):Prop := ∃ b o c,w.cell? ⟨0,0,none⟩=some (.slice (some ⟨b,o,none⟩) 10 c)∧b < w.heap.size∧0 < w.heap.size∧∀ i s,wz[i]?=some s→w.cell? ⟨b,o+i,none⟩=some (.string ⟨s.toArray⟩)
structure AP (w:World):Prop where
 pow:Lib.TabIs Tryz.prog w "internal/strconv.uint64pow10" .u64 Lib.pow10Tab
 rs:aic w
theorem AP.on {w w':World} (h:AP w) (hb:Below w.heap.size w w'):AP w':=by
 obtain ⟨b,o,c,h1,h2,h3,h4⟩:=h.rs
 exact ⟨Go.Joins.tab_stays (show Tryz.prog.globalNamed "internal/strconv.uint64pow10" = some 1 by kernel_rfl) h.pow hb (Nat.le_refl _),b,o,c,(hb.cell h3).trans h1,Nat.lt_of_lt_of_le h2 hb.size,Nat.lt_of_lt_of_le h3 hb.size,fun i s hi => (hb.cell h2).trans (h4 i s hi)⟩
theorem agV (n:Int):Lib.itoa n≠[]:=by
 unfold Lib.itoa
 split
 · simp
 intro h
 have h2:=congrArg List.length h
 rw [Lib.decDigits_length] at h2
 unfold Lib.nDigits at h2
 split at h2 <;> simp at h2
theorem ad4 (n:Int) (hn:I64 n) (w:World) (h:AP w):Calls Tryz.prog 66 #[.int .i64 n] w fun e w' => e = .returned (.string ⟨(Lib.itoa n).toArray⟩)∧Below w.heap.size w w' :=
 (Tryz.strconv_Itoa n hn.1 hn.2 w h.pow).mono fun _ _ ⟨h1,k,os,h2⟩ => ⟨h1,h2 ▸ Lib.below_grow _ _ (Nat.le_refl _) k os⟩
theorem OU:∀ (path:List Int),(∀ z ∈ path,I64 z)→Lib.lens (path.map Lib.itoa)≤21*path.length
 | [],_ => by simp [Lib.lens]
 | z :: r,h => by
  have h1:=Lib.itoa_length_le z (h z (by simp)).1 (h z (by simp)).2
  have h2:=OU r (fun y hy => h y (by simp [hy]))
  simp only [List.map_cons,Lib.lens,List.sum_cons,List.length_cons] at *
  omega
theorem join_le (path:List Int) (h:∀ z ∈ path,I64 z):(Lib.join (path.map Lib.itoa) [46]).length≤22*path.length:=by
 cases path with
 | nil => simp [Lib.join_nil]
 | cons z r =>
  have h2:=OU (z :: r) h
  rw [List.map_cons,Lib.join_length]
  rw [List.map_cons] at h2
  simp only [List.length_map,List.length_cons,List.length_nil] at *
  omega
theorem agW (path:List Int) (h:path≠[]):Lib.join (path.map Lib.itoa) [46]≠[]:=by
 cases path with
 | nil => exact absurd rfl h
 | cons z r =>
  intro h2
  rw [List.map_cons,Lib.join_cons] at h2
  exact agV z (List.append_eq_nil_iff.1 h2).1
theorem Ae {b:ByteArray} {l:List UInt8} (h:b=⟨l.toArray⟩):Ending.returned (.string b) = .returned (.string ⟨l.toArray⟩):=by rw [h]
theorem Bf (a b:List UInt8):(⟨a.toArray⟩ : ByteArray) ++ ⟨b.toArray⟩=⟨(a ++ b).toArray⟩:=by apply ByteArray.ext;simp
theorem Ll (l:List (List UInt8)):(l.map fun x => (⟨x.toArray⟩ : ByteArray)).map (·.data.toList)=l:=by
 induction l with
 | nil => rfl
 | cons x r ih => simp only [List.map_cons] at *;rw [ih]
theorem ad5 (path:List Int) (v:Value) (w:World) (L:Nat) (hp:∀ z ∈ path,I64 z) (hl:path.length≤1000) (ho:w.ownsRow L 9 1 v path.length ((path.map Lib.itoa).map SB)) :
  Calls Tryz.prog 67 #[v,.string ⟨#[46]⟩] w fun e w' => e = .returned (.string ⟨(Lib.join (path.map Lib.itoa) [46]).toArray⟩)∧Below w.heap.size w w':=by
 by_cases h0:path = []
 ·
  subst h0
  obtain ⟨A,c,rfl⟩:=aF ho
  exact (Tryz.strings_Join_none A c _ w).mono fun _ _ ⟨h1,h2⟩ => ⟨h1,h2 ▸ Below.refl _ _⟩
 have hpos:0 < path.length:=List.length_pos_iff.2 h0
 obtain ⟨g,c,rfl,_,hg,hc,hcell⟩:=ru ho hpos
 have hj:=join_le path hp
 have:=Tryz.strings_Join g 0 c ((path.map Lib.itoa).map fun x => (⟨x.toArray⟩ : ByteArray)) ⟨#[46]⟩ w (fun j x hx => by
  rw [List.getElem?_map] at hx
  obtain ⟨y,hy,rfl⟩:=Option.map_eq_some_iff.1 hx
  have:=hcell j (SB y) (by rw [List.getElem?_map,hy];rfl)
  rw [Nat.zero_add];exact this) hg (by simp;omega) (by simpa using hc) (by rw [Ll];show (Lib.join _ [46]).length≤_;omega)
 rw [Ll] at this
 simpa using this
theorem Lm {n:Int} {w:World} (h1:¬ n < 1) (h2:¬ 10 < n) (h:aic w):∃ b o c,w.cell? ⟨0,0,none⟩=some (.slice (some ⟨b,o,none⟩) 10 c)∧w.cell? ⟨b,o+(n.toNat - 1),none⟩=some (.string ⟨(wu n).toArray⟩):=by
 obtain ⟨b,o,c,h3,h4,h5,h6⟩:=h
 rw [show n.toNat - 1=(n - 1).toNat by omega]
 refine ⟨b,o,c,h3,h6 _ _ ?_⟩
 unfold wu
 rw [if_neg (by omega),List.getD_eq_getElem?_getD,List.getElem?_eq_getElem (show (n - 1).toNat < wz.length by show _ < 10;omega)]
 rfl
set_option maxRecDepth 100000 in
theorem Zn (path:List Int) (vp:Value) (n:Int) (w:World) (hl:path.length≤1000) (hpi:∀ z ∈ path,I64 z) (hp:Rd w w.heap.size 1 vp path.length (path.map iZ)) (hT:AP w) :
  Calls Tryz.prog 37 #[.agg #[vp,.int .i64 n]] w fun e w' => e = .returned (.string ⟨(Ky path n).toArray⟩)∧Below w.heap.size w w':=by
 obtain ⟨Ap,cp,rfl,-⟩:=hp.form
 have HP:=Lib.hid hp
 have HT:=Lib.hid hT
 have HI:=Lib.hid hpi
 clear hp hT hpi
 go_enter Tryz.func37,Tryz.ntmps37
 go_upto_region 1 with fail
 generalize dJ:w.alloc _=wd2
 have ⟨hb1,F⟩:=bH dJ
 clear dJ
 have hw4:=hb1
 clear hb1
 obtain ⟨zO,uS⟩:=F.out.c2
 have hl0:Hid (Has wd2 w.heap.size _ _∧Below w.heap.size w wd2):=Lib.hid ⟨F.out,hw4⟩
 go_upto_region 3 with fail
 clear F
 go_loopw [10,3] (fun i s wr => ∃ k:Nat,k≤path.length∧i = .int .i64 (k:Int)∧wr.ownsRow (w.heap.size+1) 9 1 s k (((path.take k).map Lib.itoa).map SB)∧Has wr w.heap.size 38 #[.slice Ap path.length cp,.int .i64 n]∧Below w.heap.size w wr) (fun i _ _ => path.length - (intOf i).toNat)
 case atStart => exact ⟨0,by omega,rfl,World.ownsRow_nil _ _ _ _,hl0.out⟩
 case round =>
  clear hl0
  obtain ⟨k,hk,rfl,hown,F,hbr⟩:=hrel
  replace F:=Lib.hid F
  by_cases hlt:k < path.length
  ·
   obtain ⟨b,o,rfl,hbb,hcell⟩:=HP.out.at_ (by omega)
   have a0:wr.cell? ⟨b,o+k,none⟩=some (.int .i64 path[k]):=((hbr).cell (p:=⟨b,o+k,none⟩) hbb).trans (hcell k _ (by simp [hlt,iZ]))
   have hiz:=HI.out path[k] (List.getElem_mem hlt)
   have htk:((path.take (k+1)).map Lib.itoa).map SB=((path.take k).map Lib.itoa).map SB ++ [SB (Lib.itoa path[k])]:=by rw [List.take_succ_eq_append_getElem hlt,List.map_append,List.map_append];rfl
   have Htk:=Lib.hid htk
   have yK:(k:Int) < path.length:=by omega
   clear hcell htk
   generalize path[k]=z at *
   go_upto_region 5 with fail
   clear a0
   go_wp2_with fail
   have RW:=Lib.hid (Kept.own hown)
   clear hown
   ((with_reducible refine (ad4 z hiz _ (HT.out.on hbr)).mono ?_);rintro e qM ⟨rfl,hb6⟩)
   obtain ⟨F,RW⟩:=b2 F RW hb6
   replace hbr:=dT hbr hb6
   clear hb6
   have hFz:=F.out.here
   have hown1:=RW.out.now
   go_wp2_with (at_builtin;refine oD rfl _ _ _ rfl (w.heap.size+1) 9 _ 1 16 Tryz.underlying63 Qo rfl (by decide) _ k _ rfl hown1 [_] _ 1 rfl rfl (by simp [Value.oneCell']) (by omega) (by omega) (by omega) ?_;intro v' w2 hown2 hb2)
   go_roundw
   case rel => exact ⟨k+1,by omega,by go_num,by rw [Htk.out];exact hown2,(hb2.block _ (by omega)).trans F.out,(hbr).trans (hb2.mono (by omega))⟩
   case measure => simp [intOf];omega
  obtain rfl:k=path.length:=by omega
  rw [List.take_length] at hown
  have yK:¬ (path.length:Int) < path.length:=by omega
  go_wp2_with fail
  ((with_reducible refine (ad5 path _ _ _ HI.out hl hown).mono ?_);rintro e oW ⟨rfl,hb8⟩)
  replace F:=b1 F hb8
  replace hbr:=dT hbr hb8
  clear hb8
  clear hown
  have HR:Hid (Ky path n=Kz path ++ 32 :: wu n):=Lib.hid rfl
  have hpt:Hid (Kz path=if path = [] then [45] else Lib.join (path.map Lib.itoa) [46]):=Lib.hid rfl
  have hjn:=agW path
  have hjl:=join_le path HI.out
  have hj0:path = []→Lib.join (path.map Lib.itoa) [46] = []:=fun h => by subst h;rfl
  generalize Lib.join (path.map Lib.itoa) [46]=J at *
  by_cases h0:path = []
  ·
   obtain rfl:=hj0 h0
   have hpt:Hid (Kz path = [45]):=by show _=_;rw [hpt.out,if_pos h0]
   clear hj0 hjn h0
   by_cases h1:n < 1
   ·
    have uS:=F.out.e1
    go_wp2_with fail
    go_ret
    exact ⟨Ae (by rw [HR.out,hpt.out,wu,if_pos (.inl h1)];exact Bf [45] _),hbr⟩
   by_cases h2:10 < n
   ·
    obtain ⟨bg,og,cg,g0,-⟩:=(HT.out.on hbr).rs
    have uS:=F.out.e1
    go_wp2_with fail
    go_ret
    exact ⟨Ae (by rw [HR.out,hpt.out,wu,if_pos (.inr h2)];exact Bf [45] _),hbr⟩
   obtain ⟨bg,og,cg,g0,g1⟩:=Lm h1 h2 (HT.out.on hbr).rs
   have uS:=F.out.e1
   have hw0:IntKind.i64.wrap (n - 1)=n - 1:=IntWalk.i64_in _ (by omega)
   have hd0:decide (n - 1 < 0)=false:=decide_eq_false (by omega)
   have hd1:decide (10≤(n - 1).toNat)=false:=decide_eq_false (by omega)
   have hwl:=Rq n
   generalize wu n=wt at *
   go_wp2_with fail
   go_ret
   exact ⟨Ae (by rw [HR.out,hpt.out];exact (congrArg (· ++ _) (Bf [45] [32])).trans ((Bf _ _).trans (by simp))),hbr⟩
  have hpt:Hid (Kz path=J):=by show _=_;rw [hpt.out,if_neg h0]
  have hje:J.isEmpty=false:=by
   cases J with
   | nil => exact absurd rfl (hjn h0)
   | cons => rfl
  clear hj0 hjn h0
  by_cases h1:n < 1
  ·
   have uS:=F.out.e1
   go_wp2_with fail
   go_ret
   exact ⟨Ae (by rw [HR.out,hpt.out,wu,if_pos (.inl h1)];exact Bf _ _),hbr⟩
  by_cases h2:10 < n
  ·
   obtain ⟨bg,og,cg,g0,-⟩:=(HT.out.on hbr).rs
   have uS:=F.out.e1
   go_wp2_with fail
   go_ret
   exact ⟨Ae (by rw [HR.out,hpt.out,wu,if_pos (.inr h2)];exact Bf _ _),hbr⟩
  obtain ⟨bg,og,cg,g0,g1⟩:=Lm h1 h2 (HT.out.on hbr).rs
  have uS:=F.out.e1
  have hw0:IntKind.i64.wrap (n - 1)=n - 1:=IntWalk.i64_in _ (by omega)
  have hd0:decide (n - 1 < 0)=false:=decide_eq_false (by omega)
  have hd1:decide (10≤(n - 1).toNat)=false:=decide_eq_false (by omega)
  have hwl:=Rq n
  generalize wu n=wt at *
  go_wp2_with fail
  go_ret
  exact ⟨Ae (by rw [HR.out,hpt.out];exact (congrArg (· ++ _) (Bf _ [32])).trans ((Bf _ _).trans (by simp))),hbr⟩
end Go.Proofs.YthkfapcadhnaeaaGreatDoor
namespace Go.Proofs.YthkfapcadhnaeaaGreatDoor
open Go.ChangeShapes Go.WideShapes Go.ChangeAt Go.RowKit
def EO:List (String × DataW Unit):=[("math/bits.deBruijn32tab", Rows.laid_math_bits_deBruijn32tab),("math/bits.deBruijn64tab", Rows.laid_math_bits_deBruijn64tab),("internal/strconv.uint64pow10", Rows.laid_internal_strconv_uint64pow10),("sheave/decode.reasons", Rows.laid_sheave_decode_reasons)]
theorem agX:(Rows.laid_sheave_decode_reasons:DataW Unit) = .slice (wz.map fun l => .lit (.string l)) []:=by rfl
theorem ad6:(Rows.laid_internal_strconv_uint64pow10:DataW Unit)=Lib.tabData .u64 Lib.pow10Tab:=by rfl
theorem add_plain (b o i:Nat):(⟨b,o,none⟩ : Addr).add i=⟨b,o+i,none⟩:=by unfold Addr.add;split <;> simp_all
theorem ZB {w:World} {a:Addr} {u:Value} (h:w.cell? a=some u):a=⟨a.block,a.off,none⟩∧a.block < w.heap.size:=by
 have h2:=World.block_lt_of_cell? _ _ h
 obtain ⟨b,o,sp⟩:=a
 cases sp with
 | none => exact ⟨rfl,h2⟩
 | some s => simp [World.cell?] at h;split at h <;> simp at h
theorem XB {W:World} (h:laidMetH Tryz.prog EO W):AP W:=by
 rw [MakeChecks.laidMetH_plain _ _ _ (by kernel_rfl)] at h
 obtain ⟨ps,⟨g0,t0,c0,f0,p0,q0,_,_,_,_,⟨g1,t1,c1,f1,p1,q1,_,_,_,_,⟨g2,t2,c2,f2,p2,q2,hg2,ht2,hv2,hd2,⟨g3,t3,c3,f3,p3,q3,hg3,ht3,hv3,hd3,_,_⟩,_⟩,_⟩,_⟩,_⟩:=h
 obtain rfl:=Option.some.inj ((show Tryz.prog.globalNamed "internal/strconv.uint64pow10" = some 1 by kernel_rfl).symm.trans hg2)
 obtain rfl:=Option.some.inj ((show Tryz.prog.globalNamed "sheave/decode.reasons" = some 0 by kernel_rfl).symm.trans hg3)
 obtain rfl:=Option.some.inj ((show (Tryz.prog.globals[1]?).map (·.type)=some 220 by kernel_rfl).symm.trans ht2)
 obtain rfl:=Option.some.inj ((show (Tryz.prog.globals[0]?).map (·.type)=some 63 by kernel_rfl).symm.trans ht3)
 refine ⟨?_,?_⟩
 ·
  rw [ad6] at hd2
  have hc:=Lib.cells_of_tab Tryz.underlying220 Tryz.underlying120 (by kernel_rfl) (by kernel_rfl) hd2
  unfold Lib.TabIs
  rw [hv2,← hc]
 rw [agX] at hd3
 rcases Go.Deep.open_strs Tryz.underlying63 Tryz.underlying9 (by kernel_rfl) hd3 with ⟨_,hx⟩ | ⟨a,len,cap,m,Sx,hcs,_,_,_,_,hx,hcell⟩
 · cases hx
 rename_i hmm
 injection hx with hx1 hx2
 injection hx1 with hx3 hx4
 have hlen:len=10:=by have:=congrArg List.length hx3;simpa [wz] using this.symm
 subst hlen
 have hm0:m - 10=0:=by have:=congrArg List.length hx4;simpa using this.symm
 have hm:10≤m:=by rw [hmm];split <;> omega
 have hs:∀ i s,wz[i]?=some s→(⟨s.toArray⟩ : ByteArray)=Sx i∧i < 10:=fun i s hi => by
  have hlt:i < 10:=(List.getElem?_eq_some_iff.1 hi).1
  have h1:=congrArg (·[i]?) hx3
  simp only [List.getElem?_map,hi,Option.map_some,List.getElem?_range hlt,Option.some.injEq,DataW.lit.injEq,Lit.string.injEq] at h1
  refine ⟨?_,hlt⟩
  rw [h1]
 have h0:=(hcell 0 (by omega)).1
 have e0:a.add 0=a:=by simp [Addr.add]
 rw [e0] at h0
 obtain ⟨ha,hb⟩:=ZB h0
 have hv:=World.var?_cell hg3 hv3 0
 have hgc:W.cell? ⟨0,0,none⟩=some (.slice (some ⟨a.block,a.off,none⟩) 10 cap):=by
  rw [hv,← ha]
  cases c3 with
  | mk l => simp only at hcs;subst hcs;rfl
 refine ⟨a.block,a.off,cap,hgc,hb,World.block_lt_of_cell? _ _ hgc,fun i s hi => ?_⟩
 obtain ⟨h1,h2⟩:=hs i s hi
 have h3:=(hcell i (by omega)).1
 rw [ha] at h3
 rw [h1]
 rw [add_plain] at h3
 exact h3
theorem door_met (os:Os) (args:Array Value):laidMetH Tryz.prog EO ((World.doorLaid Tryz.prog 400 os).forCall (fun _ _ => 0) ⟨#[],args,[]⟩).memory :=
 laidMetH_of_parts3 (fuel:=8) (laidMet_of_run' 8 (by kernel_rfl) (by kernel_rfl)) (by kernel_rfl) (by kernel_rfl)
end Go.Proofs.YthkfapcadhnaeaaGreatDoor
namespace Go.Proofs.YthkfapcadhnaeaaGreatDoor
open Go.ChangeShapes Go.WideShapes Go.ChangeAt Go.RowKit
theorem kM {W:World} {g n c base:Nat} {e:TypeId} {l:List Int} (h:W.ownsRow base e 1 (.slice (some ⟨g,0,none⟩) n c) n (l.map iZ)) (k:Nat) (hk:k < l.length):W.cell? ⟨g,k,none⟩=some (.int .i64 l[k]):=by
 have hn:n=l.length:=by have:=h.1;simp at this;exact this.symm
 obtain ⟨g',c',hv,-,-,-,hc⟩:=ru h (by omega)
 injection hv with h1 h2 h3
 injection h1 with h1;injection h1 with h1
 subst h1
 exact hc k _ (by rw [List.getElem?_map,List.getElem?_eq_getElem hk];rfl)
set_option maxRecDepth 100000 in
theorem ab3 (p q:List Int) (vp vq:Value) (w:World) (hl:p.length≤1000) (hl2:q.length≤1000) (hp:w.ownsRow 0 3 1 vp p.length (p.map iZ)) (hq:w.ownsRow 0 3 1 vq q.length (q.map iZ)) :
  Calls Tryz.prog 41 #[vp,vq] w fun e w' => e = .returned (.bool (decide (p=q)))∧Below w.heap.size w w':=by
 obtain ⟨A1,n1,rfl⟩:=aF hp
 obtain ⟨A2,n2,rfl⟩:=aF hq
 have HP:=Lib.hid hp
 have HQ:=Lib.hid hq
 clear hp hq
 go_enter Tryz.func41,Tryz.ntmps41
 by_cases hlen:p.length=q.length
 ·
  have hb:((p.length:Int) != q.length)=false:=by simp [hlen]
  have Hlen:=Lib.hid hlen
  clear hlen
  go_wp2
  go_loopw [5] (fun i wr => ∃ k:Nat,i = .int .i64 (k:Int)∧k≤p.length∧p.take k=q.take k∧Below w.heap.size w wr) (fun i _ => p.length - (intOf i).toNat)
  case atStart => exact ⟨0,rfl,by omega,rfl,Below.refl _ _⟩
  case round =>
   obtain ⟨k,rfl,hk,htk,hbr⟩:=hrel
   by_cases hlt:k < p.length
   ·
    have hlt2:k < q.length:=by have:=Hlen.out;omega
    obtain ⟨g1,_,hv1,_,hg1,-,-⟩:=ru HP.out (by omega)
    injection hv1 with hv1 _ hc1;subst hv1;subst hc1
    obtain ⟨g2,_,hv2,_,hg2,-,-⟩:=ru HQ.out (by omega)
    injection hv2 with hv2 _ hc2;subst hv2;subst hc2
    have a0:=(hbr.cell (p:=⟨g1,k,none⟩) hg1).trans (kM HP.out k hlt)
    have b0:=(hbr.cell (p:=⟨g2,k,none⟩) hg2).trans (kM HQ.out k hlt2)
    have hi1:(k:Int) < p.length:=by omega
    have hi2:(k:Int) < q.length:=by omega
    by_cases he:p[k]=q[k]
    ·
     have hne:(p[k] != q[k])=false:=by simp [he]
     have hts:p.take (k+1)=q.take (k+1):=by rw [List.take_succ_eq_append_getElem hlt,List.take_succ_eq_append_getElem hlt2,htk,he]
     have Hts:=Lib.hid hts
     clear htk hts he
     generalize p[k]=y at *
     generalize q[k]=z at *
     go_wp2_with fail
     go_quiet (fail)
     go_wp2_with fail
     go_roundw
     case rel => exact ⟨k+1,by go_num,by omega,Hts.out,below_drewN hbr _⟩
     case measure => simp [intOf];omega
    have hne:(p[k] != q[k])=true:=by simpa using he
    have hpq:Hid (decide (p=q)=false):=Lib.hid (decide_eq_false (fun e => he (by subst e;rfl)))
    clear htk he
    generalize p[k]=y at *
    generalize q[k]=z at *
    go_wp2_with fail
    go_quiet (fail)
    go_wp2_with fail
    go_ret
    exact ⟨au (by rw [hpq.out]),below_drewN hbr _⟩
   have hpq:Hid (decide (p=q)=true):=Lib.hid (decide_eq_true (by
    rw [List.take_of_length_le (by omega),List.take_of_length_le (by have:=Hlen.out;omega)] at htk;exact htk))
   clear htk
   go_wp2_with fail
   go_ret
   exact ⟨au (by rw [hpq.out]),hbr⟩
 have hb:((p.length:Int) != q.length)=true:=by rw [bne_iff_ne];omega
 have hpq:Hid (decide (p=q)=false):=Lib.hid (decide_eq_false (fun e => hlen (by rw [e])))
 clear hlen
 go_wp2
 go_ret
 exact ⟨au (by rw [hpq.out]),Below.refl _ _⟩
set_option maxRecDepth 100000 in
theorem Ii (p q:List Int) (n k:Int) (vp vq:Value) (w:World) (hl:p.length≤1000) (hl2:q.length≤1000) (hp:w.ownsRow 0 3 1 vp p.length (p.map iZ)) (hq:w.ownsRow 0 3 1 vq q.length (q.map iZ)) :
  Calls Tryz.prog 17 #[.agg #[vp,.int .i64 n],.agg #[vq,.int .i64 k]] w fun e w' => e = .returned (.bool (decide (n=k∧p=q)))∧Below w.heap.size w w':=by
 obtain ⟨A1,n1,rfl⟩:=aF hp
 obtain ⟨A2,n2,rfl⟩:=aF hq
 have HI:=Lib.hid (fun W h1 h2 => ab3 p q (.slice A1 p.length n1) (.slice A2 q.length n2) W hl hl2 h1 h2)
 have HP:=Lib.hid hp
 have HQ:=Lib.hid hq
 clear hp hq
 go_enter Tryz.func17,Tryz.ntmps17
 go_upto_region 1 with fail
 generalize dJ:w.alloc _=wd2
 generalize jD:wd2.alloc _=wd4
 have ⟨hb1,F,G⟩:=dN dJ jD
 clear dJ jD
 have hw6:=hb1
 clear hb1
 obtain ⟨zO,uS⟩:=F.out.c2
 obtain ⟨amN,amO⟩:=G.out.c2
 by_cases h:n=k
 ·
  have hd:Hid (decide (n=k∧p=q)=decide (p=q)):=by show _=_;simp [h]
  have hb:(n == k)=true:=by simp [h]
  clear h
  go_wp2_with fail
  clear zO uS amN amO
  ((with_reducible refine (HI.out _ (own_below HP.out hw6) (own_below HQ.out hw6)).mono ?_);rintro e oW ⟨rfl,hb8⟩)
  obtain ⟨F,G⟩:=b2 F G hb8
  replace hw6:=dT hw6 hb8
  clear hb8
  go_wp2_with fail
  go_ret
  exact ⟨au (by rw [hd.out]),hw6⟩
 have hd:Hid (decide (n=k∧p=q)=false):=by show _=_;simp [h]
 have hb:(n == k)=false:=by simpa using h
 clear h
 go_wp2_with fail
 go_ret
 exact ⟨au (by rw [hd.out]),hw6⟩
end Go.Proofs.YthkfapcadhnaeaaGreatDoor
namespace Go.Proofs.YthkfapcadhnaeaaGreatDoor
open Go.ChangeShapes Go.WideShapes Go.ChangeAt Go.RowKit
def EP {α:Type} (N:Nat) (r:Except (List Int × Int) α):Prop := ∀ p n,r = .error (p,n)→p.length≤N
theorem pO {α:Type} {N:Nat} (v:α):EP N (.ok v):=fun _ _ h => by cases h
theorem Ag {α:Type} {N:Nat} {p:List Int} (n:Int) (h:p.length≤N):EP N (.error (p,n):Except (List Int × Int) α):=fun _ _ e => by cases e;exact h
theorem Bg {α β:Type} {N:Nat} {r:Except (List Int × Int) α} {e:List Int × Int} (h:EP N r) (he:r = .error e):EP N (.error e:Except (List Int × Int) β):=fun p n e' => by cases e';exact h p n he
theorem D9 {N:Nat} {f:Nat→fO} (hf:∀ i,EP N (f i)):∀ (n i:Nat) (acc:List Val),EP N (gB f n i acc)
 | 0,i,acc => by rw [gB];exact pO _
 | n+1,i,acc => by
  rw [gB]
  cases h:f i with
  | error e => exact Bg (hf i) h
  | ok v => exact D9 hf n (i+1) _
theorem JD {N:Nat} {x:aC} {path:List Int} (hN:path.length+1≤N):∀ (l:List nN) (acc:List Raw),EP N (jG x path l acc)
 | [],acc => by rw [jG];exact pO _
 | f :: r,acc => by
  rw [jG]
  split
  · exact JD hN r acc
  split
  · exact Ag _ (by simp;omega)
  exact JD hN r _
theorem ad7 {N:Nat} {rec:Int→List UInt8→List Int→fO} {x:aC} {l:List nN} {path:List Int} (hr:∀ t q s,EP N (rec t q (path ++ [s]))) (hN:path.length+1≤N) (i:Nat):EP N (wH rec x l path i):=by
 unfold wH
 split
 · exact Ag _ (by simp)
 split
 · exact hr _ _ _
 split
 · exact pO _
 exact Ag _ (by simp;omega)
theorem ad8 {N:Nat} {rec:Int→List UInt8→List Int→fO} {path:List Int} (hr:∀ t q s,EP N (rec t q (path ++ [s]))) (hN:path.length+1≤N) (x:aC) (p:List UInt8):EP N (aG rec x p path):=by
 have h0:∀ n,EP N (.error (path,n):fO):=fun n => Ag n (by omega)
 unfold aG
 by_cases k1:x.kind=1
 · rw [if_pos k1];split;exact pO _;split;exact pO _;exact h0 _
 rw [if_neg k1]
 by_cases k2:x.kind=2
 · rw [if_pos k2];split;exact h0 _;split;exact h0 _;exact pO _
 rw [if_neg k2]
 by_cases k3:x.kind=3
 · rw [if_pos k3];split;exact h0 _;exact pO _
 rw [if_neg k3]
 by_cases k4:x.kind=4
 · rw [if_pos k4];split;exact h0 _;split;exact h0 _;exact pO _
 rw [if_neg k4]
 by_cases k5:x.kind=5
 ·
  rw [if_pos k5]
  split
  · exact h0 _
  split
  · rename_i he;exact Bg (D9 (fun i => ad7 hr hN i) _ _ _) he
  split
  · rename_i he;exact Bg (JD hN _ _) he
  exact pO _
 rw [if_neg k5]
 by_cases k6:x.kind=6
 ·
  rw [if_pos k6]
  split
  · exact h0 _
  split
  · split;exact pO _;exact h0 _
  split
  · rename_i he;exact Bg (hr _ _ _) he
  exact pO _
 rw [if_neg k6]
 by_cases k7:x.kind=7
 ·
  rw [if_pos k7]
  split
  · exact h0 _
  split
  · exact h0 _
  split
  · rename_i he;exact Bg (D9 (fun i => hr _ _ _) _ _ _) he
  exact pO _
 rw [if_neg k7]
 by_cases k8:x.kind=8
 ·
  rw [if_pos k8]
  split
  · exact h0 _
  split
  · exact h0 _
  split
  · exact h0 _
  split
  · rename_i he;exact Bg (D9 (fun i => hr _ _ _) _ _ _) he
  split
  · exact h0 _
  split
  · rename_i he;exact Bg (D9 (fun i => hr _ _ _) _ _ _) he
  exact pO _
 rw [if_neg k8]
 split
 · exact pO _
 split
 · exact h0 _
 split
 · rename_i he;exact Bg (hr _ _ _) he
 exact pO _
theorem Wv (ts:List aC):∀ (n:Nat) (t:Int) (p:List UInt8) (path:List Int),EP (path.length+n+1) (decP ts n t p path)
 | 0,t,p,path => by rw [decP];exact Ag _ (by omega)
 | n+1,t,p,path => by
  rw [decP]
  split
  · exact Ag _ (by simp)
  refine ad8 (fun t q s => ?_) (by omega) _ _
  have:=Wv ts n t q (path ++ [s])
  rw [List.length_append,List.length_singleton] at this
  rw [show path.length+(n+1)+1=path.length+1+n+1 by omega];exact this
theorem ZC {ts:List aC} {t:Int} {m:List UInt8} {q:fO} (h:iE ts t m = .ok q):EP 1000 q:=by
 unfold iE at h
 split at h
 · cases h
 split at h
 · cases h
 split at h
 · injection h with h;subst h;exact Ag _ (by simp)
 injection h with h;subst h
 intro p n he
 have:=Wv ts 200 t m [] p n he
 simp at this;omega
end Go.Proofs.YthkfapcadhnaeaaGreatDoor
