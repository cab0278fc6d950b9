/- Reason, and what else is used with it. No condition. -/
import Derived.Test.YtkaedmpppnnamaaGreatDoorShelf
import Derived.Test.YtkaedmpppnnamaaGreatDoorHAH
import Derived.Lib.ItoaLen
import Derived.Lib.AppendIntMem
import Derived.Lib.SmallJoins
import Derived.Test.YtkaedmpppnnamaaGreatDoorJAH
import Derived.Test.YtkaedmpppnnamaaGreatDoorTie
import Derived.Test.YtkaedmpppnnamaaGreatDoorCards
import Derived.SevenTiedAt
import Derived.ProofKit
import Derived.LaidMore
import Derived.OpenShut
import Derived.Stop.Joined
import Derived.Lib.LaidTab
import Derived.Deep.Strs
set_option maxHeartbeats 800000
set_option maxRecDepth 100000
namespace Go.Proofs.YtkaedmpppnnamaaGreatDoor
open ChangeShapes WideShapes ChangeAt RowKit
def Ag:List (List UInt8):=[[109,97,108,102,111,114,109,101,100],[114,97,110,103,101],[108,111,110,103],[115,121,109,98,111,108],[97,114,109],[99,114,105,116,105,99,97,108],[109,105,115,115,105,110,103],[100,101,101,112],[107,105,110,100],[100,101,102,97,117,108,116]]
def Ah (n:Int):List UInt8:=if n < 1\/10 < n then [117,110,107,110,111,119,110] else Ag.getD (n - 1).toNat []
def NR (path:List Int):List UInt8:=if path = [] then [45] else Lib.join (path.map Lib.itoa) [46]
def NS (path:List Int) (n:Int):List UInt8:=NR path ++ 32 :: Ah n
theorem Ux (n:Int):(Ah n).length<=10:=by
 unfold Ah;split
 . simp
 have h:∀ l ∈ Ag,l.length<=10:=by decide
 rw [Oa];cases hq:Ag[(n - 1).toNat]? with
 | none => simp
 | some l => exact h l (V_ hq)
def ajC (w:World):Prop := ∃ b o c,w.cell? ⟨0,0,none⟩=some (.slice (some ⟨b,o,none⟩) 10 c)/\b < w.heap.size/\0 < w.heap.size/\∀ i s,Ag[i]?=some s->w.cell? ⟨b,o+i,none⟩=some (.string ⟨s.toArray⟩)
structure DX (w:World):Prop where
 pow:Lib.TabIs Tryz.prog w "internal/strconv.uint64pow10" .u64 Lib.pow10Tab
 rs:ajC w
theorem DX.on {w w':World} (h:DX w) (hb:Below w.heap.size w w'):DX w':=by
 obtain ⟨b,o,c,h1,h2,h3,h4⟩:=h.rs;exact ⟨Go.Joins.tab_stays (show Tryz.prog.globalNamed "internal/strconv.uint64pow10" = some 1 by kernel_rfl) h.pow hb (b_ _),b,o,c,(hb.cell h3).trans h1,u_ h2 hb.size,u_ h3 hb.size,fun i s hi => (hb.cell h2).trans (h4 i s hi)⟩
theorem ahl (n:Int):Lib.itoa n≠[]:=by
 unfold Lib.itoa;split
 . simp
 intro h;have h2:=congrArg List.length h;rw [Lib.decDigits_length] at h2;unfold Lib.nDigits at h2;split at h2 <;> simp at h2
theorem afi (n:Int) (hn:I64 n) (w:World) (h:DX w):Calls Tryz.prog 41 #[.int .i64 n] w (RT w (.string ⟨(Lib.itoa n).toArray⟩)) :=
 (Tryz.strconv_Itoa n hn.1 hn.2 w h.pow).mono fun _ _ ⟨h1,k,os,h2⟩ => ⟨h1,h2 ▸ Lib.below_grow _ _ (b_ _) k os⟩
theorem Rx:∀ (path:List Int),(∀ z ∈ path,I64 z)->Lib.lens (path.map Lib.itoa)<=21*path.length
 | [],_ => by simp [Lib.lens]
 | z :: r,h => by
  have h1:=Lib.itoa_length_le z (h z (by simp)).1 (h z (by simp)).2;have h2:=Rx r (fun y hy => h y (by simp [hy]));simp only [Qv,Lib.lens,List.sum_cons,z_] at *;omega
theorem join_le (path:List Int) (h:∀ z ∈ path,I64 z):(Lib.join (path.map Lib.itoa) [46]).length<=22*path.length:=by
 cases path with
 | nil => simp [Lib.join_nil]
 | cons z r =>
  have h2:=Rx (z :: r) h;rw [Qv,Lib.join_length];rw [Qv] at h2;simp only [Qs,z_,Q_] at *;omega
theorem ahm (path:List Int) (h:path≠[]):Lib.join (path.map Lib.itoa) [46]≠[]:=by
 cases path with
 | nil => exact absurd rfl h
 | cons z r =>
  intro h2;rw [Qv,Lib.join_cons] at h2;exact ahl z (List.append_eq_nil_iff.1 h2).1
theorem DV {b:ByteArray} {l:List UInt8} (h:b=⟨l.toArray⟩):Ending.returned (.string b) = .returned (.string ⟨l.toArray⟩):=by rw [h]
theorem En (a b:List UInt8):(⟨a.toArray⟩ : ByteArray) ++ ⟨b.toArray⟩=⟨(a ++ b).toArray⟩:=by apply ByteArray.ext;simp
theorem OD (l:List (List UInt8)):(l.map fun x => (⟨x.toArray⟩ : ByteArray)).map (·.data.toList)=l:=by
 induction l with
 | nil => rfl
 | cons x r ih => simp only [Qv] at *;rw [ih]
theorem afj (path:List Int) (v:Value) (w:World) (L:Nat) (hp:∀ z ∈ path,I64 z) (hl:path.length<=1000) (ho:w.ownsRow L 9 1 v path.length ((path.map Lib.itoa).map SB)) :
  Calls Tryz.prog 42 #[v,.string ⟨#[46]⟩] w (RT w (.string ⟨(Lib.join (path.map Lib.itoa) [46]).toArray⟩)):=by
 by_cases h0:path = []
 .
  subst h0;obtain ⟨A,c,rfl⟩:=jF ho;exact (Tryz.strings_Join_none A c _ w).mono fun _ _ ⟨h1,h2⟩ => ⟨h1,h2 ▸ g_ _ _⟩
 have hpos:0 < path.length:=List.length_pos_iff.2 h0;obtain ⟨g,c,rfl,_,hg,hc,hcell⟩:=Du ho hpos;have hj:=join_le path hp;have:=Tryz.strings_Join g 0 c ((path.map Lib.itoa).map fun x => (⟨x.toArray⟩ : ByteArray)) ⟨#[46]⟩ w (fun j x hx => by
  rw [UQ] at hx;obtain ⟨y,hy,rfl⟩:=Option.map_eq_some_iff.1 hx;have:=hcell j (SB y) (by rw [UQ,hy];rfl);rw [Ru];exact this) hg (by simp;omega) (by simpa using hc) (by rw [OD];show (Lib.join _ [46]).length<=_;omega)
 rw [OD] at this;simpa using this
theorem OE {n:Int} {w:World} (h1:¬ n < 1) (h2:¬ 10 < n) (h:ajC w):∃ b o c,w.cell? ⟨0,0,none⟩=some (.slice (some ⟨b,o,none⟩) 10 c)/\w.cell? ⟨b,o+(n.toNat - 1),none⟩=some (.string ⟨(Ah n).toArray⟩):=by
 obtain ⟨b,o,c,h3,h4,h5,h6⟩:=h;rw [show n.toNat - 1=(n - 1).toNat by omega];refine ⟨b,o,c,h3,h6 _ _ ?_⟩;unfold Ah;rw [gB (by omega),Oa,m_ (show (n - 1).toNat < Ag.length by show _ < 10;omega)]
 rfl
theorem aaB (path:List Int) (vp:Value) (n:Int) (w:World) (hl:path.length<=1000) (hpi:∀ z ∈ path,I64 z) (hp:Rd w w.heap.size 1 vp path.length (path.map zq)) (hT:DX w) :
  Calls Tryz.prog 21 #[.agg #[vp,.int .i64 n]] w (RT w (.string ⟨(NS path n).toArray⟩)):=by
 obtain ⟨Ap,cp,rfl,-⟩:=hp.form;have HP:=hiQ hp;have HT:=hiQ hT;have HI:=hiQ hpi;clear hp hT hpi;go_enter Tryz.func21,Tryz.ntmps21
 go_upto_region 1 with fail;refine aO (fun wd2 hb1 F => ?_);have hw3:=hb1;clear hb1;obtain ⟨Fg,Bf⟩:=F.out.c2;have hl0:Hid (Has wd2 w.heap.size _ _/\Below w.heap.size w wd2):=hiQ ⟨F.out,hw3⟩;go_upto_region 3 with fail;clear F;go_loopw [10,3] (fun i s wr => ∃ k:Nat,k<=path.length/\i = .int .i64 (k:Int)/\wr.ownsRow (w.heap.size+1) 9 1 s k (((path.take k).map Lib.itoa).map SB)/\Has wr w.heap.size 59 #[.slice Ap path.length cp,.int .i64 n]/\Below w.heap.size w wr) (fun i _ _ => path.length - (intOf i).toNat)
 case atStart => exact ⟨0,by omega,rfl,K_ _ _ _ _,hl0.out⟩
 case round =>
  clear hl0;obtain ⟨k,hk,rfl,hown,F,hbr⟩:=hrel;replace F:=hiQ F;by_cases hlt:k < path.length
  .
   obtain ⟨b,o,rfl,hbb,hcell⟩:=HP.out.at_ (by omega);have a0:wr.cell? ⟨b,o+k,none⟩=some (.int .i64 path[k]):=((hbr).cell (p:=⟨b,o+k,none⟩) hbb).trans (hcell k _ (by simp [hlt,zq]));have hiz:=HI.out path[k] (jl hlt);have htk:((path.take (k+1)).map Lib.itoa).map SB=((path.take k).map Lib.itoa).map SB ++ [SB (Lib.itoa path[k])]:=by rw [vK hlt,Qw,Qw];rfl
   have Htk:=hiQ htk;have xO:(k:Int) < path.length:=by omega
   clear hcell htk;generalize path[k]=z at *;go_upto_region 5 with fail;clear a0;go_wp2_with fail;have RW:=hiQ (Kept.own hown);clear hown;((with_reducible refine (afi z hiz _ (HT.out.on hbr)).mono ?_);rintro e wd4 ⟨rfl,hb5⟩);obtain ⟨F,RW⟩:=b2 F RW hb5;replace hbr:=dT hbr hb5;clear hb5;have hFz:=F.out.here;have hown1:=RW.out.now;go_wp2_with (at_builtin;refine su rfl _ _ _ rfl (w.heap.size+1) 9 _ 1 16 Tryz.underlying98 YS rfl (by decide) _ k _ rfl hown1 [_] _ 1 rfl rfl (by simp [Value.oneCell']) (by omega) (by omega) (by omega) ?_;intro v' w2 hown2 hb2)
   go_roundw
   case rel => exact ⟨k+1,by omega,by go_num,by rw [Htk.out];exact hown2,(hb2.block _ (by omega)).trans F.out,(hbr).trans (hb2.mono (by omega))⟩
   case measure => simp [intOf];omega
  obtain rfl:k=path.length:=by omega
  rw [List.take_length] at hown;have xO:¬ (path.length:Int) < path.length:=by omega
  go_wp2_with fail;((with_reducible refine (afj path _ _ _ HI.out hl hown).mono ?_);rintro e wd4 ⟨rfl,hb5⟩);replace F:=b1 F hb5;replace hbr:=dT hbr hb5;clear hb5 hown;have HR:Hid (NS path n=NR path ++ 32 :: Ah n):=hiQ rfl;have hpt:Hid (NR path=if path = [] then [45] else Lib.join (path.map Lib.itoa) [46]):=hiQ rfl;have hjn:=ahm path;have hjl:=join_le path HI.out;have hj0:path = []->Lib.join (path.map Lib.itoa) [46] = []:=fun h => by subst h;rfl
  generalize Lib.join (path.map Lib.itoa) [46]=J at *;by_cases h0:path = []
  .
   obtain rfl:=hj0 h0;have hpt:Hid (NR path = [45]):=by show _=_;rw [hpt.out,o_ h0]
   clear hj0 hjn h0;by_cases h1:n < 1
   .
    have Bf:=F.out.e1;go_wp2_with fail;go_ret;exact ⟨DV (by rw [HR.out,hpt.out,Ah,o_ (.inl h1)];exact En [45] _),hbr⟩
   by_cases h2:10 < n
   .
    obtain ⟨bg,og,cg,g0,-⟩:=(HT.out.on hbr).rs;have Bf:=F.out.e1;go_wp2_with fail;go_ret;exact ⟨DV (by rw [HR.out,hpt.out,Ah,o_ (.inr h2)];exact En [45] _),hbr⟩
   obtain ⟨bg,og,cg,g0,g1⟩:=OE h1 h2 (HT.out.on hbr).rs;have Bf:=F.out.e1;have hw0:IntKind.i64.wrap (n - 1)=n - 1:=E_ _ (by omega);have hd0:decide (n - 1 < 0)=false:=f_ (by omega);have hd1:decide (10<=(n - 1).toNat)=false:=f_ (by omega);have hwl:=Ux n;generalize Ah n=wt at *;go_wp2_with fail;go_ret;exact ⟨DV (by rw [HR.out,hpt.out];exact (congrArg (· ++ _) (En [45] [32])).trans ((En _ _).trans (by simp))),hbr⟩
  have hpt:Hid (NR path=J):=by show _=_;rw [hpt.out,gB h0]
  have hje:J.isEmpty=false:=by
   cases J with
   | nil => exact absurd rfl (hjn h0)
   | cons => rfl
  clear hj0 hjn h0;by_cases h1:n < 1
  .
   have Bf:=F.out.e1;go_wp2_with fail;go_ret;exact ⟨DV (by rw [HR.out,hpt.out,Ah,o_ (.inl h1)];exact En _ _),hbr⟩
  by_cases h2:10 < n
  .
   obtain ⟨bg,og,cg,g0,-⟩:=(HT.out.on hbr).rs;have Bf:=F.out.e1;go_wp2_with fail;go_ret;exact ⟨DV (by rw [HR.out,hpt.out,Ah,o_ (.inr h2)];exact En _ _),hbr⟩
  obtain ⟨bg,og,cg,g0,g1⟩:=OE h1 h2 (HT.out.on hbr).rs;have Bf:=F.out.e1;have hw0:IntKind.i64.wrap (n - 1)=n - 1:=E_ _ (by omega);have hd0:decide (n - 1 < 0)=false:=f_ (by omega);have hd1:decide (10<=(n - 1).toNat)=false:=f_ (by omega);have hwl:=Ux n;generalize Ah n=wt at *;go_wp2_with fail;go_ret;exact ⟨DV (by rw [HR.out,hpt.out];exact (congrArg (· ++ _) (En _ [32])).trans ((En _ _).trans (by simp))),hbr⟩
end Go.Proofs.YtkaedmpppnnamaaGreatDoor
namespace Go.Proofs.YtkaedmpppnnamaaGreatDoor
open ChangeShapes WideShapes ChangeAt RowKit Joins
section
variable {H:Type} {enc:TypeId × Value->H} {w:World} {base:Nat} {spare:Nat->Bool} {held:Bool}
end
end Go.Proofs.YtkaedmpppnnamaaGreatDoor
namespace Go.Proofs.YtkaedmpppnnamaaGreatDoor
open ChangeShapes WideShapes ChangeAt RowKit
def Ry:List (String × DataW Unit):=[("math/bits.deBruijn32tab", Rows.laid_math_bits_deBruijn32tab),("math/bits.deBruijn64tab", Rows.laid_math_bits_deBruijn64tab),("internal/strconv.uint64pow10", Rows.laid_internal_strconv_uint64pow10),("sheave/decode.reasons", Rows.laid_sheave_decode_reasons)]
theorem ahn:(Rows.laid_sheave_decode_reasons:DataW Unit) = .slice (Ag.map fun l => .lit (.string l)) []:=by rfl
theorem afm:(Rows.laid_internal_strconv_uint64pow10:DataW Unit)=Lib.tabData .u64 Lib.pow10Tab:=by rfl
theorem add_plain (b o i:Nat):(⟨b,o,none⟩ : Addr).add i=⟨b,o+i,none⟩:=by unfold Addr.add;split <;> simp_all
theorem aaD {w:World} {a:Addr} {u:Value} (h:w.cell? a=some u):a=⟨a.block,a.off,none⟩/\a.block < w.heap.size:=by
 have h2:=World.block_lt_of_cell? _ _ h;obtain ⟨b,o,sp⟩:=a;cases sp with
 | none => exact ⟨rfl,h2⟩
 | some s => simp [World.cell?] at h;split at h <;> simp at h
theorem aho {W:World} (h:laidMetH Tryz.prog Ry W):DX W:=by
 rw [MakeChecks.laidMetH_plain _ _ _ (by kernel_rfl)] at h;obtain ⟨ps,⟨g0,t0,c0,f0,p0,q0,_,_,_,_,⟨g1,t1,c1,f1,p1,q1,_,_,_,_,⟨g2,t2,c2,f2,p2,q2,hg2,ht2,hv2,hd2,⟨g3,t3,c3,f3,p3,q3,hg3,ht3,hv3,hd3,_,_⟩,_⟩,_⟩,_⟩,_⟩:=h;obtain rfl:=Option.some.inj ((show Tryz.prog.globalNamed "internal/strconv.uint64pow10" = some 1 by kernel_rfl).symm.trans hg2);obtain rfl:=Option.some.inj ((show Tryz.prog.globalNamed "sheave/decode.reasons" = some 0 by kernel_rfl).symm.trans hg3);obtain rfl:=Option.some.inj ((show (Tryz.prog.globals[1]?).map (·.type)=some 195 by kernel_rfl).symm.trans ht2);obtain rfl:=Option.some.inj ((show (Tryz.prog.globals[0]?).map (·.type)=some 98 by kernel_rfl).symm.trans ht3);refine ⟨?_,?_⟩
 .
  rw [afm] at hd2;have hc:=Lib.cells_of_tab Tryz.underlying195 Tryz.underlying105 (by kernel_rfl) (by kernel_rfl) hd2;unfold Lib.TabIs;rw [hv2,<- hc]
 rw [ahn] at hd3;rcases Go.Deep.open_strs Tryz.underlying98 Tryz.underlying9 (by kernel_rfl) hd3 with ⟨_,hx⟩ | ⟨a,len,cap,m,Sx,hcs,_,_,_,_,hx,hcell⟩
 . cases hx
 rename_i hmm;injection hx with hx1 hx2;injection hx1 with hx3 hx4;have hlen:len=10:=by have:=congrArg List.length hx3;simpa [Ag] using this.symm
 subst hlen;have hm0:m - 10=0:=by have:=congrArg List.length hx4;simpa using this.symm
 have hm:10<=m:=by rw [hmm];split <;> omega
 have hs:∀ i s,Ag[i]?=some s->(⟨s.toArray⟩ : ByteArray)=Sx i/\i < 10:=fun i s hi => by
  have hlt:i < 10:=(C_.1 hi).1;have h1:=congrArg (·[i]?) hx3;simp only [UQ,hi,Option.map_some,List.getElem?_range hlt,R_,DataW.lit.injEq,Lit.string.injEq] at h1;refine ⟨?_,hlt⟩;rw [h1]
 have h0:=(hcell 0 (by omega)).1;have e0:a.add 0=a:=by simp [Addr.add]
 rw [e0] at h0;obtain ⟨ha,hb⟩:=aaD h0;have hv:=World.var?_cell hg3 hv3 0;have hgc:W.cell? ⟨0,0,none⟩=some (.slice (some ⟨a.block,a.off,none⟩) 10 cap):=by
  rw [hv,<- ha];cases c3 with
  | mk l => simp only at hcs;subst hcs;rfl
 refine ⟨a.block,a.off,cap,hgc,hb,World.block_lt_of_cell? _ _ hgc,fun i s hi => ?_⟩;obtain ⟨h1,h2⟩:=hs i s hi;have h3:=(hcell i (by omega)).1;rw [ha] at h3;rw [h1];rw [add_plain] at h3;exact h3
theorem door_met (os:Os) (args:Array Value):laidMetH Tryz.prog Ry ((World.doorLaid Tryz.prog 400 os).forCall (fun _ _ => 0) ⟨#[],args,[]⟩).memory :=
 laidMetH_of_parts3 (fuel:=8) (laidMet_of_run' 8 (by kernel_rfl) (by kernel_rfl)) (by kernel_rfl) (by kernel_rfl)
