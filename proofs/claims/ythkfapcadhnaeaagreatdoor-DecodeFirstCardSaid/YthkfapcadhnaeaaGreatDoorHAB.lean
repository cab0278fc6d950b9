/- What Equal, SameValue and their parts compute. What SameValue, SameValues and ref Equal compute. What Zigzag and its reference compute, for the seats that have no Unzigzag. No condition. -/
import Derived.Test.YthkfapcadhnaeaaGreatDoorHAA
import Derived.Laws.StructEq
import Derived.StillTailTactics
set_option maxHeartbeats 1600000
namespace Go.Proofs.YthkfapcadhnaeaaGreatDoor
open Go.ChangeShapes Go.WideShapes Go.ChangeAt Go.RowKit
mutual
def iH:Val→Val→Bool
 | .mk k b n s i ks is rs,.mk k' b' n' s' i' ks' is' rs' => decide (k=k'∧b=b'∧n=n'∧s=s'∧i=i'∧rs=rs') && (lZ ks ks' && lZ is is')
def lZ:List Val→List Val→Bool
 | [],[] => true
 | x :: r,y :: s => iH x y && lZ r s
 | [],_ :: _ => false
 | _ :: _,[] => false
end
mutual
theorem yE:∀ x y:Val,iH x y=true↔x=y
 | .mk k b n s i ks is rs,.mk k' b' n' s' i' ks' is' rs' => by
  rw [iH]
  simp only [Bool.and_eq_true,decide_eq_true_eq,vG ks ks',vG is is',Val.mk.injEq]
  constructor
  · rintro ⟨⟨rfl,rfl,rfl,rfl,rfl,rfl⟩,rfl,rfl⟩;simp
  rintro ⟨rfl,rfl,rfl,rfl,rfl,rfl,rfl,rfl⟩;simp
theorem vG:∀ x y:List Val,lZ x y=true↔x=y
 | [],[] => by simp [lZ]
 | x :: r,y :: s => by
  rw [lZ]
  simp only [Bool.and_eq_true,yE x y,vG r s,List.cons.injEq]
 | [],_ :: _ => by simp [lZ]
 | _ :: _,[] => by simp [lZ]
end
theorem oq (x y:Val):iH x y=(decide (x.kind=y.kind∧x.bool=y.bool∧x.num=y.num∧x.str=y.str∧x.id=y.id∧x.rest=y.rest) && (lZ x.keys y.keys && lZ x.items y.items)):=by
 cases x;cases y;rw [iH];rfl
theorem QT (x y:List Val) (h:x.length≠y.length):lZ x y=false:=by
 cases hs:lZ x y with
 | false => rfl
 | true => exact absurd (congrArg List.length ((vG x y).1 hs)) h
theorem VB (x y:List Val) (k:Nat) (h1:k < x.length) (h2:k < y.length) (h:iH x[k] y[k]=false):lZ x y=false:=by
 cases hs:lZ x y with
 | false => rfl
 | true =>
  obtain rfl:=(vG x y).1 hs
  rw [(yE _ _).2 rfl] at h
  cases h
def ni (r:Raw):Value:=.agg #[.int .i64 r.1,.string ⟨r.2.toArray⟩]
theorem bytes_beq (a b:List UInt8):(({ data:=a.toArray } : ByteArray).toList == ({ data:=b.toArray } : ByteArray).toList)=decide (a=b):=by
 rw [ByteArray.toList_eq,ByteArray.toList_eq]
 by_cases h:a=b <;> simp [h]
theorem ahB (x y:Raw) (w:World):(Op.equalIn 10000 123 (ni x) (ni y)).run Tryz.prog w = .ok (decide (x=y)) w:=by
 obtain ⟨x0,x3⟩:=x
 obtain ⟨y0,y3⟩:=y
 have u0:=Tryz.underlying3
 have u2:=Tryz.underlying9
 have hS:Tryz.prog.underlying 123=some (.struct (Tryz.prog.fieldsOf 123)):=by kernel_rfl
 have hp:Tryz.prog.stoodInHeld 123=false:=by kernel_rfl
 rw [show (10000:Nat)=9999+1 from rfl,ni,ni,run_equalIn_agg w 9999 123 _ _ hS hp]
 simp only [Program.fieldsOf,Tryz.underlying123]
 have hb:=bytes_beq x3 y3
 go_simp
 by_cases h1:x0=y0 <;> by_cases h4:x3=y3 <;> simp [h1,h4]
theorem Xm (x y:Raw):∀ W,(binOp .neq 123 (ni x) (ni y)).run Tryz.prog W = .ok (.bool (!decide (x=y))) W:=fun W => by
 rw [ni,ni,run_neq_struct,← ni,← ni,ahB];rfl
set_option maxRecDepth 100000 in
theorem Zd (xs ys:List Raw) (va vb:Value) (w:World) (hlx:xs.length≤140737488351232) (hly:ys.length≤140737488351232) (hx:Rd w w.heap.size 2 va xs.length (iV xs)) (hy:Rd w w.heap.size 2 vb ys.length (iV ys)) :
  Calls Tryz.prog 177 #[va,vb] w fun e w' => e = .returned (.bool (decide (xs=ys)))∧Below w.heap.size w w':=by
 obtain ⟨A,c,rfl,hc⟩:=hx.form
 obtain ⟨B,d,rfl,hd⟩:=hy.form
 by_cases hl:xs.length=ys.length
 ·
  have HL:=Lib.hid hl
  have h1:((xs.length:Int) != (ys.length:Int))=false:=by simp [hl]
  have hl':(xs.length:Int)≤ys.length:=by omega
  clear hl
  go_enter Tryz.func177,Tryz.ntmps177
  go_wp2
  go_loopw [13] (fun i wr => ∃ k:Nat,k≤xs.length∧i = .int .i64 k∧xs.take k=ys.take k∧Below w.heap.size w wr) (fun i _ => xs.length - (intOf i).toNat)
  case atStart => exact ⟨0,by omega,rfl,rfl,Below.refl _ _⟩
  case round =>
   obtain ⟨k,hk,rfl,hp,hb⟩:=hrel
   have Hp:=Lib.hid hp
   clear hp
   by_cases hlt:k < xs.length
   ·
    obtain ⟨b,o,rfl,hbb,hcell⟩:=(hx.below hb).at_ (by omega)
    obtain ⟨b',o',rfl,Qd,hcell'⟩:=(hy.below hb).at_ (by omega)
    have hlt':k < ys.length:=by omega
    obtain ⟨hc0,hc1⟩:=nP hcell k hlt
    obtain ⟨hd0,hd1⟩:=nP hcell' k hlt'
    clear hcell hcell'
    have hi1:(k:Int) < xs.length:=by omega
    have hi2:(k:Int) < ys.length:=by omega
    have Hx:Hid (xs.take (k+1)=xs.take k ++ [xs[k]]):=List.take_succ_eq_append_getElem hlt
    have Hy:Hid (ys.take (k+1)=ys.take k ++ [ys[k]]):=List.take_succ_eq_append_getElem hlt'
    have Jl:Hid (xs[k]≠ys[k]→xs≠ys):=fun h e => h (by subst e;rfl)
    generalize xs[k]=x at *
    generalize ys[k]=y at *
    have hq:=Xm x y
    have hg:Tryz.prog.eqGuardType Tryz.prog.depth 123=false:=by kernel_rfl
    by_cases he:x=y
    ·
     rw [decide_eq_true he] at hq
     have He:=Lib.hid he
     clear he
     simp only [ni,Bool.not_true] at hq
     go_wp2
     go_quiet (fail)
     go_wp2
     go_roundw
     case rel => exact ⟨k+1,by omega,by go_num,by rw [Hx.out,Hy.out,Hp.out,He.out],below_drewN hb _⟩
     case measure => simp [intOf];omega
    rw [decide_eq_false he] at hq
    have He:=Lib.hid he
    clear he
    simp only [ni,Bool.not_false] at hq
    go_wp2
    go_quiet (fail)
    go_wp2
    go_ret
    exact ⟨au (decide_eq_false (Jl.out He.out)).symm,below_drewN hb _⟩
   go_wp2
   go_ret
   refine ⟨au ?_,hb⟩
   have e1:=Hp.out
   rw [List.take_of_length_le (by omega),List.take_of_length_le (by have:=HL.out;omega)] at e1
   exact (decide_eq_true e1).symm
 have h1:((xs.length:Int) != (ys.length:Int))=true:=by rw [bne_iff_ne];omega
 have HL:=Lib.hid hl
 clear hl
 go_enter Tryz.func177,Tryz.ntmps177
 go_wp2
 go_ret
 refine ⟨au ?_,Below.refl _ _⟩
 exact (decide_eq_false fun e => HL.out (by rw [e])).symm
theorem OB (xs ys:List Val) (k:Nat) (h1:k < xs.length) (h2:k < ys.length) (hp:xs.take k=ys.take k) (h:iH xs[k] ys[k]=true):xs.take (k+1)=ys.take (k+1):=by
 rw [List.take_succ_eq_append_getElem h1,List.take_succ_eq_append_getElem h2,hp,(yE _ _).1 h]
set_option maxRecDepth 100000 in
theorem KW (xs ys:List Val) (va vb:Value) (w:World) (hlx:xs.length≤140737488351232) (hly:ys.length≤140737488351232) (hx:kN w w.heap.size va xs) (hy:kN w w.heap.size vb ys)
  (ih:∀ (x y:Val) (vk vi vr uz rX uD:Value) (W:World),x ∈ xs→ValAt W W.heap.size x vk vi vr→ValAt W W.heap.size y uz rX uD→Calls Tryz.prog 160 #[iC x vk vi vr,iC y uz rX uD] W fun e w' => e = .returned (.bool (iH x y))∧Below W.heap.size W w') :
  Calls Tryz.prog 178 #[va,vb,.func (.func 160) #[] #[]] w fun e w' => e = .returned (.bool (lZ xs ys))∧Below w.heap.size w w':=by
 have IH:=Lib.hid ih
 obtain ⟨A,c,rfl,hc⟩:=hx.form
 obtain ⟨B,d,rfl,hd⟩:=hy.form
 have HX:=Lib.hid hx
 have HY:=Lib.hid hy
 clear hx hy ih
 by_cases hl:xs.length=ys.length
 ·
  have HL:=Lib.hid hl
  have h1:((xs.length:Int) != (ys.length:Int))=false:=by simp [hl]
  have hl':(xs.length:Int)≤ys.length:=by omega
  clear hl
  go_enter Tryz.func178,Tryz.ntmps178
  go_wp2
  go_loopw [17] (fun i wr => ∃ k:Nat,k≤xs.length∧i = .int .i64 k∧xs.take k=ys.take k∧Below w.heap.size w wr) (fun i _ => xs.length - (intOf i).toNat)
  case atStart => exact ⟨0,by omega,rfl,rfl,Below.refl _ _⟩
  case round =>
   obtain ⟨k,hk,rfl,hp,hb⟩:=hrel
   have Hp:=Lib.hid hp
   clear hp
   by_cases hlt:k < xs.length
   ·
    have hlt':k < ys.length:=by omega
    obtain ⟨b,o,rfl,hbb,hel⟩:=(HX.out.on hb).elem (by omega)
    obtain ⟨b',o',rfl,Qd,Jm⟩:=(HY.out.on hb).elem (by omega)
    obtain ⟨yk,yi,yr,hcells,hva⟩:=hel k hlt
    obtain ⟨yk',yi',yr',hcells',MZ⟩:=Jm k hlt'
    have Htk:=Lib.hid (OB xs ys k hlt hlt' Hp.out)
    have Jl:=Lib.hid (VB xs ys k hlt hlt')
    have hmem:xs[k] ∈ xs:=List.getElem_mem hlt
    have hi1:(k:Int) < xs.length:=by omega
    have hi2:(k:Int) < ys.length:=by omega
    generalize xs[k]=x at *
    generalize ys[k]=y at *
    obtain ⟨A1,n1,A2,n2,A3,n3,rfl,rfl,rfl,-,-,-⟩:=hva.forms
    obtain ⟨B1,k1,B2,k2,B3,k3,rfl,rfl,rfl,-,-,-⟩:=MZ.forms
    obtain ⟨c0,c1,c2,c3,c4,c5,c6,c7⟩:=hcells
    have h2b:=QS wr
    have HC':=Cells8.below hcells' ((Below.refl wr.heap.size wr).alloc (Nat.le_refl _) (.cells #[.int .i64 x.kind,.bool x.bool,.int .i64 x.num,.string ⟨x.str.toArray⟩,.int .i64 x.id,.slice A1 x.keys.length n1,.slice A2 x.items.length n2,.slice A3 x.rest.length n3] 30)) Qd
    obtain ⟨d0,d1,d2,d3,d4,d5,d6,d7⟩:=hcells'
    have HA:=Lib.hid hva
    have HA':=Lib.hid MZ
    have xU:=Lib.hid hmem
    clear hel Jm hva MZ hmem
    go_wp2_with fail
    refine (IH.out x y _ _ _ _ _ _ _ xU.out (HA.out.on (h2b _ _)) (HA'.out.on (h2b _ _))).mono ?_
    rintro e w2 ⟨rfl,hb2⟩
    have yR:=(hb.trans ((h2b _ _).mono hb.size)).trans (hb2.mono (hb.trans ((h2b _ _).mono hb.size)).size)
    clear hb2 h2b HC' hb
    cases hsv:iH x y with
    | true =>
     have VD:=Lib.hid (Htk.out hsv)
     clear hsv
     go_wp2_with fail
     go_roundw
     case rel => exact ⟨k+1,by omega,by go_num,VD.out,yR⟩
     case measure => simp [intOf];omega
    | false =>
     have VD:=Lib.hid (Jl.out hsv)
     clear hsv
     go_wp2_with fail
     go_ret
     exact ⟨au VD.out.symm,yR⟩
   go_wp2
   go_ret
   refine ⟨au ?_,hb⟩
   have e1:=Hp.out
   rw [List.take_of_length_le (by omega),List.take_of_length_le (by have:=HL.out;omega)] at e1
   exact ((vG _ _).2 e1).symm
 have h1:((xs.length:Int) != (ys.length:Int))=true:=by rw [bne_iff_ne];omega
 have HL:=Lib.hid hl
 clear hl
 go_enter Tryz.func178,Tryz.ntmps178
 go_wp2
 go_ret
 exact ⟨au (QT _ _ HL.out).symm,Below.refl _ _⟩
set_option maxRecDepth 100000 in
theorem abj:∀ (N:Nat) (x y:Val) (vk vi vr uz rX uD:Value) (w:World),nodes x < N→ValAt w w.heap.size x vk vi vr→ValAt w w.heap.size y uz rX uD →
  Calls Tryz.prog 160 #[iC x vk vi vr,iC y uz rX uD] w fun e w' => e = .returned (.bool (iH x y))∧Below w.heap.size w w':=by
 intro N
 induction N with
 | zero => intro x y vk vi vr uz rX uD w h;omega
 | succ N ih =>
  intro x y vk vi vr uz rX uD w hN hv hv'
  have hne:=MX x
  have IH:=Lib.hid ih
  have hkeys:=hv.keys
  have l7:=hv.items
  have hrest:=hv.rest
  have oG:=hv'.keys
  have lT:=hv'.items
  have hrest':=hv'.rest
  obtain ⟨hkl,hil,hrl⟩:=hv.lens
  obtain ⟨hkl',adA,ahC⟩:=hv'.lens
  have hsl:=hv.yP
  have amc:=hv'.yP
  obtain ⟨A1,n1,A2,n2,A3,n3,rfl,rfl,rfl,-,-,-⟩:=hv.forms
  obtain ⟨B1,k1,B2,k2,B3,k3,rfl,rfl,rfl,-,-,-⟩:=hv'.forms
  have hNk:l9 x.keys+l9 x.items < N:=by omega
  clear hv hv' ih hne
  have tZ:True:=trivial
  have lM:=QS w
  by_cases e0:x.kind=y.kind
  ·
   have t0:(x.kind == y.kind)=true:=by simp [e0]
   by_cases e1:x.bool=y.bool
   ·
    have t1:(x.bool == y.bool)=true:=by simp [e1]
    by_cases e2:x.num=y.num
    ·
     have t2:(x.num == y.num)=true:=by simp [e2]
     by_cases e3:x.str=y.str
     ·
      have t3:(x.str == y.str)=true:=by simp [e3]
      by_cases e4:x.id=y.id
      ·
       have t4:(x.id == y.id)=true:=by simp [e4]
       have hse:iH x y=(decide (x.rest=y.rest) && (lZ x.keys y.keys && lZ x.items y.items)):=by rw [oq];simp [e0,e1,e2,e3,e4]
       have jy:=Lib.hid hse
       clear hse e0 e1 e2 e3 e4
       go_enter Tryz.func160,Tryz.ntmps160
       go_wp2_with fail
       generalize hw0:(w.alloc _).alloc _=w0 at *
       have h00:Below w.heap.size w w0:=by rw [← hw0];exact lM _ _
       have HX0:Has w0 w.heap.size 30 #[.int .i64 x.kind,.bool x.bool,.int .i64 x.num,.string ⟨x.str.toArray⟩,.int .i64 x.id,.slice A1 x.keys.length n1,.slice A2 x.items.length n2,.slice A3 x.rest.length n3]:=by rw [← hw0];exact (Has.made _ _ _).alloc _
       have Jo:Has w0 (w.heap.size+1) 30 #[.int .i64 y.kind,.bool y.bool,.int .i64 y.num,.string ⟨y.str.toArray⟩,.int .i64 y.id,.slice B1 y.keys.length k1,.slice B2 y.items.length k2,.slice B3 y.rest.length k3]:=by rw [← hw0];simpa using Has.made (w.alloc _) _ _
       clear hw0 lM
       have hz0:=Jo.here
       have hz0':w.heap.size < w0.heap.size:=by omega
       have HK:=Lib.hid (hkeys.on h00)
       have VE:=Lib.hid (oG.on h00)
       have HI:=Lib.hid (l7.on h00)
       have Jp:=Lib.hid (lT.on h00)
       refine (Zd x.rest y.rest _ _ _ hrl ahC ((hrest.below h00).mono h00.size) ((hrest'.below h00).mono h00.size)).mono ?_
       rintro e w1 ⟨rfl,hb1⟩
       have h01:=h00.trans (hb1.mono h00.size)
       have HX1:=HX0.below hb1 hz0'
       have HY1:=Jo.below hb1 hz0
       have hz1:w.heap.size+1 < w1.heap.size:=Nat.lt_of_lt_of_le hz0 hb1.size
       have hz1':w.heap.size < w1.heap.size:=by omega
       have HK:=Lib.hid (HK.out.on hb1)
       have VE:=Lib.hid (VE.out.on hb1)
       have HI:=Lib.hid (HI.out.on hb1)
       have Jp:=Lib.hid (Jp.out.on hb1)
       have cx:=HX1.cell 5
       have cy:=HY1.cell 5
       simp only [FW] at cx cy
       have HX1:=Lib.hid HX1
       have HY1:=Lib.hid HY1
       clear hb1 HX0 Jo hkeys oG l7 lT hrest hrest'
       cases hdr:decide (x.rest=y.rest) with
       | false =>
        rw [hdr] at jy
        clear hdr
        go_wp2_with fail
        go_ret
        exact ⟨au jy.out.symm,h01⟩
       | true =>
        rw [hdr] at jy
        clear hdr
        go_wp2_with fail
        refine (KW x.keys y.keys _ _ _ hkl hkl' HK.out VE.out (fun p q _ _ _ _ _ _ W hp h1 h2 => IH.out p q _ _ _ _ _ _ W (by have:=vX x.keys p hp;omega) h1 h2)).mono ?_
        rintro e w2 ⟨rfl,hb2⟩
        have h02:=h01.trans (hb2.mono h01.size)
        have QU:=HX1.out.below hb2 hz1'
        have QV:=HY1.out.below hb2 hz1
        have HI:=Lib.hid (HI.out.on hb2)
        have Jp:=Lib.hid (Jp.out.on hb2)
        clear cx cy
        have cx:=QU.cell 6
        have cy:=QV.cell 6
        simp only [FW] at cx cy
        have QU:=Lib.hid QU
        have QV:=Lib.hid QV
        clear hb2
        cases hdk:lZ x.keys y.keys with
        | false =>
         rw [hdk] at jy
         clear hdk
         go_wp2_with fail
         go_ret
         exact ⟨au jy.out.symm,h02⟩
        | true =>
         rw [hdk] at jy
         clear hdk
         go_wp2_with fail
         refine (KW x.items y.items _ _ _ hil adA HI.out Jp.out (fun p q _ _ _ _ _ _ W hp h1 h2 => IH.out p q _ _ _ _ _ _ W (by have:=vX x.items p hp;omega) h1 h2)).mono ?_
         rintro e w3 ⟨rfl,hb3⟩
         go_wp2_with fail
         go_ret
         exact ⟨au (by rw [jy.out];rfl),h02.trans (hb3.mono h02.size)⟩
      have t4:(x.id == y.id)=false:=by simpa using e4
      have hs:Hid (iH x y=false):=by show _=_;rw [oq,decide_eq_false (fun h => e4 h.2.2.2.2.1)];rfl
      clear e0 e1 e2 e3 e4 tZ hkeys oG l7 lT hrest hrest'
      go_enter Tryz.func160,Tryz.ntmps160
      go_wp2
      go_ret
      exact ⟨au hs.out.symm,lM _ _⟩
     have t3:(x.str == y.str)=false:=by simpa using e3
     have hs:Hid (iH x y=false):=by show _=_;rw [oq,decide_eq_false (fun h => e3 h.2.2.2.1)];rfl
     clear e0 e1 e2 e3 tZ hkeys oG l7 lT hrest hrest'
     go_enter Tryz.func160,Tryz.ntmps160
     go_wp2
     go_ret
     exact ⟨au hs.out.symm,lM _ _⟩
    have t2:(x.num == y.num)=false:=by simpa using e2
    have hs:Hid (iH x y=false):=by show _=_;rw [oq,decide_eq_false (fun h => e2 h.2.2.1)];rfl
    clear e0 e1 e2 tZ hkeys oG l7 lT hrest hrest'
    go_enter Tryz.func160,Tryz.ntmps160
    go_wp2
    go_ret
    exact ⟨au hs.out.symm,lM _ _⟩
   have t1:(x.bool == y.bool)=false:=by simpa using e1
   have hs:Hid (iH x y=false):=by show _=_;rw [oq,decide_eq_false (fun h => e1 h.2.1)];rfl
   clear e0 e1 tZ hkeys oG l7 lT hrest hrest'
   go_enter Tryz.func160,Tryz.ntmps160
   go_wp2
   go_ret
   exact ⟨au hs.out.symm,lM _ _⟩
  have t0:(x.kind == y.kind)=false:=by simpa using e0
  have hs:Hid (iH x y=false):=by show _=_;rw [oq,decide_eq_false (fun h => e0 h.1)];rfl
  clear e0 tZ hkeys oG l7 lT hrest hrest'
  go_enter Tryz.func160,Tryz.ntmps160
  go_wp2
  go_ret
  exact ⟨au hs.out.symm,lM _ _⟩
end Go.Proofs.YthkfapcadhnaeaaGreatDoor
namespace Go.Proofs.YthkfapcadhnaeaaGreatDoor
open Go.ChangeShapes Go.WideShapes Go.ChangeAt Go.RowKit
set_option maxRecDepth 100000 in
theorem OC (xs ys:List Val) (va vb:Value) (w:World) (hlx:xs.length≤140737488351232) (hly:ys.length≤140737488351232) (hx:kN w w.heap.size va xs) (hy:kN w w.heap.size vb ys)
  (ih:∀ (x y:Val) (vk vi vr uz rX uD:Value) (W:World),x ∈ xs→ValAt W W.heap.size x vk vi vr→ValAt W W.heap.size y uz rX uD→Calls Tryz.prog 40 #[iC x vk vi vr,iC y uz rX uD] W fun e w' => e = .returned (.bool (iH x y))∧Below W.heap.size W w') :
  Calls Tryz.prog 72 #[va,vb] w fun e w' => e = .returned (.bool (lZ xs ys))∧Below w.heap.size w w':=by
 have IH:=Lib.hid ih
 obtain ⟨A,c,rfl,hc⟩:=hx.form
 obtain ⟨B,d,rfl,hd⟩:=hy.form
 have HX:=Lib.hid hx
 have HY:=Lib.hid hy
 clear hx hy ih
 by_cases hl:xs.length=ys.length
 ·
  have HL:=Lib.hid hl
  have h1:((xs.length:Int) != (ys.length:Int))=false:=by simp [hl]
  have hl':(xs.length:Int)≤ys.length:=by omega
  clear hl
  go_enter Tryz.func72,Tryz.ntmps72
  go_wp2
  go_loopw [5] (fun i wr => ∃ k:Nat,k≤xs.length∧i = .int .i64 k∧xs.take k=ys.take k∧Below w.heap.size w wr) (fun i _ => xs.length - (intOf i).toNat)
  case atStart => exact ⟨0,by omega,rfl,rfl,Below.refl _ _⟩
  case round =>
   obtain ⟨k,hk,rfl,hp,hb⟩:=hrel
   have Hp:=Lib.hid hp
   clear hp
   by_cases hlt:k < xs.length
   ·
    have hlt':k < ys.length:=by omega
    obtain ⟨b,o,rfl,hbb,hel⟩:=(HX.out.on hb).elem (by omega)
    obtain ⟨b',o',rfl,Qd,Jm⟩:=(HY.out.on hb).elem (by omega)
    obtain ⟨yk,yi,yr,hcells,hva⟩:=hel k hlt
    obtain ⟨yk',yi',yr',hcells',MZ⟩:=Jm k hlt'
    have Htk:=Lib.hid (OB xs ys k hlt hlt' Hp.out)
    have Jl:=Lib.hid (VB xs ys k hlt hlt')
    have hmem:xs[k] ∈ xs:=List.getElem_mem hlt
    have hi1:(k:Int) < xs.length:=by omega
    have hi2:(k:Int) < ys.length:=by omega
    generalize xs[k]=x at *
    generalize ys[k]=y at *
    obtain ⟨A1,n1,A2,n2,A3,n3,rfl,rfl,rfl,-,-,-⟩:=hva.forms
    obtain ⟨B1,k1,B2,k2,B3,k3,rfl,rfl,rfl,-,-,-⟩:=MZ.forms
    obtain ⟨c0,c1,c2,c3,c4,c5,c6,c7⟩:=hcells
    obtain ⟨d0,d1,d2,d3,d4,d5,d6,d7⟩:=hcells'
    have HA:=Lib.hid hva
    have HA':=Lib.hid MZ
    have xU:=Lib.hid hmem
    clear hel Jm hva MZ hmem
    go_wp2_with fail
    go_still_tail 8,(by kernel_rfl)
    change wpList _ _ _ _ _ wr.drew
    have HD:=Lib.hid (HA.out.on (w':=wr.drew) (Below.refl _ _).drew)
    have HD':=Lib.hid (HA'.out.on (w':=wr.drew) (Below.refl _ _).drew)
    have hbd:=hb.drew
    clear hb c0 c1 c2 c3 c4 c5 c6 c7 d0 d1 d2 d3 d4 d5 d6 d7 HA HA'
    generalize wr.drew=w1 at *
    go_wp2_with fail
    refine (IH.out x y _ _ _ _ _ _ _ xU.out HD.out HD'.out).mono ?_
    rintro e w2 ⟨rfl,hb2⟩
    have yR:=hbd.trans (hb2.mono hbd.size)
    clear hb2 hbd
    cases hsv:iH x y with
    | true =>
     have VD:=Lib.hid (Htk.out hsv)
     clear hsv
     go_wp2_with fail
     go_roundw
     case rel => exact ⟨k+1,by omega,by go_num,VD.out,yR⟩
     case measure => simp [intOf];omega
    | false =>
     have VD:=Lib.hid (Jl.out hsv)
     clear hsv
     go_wp2_with fail
     go_ret
     exact ⟨au VD.out.symm,yR⟩
   go_wp2
   go_ret
   refine ⟨au ?_,hb⟩
   have e1:=Hp.out
   rw [List.take_of_length_le (by omega),List.take_of_length_le (by have:=HL.out;omega)] at e1
   exact ((vG _ _).2 e1).symm
 have h1:((xs.length:Int) != (ys.length:Int))=true:=by rw [bne_iff_ne];omega
 have HL:=Lib.hid hl
 clear hl
 go_enter Tryz.func72,Tryz.ntmps72
 go_wp2
 go_ret
 exact ⟨au (QT _ _ HL.out).symm,Below.refl _ _⟩
set_option maxRecDepth 100000 in
theorem EG:∀ (N:Nat) (x y:Val) (vk vi vr uz rX uD:Value) (w:World),nodes x < N→ValAt w w.heap.size x vk vi vr→ValAt w w.heap.size y uz rX uD →
  Calls Tryz.prog 40 #[iC x vk vi vr,iC y uz rX uD] w fun e w' => e = .returned (.bool (iH x y))∧Below w.heap.size w w':=by
 intro N
 induction N with
 | zero => intro x y vk vi vr uz rX uD w h;omega
 | succ N ih =>
  intro x y vk vi vr uz rX uD w hN hv hv'
  have hne:=MX x
  have IH:=Lib.hid ih
  have hkeys:=hv.keys
  have l7:=hv.items
  have hrest:=hv.rest
  have oG:=hv'.keys
  have lT:=hv'.items
  have hrest':=hv'.rest
  obtain ⟨hkl,hil,hrl⟩:=hv.lens
  obtain ⟨hkl',adA,ahC⟩:=hv'.lens
  have hsl:=hv.yP
  have amc:=hv'.yP
  obtain ⟨A1,n1,A2,n2,A3,n3,rfl,rfl,rfl,-,-,-⟩:=hv.forms
  obtain ⟨B1,k1,B2,k2,B3,k3,rfl,rfl,rfl,-,-,-⟩:=hv'.forms
  have hNk:l9 x.keys+l9 x.items < N:=by omega
  clear hv hv' ih hne
  have lM:=QS w
  by_cases e0:x.kind=y.kind
  ·
   have t0:(x.kind != y.kind)=false:=by simp [e0]
   by_cases e1:x.bool=y.bool
   ·
    have t1:(x.bool != y.bool)=false:=by simp [e1]
    by_cases e2:x.num=y.num
    ·
     have t2:(x.num != y.num)=false:=by simp [e2]
     by_cases e3:x.str=y.str
     ·
      have t3:(x.str != y.str)=false:=by simp [e3]
      by_cases e4:x.id=y.id
      ·
       have t4:(x.id != y.id)=false:=by simp [e4]
       have hse:iH x y=(decide (x.rest=y.rest) && (lZ x.keys y.keys && lZ x.items y.items)):=by rw [oq];simp [e0,e1,e2,e3,e4]
       have jy:=Lib.hid hse
       simp only [iC,← e0,← e1,← e2,← e3,← e4]
       clear hse e0 e1 e2 e3 e4
       by_cases hl:x.rest.length=y.rest.length
       ·
        have HL:=Lib.hid hl
        have tl:((x.rest.length:Int) != (y.rest.length:Int))=false:=by simp [hl]
        have hl':(x.rest.length:Int)≤y.rest.length:=by omega
        clear hl
        go_enter Tryz.func40,Tryz.ntmps40
        go_wp2_with fail
        generalize hw0:(w.alloc _).alloc _=w0 at *
        have h00:Below w.heap.size w w0:=by rw [← hw0];exact lM _ _
        have HX0:Has w0 w.heap.size 30 #[.int .i64 x.kind,.bool x.bool,.int .i64 x.num,.string ⟨x.str.toArray⟩,.int .i64 x.id,.slice A1 x.keys.length n1,.slice A2 x.items.length n2,.slice A3 x.rest.length n3]:=by rw [← hw0];exact (Has.made _ _ _).alloc _
        have Jo:Has w0 (w.heap.size+1) 30 #[.int .i64 x.kind,.bool x.bool,.int .i64 x.num,.string ⟨x.str.toArray⟩,.int .i64 x.id,.slice B1 y.keys.length k1,.slice B2 y.items.length k2,.slice B3 y.rest.length k3]:=by rw [← hw0];simpa using Has.made (w.alloc _) _ _
        clear hw0 lM
        have hz0:=Jo.here
        have hz0':w.heap.size < w0.heap.size:=by omega
        have HK:=Lib.hid (hkeys.on h00)
        have VE:=Lib.hid (oG.on h00)
        have HI:=Lib.hid (l7.on h00)
        have Jp:=Lib.hid (lT.on h00)
        have HR:=Lib.hid ((hrest.below h00).mono h00.size)
        have HR':=Lib.hid ((hrest'.below h00).mono h00.size)
        have HX0:=Lib.hid HX0
        have Jo:=Lib.hid Jo
        clear hkeys oG l7 lT hrest hrest'
        go_loopw [5] (fun i wr => ∃ k:Nat,i = .int .i64 k∧k≤x.rest.length∧x.rest.take k=y.rest.take k∧Below w0.heap.size w0 wr) (fun i _ => x.rest.length - (intOf i).toNat)
        case atStart => exact ⟨0,rfl,by omega,rfl,Below.refl _ _⟩
        case round =>
         obtain ⟨k,rfl,hk,hp,hb⟩:=hrel
         have Hp:=Lib.hid hp
         clear hp
         have IL:=HX0.out.below hb hz0'
         have IQ:=Jo.out.below hb hz0
         have cx:=IL.cell 7
         have cy:=IQ.cell 7
         simp only [FW] at cx cy
         have IL:=Lib.hid IL
         have IQ:=Lib.hid IQ
         by_cases hlt:k < x.rest.length
         ·
          obtain ⟨b,o,rfl,hbb,hcell⟩:=(HR.out.below hb).at_ (by omega)
          obtain ⟨b',o',rfl,Qd,hcell'⟩:=(HR'.out.below hb).at_ (by omega)
          have hlt':k < y.rest.length:=by omega
          obtain ⟨hc0,hc1⟩:=nP hcell k hlt
          obtain ⟨hd0,hd1⟩:=nP hcell' k hlt'
          clear hcell hcell'
          have hi1:(k:Int) < x.rest.length:=by omega
          have hi2:(k:Int) < y.rest.length:=by omega
          have Hx:Hid (x.rest.take (k+1)=x.rest.take k ++ [x.rest[k]]):=List.take_succ_eq_append_getElem hlt
          have Hy:Hid (y.rest.take (k+1)=y.rest.take k ++ [y.rest[k]]):=List.take_succ_eq_append_getElem hlt'
          have Jl:Hid (x.rest[k]≠y.rest[k]→iH x y=false):=fun h => by
           rw [jy.out,decide_eq_false (fun e => h (by simp [e]))];rfl
          generalize x.rest[k]=r at *
          generalize y.rest[k]=s at *
          have hq:=Xm r s
          have hg:Tryz.prog.eqGuardType Tryz.prog.depth 123=false:=by kernel_rfl
          have h0w:=h00.trans (hb.mono h00.size)
          by_cases he:r=s
          ·
           rw [decide_eq_true he] at hq
           have He:=Lib.hid he
           clear he
           simp only [ni,Bool.not_true] at hq
           go_wp2
           go_quiet (fail)
           go_wp2
           go_roundw
           case rel => exact ⟨k+1,by go_num,by omega,by rw [Hx.out,Hy.out,Hp.out,He.out],below_drewN hb _⟩
           case measure => simp [intOf];omega
          rw [decide_eq_false he] at hq
          have He:=Lib.hid he
          clear he
          simp only [ni,Bool.not_false] at hq
          go_wp2
          go_quiet (fail)
          go_wp2
          go_ret
          exact ⟨au (Jl.out He.out).symm,below_drewN h0w _⟩
         have e1:=Hp.out
         rw [List.take_of_length_le (by omega),List.take_of_length_le (by have:=HL.out;omega)] at e1
         rw [decide_eq_true e1] at jy
         have h0w:=h00.trans (hb.mono h00.size)
         have HK:=Lib.hid (HK.out.on hb)
         have VE:=Lib.hid (VE.out.on hb)
         have HI:=Lib.hid (HI.out.on hb)
         have Jp:=Lib.hid (Jp.out.on hb)
         have hzr:w.heap.size+1 < wr.heap.size:=Nat.lt_of_lt_of_le hz0 hb.size
         have amd:w.heap.size < wr.heap.size:=by omega
         have cx5:=IL.out.cell 5
         have cy5:=IQ.out.cell 5
         simp only [FW] at cx5 cy5
         clear e1 hb Hp
         go_wp2_with fail
         refine (OC x.keys y.keys _ _ _ hkl hkl' HK.out VE.out (fun p q _ _ _ _ _ _ W hp h1 h2 => IH.out p q _ _ _ _ _ _ W (by have:=vX x.keys p hp;omega) h1 h2)).mono ?_
         rintro e w2 ⟨rfl,hb2⟩
         have h02:=h0w.trans (hb2.mono h0w.size)
         have QU:=IL.out.below hb2 amd
         have QV:=IQ.out.below hb2 hzr
         have HI:=Lib.hid (HI.out.on hb2)
         have Jp:=Lib.hid (Jp.out.on hb2)
         clear cx cy cx5 cy5
         have cx:=QU.cell 6
         have cy:=QV.cell 6
         simp only [FW] at cx cy
         clear hb2 QU QV
         cases hdk:lZ x.keys y.keys with
         | false =>
          rw [hdk] at jy
          clear hdk
          go_wp2_with fail
          go_ret
          exact ⟨au jy.out.symm,h02⟩
         | true =>
          rw [hdk] at jy
          clear hdk
          go_wp2_with fail
          refine (OC x.items y.items _ _ _ hil adA HI.out Jp.out (fun p q _ _ _ _ _ _ W hp h1 h2 => IH.out p q _ _ _ _ _ _ W (by have:=vX x.items p hp;omega) h1 h2)).mono ?_
          rintro e w3 ⟨rfl,hb3⟩
          go_wp2_with fail
          go_ret
          exact ⟨au (by rw [jy.out];rfl),h02.trans (hb3.mono h02.size)⟩
       have tl:((x.rest.length:Int) != (y.rest.length:Int))=true:=by rw [bne_iff_ne];omega
       rw [decide_eq_false (fun h => hl (by rw [h]))] at jy
       clear hl hkeys oG l7 lT hrest hrest'
       go_enter Tryz.func40,Tryz.ntmps40
       go_wp2
       go_ret
       exact ⟨au jy.out.symm,lM _ _⟩
      have t4:(x.id != y.id)=true:=by simpa using e4
      have hs:Hid (iH x y=false):=by show _=_;rw [oq,decide_eq_false (fun h => e4 h.2.2.2.2.1)];rfl
      simp only [iC,← e0,← e1,← e2,← e3]
      clear e0 e1 e2 e3 hkeys oG l7 lT hrest hrest'
      go_enter Tryz.func40,Tryz.ntmps40
      go_wp2
      go_ret
      exact ⟨au hs.out.symm,lM _ _⟩
     have t3:(x.str != y.str)=true:=by simpa using e3
     have t3':(!(x.str == y.str))=true:=by simpa using e3
     have hs:Hid (iH x y=false):=by show _=_;rw [oq,decide_eq_false (fun h => e3 h.2.2.2.1)];rfl
     simp only [iC,← e0,← e1,← e2]
     clear e0 e1 e2 hkeys oG l7 lT hrest hrest'
     go_enter Tryz.func40,Tryz.ntmps40
     go_wp2
     go_ret
     exact ⟨au hs.out.symm,lM _ _⟩
    have t2:(x.num != y.num)=true:=by simpa using e2
    have hs:Hid (iH x y=false):=by show _=_;rw [oq,decide_eq_false (fun h => e2 h.2.2.1)];rfl
    simp only [iC,← e0,← e1]
    clear e0 e1 hkeys oG l7 lT hrest hrest'
    go_enter Tryz.func40,Tryz.ntmps40
    go_wp2
    go_ret
    exact ⟨au hs.out.symm,lM _ _⟩
   have t1:(x.bool != y.bool)=true:=by simpa using e1
   have hs:Hid (iH x y=false):=by show _=_;rw [oq,decide_eq_false (fun h => e1 h.2.1)];rfl
   simp only [iC,← e0]
   clear e0 hkeys oG l7 lT hrest hrest'
   go_enter Tryz.func40,Tryz.ntmps40
   go_wp2
   go_ret
   exact ⟨au hs.out.symm,lM _ _⟩
  have t0:(x.kind != y.kind)=true:=by simpa using e0
  have hs:Hid (iH x y=false):=by show _=_;rw [oq,decide_eq_false (fun h => e0 h.1)];rfl
  clear hkeys oG l7 lT hrest hrest'
  go_enter Tryz.func40,Tryz.ntmps40
  go_wp2
  go_ret
  exact ⟨au hs.out.symm,lM _ _⟩
set_option maxRecDepth 100000 in
theorem OD (x y:Val) (vk vi vr uz rX uD:Value) (w:World) (hv:ValAt w w.heap.size x vk vi vr) (hv':ValAt w w.heap.size y uz rX uD) :
  Calls Tryz.prog 13 #[iC x vk vi vr,iC y uz rX uD] w fun e w' => e = .returned (.bool (iH x y))∧Below w.heap.size w w':=by
 obtain ⟨A1,n1,A2,n2,A3,n3,rfl,rfl,rfl,-,-,-⟩:=hv.forms
 obtain ⟨B1,k1,B2,k2,B3,k3,rfl,rfl,rfl,-,-,-⟩:=hv'.forms
 have lM:=QS w
 have HV:=Lib.hid hv
 have HV':=Lib.hid hv'
 clear hv hv'
 go_enter Tryz.func13,Tryz.ntmps13
 go_wp2_with fail
 refine (EG (nodes x+1) x y _ _ _ _ _ _ _ (by omega) (HV.out.on (lM _ _)) (HV'.out.on (lM _ _))).mono ?_
 rintro e w1 ⟨rfl,hb1⟩
 go_wp2_with fail
 go_ret
 exact ⟨rfl,(lM _ _).trans (hb1.mono (lM _ _).size)⟩
end Go.Proofs.YthkfapcadhnaeaaGreatDoor
namespace Go.Proofs.YthkfapcadhnaeaaGreatDoor
open Go.ChangeShapes Go.WideShapes Go.ChangeAt Go.RowKit
def zig (n:Int):Int:=if 0≤n then 2*n else -2*n - 1
def nR (n:Int):Int:=if n % 2=0 then n / 2 else -(n / 2) - 1
theorem VF (b:Nat) (hb:b < 2 ^ 64):(2 ^ 64 - 1) ^^^ b=2 ^ 64 - 1 - b:=by
 apply Nat.eq_of_testBit_eq
 intro i
 rw [Nat.testBit_xor,Nat.testBit_two_pow_sub_one,show 2 ^ 64 - 1 - b=2 ^ 64 - (b+1) by omega,Nat.testBit_two_pow_sub_succ hb]
 by_cases hi:i < 64
 · simp [hi]
 have:b.testBit i=false:=Nat.testBit_lt_two_pow (Nat.lt_of_lt_of_le hb (Nat.pow_le_pow_right (by decide) (by omega)))
 simp [hi,this]
theorem adB (n:Int) (h:I64 n):bits .xor .u64 (IntKind.u64.wrap (IntKind.u64.wrap n*2)) (IntKind.u64.wrap (n / 9223372036854775808))=zig n:=by
 obtain ⟨h0,h1⟩:=h
 unfold zig
 split
 ·
  have e1:IntKind.u64.wrap (IntKind.u64.wrap n*2)=(((2*n).toNat:Nat):Int):=by
   rw [IntKind.wrap_u64,IntKind.wrap_u64];omega
  have e2:IntKind.u64.wrap (n / 9223372036854775808)=((0:Nat):Int):=by
   rw [IntKind.wrap_u64];omega
  rw [e1,e2,u64_xor_nat _ _ (by omega) (by omega),Nat.xor_zero]
  omega
 have e1:IntKind.u64.wrap (IntKind.u64.wrap n*2)=(((2*n+18446744073709551616).toNat:Nat):Int):=by
  rw [IntKind.wrap_u64,IntKind.wrap_u64];omega
 have e2:IntKind.u64.wrap (n / 9223372036854775808)=((2 ^ 64 - 1:Nat):Int):=by
  rw [IntKind.wrap_u64];omega
 rw [e1,e2,u64_xor_nat _ _ (by omega) (by decide),Nat.xor_comm,VF _ (by omega)]
 omega
theorem Xn (n:Int) (h:I64 n) (w:World):Calls Tryz.prog 164 #[.int .i64 n] w fun e w' => e = .returned (.int .u64 (zig n))∧w=w':=by
 have H:=Lib.hid (adB n h)
 go_enter Tryz.func164,Tryz.ntmps164
 go_wp2
 go_ret
 exact ⟨by rw [← H.out];rfl,rfl⟩
theorem VG (n:Int) (h:I64 n) (w:World):Calls Tryz.prog 61 #[.int .i64 n] w fun e w' => e = .returned (.int .u64 (zig n))∧w=w':=by
 by_cases hn:0≤n
 ·
  go_enter Tryz.func61,Tryz.ntmps61
  go_wp2
  go_ret
  refine ⟨aV ?_,rfl⟩
  obtain ⟨h0,h1⟩:=h
  unfold zig
  rw [if_pos hn,IntKind.wrap_u64,IntKind.wrap_u64];omega
 go_enter Tryz.func61,Tryz.ntmps61
 go_wp2
 go_ret
 refine ⟨aV ?_,rfl⟩
 obtain ⟨h0,h1⟩:=h
 unfold zig
 rw [if_neg (by omega)]
 simp only [IntKind.wrap_u64,wrap64];omega
theorem QW (n:Int):nR (zig n)=n:=by
 unfold zig nR;split <;> split <;> omega
end Go.Proofs.YthkfapcadhnaeaaGreatDoor
