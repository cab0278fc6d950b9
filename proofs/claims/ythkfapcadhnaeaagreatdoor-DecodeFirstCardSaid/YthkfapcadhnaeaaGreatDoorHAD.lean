/- What Member and Symbol of both packages compute. What bare and proper compute. What each and its closure compute, given what fits computes for the elements. What free and id compute. Which values fit a type: a plain function with fuel. Values all of whose parts lie in blocks of a set; how much a value holds; rows that a call owns, read as rows. The example schema and example values of layer 8. Plain: the unknown parts of a value that fits. What varint.Get computes. No condition. -/
import Derived.Test.YthkfapcadhnaeaaGreatDoorHAC
import Derived.Test.YthkfapcadhnaeaaGreatDoorHAA
set_option maxHeartbeats 400000
namespace Go.Proofs.YthkfapcadhnaeaaGreatDoor
open Go.ChangeShapes Go.WideShapes Go.ChangeAt Go.RowKit
theorem uQ (a:Int) (r:List Int) (id:Int) (k:Nat):mX (a :: r) id k=if a=id then some k else mX r id (k+1):=rfl
theorem Qh:∀ (l:List Int) (id:Int) (k j:Nat),mX l id k=some j→k≤j∧j < k+l.length:=by
 intro l
 induction l with
 | nil => intro id k j h;simp [mX] at h
 | cons a r ih =>
  intro id k j h
  rw [mX] at h
  split at h
  · injection h with h;subst h;simp
  have:=ih id (k+1) j h
  simp only [List.length_cons];omega
theorem QM (t:aC) (id:Int) (j:Nat) (h:lH t id=some j):j < t.aj.length:=by
 have:=Qh _ _ _ _ h
 simpa using this.2
set_option maxRecDepth 100000 in
theorem Ze (ms:List Mem) (va:Value) (p:Nat) (id:Int) (w:World) (hl:ms.length≤140737488351232) (hr:lN w w.heap.size va ms) (hp:w.cell? ⟨p,0,none⟩=some (.int .i64 id)) (hlt:p < w.heap.size) :
  Calls Tryz.prog 115 #[va,.func (.func 116) #[] #[.pointer (some ⟨p,0,none⟩)]] w fun e w' => e = .returned (.int .i64 (Bv (mX (ms.map Mem.id) id 0)))∧Below w.heap.size w w':=by
 obtain ⟨A,c,rfl,hc⟩:=hr.form
 have HR:=Lib.hid hr
 have Hp:=Lib.hid hp
 clear hr hp
 go_enter Tryz.func115,Tryz.ntmps115
 go_wp2
 go_loopw [8] (fun i wr => ∃ k:Nat,i = .int .i64 k∧k≤ms.length∧mX (ms.map Mem.id) id 0=mX ((ms.drop k).map Mem.id) id k∧Below w.heap.size w wr) (fun i _ => ms.length - (intOf i).toNat)
 case atStart => exact ⟨0,rfl,by omega,rfl,Below.refl _ _⟩
 case round =>
  obtain ⟨k,rfl,hk,hix,hb⟩:=hrel
  by_cases hlk:k < ms.length
  ·
   obtain ⟨b,o,rfl,hbb,hel⟩:=(HR.out.on hb).elem (by omega)
   obtain ⟨vk,vi,vr,hcells,hm⟩:=hel k hlk
   rw [List.drop_eq_getElem_cons hlk,List.map_cons,uQ] at hix
   generalize ms[k]=m at *
   obtain ⟨B1,k1,B2,k2,B3,k3,rfl,rfl,rfl,-,-,-⟩:=hm.dflt.forms
   obtain ⟨c0,c1,c2,c3,c4,c5,c6,c7,c8,c9,c10,c11,c12⟩:=hcells
   have hpw:wr.cell? ⟨p,0,none⟩=some (.int .i64 id):=(hb.cell hlt).trans Hp.out
   have QB:p < wr.heap.size:=Nat.lt_of_lt_of_le hlt hb.size
   have hi1:(k:Int) < ms.length:=by omega
   clear hel hm
   by_cases he:m.id=id
   ·
    rw [if_pos he] at hix
    have jo:=Lib.hid hix
    have ht:(m.id == id)=true:=by simp [he]
    clear hix he
    go_wp2_with fail
    refine (VK m _ _ _ p id _ hpw QB).mono ?_
    rintro e w2 ⟨rfl,hb2⟩
    go_wp2_with fail
    go_ret
    exact ⟨aV (by rw [jo.out];rfl),hb.trans (hb2.mono hb.size)⟩
   rw [if_neg he] at hix
   have jo:=Lib.hid hix
   have ht:(m.id == id)=false:=by simpa using he
   clear hix he
   go_wp2_with fail
   refine (VK m _ _ _ p id _ hpw QB).mono ?_
   rintro e w2 ⟨rfl,hb2⟩
   have yR:=hb.trans (hb2.mono hb.size)
   clear hb2 hb hpw
   go_wp2_with fail
   go_roundw
   case rel => exact ⟨k+1,by go_num,by omega,jo.out,yR⟩
   case measure => simp [intOf];omega
  rw [List.drop_eq_nil_of_le (by omega)] at hix
  have jo:=Lib.hid hix
  clear hix
  go_wp2
  go_ret
  exact ⟨aV (by rw [jo.out];rfl),hb⟩
set_option maxRecDepth 100000 in
theorem Zf (ms:List Raw) (va:Value) (p:Nat) (id:Int) (w:World) (hl:ms.length≤140737488351232) (hr:Rd w w.heap.size 2 va ms.length (iV ms)) (hp:w.cell? ⟨p,0,none⟩=some (.int .i64 id)) (hlt:p < w.heap.size) :
  Calls Tryz.prog 113 #[va,.func (.func 114) #[] #[.pointer (some ⟨p,0,none⟩)]] w fun e w' => e = .returned (.int .i64 (Bv (mX (ms.map Prod.fst) id 0)))∧Below w.heap.size w w':=by
 obtain ⟨A,c,rfl,hc⟩:=hr.form
 have HR:=Lib.hid hr
 have Hp:=Lib.hid hp
 clear hr hp
 go_enter Tryz.func113,Tryz.ntmps113
 go_wp2
 go_loopw [8] (fun i wr => ∃ k:Nat,i = .int .i64 k∧k≤ms.length∧mX (ms.map Prod.fst) id 0=mX ((ms.drop k).map Prod.fst) id k∧Below w.heap.size w wr) (fun i _ => ms.length - (intOf i).toNat)
 case atStart => exact ⟨0,rfl,by omega,rfl,Below.refl _ _⟩
 case round =>
  obtain ⟨k,rfl,hk,hix,hb⟩:=hrel
  by_cases hlk:k < ms.length
  ·
   obtain ⟨b,o,rfl,hbb,hcell⟩:=(HR.out.below hb).at_ (by omega)
   obtain ⟨c0,c1⟩:=nP hcell k hlk
   rw [List.drop_eq_getElem_cons hlk,List.map_cons,uQ] at hix
   generalize ms[k]=m at *
   have hpw:wr.cell? ⟨p,0,none⟩=some (.int .i64 id):=(hb.cell hlt).trans Hp.out
   have QB:p < wr.heap.size:=Nat.lt_of_lt_of_le hlt hb.size
   have hi1:(k:Int) < ms.length:=by omega
   clear hcell
   by_cases he:m.1=id
   ·
    rw [if_pos he] at hix
    have jo:=Lib.hid hix
    have ht:(m.1 == id)=true:=by simp [he]
    clear hix he
    go_wp2_with fail
    refine (VL m p id _ hpw QB).mono ?_
    rintro e w2 ⟨rfl,hb2⟩
    go_wp2_with fail
    go_ret
    exact ⟨aV (by rw [jo.out];rfl),hb.trans (hb2.mono hb.size)⟩
   rw [if_neg he] at hix
   have jo:=Lib.hid hix
   have ht:(m.1 == id)=false:=by simpa using he
   clear hix he
   go_wp2_with fail
   refine (VL m p id _ hpw QB).mono ?_
   rintro e w2 ⟨rfl,hb2⟩
   have yR:=hb.trans (hb2.mono hb.size)
   clear hb2 hb hpw
   go_wp2_with fail
   go_roundw
   case rel => exact ⟨k+1,by go_num,by omega,jo.out,yR⟩
   case measure => simp [intOf];omega
  rw [List.drop_eq_nil_of_le (by omega)] at hix
  have jo:=Lib.hid hix
  clear hix
  go_wp2
  go_ret
  exact ⟨aV (by rw [jo.out];rfl),hb⟩
set_option maxRecDepth 100000 in
theorem Oh (t:aC) (vs vm:Value) (id:Int) (w:World) (ht:eX w w.heap.size t vs vm) :
  Calls Tryz.prog 75 #[aS t vs vm,.int .i64 id] w fun e w' => e = .returned (qU (lH t id))∧Below w.heap.size w w':=by
 obtain ⟨A1,c1,A2,c2,rfl,rfl,-,-⟩:=ht.forms
 have h2b:=QS w
 have HT:=Lib.hid ht
 have hl:=ht.lens.2
 have hlt:=Qh (t.aj.map Mem.id) id 0
 rw [List.length_map] at hlt
 have hg:=fun va p W h1 h2 h3 => Ze t.aj va p id W hl h1 h2 h3
 obtain ⟨o,ho⟩ : ∃ o,mX (t.aj.map Mem.id) id 0=o:=⟨_,rfl⟩
 have ho2:lH t id=o:=ho
 rw [ho2]
 rw [ho] at hg hlt
 clear ht ho ho2
 cases o with
 | none =>
  simp only [Bv] at hg
  have HG:=Lib.hid hg
  clear hlt hg
  go_enter Tryz.func75,Tryz.ntmps75
  go_wp2_with fail
  refine (HG.out _ (w.heap.size+1) _ ((HT.out.on (h2b _ _)).aj) (by go_simp) (by simp)).mono ?_
  rintro e w2 ⟨rfl,hb2⟩
  have h02:=(h2b _ _).trans (hb2.mono (h2b _ _).size)
  clear hb2 h2b
  go_wp2_with fail
  go_ret2
  exact ⟨rfl,h02⟩
 | some k =>
  have hk:=(hlt k rfl).2
  simp only [Bv] at hg
  have HG:=Lib.hid hg
  have hmx:max (k:Int) 0=k:=by omega
  clear hlt hg
  go_enter Tryz.func75,Tryz.ntmps75
  go_wp2_with fail
  refine (HG.out _ (w.heap.size+1) _ ((HT.out.on (h2b _ _)).aj) (by go_simp) (by simp)).mono ?_
  rintro e w2 ⟨rfl,hb2⟩
  have h02:=(h2b _ _).trans (hb2.mono (h2b _ _).size)
  clear hb2 h2b
  go_wp2_with fail
  go_ret2
  exact ⟨rfl,h02⟩
set_option maxRecDepth 100000 in
theorem Zg (t:aC) (vs vm:Value) (id:Int) (w:World) (ht:eX w w.heap.size t vs vm) :
  Calls Tryz.prog 74 #[aS t vs vm,.int .i64 id] w fun e w' => e = .returned (qU (vH t id))∧Below w.heap.size w w':=by
 obtain ⟨A1,c1,A2,c2,rfl,rfl,-,-⟩:=ht.forms
 have h2b:=QS w
 have HT:=Lib.hid ht
 have hl:=ht.lens.1
 have hlt:=Qh (t.syms.map Prod.fst) id 0
 rw [List.length_map] at hlt
 have hg:=fun va p W h1 h2 h3 => Zf t.syms va p id W hl h1 h2 h3
 obtain ⟨o,ho⟩ : ∃ o,mX (t.syms.map Prod.fst) id 0=o:=⟨_,rfl⟩
 have ho2:vH t id=o:=ho
 rw [ho2]
 rw [ho] at hg hlt
 clear ht ho ho2
 cases o with
 | none =>
  simp only [Bv] at hg
  have HG:=Lib.hid hg
  clear hlt hg
  go_enter Tryz.func74,Tryz.ntmps74
  go_wp2_with fail
  refine (HG.out _ (w.heap.size+1) _ ((HT.out.on (h2b _ _)).syms) (by go_simp) (by simp)).mono ?_
  rintro e w2 ⟨rfl,hb2⟩
  have h02:=(h2b _ _).trans (hb2.mono (h2b _ _).size)
  clear hb2 h2b
  go_wp2_with fail
  go_ret2
  exact ⟨rfl,h02⟩
 | some k =>
  have hk:=(hlt k rfl).2
  simp only [Bv] at hg
  have HG:=Lib.hid hg
  have hmx:max (k:Int) 0=k:=by omega
  clear hlt hg
  go_enter Tryz.func74,Tryz.ntmps74
  go_wp2_with fail
  refine (HG.out _ (w.heap.size+1) _ ((HT.out.on (h2b _ _)).syms) (by go_simp) (by simp)).mono ?_
  rintro e w2 ⟨rfl,hb2⟩
  have h02:=(h2b _ _).trans (hb2.mono (h2b _ _).size)
  clear hb2 h2b
  go_wp2_with fail
  go_ret2
  exact ⟨rfl,h02⟩
set_option maxRecDepth 100000 in
theorem KZ (t:aC) (vs vm:Value) (id:Int) (w:World) (ht:eX w w.heap.size t vs vm) :
  Calls Tryz.prog 49 #[aS t vs vm,.int .i64 id] w fun e w' => e = .returned (qU (lH t id))∧Below w.heap.size w w':=by
 obtain ⟨A1,c1,A2,c2,rfl,rfl,-,-⟩:=ht.forms
 have HT:=Lib.hid ht
 have hl:=ht.lens.2
 clear ht
 go_enter Tryz.func49,Tryz.ntmps49
 go_wp2_with fail
 have HP:=Has.made w 69 #[.int .i64 t.kind,.string ⟨t.name.toArray⟩,.int .i64 t.low,.int .i64 t.high,.int .i64 t.max,.slice A1 t.syms.length c1,.slice A2 t.aj.length c2,.int .i64 t.key,.int .i64 t.elem,.bool t.opn]
 have h01:=(Below.refl w.heap.size w).alloc (Nat.le_refl _) (.cells #[.int .i64 t.kind,.string ⟨t.name.toArray⟩,.int .i64 t.low,.int .i64 t.high,.int .i64 t.max,.slice A1 t.syms.length c1,.slice A2 t.aj.length c2,.int .i64 t.key,.int .i64 t.elem,.bool t.opn] 69)
 generalize w.alloc (.cells #[.int .i64 t.kind,.string ⟨t.name.toArray⟩,.int .i64 t.low,.int .i64 t.high,.int .i64 t.max,.slice A1 t.syms.length c1,.slice A2 t.aj.length c2,.int .i64 t.key,.int .i64 t.elem,.bool t.opn] 69)=w1 at *
 have HT:=Lib.hid (HT.out.on h01)
 have cs:=HP.cell 5
 have cm:=HP.cell 6
 simp only [FW] at cs cm
 clear HP
 go_loop [6] (fun i => ∃ k:Nat,i = .int .i64 k∧k≤t.aj.length∧lH t id=mX ((t.aj.drop k).map Mem.id) id k) (fun i => t.aj.length - (intOf i).toNat)
 case atStart => exact ⟨0,rfl,by omega,rfl⟩
 case round =>
  obtain ⟨k,rfl,hk,hix⟩:=hrel
  by_cases hlk:k < t.aj.length
  ·
   rw [List.drop_eq_getElem_cons hlk,List.map_cons,uQ] at hix
   obtain ⟨b,o,rfl,hcell⟩ : ∃ b o,A2=some ⟨b,o,none⟩∧w1.cell? ⟨b,o+k*13,none⟩=some (.int .i64 (Mem.id t.aj[k])):=by
    obtain ⟨b,o,h1,_,hel⟩:=HT.out.aj.elem (by omega);obtain ⟨_,_,_,hc13,_⟩:=hel k hlk;exact ⟨b,o,h1,hc13.1⟩
   have hi1:(k:Int) < t.aj.length:=by omega
   generalize hq:Mem.id t.aj[k]=q at *
   clear hq
   by_cases he:q=id
   ·
    rw [if_pos he] at hix
    have jo:=Lib.hid hix
    have hte:(q == id)=true:=by simp [he]
    clear hix he
    go_wp2_with fail
    go_ret2
    exact ⟨by rw [jo.out];rfl,h01⟩
   rw [if_neg he] at hix
   have jo:=Lib.hid hix
   have hte:(q == id)=false:=by simpa using he
   clear hix he
   go_wp2_with fail
   go_round
   case rel => exact ⟨k+1,by go_num,by omega,jo.out⟩
   case measure => simp [intOf];omega
  rw [List.drop_eq_nil_of_le (by omega)] at hix
  have jo:=Lib.hid hix
  clear hix
  go_wp2_with fail
  go_ret2
  exact ⟨by rw [jo.out];rfl,h01⟩
set_option maxRecDepth 100000 in
theorem WV (t:aC) (vs vm:Value) (id:Int) (w:World) (ht:eX w w.heap.size t vs vm) :
  Calls Tryz.prog 48 #[aS t vs vm,.int .i64 id] w fun e w' => e = .returned (qU (vH t id))∧Below w.heap.size w w':=by
 obtain ⟨A1,c1,A2,c2,rfl,rfl,-,-⟩:=ht.forms
 have HT:=Lib.hid ht
 have hl:=ht.lens.1
 clear ht
 go_enter Tryz.func48,Tryz.ntmps48
 go_wp2_with fail
 have HP:=Has.made w 69 #[.int .i64 t.kind,.string ⟨t.name.toArray⟩,.int .i64 t.low,.int .i64 t.high,.int .i64 t.max,.slice A1 t.syms.length c1,.slice A2 t.aj.length c2,.int .i64 t.key,.int .i64 t.elem,.bool t.opn]
 have h01:=(Below.refl w.heap.size w).alloc (Nat.le_refl _) (.cells #[.int .i64 t.kind,.string ⟨t.name.toArray⟩,.int .i64 t.low,.int .i64 t.high,.int .i64 t.max,.slice A1 t.syms.length c1,.slice A2 t.aj.length c2,.int .i64 t.key,.int .i64 t.elem,.bool t.opn] 69)
 generalize w.alloc (.cells #[.int .i64 t.kind,.string ⟨t.name.toArray⟩,.int .i64 t.low,.int .i64 t.high,.int .i64 t.max,.slice A1 t.syms.length c1,.slice A2 t.aj.length c2,.int .i64 t.key,.int .i64 t.elem,.bool t.opn] 69)=w1 at *
 have HT:=Lib.hid (HT.out.on h01)
 have cs:=HP.cell 5
 have cm:=HP.cell 6
 simp only [FW] at cs cm
 clear HP
 go_loop [6] (fun i => ∃ k:Nat,i = .int .i64 k∧k≤t.syms.length∧vH t id=mX ((t.syms.drop k).map Prod.fst) id k) (fun i => t.syms.length - (intOf i).toNat)
 case atStart => exact ⟨0,rfl,by omega,rfl⟩
 case round =>
  obtain ⟨k,rfl,hk,hix⟩:=hrel
  by_cases hlk:k < t.syms.length
  ·
   rw [List.drop_eq_getElem_cons hlk,List.map_cons,uQ] at hix
   obtain ⟨b,o,rfl,hcell⟩ : ∃ b o,A1=some ⟨b,o,none⟩∧w1.cell? ⟨b,o+k*2,none⟩=some (.int .i64 (Prod.fst t.syms[k])):=by
    obtain ⟨b,o,h1,_,hel⟩:=HT.out.syms.at_ (by omega);exact ⟨b,o,h1,(nP hel k hlk).1⟩
   have hi1:(k:Int) < t.syms.length:=by omega
   generalize hq:Prod.fst t.syms[k]=q at *
   clear hq
   by_cases he:q=id
   ·
    rw [if_pos he] at hix
    have jo:=Lib.hid hix
    have hte:(q == id)=true:=by simp [he]
    clear hix he
    go_wp2_with fail
    go_ret2
    exact ⟨by rw [jo.out];rfl,h01⟩
   rw [if_neg he] at hix
   have jo:=Lib.hid hix
   have hte:(q == id)=false:=by simpa using he
   clear hix he
   go_wp2_with fail
   go_round
   case rel => exact ⟨k+1,by go_num,by omega,jo.out⟩
   case measure => simp [intOf];omega
  rw [List.drop_eq_nil_of_le (by omega)] at hix
  have jo:=Lib.hid hix
  clear hix
  go_wp2_with fail
  go_ret2
  exact ⟨by rw [jo.out];rfl,h01⟩
end Go.Proofs.YthkfapcadhnaeaaGreatDoor
namespace Go.Proofs.YthkfapcadhnaeaaGreatDoor
open Go.ChangeShapes Go.WideShapes Go.ChangeAt Go.RowKit
def Qi (x:Val):Bool :=
 (decide (x.kind=1) || !x.bool) && ((decide (x.kind=2) || decide (x.num=0)) && ((decide (x.kind=3) || decide (x.str = [])) && ((decide (x.kind=4∨x.kind=6) || decide (x.id=0)) &&
  ((decide (x.kind=8) || decide (x.keys.length=0)) && ((decide (5≤x.kind∧x.kind≤9) || decide (x.items.length=0)) && (decide (x.kind=5∨x.kind=6) || decide (x.rest.length=0)))))))
end Go.Proofs.YthkfapcadhnaeaaGreatDoor
namespace Go.Proofs.YthkfapcadhnaeaaGreatDoor
open Go.ChangeShapes Go.WideShapes Go.ChangeAt Go.RowKit
end Go.Proofs.YthkfapcadhnaeaaGreatDoor
namespace Go.Proofs.YthkfapcadhnaeaaGreatDoor
open Go.ChangeShapes Go.WideShapes Go.ChangeAt Go.RowKit
def qV (id:Int):Bool:=decide (1≤id∧id≤1000)
end Go.Proofs.YthkfapcadhnaeaaGreatDoor
namespace Go.Proofs.YthkfapcadhnaeaaGreatDoor
open Go.ChangeShapes Go.WideShapes Go.ChangeAt Go.RowKit
def IU (p:Option Int) (n:Int):Bool:=match p with | some q => decide (q < n) | none => true
def afY (t:aC):List Raw→Option Int→Bool
 | [],_ => true
 | r :: rs,p => !(lH t r.1).isSome && (qV r.1 && (IU p r.1 && afY t rs (some r.1)))
def uN:List Val→Bool
 | [] => true
 | [_] => true
 | x :: y :: r => decide (je x y < 0) && uN (y :: r)
def fB (ts:List aC) (t:Int):Option aC:=if 0≤t then ts[t.toNat]? else none
def ahG (l:List Raw) (id:Int):Bool:=match l with | r :: _ => decide (r.1=id) | [] => false
def TS (pl:Bool) (x:aC) (v:Val) (K I:Int→Bool) (Z:List Mem→Bool) (H:Int→Bool):Bool :=
 if x.kind=2 then decide (x.low≤v.num∧v.num≤x.high)
 else if x.kind=3 then decide ((v.str.length:Int)≤x.max)
 else if x.kind=4 then (vH x v.id).isSome || (x.opn && (!pl && qV v.id))
 else if x.kind=5 then decide (v.items.length=x.aj.length) && (!(pl && decide (0 < v.rest.length)) && (afY x v.rest none && Z x.aj))
 else if x.kind=6 then
  match lH x v.id with
  | some i => decide (v.items.length=1) && (decide (v.rest.length=0) && (match x.aj[i]? with | some m => H m.ty | none => false))
  | none => x.opn && (!pl && (qV v.id && (decide (v.items.length=0) && (decide (v.rest.length=1) && ahG v.rest v.id))))
 else if x.kind=7 then decide ((v.items.length:Int)≤x.max) && I x.elem
 else if x.kind=8 then decide ((v.keys.length:Int)≤x.max) && (decide (v.items.length=v.keys.length) && (K x.key && (uN v.keys && I x.elem)))
 else if x.kind=9 then decide (v.items.length≤1) && I x.elem
 else true
mutual
def zh (ts:List aC) (pl:Bool):Val→Int→Bool
 | .mk k b n s id ks is rs,t => match fB ts t with
  | none => false
  | some x => decide (k=x.kind) && (Qi (.mk k b n s id ks is rs) && TS pl x (.mk k b n s id ks is rs) (fun t => Nj ts pl ks t) (fun t => Nj ts pl is t) (fun ms => Qj ts pl is ms) (fun t => adF ts pl is t))
def Nj (ts:List aC) (pl:Bool):List Val→Int→Bool
 | [],_ => true
 | y :: r,t => zh ts pl y t && Nj ts pl r t
def Qj (ts:List aC) (pl:Bool):List Val→List Mem→Bool
 | [],[] => true
 | y :: r,m :: ms => zh ts pl y m.ty && Qj ts pl r ms
 | [],_ :: _ => false
 | _ :: _,[] => false
def adF (ts:List aC) (pl:Bool):List Val→Int→Bool
 | [],_ => false
 | y :: _,t => zh ts pl y t
end
theorem Xo (ts:List aC) (pl:Bool) (v:Val) (t:Int):zh ts pl v t=match fB ts t with
  | none => false
  | some x => decide (v.kind=x.kind) && (Qi v && TS pl x v (fun t => Nj ts pl v.keys t) (fun t => Nj ts pl v.items t) (fun ms => Qj ts pl v.items ms) (fun t => adF ts pl v.items t)):=by
 cases v;rw [zh];rfl
abbrev afZ (ts:List aC) (pl:Bool) (x:aC) (v:Val):Bool:=TS pl x v (fun t => Nj ts pl v.keys t) (fun t => Nj ts pl v.items t) (fun ms => Qj ts pl v.items ms) (fun t => adF ts pl v.items t)
end Go.Proofs.YthkfapcadhnaeaaGreatDoor
namespace Go.Proofs.YthkfapcadhnaeaaGreatDoor
open Go.ChangeShapes Go.WideShapes Go.ChangeAt Go.RowKit
mutual
def wt:Val→Nat
 | .mk _ _ _ _ _ ks is rs => Eo ks+Eo is+rs.length+1
def Eo:List Val→Nat
 | [] => 0
 | x :: r => wt x+Eo r
end
theorem aeY (x:Val):wt x=Eo x.keys+Eo x.items+x.rest.length+1:=by cases x;rw [wt];rfl
theorem aaZ (x:Val):1≤wt x:=by rw [aeY];omega
theorem Xi (l:List Val) (x:Val) (h:x ∈ l):wt x≤Eo l:=by
 induction l with
 | nil => simp at h
 | cons y r ih =>
  rw [Eo]
  rcases List.mem_cons.1 h with rfl | h
  · omega
  have:=ih h;omega
theorem Xg (l:List Val):l.length≤Eo l:=by
 induction l with
 | nil => simp
 | cons y r ih => rw [Eo,List.length_cons];have:=aaZ y;omega
mutual
theorem adG:∀ (x:Val) (n:Int),0≤AA x n→(wt x:Int)≤n - AA x n
 | .mk _ _ _ s _ ks is rs,n => by
  rw [AA,wt]
  intro h
  have h1:=VA rs (n - (10+s.length+rs.length))
  have h2:=(tq ks (CV rs (n - (10+s.length+rs.length)))).1
  have h3:=(tq is (uy ks (CV rs (n - (10+s.length+rs.length))))).1
  have h4:=Nk is _ h
  have h5:=Nk ks (CV rs (n - (10+s.length+rs.length))) (by omega)
  omega
theorem Nk:∀ (l:List Val) (n:Int),0≤uy l n→(Eo l:Int)≤n - uy l n
 | [],n => by rw [uy,Eo];omega
 | x :: r,n => by
  rw [uy,Eo]
  split
  · omega
  intro h
  have h1:=Nk r _ h
  have h2:=(tq r (AA x n)).1
  have h3:=adG x n (by omega)
  omega
end
def II (w:World) (S:Nat→Prop) (size:Nat) (v:Value) (n:Nat) (xs:List Value):Prop :=
 xs.length=n*size∧∃ A c,v = .slice A n c∧n≤c∧(n=0∨∃ b o,A=some ⟨b,o,none⟩∧S b∧∀ j u,xs[j]?=some u→w.cell? ⟨b,o+j,none⟩=some u)
def xR (w:World) (S:Nat→Prop) (size:Nat) (v:Value) (n:Nat) (c:Nat→List Value):Prop :=
 ∃ A cap,v = .slice A n cap∧n≤cap∧(n=0∨∃ b o,A=some ⟨b,o,none⟩∧S b∧∀ i,i < n→∀ j u,(c i)[j]?=some u→w.cell? ⟨b,o+i*size+j,none⟩=some u)
section
variable {w w':World} {S S':Nat→Prop} {B size n:Nat} {v:Value} {xs:List Value} {c:Nat→List Value}
theorem II.keep (h:II w S size v n xs) (hk:∀ p:Addr,S p.block→w'.cell? p=w.cell? p) (hS:∀ b,S b→S' b):II w' S' size v n xs:=by
 obtain ⟨hl,A,c,hv,hc,h2⟩:=h
 refine ⟨hl,A,c,hv,hc,?_⟩
 rcases h2 with h2 | ⟨b,o,hA,hb,hcell⟩
 · exact .inl h2
 exact .inr ⟨b,o,hA,hS b hb,fun j u hu => (hk ⟨b,o+j,none⟩ hb).trans (hcell j u hu)⟩
theorem xR.keep (h:xR w S size v n c) (hk:∀ p:Addr,S p.block→w'.cell? p=w.cell? p) (hS:∀ b,S b→S' b):xR w' S' size v n c:=by
 obtain ⟨A,cap,hv,hc,h2⟩:=h
 refine ⟨A,cap,hv,hc,?_⟩
 rcases h2 with h2 | ⟨b,o,hA,hb,hcell⟩
 · exact .inl h2
 exact .inr ⟨b,o,hA,hS b hb,fun i hi j u hu => (hk ⟨b,o+i*size+j,none⟩ hb).trans (hcell i hi j u hu)⟩
theorem II.rd (h:II w S size v n xs) (hS:∀ b,S b→b < B):Rd w B size v n xs:=by
 obtain ⟨hl,A,c,hv,hc,h2⟩:=h
 refine ⟨hl,A,c,hv,hc,?_⟩
 rcases h2 with h2 | ⟨b,o,hA,hb,hcell⟩
 · exact .inl h2
 exact .inr ⟨b,o,hA,hS b hb,hcell⟩
theorem xR.row (h:xR w S size v n c) (hS:∀ b,S b→b < B):Row w B size v n c:=by
 obtain ⟨A,cap,hv,hc,h2⟩:=h
 refine ⟨A,cap,hv,hc,?_⟩
 rcases h2 with h2 | ⟨b,o,hA,hb,hcell⟩
 · exact .inl h2
 exact .inr ⟨b,o,hA,hS b hb,hcell⟩
end
inductive jT (w:World) (S:Nat→Prop):Val→List Value→Prop
 | mk (k:Int) (b:Bool) (n:Int) (s:List UInt8) (id:Int) (ks is:List Val) (rs:List Raw) (vk vi vr:Value) (ck ci:Nat→List Value)
   (hn:I64 k∧I64 n∧I64 id) (hs:s.length≤140737488351232) (hl:ks.length≤1172812402926∧is.length≤1172812402926∧rs.length≤5864062014634) (kT:∀ r ∈ rs,pV r)
   (hk:xR w S 8 vk ks.length ck) (hkr:∀ (i:Nat) (h:i < ks.length),jT w S ks[i] (ck i))
   (hi:xR w S 8 vi is.length ci) (hir:∀ (i:Nat) (h:i < is.length),jT w S is[i] (ci i))
   (hr:II w S 2 vr rs.length (iV rs)):jT w S (.mk k b n s id ks is rs) [.int .i64 k,.bool b,.int .i64 n,.string ⟨s.toArray⟩,.int .i64 id,vk,vi,vr]
theorem jT.keep {w w':World} {S S':Nat→Prop} {v:Val} {cs:List Value} (h:jT w S v cs) (hk:∀ p:Addr,S p.block→w'.cell? p=w.cell? p) (hS:∀ b,S b→S' b):jT w' S' v cs:=by
 induction h with
 | mk k b n s id ks is rs vk vi vr ck ci hn hs hl kT h1 _ h2 _ h3 ih1 ih2 =>
  exact .mk k b n s id ks is rs vk vi vr ck ci hn hs hl kT (h1.keep hk hS) ih1 (h2.keep hk hS) ih2 (h3.keep hk hS)
theorem jT.rd {w:World} {S:Nat→Prop} {B:Nat} {v:Val} {cs:List Value} (h:jT w S v cs) (hS:∀ b,S b→b < B):mP w B v cs:=by
 induction h with
 | mk k b n s id ks is rs vk vi vr ck ci hn hs hl kT h1 _ h2 _ h3 ih1 ih2 =>
  exact .mk k b n s id ks is rs vk vi vr ck ci hn hs hl kT (h1.row hS) ih1 (h2.row hS) ih2 (h3.rd hS)
theorem mP.toP {w:World} {B:Nat} {v:Val} {cs:List Value} (h:mP w B v cs):jT w (· < B) v cs:=by
 induction h with
 | mk k b n s id ks is rs vk vi vr ck ci hn hs hl kT h1 _ h2 _ h3 ih1 ih2 =>
  exact .mk k b n s id ks is rs vk vi vr ck ci hn hs hl kT h1 ih1 h2 ih2 h3
def jv (w:World) (S:Nat→Prop) (v:Value) (xs:List Val):Prop := ∃ c:Nat→List Value,xR w S 8 v xs.length c∧∀ (i:Nat) (h:i < xs.length),jT w S xs[i] (c i)
theorem jv.keep {w w':World} {S S':Nat→Prop} {v:Value} {xs:List Val} (h:jv w S v xs) (hk:∀ p:Addr,S p.block→w'.cell? p=w.cell? p) (hS:∀ b,S b→S' b):jv w' S' v xs:=by
 obtain ⟨c,h1,h2⟩:=h
 exact ⟨c,h1.keep hk hS,fun i hi => (h2 i hi).keep hk hS⟩
structure jq (w:World) (S:Nat→Prop) (x:Val) (vk vi vr:Value):Prop where
 ints:I64 x.kind∧I64 x.num∧I64 x.id
 yP:x.str.length≤140737488351232
 I7:x.keys.length≤1172812402926∧x.items.length≤1172812402926∧x.rest.length≤5864062014634
 PS:∀ r ∈ x.rest,pV r
 keys:jv w S vk x.keys
 items:jv w S vi x.items
 rest:II w S 2 vr x.rest.length (iV x.rest)
theorem jq.lens {w:World} {S:Nat→Prop} {x:Val} {vk vi vr:Value} (h:jq w S x vk vi vr):x.keys.length≤140737488351232∧x.items.length≤140737488351232∧x.rest.length≤140737488351232:=by have:=h.I7;omega
theorem jq.rd {w:World} {S:Nat→Prop} {x:Val} {vk vi vr:Value} (h:jq w S x vk vi vr):jT w S x (iQ x vk vi vr):=by
 obtain ⟨hn,hs,hl,kT,⟨ck,h1,h2⟩,⟨ci,h3,h4⟩,h5⟩:=h
 cases x
 exact .mk _ _ _ _ _ _ _ _ vk vi vr ck ci hn hs hl kT h1 h2 h3 h4 h5
theorem jq.at_ {w:World} {S:Nat→Prop} {B:Nat} {x:Val} {vk vi vr:Value} (h:jq w S x vk vi vr) (hS:∀ b,S b→b < B):ValAt w B x vk vi vr:=by
 obtain ⟨hn,hs,hl,kT,⟨ck,h1,h2⟩,⟨ci,h3,h4⟩,h5⟩:=h
 exact ⟨hn,hs,hl,kT,⟨ck,h1.row hS,fun i hi => (h2 i hi).rd hS⟩,⟨ci,h3.row hS,fun i hi => (h4 i hi).rd hS⟩,h5.rd hS⟩
theorem jq.keep {w w':World} {S S':Nat→Prop} {x:Val} {vk vi vr:Value} (h:jq w S x vk vi vr) (hk:∀ p:Addr,S p.block→w'.cell? p=w.cell? p) (hS:∀ b,S b→S' b):jq w' S' x vk vi vr :=
 ⟨h.ints,h.yP,h.I7,h.PS,h.keys.keep hk hS,h.items.keep hk hS,h.rest.keep hk hS⟩
/-! rows one behind the other -/
def jA (c:Nat→List Value):Nat→List Value
 | 0 => []
 | n+1 => jA c n ++ c n
theorem rY (c:Nat→List Value) (size n:Nat) (h:∀ i,i < n→(c i).length=size):(jA c n).length=n*size:=by
 induction n with
 | zero => simp [jA]
 | succ n ih => rw [jA,List.length_append,ih (fun i hi => h i (by omega)),h n (by omega),Nat.add_mul];omega
theorem vI (c:Nat→List Value) (size n:Nat) (h:∀ i,i < n→(c i).length=size) (i j:Nat) (hi:i < n) (hj:j < size):(jA c n)[i*size+j]?=(c i)[j]?:=by
 induction n with
 | zero => omega
 | succ n ih =>
  have hl:=rY c size n (fun i hi => h i (by omega))
  rw [jA]
  by_cases hin:i < n
  ·
   have:i*size+j < n*size:=by
    have h1:(i+1)*size≤n*size:=Nat.mul_le_mul_right _ hin
    rw [Nat.add_mul] at h1;omega
   rw [List.getElem?_append_left (by omega)]
   exact ih (fun i hi => h i (by omega)) hin
  obtain rfl:i=n:=by omega
  rw [List.getElem?_append_right (by omega),hl]
  congr 1
  omega
theorem Qw (c:Nat→List Value) (size n:Nat) (hs:0 < size) (h:∀ i,i < n→(c i).length=size) (q:Nat) (u:Value) (hq:(jA c n)[q]?=some u):q / size < n∧(c (q / size))[q % size]?=some u:=by
 have hl:=rY c size n h
 have hlt:q < n*size:=by rw [← hl];exact (List.getElem?_eq_some_iff.1 hq).1
 have h1:q / size < n:=Nat.div_lt_of_lt_mul (by rwa [Nat.mul_comm] at hlt)
 refine ⟨h1,?_⟩
 have h2:=vI c size n h (q / size) (q % size) h1 (Nat.mod_lt _ hs)
 rw [show q / size*size+q % size=q by rw [Nat.mul_comm];exact Nat.div_add_mod q size] at h2
 rw [← h2];exact hq
theorem Row.flat {w:World} {B size n cap:Nat} {A:Option Addr} {c:Nat→List Value} (h:Row w B size (.slice A n cap) n c) (hs:0 < size) (hc:∀ i,i < n→(c i).length=size) (a:Addr) (hA:A=some a) :
  ∀ j u,(jA c n)[j]?=some u→w.cell? (a.add j)=some u:=by
 intro q u hq
 obtain ⟨h1,h2⟩:=Qw c size n hs hc q u hq
 obtain ⟨A',c',hv,_,h3⟩:=h
 injection hv with h4 h5 h6
 subst h4
 rcases h3 with h3 | ⟨b,o,hb,_,hcell⟩
 · rw [h3] at h1;exact absurd h1 (Nat.not_lt_zero _)
 rw [hb] at hA
 injection hA with hA
 subst hA
 have e:(⟨b,o,none⟩ : Addr).add q=⟨b,o+q / size*size+q % size,none⟩:=by
  unfold Addr.add
  split <;> simp_all
  rw [Nat.add_assoc,Nat.mul_comm,Nat.div_add_mod]
 rw [e]
 exact hcell _ h1 _ _ h2
theorem xR.pq {w:World} {base n size:Nat} {e:TypeId} {v:Value} {c:Nat→List Value} (h:w.ownsRow base e size v n (jA c n)) (hc:∀ i,i < n→(c i).length=size):xR w (fun b => v.ownBlock=some b) size v n c:=by
 have h0:=h
 obtain ⟨hl,h2⟩:=h
 rcases h2 with ⟨rfl,rfl⟩ | ⟨g,cap,cur,rfl,hb,hh,hn,hm,hsz,ht⟩
 · exact ⟨none,0,rfl,Nat.le_refl _,.inl rfl⟩
 refine ⟨_,cap,rfl,hn,.inr ⟨g,0,rfl,rfl,fun i hi j u hu => ?_⟩⟩
 have hj:j < size:=by rw [← hc i hi];exact (List.getElem?_eq_some_iff.1 hu).1
 have:=h0.cells (g:=g) rfl (i*size+j) u (by rw [vI c size n hc i j hi hj];exact hu)
 have e:(⟨g,0,none⟩ : Addr).add (i*size+j)=⟨g,0+i*size+j,none⟩:=by unfold Addr.add;split <;> simp_all
 rwa [e] at this
end Go.Proofs.YthkfapcadhnaeaaGreatDoor
namespace Go.Proofs.YthkfapcadhnaeaaGreatDoor
open Go.ChangeShapes Go.WideShapes Go.ChangeAt Go.RowKit
def Qk (n:Int):Val:=.mk 2 false n [] 0 [] [] []
def ahH (s:List UInt8):Val:=.mk 3 false 0 s 0 [] [] []
theorem OG (w:World) (B:Nat):kN w B (.slice none 0 0) []:=⟨fun _ => [],⟨none,0,rfl,Nat.le_refl _,.inl rfl⟩,fun i h => by simp at h⟩
theorem H7 (w:World) (B:Nat):lN w B (.slice none 0 0) []:=⟨fun _ => [],⟨none,0,rfl,Nat.le_refl _,.inl rfl⟩,fun i h => by simp at h⟩
theorem Xp (w:World) (B:Nat) (k:Int) (b:Bool) (n:Int) (s:List UInt8) (id:Int) (h:I64 k∧I64 n∧I64 id) (hs:s.length≤140737488351232):ValAt w B (.mk k b n s id [] [] []) (.slice none 0 0) (.slice none 0 0) (.slice none 0 0) :=
 ⟨h,hs,⟨by simp [Val.keys],by simp [Val.items],by simp [Val.rest]⟩,by simp [Val.rest],OG w B,OG w B,Rd.nil_ w B 2⟩
theorem ahI (w:World) (B:Nat) (n:Int) (h:I64 n):ValAt w B (Qk n) (.slice none 0 0) (.slice none 0 0) (.slice none 0 0):=Xp w B 2 false n [] 0 ⟨by simp [I64],h,by simp [I64]⟩ (by simp)
theorem Kt (w:World) (B:Nat):ValAt w B kJ (.slice none 0 0) (.slice none 0 0) (.slice none 0 0):=Xp w B 0 false 0 [] 0 ⟨by simp [I64],by simp [I64],by simp [I64]⟩ (by simp)
theorem Jr (w:World) (o:Obj):(w.alloc o).heap.size=w.heap.size+1:=by simp
theorem VN {w:World} {B g size n:Nat} {T:TypeId} {c:Nat→List Value} (h:Has w g T (jA c n).toArray) (hB:g < B) (hc:∀ i,i < n→(c i).length=size):Row w B size (.slice (some ⟨g,0,none⟩) n n) n c:=by
 refine ⟨_,n,rfl,Nat.le_refl _,?_⟩
 refine .inr ⟨g,0,rfl,hB,fun i hi j u hu => ?_⟩
 have hj:j < size:=by rw [← hc i hi];exact (List.getElem?_eq_some_iff.1 hu).1
 have h1:=h.cell (i*size+j)
 rw [List.getElem?_toArray,vI c size n hc i j hi hj,hu] at h1
 rw [show 0+i*size+j=i*size+j by omega]
 exact h1
end Go.Proofs.YthkfapcadhnaeaaGreatDoor
namespace Go.Proofs.YthkfapcadhnaeaaGreatDoor
open Go.ChangeShapes Go.WideShapes Go.ChangeAt Go.RowKit
def OH (x:aC) (id:Int) (K I:Int→Int) (Z:List Mem→Int) (H:Int→Int):Int :=
 if x.kind=4 then (if (vH x id).isSome then 0 else 1)
 else if x.kind=5 then Z x.aj
 else if x.kind=6 then (match lH x id with
  | some i => (match x.aj[i]? with | some m => H m.ty | none => 0)
  | none => 0)
 else if x.kind=7∨x.kind=8∨x.kind=9 then K x.key+I x.elem
 else 0
mutual
def ny (ts:List aC):Val→Int→Int
 | .mk _ _ _ _ id ks is rs,t => match fB ts t with
  | none => 0
  | some x => (rs.length:Int)+OH x id (fun t => Js ts ks t) (fun t => Js ts is t) (fun ms => wY ts is ms) (fun t => abE ts is t)
def Js (ts:List aC):List Val→Int→Int
 | [],_ => 0
 | y :: r,t => ny ts y t+Js ts r t
def wY (ts:List aC):List Val→List Mem→Int
 | y :: r,m :: ms => ny ts y m.ty+wY ts r ms
 | [],_ => 0
 | _ :: _,[] => 0
def abE (ts:List aC):List Val→Int→Int
 | [],_ => 0
 | y :: _,t => ny ts y t
end
theorem Jt (ts:List aC) (v:Val) (t:Int) (x:aC) (h:fB ts t=some x):ny ts v t=(v.rest.length:Int)+OH x v.id (fun t => Js ts v.keys t) (fun t => Js ts v.items t) (fun ms => wY ts v.items ms) (fun t => abE ts v.items t):=by
 cases v;rw [ny,h];rfl
theorem abG (ts:List aC) (l:List Val) (ms:List Mem) (k:Nat) (h:k < l.length) (h2:k < ms.length):wY ts (l.drop k) (ms.drop k)=ny ts l[k] ms[k].ty+wY ts (l.drop (k+1)) (ms.drop (k+1)):=by
 rw [List.drop_eq_getElem_cons h,List.drop_eq_getElem_cons h2,wY]
theorem Zh (ts:List aC) (l:List Val) (ms:List Mem) (k:Nat) (h:l.length≤k):wY ts (l.drop k) ms=0:=by rw [List.drop_eq_nil_of_le h,wY]
/-! what a value that fits has -/
theorem VO (ts:List aC) (pl:Bool):∀ (vs:List Val) (ms:List Mem),Qj ts pl vs ms=true→∀ k (h1:k < vs.length) (h2:k < ms.length),zh ts pl vs[k] ms[k].ty=true
 | [],_,_,k,h1,_ => by simp at h1
 | _ :: _,[],_,k,_,h2 => by simp at h2
 | y :: r,m :: ms,h,k,h1,h2 => by
  rw [Qj,Bool.and_eq_true] at h
  cases k with
  | zero => exact h.1
  | succ k => exact VO ts pl r ms h.2 k (by simpa using h1) (by simpa using h2)
theorem abH {ts:List aC} {pl:Bool} {v:Val} {t:Int} {x:aC} (hx:fB ts t=some x) (h:zh ts pl v t=true):v.kind=x.kind∧Qi v=true∧afZ ts pl x v=true:=by
 rw [Xo,hx] at h
 simp only [Bool.and_eq_true,decide_eq_true_eq] at h
 exact h
theorem ame {ts:List aC} {pl:Bool} {v:Val} {t:Int} {x:aC} (hx:fB ts t=some x) (h:zh ts pl v t=true) (hk:x.kind=5):v.items.length=x.aj.length∧∀ k (h1:k < v.items.length) (h2:k < x.aj.length),zh ts pl v.items[k] x.aj[k].ty=true:=by
 have h3:=(abH hx h).2.2
 unfold afZ TS at h3
 simp [hk] at h3
 exact ⟨h3.1,VO ts pl _ _ h3.2.2.2⟩
end Go.Proofs.YthkfapcadhnaeaaGreatDoor
namespace Go.Proofs.YthkfapcadhnaeaaGreatDoor
open Go.ChangeShapes Go.WideShapes Go.ChangeAt Go.RowKit
def jV:Nat→Nat→List UInt8→Nat × Nat × Nat
 | _,_,[] => (0,0,10)
 | i,n,b :: r =>
  if i=9∧1 < b.toNat then (0,0,7)
  else if 128≤b.toNat then jV (i+1) (n+b.toNat % 128*128 ^ i) r
  else if b.toNat=0∧0 < i then (0,0,2)
  else (n+b.toNat*128 ^ i,i+1,0)
theorem byte_at (l:List UInt8) (k:Nat) (h:k < l.length):∃ b r,l.drop k=b :: r∧({ data:=l.toArray } : ByteArray)[k]'(by simpa [ByteArray.size] using h)=b∧l.drop (k+1)=r:=by
 refine ⟨l[k],l.drop (k+1),List.drop_eq_getElem_cons h,rfl,rfl⟩
theorem ahJ (k:Nat):(2:Int) ^ (7*k)=((128 ^ k:Nat):Int):=by
 rw [show (128:Nat)=2 ^ 7 from rfl,← Nat.pow_mul]
 norm_cast
theorem H9 (n x k:Nat) (hn:n < 128 ^ k) (hx:x < 128) (hk:k≤8∨(k=9∧x≤1)) :
  bits .or .u64 (n:Int) (IntKind.u64.wrap ((x:Int)*2 ^ (7*k)))=((n+x*128 ^ k:Nat):Int)∧n+x*128 ^ k < 128 ^ (k+1)∧n+x*128 ^ k < 18446744073709551616:=by
 have h1:n+x*128 ^ k < 128 ^ (k+1):=by
  rw [Nat.pow_succ,Nat.mul_comm _ 128]
  have:x*128 ^ k≤127*128 ^ k:=Nat.mul_le_mul_right _ (by omega)
  omega
 have h2:n+x*128 ^ k < 18446744073709551616:=by
  rcases hk with hk | ⟨rfl,hx1⟩
  ·
   have:128 ^ (k+1)≤128 ^ 9:=Nat.pow_le_pow_right (by omega) (by omega)
   have e:(128:Nat) ^ 9 < 18446744073709551616:=by decide
   omega
  have:x*128 ^ 9≤1*128 ^ 9:=Nat.mul_le_mul_right _ hx1
  have e:(128:Nat) ^ 9=9223372036854775808:=by decide
  omega
 refine ⟨?_,h1,h2⟩
 rw [ahJ,← Int.natCast_mul,IntKind.wrap_u64]
 have h3:((x*128 ^ k:Nat):Int) % 18446744073709551616=((x*128 ^ k:Nat):Int):=by
  apply Int.emod_eq_of_lt <;> omega
 rw [h3,u64_or_nat _ _ (by omega) (by omega)]
 congr 1
 have e7:(128:Nat) ^ k=2 ^ (7*k):=by rw [show (128:Nat)=2 ^ 7 from rfl,← Nat.pow_mul]
 rw [e7] at hn ⊢
 have:=Nat.two_pow_add_eq_or_of_lt hn x
 rw [Nat.or_comm,Nat.mul_comm x,← this,Nat.add_comm]
theorem ahK (b:UInt8):IntKind.u64.wrap (bits .and .u8 (b.toNat:Int) 127)=((b.toNat % 128:Nat):Int):=by
 have hb:=b.toNat_lt
 have h:bits .and .u8 (b.toNat:Int) 127=(b.toNat:Int) % 128:=bits_mask .u8 8 (by decide) wraps_u8 7 (by decide) _ (by omega) (by omega)
 rw [h,IntKind.wrap_u64]
 omega
theorem CW (i n:Nat) (b:UInt8) (r:List UInt8) (h:i=9) (h1:1 < b.toNat):jV i n (b :: r)=(0,0,7):=by
 rw [jV,if_pos ⟨h,h1⟩]
theorem EJ (i n:Nat) (b:UInt8) (r:List UInt8) (h:¬ (i=9∧1 < b.toNat)) (h1:128≤b.toNat):jV i n (b :: r)=jV (i+1) (n+b.toNat % 128*128 ^ i) r:=by
 rw [jV,if_neg h,if_pos h1]
theorem AB (i n:Nat) (b:UInt8) (r:List UInt8) (h:¬ (i=9∧1 < b.toNat)) (h1:b.toNat=0) (h2:0 < i):jV i n (b :: r)=(0,0,2):=by
 rw [jV,if_neg h,if_neg (by omega),if_pos ⟨h1,h2⟩]
theorem EK (i n:Nat) (b:UInt8) (r:List UInt8) (h:¬ (i=9∧1 < b.toNat)) (h1:b.toNat < 128) (h2:¬ (b.toNat=0∧0 < i)):jV i n (b :: r)=(n+b.toNat*128 ^ i,i+1,0):=by
 rw [jV,if_neg h,if_neg (by omega),if_neg h2]
theorem or_zero (n k x:Nat) (hx:x=0) (h:bits .or .u64 (n:Int) (IntKind.u64.wrap ((x:Int)*2 ^ (7*k)))=((n+x*128 ^ k:Nat):Int)):bits .or .u64 (n:Int) 0=((n+x*128 ^ k:Nat):Int):=by
 rw [← h,hx,Int.natCast_zero,Int.zero_mul];rfl
theorem agO (n k x:Nat) (hk:k=9) (hx:x≤1) (h:bits .or .u64 (n:Int) (IntKind.u64.wrap ((x:Int)*2 ^ (7*k)))=((n+x*128 ^ k:Nat):Int)):bits .or .u64 (n:Int) ((x:Int)*9223372036854775808)=((n+x*128 ^ k:Nat):Int):=by
 rw [← h,hk,IntKind.wrap_u64]
 congr 1
 rw [show (2:Int) ^ (7*9)=9223372036854775808 from rfl]
 omega
theorem VP (a b:Int) {a':Int} {q:Nat} (h:a=a') (h2:b=(q:Int)):Ending.returned (.tuple #[.int .u64 a,.int .i64 b,.int .i64 0])=Ending.returned (.tuple #[.int .u64 a',.int .i64 (q:Int),.int .i64 0]):=by
 rw [h,h2]
set_option maxRecDepth 100000 in
theorem get_any (l:List UInt8) (w:World) :
  Calls Tryz.prog 179 #[.string ⟨l.toArray⟩] w fun e w' => e = .returned (.tuple #[.int .u64 (jV 0 0 l).1,.int .i64 (jV 0 0 l).2.1,.int .i64 (jV 0 0 l).2.2])∧w=w':=by
 go_enter Tryz.func179,Tryz.ntmps179
 go_wp2
 all_goals
  go_loop [5,11] (fun a i => ∃ k n:Nat,k≤9∧k≤l.length∧a = .int .u64 n∧i = .int .i64 k∧jV 0 0 l=jV k n (l.drop k)∧Hid (n < 128 ^ k)) (fun _ i => 10 - (intOf i).toNat)
  case atStart => exact ⟨0,0,by omega,by omega,rfl,rfl,rfl,by show _ < _;omega⟩
  case round =>
   obtain ⟨k,n,hk,hk2,rfl,rfl,hp,hm⟩:=hrel
   have Hp:=Lib.hid hp
   clear hp
   by_cases hlt:k < l.length
   ·
    obtain ⟨b,r,hd,hb,hr⟩:=byte_at l k hlt
    have Hd:=Lib.hid hd
    have Hr:=Lib.hid hr
    clear hd hr
    have hbl:b.toNat < 256:=b.toNat_lt
    go_wp2
    all_goals first
     | (go_ret3;refine ⟨?_,rfl⟩;rw [Hp.out,Hd.out,CW k n b r (by omega) (by omega)];rfl)
     | (go_ret3;refine ⟨?_,rfl⟩;rw [Hp.out,Hd.out,AB k n b r (by omega) (by omega) (by omega)];rfl)
     | (
      go_ret3
      refine ⟨?_,rfl⟩
      have hx:b.toNat < 128:=by omega
      have hg:=H9 n b.toNat k hm.out hx (by omega)
      rw [Hp.out,Hd.out,EK k n b r (by omega) (by omega) (by omega)]
      refine VP (a':=((n+b.toNat*128 ^ k:Nat):Int)) (q:=k+1) _ _ ?_ ?_
      · first | (with_reducible exact hg.1) | (refine or_zero n k b.toNat ?_ hg.1;omega) | (refine agO n k b.toNat ?_ ?_ hg.1 <;> omega)
      first | (with_reducible rfl) | omega)
     | (
      go_round
      case rel =>
       have hg:=H9 n (b.toNat % 128) k hm.out (by omega) (by omega)
       exact ⟨k+1,n+b.toNat % 128*128 ^ k,by omega,by omega,by rw [ahK,hg.1],by go_num,by rw [Hp.out,Hd.out,Hr.out,EJ k n b r (by omega) (by omega)],hg.2.1⟩
      case measure => simp [intOf];omega)
   have hke:k=l.length:=by omega
   clear hm
   go_wp2
   all_goals go_ret3
   all_goals refine ⟨?_,rfl⟩
   all_goals rw [Hp.out,List.drop_of_length_le (by omega)]
   all_goals rfl
end Go.Proofs.YthkfapcadhnaeaaGreatDoor
