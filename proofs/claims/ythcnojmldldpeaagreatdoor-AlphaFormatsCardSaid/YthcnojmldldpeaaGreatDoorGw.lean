/- The walks of rightInterface, rightClause, rightPorts, rightRule, checkList. No condition. -/
import Derived.Test.YthcnojmldldpeaaGreatDoorGs
set_option maxRecDepth 8000
set_option maxHeartbeats 8000000
namespace Go.Proofs.YthcnojmldldpeaaGreatDoor
open Lib (hid)
open Go.RowKit
def zCs(x:If):Bool:=zAb x.len 0 32&&zAb x.vlan 0 4094&&zAb x.side 0 2 && !(x.len==0&&(!(x.addr==0) || !(x.vlan==0) || !(x.side==0)||x.ls||x.dv || !x.inn.isEmpty || !x.out.isEmpty)) && !(!(x.len==0)&&x.addr==0)&&(if x.ls then zAb x.area 0 255&&zAb x.cost 1 65535 else x.area==0&&x.cost==0)
theorem zIn(x:If)(w:World):Calls Tryz.prog 79 #[.agg x.C] w fun e w' => e=.returned (.bool (zCs x))∧Below w.heap.size w w' := by
 have B0:=hid (fun o=>(Below.refl w.heap.size w).alloc (Nat.le_refl _) o);have HW:=hid (fun n lo hi w=>zAr n lo hi w);obtain⟨name,addr,len,vlan,down,ls,area,cost,dv,inn,out,side⟩:=x;have E:Hid (zCs ⟨name,addr,len,vlan,down,ls,area,cost,dv,inn,out,side⟩=(zAb len 0 32&&zAb vlan 0 4094&&zAb side 0 2 && !(len==0&&(!(addr==0) || !(vlan==0) || !(side==0)||ls||dv || !inn.isEmpty || !out.isEmpty)) && !(!(len==0)&&addr==0)&&(if ls then zAb area 0 255&&zAb cost 1 65535 else area==0&&cost==0))):=hid rfl;generalize zCs ⟨name,addr,len,vlan,down,ls,area,cost,dv,inn,out,side⟩=res at E⊢;unfold If.C
 try unfold strV
 dsimp only;go_enter Tryz.func79,Tryz.ntmps79;cases h1:zAb len 0 32 with
 |false=>
  go_wp2_with (go_at_call 27;refine(HW.out _ _ _ _).mono ?_;rintro e w' ⟨rfl,rfl⟩)
  all_goals (go_ret;exact⟨zAg (by rw[E.out];first|(simp[*];done)|(simp[*];omega)),B0.out _⟩)
 |true=>
  cases h2:zAb vlan 0 4094 with
  |false=>
   go_wp2_with (go_at_call 27;refine(HW.out _ _ _ _).mono ?_;rintro e w' ⟨rfl,rfl⟩)
   all_goals (go_ret;exact⟨zAg (by rw[E.out];first|(simp[*];done)|(simp[*];omega)),B0.out _⟩)
  |true=>
   cases h3:zAb side 0 2 with
   |false=>
    go_wp2_with (go_at_call 27;refine(HW.out _ _ _ _).mono ?_;rintro e w' ⟨rfl,rfl⟩)
    all_goals (go_ret;exact⟨zAg (by rw[E.out];first|(simp[*];done)|(simp[*];omega)),B0.out _⟩)
   |true=>
    by_cases h4:len=0
    ·subst h4
     by_cases h5:addr=0
     ·subst h5
      by_cases h6:vlan=0
      ·subst h6
       by_cases h7:side=0
       ·subst h7
        cases ls with
        |false=>
         cases dv with
         |false=>
          have h10t:=zAe inn;cases inn with
          |nil=>
           have h11t:=zAe out;cases out with
           |nil=>
            by_cases h12:area=0
            ·subst h12
             by_cases h13:cost=0
             ·subst h13
              go_wp2_with (go_at_call 27;refine(HW.out _ _ _ _).mono ?_;rintro e w' ⟨rfl,rfl⟩)
              all_goals (go_ret;exact⟨zAg (by rw[E.out];first|(simp[*];done)|(simp[*];omega)),B0.out _⟩)
             ·have h13a:(cost==0)=false:=by simpa using h13
              have h13b:(cost != 0)=true:=by simpa using h13
              go_wp2_with (go_at_call 27;refine(HW.out _ _ _ _).mono ?_;rintro e w' ⟨rfl,rfl⟩)
              all_goals (go_ret;exact⟨zAg (by rw[E.out];first|(simp[*];done)|(simp[*];omega)),B0.out _⟩)
            ·have h12a:(area==0)=false:=by simpa using h12
             have h12b:(area != 0)=true:=by simpa using h12
             go_wp2_with (go_at_call 27;refine(HW.out _ _ _ _).mono ?_;rintro e w' ⟨rfl,rfl⟩)
             all_goals (go_ret;exact⟨zAg (by rw[E.out];first|(simp[*];done)|(simp[*];omega)),B0.out _⟩)
           |cons c13 k13=>
            go_wp2_with (go_at_call 27;refine(HW.out _ _ _ _).mono ?_;rintro e w' ⟨rfl,rfl⟩)
            all_goals (go_ret;exact⟨zAg (by rw[E.out];first|(simp[*];done)|(simp[*];omega)),B0.out _⟩)
          |cons c13 k13=>
           go_wp2_with (go_at_call 27;refine(HW.out _ _ _ _).mono ?_;rintro e w' ⟨rfl,rfl⟩)
           all_goals (go_ret;exact⟨zAg (by rw[E.out];first|(simp[*];done)|(simp[*];omega)),B0.out _⟩)
         |true=>
          go_wp2_with (go_at_call 27;refine(HW.out _ _ _ _).mono ?_;rintro e w' ⟨rfl,rfl⟩)
          all_goals (go_ret;exact⟨zAg (by rw[E.out];first|(simp[*];done)|(simp[*];omega)),B0.out _⟩)
        |true=>
         go_wp2_with (go_at_call 27;refine(HW.out _ _ _ _).mono ?_;rintro e w' ⟨rfl,rfl⟩)
         all_goals (go_ret;exact⟨zAg (by rw[E.out];first|(simp[*];done)|(simp[*];omega)),B0.out _⟩)
       ·have h7a:(side==0)=false:=by simpa using h7
        have h7b:(side != 0)=true:=by simpa using h7
        go_wp2_with (go_at_call 27;refine(HW.out _ _ _ _).mono ?_;rintro e w' ⟨rfl,rfl⟩)
        all_goals (go_ret;exact⟨zAg (by rw[E.out];first|(simp[*];done)|(simp[*];omega)),B0.out _⟩)
      ·have h6a:(vlan==0)=false:=by simpa using h6
       have h6b:(vlan != 0)=true:=by simpa using h6
       go_wp2_with (go_at_call 27;refine(HW.out _ _ _ _).mono ?_;rintro e w' ⟨rfl,rfl⟩)
       all_goals (go_ret;exact⟨zAg (by rw[E.out];first|(simp[*];done)|(simp[*];omega)),B0.out _⟩)
     ·have h5a:((addr:Int)==0)=false:=by simp;omega
      have h5b:((addr:Int) != 0)=true:=by simp;omega
      have h5c:(addr==0)=false:=by simpa using h5
      go_wp2_with (go_at_call 27;refine(HW.out _ _ _ _).mono ?_;rintro e w' ⟨rfl,rfl⟩)
      all_goals (go_ret;exact⟨zAg (by rw[E.out];first|(simp[*];done)|(simp[*];omega)),B0.out _⟩)
    ·have h4a:(len==0)=false:=by simpa using h4
     have h4b:(len != 0)=true:=by simpa using h4
     by_cases h14:addr=0
     ·subst h14
      go_wp2_with (go_at_call 27;refine(HW.out _ _ _ _).mono ?_;rintro e w' ⟨rfl,rfl⟩)
      all_goals (go_ret;exact⟨zAg (by rw[E.out];first|(simp[*];done)|(simp[*];omega)),B0.out _⟩)
     ·have h14a:((addr:Int)==0)=false:=by simp;omega
      have h14b:((addr:Int) != 0)=true:=by simp;omega
      have h14c:(addr==0)=false:=by simpa using h14
      cases ls with
      |false=>
       by_cases h16:area=0
       ·subst h16
        by_cases h17:cost=0
        ·subst h17
         go_wp2_with (go_at_call 27;refine(HW.out _ _ _ _).mono ?_;rintro e w' ⟨rfl,rfl⟩)
         all_goals (go_ret;exact⟨zAg (by rw[E.out];first|(simp[*];done)|(simp[*];omega)),B0.out _⟩)
        ·have h17a:(cost==0)=false:=by simpa using h17
         have h17b:(cost != 0)=true:=by simpa using h17
         go_wp2_with (go_at_call 27;refine(HW.out _ _ _ _).mono ?_;rintro e w' ⟨rfl,rfl⟩)
         all_goals (go_ret;exact⟨zAg (by rw[E.out];first|(simp[*];done)|(simp[*];omega)),B0.out _⟩)
       ·have h16a:(area==0)=false:=by simpa using h16
        have h16b:(area != 0)=true:=by simpa using h16
        go_wp2_with (go_at_call 27;refine(HW.out _ _ _ _).mono ?_;rintro e w' ⟨rfl,rfl⟩)
        all_goals (go_ret;exact⟨zAg (by rw[E.out];first|(simp[*];done)|(simp[*];omega)),B0.out _⟩)
      |true=>
       cases h18:zAb area 0 255 with
       |false=>
        go_wp2_with (go_at_call 27;refine(HW.out _ _ _ _).mono ?_;rintro e w' ⟨rfl,rfl⟩)
        all_goals (go_ret;exact⟨zAg (by rw[E.out];first|(simp[*];done)|(simp[*];omega)),B0.out _⟩)
       |true=>
        cases h19:zAb cost 1 65535 with
        |false=>
         go_wp2_with (go_at_call 27;refine(HW.out _ _ _ _).mono ?_;rintro e w' ⟨rfl,rfl⟩)
         all_goals (go_ret;exact⟨zAg (by rw[E.out];first|(simp[*];done)|(simp[*];omega)),B0.out _⟩)
        |true=>
         go_wp2_with (go_at_call 27;refine(HW.out _ _ _ _).mono ?_;rintro e w' ⟨rfl,rfl⟩)
         all_goals (go_ret;exact⟨zAg (by rw[E.out];first|(simp[*];done)|(simp[*];omega)),B0.out _⟩)
def zCr(x:Cl):Bool:=zAb x.tag (-1) 65535&&zAb x.setM (-1) 16777215&&zAb x.setT (-1) 65535&&zAb x.setP (-1) 1000000&&zAb x.prep 0 8
theorem zGw(x:Cl)(w:World):Calls Tryz.prog 86 #[.agg x.C] w fun e w' => e=.returned (.bool (zCr x))∧Below w.heap.size w w' := by
 have B0:=hid (fun o=>(Below.refl w.heap.size w).alloc (Nat.le_refl _) o);have HW:=hid (fun n lo hi w=>zAr n lo hi w);obtain⟨permit,list,tag,setM,setT,setP,prep⟩:=x;have E:Hid (zCr ⟨permit,list,tag,setM,setT,setP,prep⟩=(zAb tag (-1) 65535&&zAb setM (-1) 16777215&&zAb setT (-1) 65535&&zAb setP (-1) 1000000&&zAb prep 0 8)):=hid rfl;generalize zCr ⟨permit,list,tag,setM,setT,setP,prep⟩=res at E⊢;unfold Cl.C
 try unfold strV
 dsimp only;go_enter Tryz.func86,Tryz.ntmps86;cases h1:zAb tag (-1) 65535 with
 |false=>
  go_wp2_with (go_at_call 27;refine(HW.out _ _ _ _).mono ?_;rintro e w' ⟨rfl,rfl⟩)
  all_goals (go_ret;exact⟨zAg (by rw[E.out];first|(simp[*];done)|(simp[*];omega)),B0.out _⟩)
 |true=>
  cases h2:zAb setM (-1) 16777215 with
  |false=>
   go_wp2_with (go_at_call 27;refine(HW.out _ _ _ _).mono ?_;rintro e w' ⟨rfl,rfl⟩)
   all_goals (go_ret;exact⟨zAg (by rw[E.out];first|(simp[*];done)|(simp[*];omega)),B0.out _⟩)
  |true=>
   cases h3:zAb setT (-1) 65535 with
   |false=>
    go_wp2_with (go_at_call 27;refine(HW.out _ _ _ _).mono ?_;rintro e w' ⟨rfl,rfl⟩)
    all_goals (go_ret;exact⟨zAg (by rw[E.out];first|(simp[*];done)|(simp[*];omega)),B0.out _⟩)
   |true=>
    cases h4:zAb setP (-1) 1000000 with
    |false=>
     go_wp2_with (go_at_call 27;refine(HW.out _ _ _ _).mono ?_;rintro e w' ⟨rfl,rfl⟩)
     all_goals (go_ret;exact⟨zAg (by rw[E.out];first|(simp[*];done)|(simp[*];omega)),B0.out _⟩)
    |true=>
     cases h5:zAb prep 0 8 with
     |false=>
      go_wp2_with (go_at_call 27;refine(HW.out _ _ _ _).mono ?_;rintro e w' ⟨rfl,rfl⟩)
      all_goals (go_ret;exact⟨zAg (by rw[E.out];first|(simp[*];done)|(simp[*];omega)),B0.out _⟩)
     |true=>
      go_wp2_with (go_at_call 27;refine(HW.out _ _ _ _).mono ?_;rintro e w' ⟨rfl,rfl⟩)
      all_goals (go_ret;exact⟨zAg (by rw[E.out];first|(simp[*];done)|(simp[*];omega)),B0.out _⟩)
def zEm(lo hi:Int):Bool:=decide (0≤lo)&&decide (lo≤hi)&&decide (hi≤65535)
theorem zHn(lo hi:Int)(w:World):Calls Tryz.prog 130 #[.agg #[.int .i64 lo,.int .i64 hi]] w fun e w' => e=.returned (.bool (zEm lo hi))∧Below w.heap.size w w' := by
 have B0:=hid (fun o=>(Below.refl w.heap.size w).alloc (Nat.le_refl _) o);have E:Hid (zEm lo hi=(decide (0≤lo)&&decide (lo≤hi)&&decide (hi≤65535))):=hid rfl;generalize zEm lo hi=res at E⊢;go_enter Tryz.func130,Tryz.ntmps130;by_cases h1:0≤lo
 ·have h1d:=decide_eq_true h1
  by_cases h2:lo≤hi
  ·have h2d:=decide_eq_true h2
   by_cases h3:hi≤65535
   ·have h3d:=decide_eq_true h3
    go_wp2_with fail
    all_goals (go_ret;exact⟨zAg (by rw[E.out];first|(simp[*];done)|(simp[*];omega)),B0.out _⟩)
   ·have h3d:=decide_eq_false h3
    go_wp2_with fail
    all_goals (go_ret;exact⟨zAg (by rw[E.out];first|(simp[*];done)|(simp[*];omega)),B0.out _⟩)
  ·have h2d:=decide_eq_false h2
   go_wp2_with fail
   all_goals (go_ret;exact⟨zAg (by rw[E.out];first|(simp[*];done)|(simp[*];omega)),B0.out _⟩)
 ·have h1d:=decide_eq_false h1
  go_wp2_with fail
  all_goals (go_ret;exact⟨zAg (by rw[E.out];first|(simp[*];done)|(simp[*];omega)),B0.out _⟩)
def listE(k first:Int)(name:List UInt8)(size most:Int):Int:=if !nameB name then 3 else if first<k then 4 else if size=0 then 1 else if most<size then 7 else 0
theorem zGp(k first:Int)(name:List UInt8)(size most:Int)(w:World):Calls Tryz.prog 82 #[.int .i64 k,.int .i64 first,.string (str name),.int .i64 size,.int .i64 most] w fun e w' => e=.returned (.int .i64 (listE k first name size most))∧w=w' := by
 have HN:Hid (∀w,Calls Tryz.prog 26 #[.string (str name)] w fun e w' => e=.returned (.bool (nameB name))∧w=w'):=hid (fun w=>by have:=name_any (str name) w;rwa [zBq]at this);have E:Hid (listE k first name size most=if !nameB name then 3 else if first<k then 4 else if size=0 then 1 else if most<size then 7 else 0):=hid rfl;generalize listE k first name size most=res at E⊢
 go_enter Tryz.func82,Tryz.ntmps82;cases h1:nameB name with
 |false=>
  go_wp2_with (go_at_call 26;refine(HN.out _).mono ?_;rintro e w' ⟨rfl,rfl⟩)
  all_goals (go_ret;exact⟨zAc (by rw[E.out];first|(simp[*];done)|(simp[*];omega)),rfl⟩)
 |true=>
  by_cases h2:first<k
  ·have h2d:=decide_eq_true h2
   go_wp2_with (go_at_call 26;refine(HN.out _).mono ?_;rintro e w' ⟨rfl,rfl⟩)
   all_goals (go_ret;exact⟨zAc (by rw[E.out];first|(simp[*];done)|(simp[*];omega)),rfl⟩)
  ·have h2d:=decide_eq_false h2
   by_cases h3:size=0
   ·subst h3
    go_wp2_with (go_at_call 26;refine(HN.out _).mono ?_;rintro e w' ⟨rfl,rfl⟩)
    all_goals (go_ret;exact⟨zAc (by rw[E.out];first|(simp[*];done)|(simp[*];omega)),rfl⟩)
   ·have h3a:(size==0)=false:=by simpa using h3
    have h3b:(size != 0)=true:=by simpa using h3
    by_cases h4:most<size
    ·have h4d:=decide_eq_true h4
     go_wp2_with (go_at_call 26;refine(HN.out _).mono ?_;rintro e w' ⟨rfl,rfl⟩)
     all_goals (go_ret;exact⟨zAc (by rw[E.out];first|(simp[*];done)|(simp[*];omega)),rfl⟩)
    ·have h4d:=decide_eq_false h4
     go_wp2_with (go_at_call 26;refine(HN.out _).mono ?_;rintro e w' ⟨rfl,rfl⟩)
     all_goals (go_ret;exact⟨zAc (by rw[E.out];first|(simp[*];done)|(simp[*];omega)),rfl⟩)
end Go.Proofs.YthcnojmldldpeaaGreatDoor
