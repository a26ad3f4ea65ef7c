/-
  Tab
-/
import Derived.Test.YtdeihcnepljjaaaGreatDoorProg
import Derived.Test.YtdeihcnepljjaaaGreatDoorQRule4
import Derived.KernelRfl
namespace Go.Proofs.YtdeihcnepljjaaaGreatDoor
theorem Xp.of{P:Program}:∀{T:Tab},T.map (λx=>(P.underlying x.1,(P.info? x.1).map λi=>(i.size,i.bytes,i.zero)))=T.map (λx=>(some x.2.und,some (x.2.size,x.2.bytes,x.2.zero)))->Xp P T
 |[],_=>trivial
 |(_,_)::_,h=>by
  obtain⟨a,b⟩:=List.cons.inj h;exact⟨⟨congrArg (·.1) a,congrArg (·.2) a⟩,Xp.of b⟩
noncomputable def TT:Tab:=[(3,⟨Tryz.t3.desc,1,8,Tryz.t3.zero⟩),(4,⟨Tryz.t4.desc,1,1,Tryz.t4.zero⟩),(5,⟨Tryz.t5.desc,1,1,Tryz.t5.zero⟩),(9,⟨Tryz.t9.desc,1,16,Tryz.t9.zero⟩),(22,⟨Tryz.t22.desc,1,24,Tryz.t22.zero⟩),(24,⟨Tryz.t23.desc,8,96,Tryz.t24.zero⟩),(25,⟨Tryz.t25.desc,1,24,Tryz.t25.zero⟩),(29,⟨Tryz.t29.desc,1,8,Tryz.t29.zero⟩),
 (30,⟨Tryz.t30.desc,1,24,Tryz.t30.zero⟩),(32,⟨Tryz.t31.desc,2,32,Tryz.t32.zero⟩),(34,⟨Tryz.t33.desc,2,48,Tryz.t34.zero⟩),(35,⟨Tryz.t35.desc,1,24,Tryz.t35.zero⟩),(36,⟨Tryz.t36.desc,1,24,Tryz.t36.zero⟩),(38,⟨Tryz.t37.desc,13,200,Tryz.t38.zero⟩),(39,⟨Tryz.t39.desc,1,24,Tryz.t39.zero⟩),(40,⟨Tryz.t40.desc,1,24,Tryz.t40.zero⟩),
 (42,⟨Tryz.t41.desc,26,400,Tryz.t42.zero⟩),(43,⟨Tryz.t43.desc,1,24,Tryz.t43.zero⟩),(45,⟨Tryz.t44.desc,4,80,Tryz.t45.zero⟩),(47,⟨Tryz.t46.desc,30,480,Tryz.t47.zero⟩),(52,⟨Tryz.t51.desc,5,56,Tryz.t52.zero⟩),(53,⟨Tryz.t3.desc,1,8,Tryz.t53.zero⟩),(55,⟨Tryz.t54.desc,4,48,Tryz.t55.zero⟩),(58,⟨Tryz.t57.desc,4,48,Tryz.t58.zero⟩),
 (65,⟨Tryz.t65.desc,1,8,Tryz.t65.zero⟩),(66,⟨Tryz.t66.desc,1,8,Tryz.t66.zero⟩),(68,⟨Tryz.t68.desc,1,8,Tryz.t68.zero⟩),(77,⟨Tryz.t77.desc,1,8,Tryz.t77.zero⟩),(83,⟨Tryz.t82.desc,4,48,Tryz.t83.zero⟩),(85,⟨Tryz.t84.desc,5,56,Tryz.t85.zero⟩),(90,⟨Tryz.t89.desc,5,56,Tryz.t90.zero⟩),(101,⟨Tryz.t101.desc,1,8,Tryz.t101.zero⟩),
 (102,⟨Tryz.t102.desc,1,8,Tryz.t102.zero⟩),(104,⟨Tryz.t103.desc,3,24,Tryz.t104.zero⟩),(138,⟨Tryz.t137.desc,6,64,Tryz.t138.zero⟩),(140,⟨Tryz.t139.desc,4,32,Tryz.t140.zero⟩),(142,⟨Tryz.t141.desc,12,112,Tryz.t142.zero⟩),(144,⟨Tryz.t144.desc,1,8,Tryz.t144.zero⟩),(147,⟨Tryz.t147.desc,1,24,Tryz.t147.zero⟩),(148,⟨Tryz.t148.desc,3,24,Tryz.t148.zero⟩),
 (150,⟨Tryz.t149.desc,6,64,Tryz.t150.zero⟩),(152,⟨Tryz.t152.desc,1,8,Tryz.t152.zero⟩),(153,⟨Tryz.t153.desc,1,8,Tryz.t153.zero⟩),(154,⟨Tryz.t154.desc,1,8,Tryz.t154.zero⟩),(155,⟨Tryz.t155.desc,1,8,Tryz.t155.zero⟩),(156,⟨Tryz.t156.desc,1,8,Tryz.t156.zero⟩),(157,⟨Tryz.t157.desc,1,24,Tryz.t157.zero⟩),(159,⟨Tryz.t158.desc,16,192,Tryz.t159.zero⟩),
 (161,⟨Tryz.t160.desc,5,56,Tryz.t161.zero⟩),(164,⟨Tryz.t164.desc,1,8,Tryz.t164.zero⟩),(168,⟨Tryz.t167.desc,3,24,Tryz.t168.zero⟩),(169,⟨Tryz.t169.desc,1,8,Tryz.t169.zero⟩),(186,⟨Tryz.t186.desc,1,8,Tryz.t186.zero⟩),(212,⟨Tryz.t212.desc,1,8,Tryz.t212.zero⟩),(214,⟨Tryz.t213.desc,6,48,Tryz.t214.zero⟩),(217,⟨Tryz.t217.desc,1,8,Tryz.t217.zero⟩),
 (218,⟨Tryz.t218.desc,1,24,Tryz.t218.zero⟩),(219,⟨Tryz.t219.desc,1,8,Tryz.t219.zero⟩),(221,⟨Tryz.t220.desc,12,144,Tryz.t221.zero⟩),(226,⟨Tryz.t225.desc,10,112,Tryz.t226.zero⟩),(237,⟨Tryz.t237.desc,8,8,Tryz.t237.zero⟩),(240,⟨Tryz.t239.desc,2,16,Tryz.t240.zero⟩),(242,⟨Tryz.t241.desc,2,32,Tryz.t242.zero⟩),(245,⟨Tryz.t245.desc,1,8,Tryz.t245.zero⟩),
 (251,⟨Tryz.t251.desc,1,24,Tryz.t251.zero⟩),(253,⟨Tryz.t252.desc,7,136,Tryz.t253.zero⟩),(259,⟨Tryz.t259.desc,1,8,Tryz.t259.zero⟩),(264,⟨Tryz.t263.desc,10,128,Tryz.t264.zero⟩),(288,⟨Tryz.t287.desc,5,40,Tryz.t288.zero⟩),(289,⟨Tryz.t289.desc,1,24,Tryz.t289.zero⟩),(291,⟨Tryz.t290.desc,4,48,Tryz.t291.zero⟩),(300,⟨Tryz.t300.desc,6,48,Tryz.t300.zero⟩),
 (302,⟨Tryz.t302.desc,1,8,Tryz.t302.zero⟩),(306,⟨Tryz.t306.desc,1,8,Tryz.t306.zero⟩),(309,⟨Tryz.t309.desc,1,8,Tryz.t309.zero⟩),(312,⟨Tryz.t312.desc,1,8,Tryz.t312.zero⟩),(314,⟨Tryz.t313.desc,6,48,Tryz.t314.zero⟩),(317,⟨Tryz.t317.desc,1,8,Tryz.t317.zero⟩),(337,⟨Tryz.t336.desc,2,16,Tryz.t337.zero⟩),(338,⟨Tryz.t338.desc,1,24,Tryz.t338.zero⟩),
 (341,⟨Tryz.t340.desc,3,24,Tryz.t341.zero⟩),(343,⟨Tryz.t343.desc,1,8,Tryz.t343.zero⟩),(346,⟨Tryz.t346.desc,1,8,Tryz.t346.zero⟩),(348,⟨Tryz.t347.desc,3,24,Tryz.t348.zero⟩),(349,⟨Tryz.t349.desc,1,24,Tryz.t349.zero⟩),(350,⟨Tryz.t350.desc,1,24,Tryz.t350.zero⟩),(352,⟨Tryz.t351.desc,2,48,Tryz.t352.zero⟩),(353,⟨Tryz.t353.desc,2,16,Tryz.t353.zero⟩),
 (355,⟨Tryz.t354.desc,2,16,Tryz.t355.zero⟩),(357,⟨Tryz.t356.desc,3,24,Tryz.t357.zero⟩),(359,⟨Tryz.t358.desc,3,24,Tryz.t359.zero⟩),(371,⟨Tryz.t371.desc,1,8,Tryz.t371.zero⟩),(373,⟨Tryz.t373.desc,8,64,Tryz.t373.zero⟩),(375,⟨Tryz.t374.desc,10,80,Tryz.t375.zero⟩),(377,⟨Tryz.t377.desc,1,8,Tryz.t377.zero⟩),(386,⟨Tryz.t386.desc,64,64,Tryz.t386.zero⟩)]
theorem Xb:Xp Tryz.prog TT:=Xp.of xK
theorem Xn:Tryz.prog.follows .mixedOrders=true:=xK
end Go.Proofs.YtdeihcnepljjaaaGreatDoor
