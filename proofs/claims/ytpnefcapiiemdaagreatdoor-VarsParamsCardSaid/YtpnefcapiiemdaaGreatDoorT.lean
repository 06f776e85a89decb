/- What the order of texts leans on. Conditions: none. -/
import Derived.Shelf.SlSortCmp.NoneTotal
import Derived.Shelf.Small.Strs
import Derived.Test.YtpnefcapiiemdaaGreatDoorProg
